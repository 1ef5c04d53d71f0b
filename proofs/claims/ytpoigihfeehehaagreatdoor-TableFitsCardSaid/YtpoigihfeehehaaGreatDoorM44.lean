/- Trees, plain: how many pages there are: levels. Trees, plain: how many pages there are: what each level leaves out. Trees: entries from a key on. -/
import Derived.Test.YtpoigihfeehehaaGreatDoorM40
set_option linter.all false
set_option maxRecDepth 100000
set_option maxHeartbeats 32000000
namespace Go.Proofs.YtpoigihfeehehaaGreatDoor
open Go.RowKit
open List (append_nil flatMap_append flatMap_cons getElem?_append_left length_append length_cons length_map length_nil length_take mem_append mem_cons mem_map nil_append)
def cn:(h:Nat)→BTr h→Nat→Nat
 |0,_,j=>if j=0 then 1 else 0
 |h+1,t,j=>if j=h+1 then 1 else ((show NL h from t).map fun x=>cn h x.2.2 j).sum
def cnL {h:Nat}(l:NL h)(j:Nat):Nat:=(l.map fun x=>cn h x.2.2 j).sum
def cnO {h:Nat}:Option (Ent×Nat×BTr h)→Nat→Nat
 |none,_=>0
 |some z,j=>cn h z.2.2 j
theorem Uz {h:Nat}(a b:NL h)(j:Nat):cnL (a++b) j=cnL a j+cnL b j:=by simp[cnL]
theorem Iq {h:Nat}(x:Ent×Nat×BTr h)(b:NL h)(j:Nat):cnL (x::b) j=cn h x.2.2 j+cnL b j:=by simp[cnL]
theorem Aq1 {h:Nat}(o:Option (Ent×Nat×BTr h))(j:Nat):cnL o.toList j=cnO o j:=by cases o<;>simp[cnL,cnO]
theorem Ln (h:Nat)(t:BTr h):cn h t h=1:=by cases h<;>simp[cn]
theorem Qp {h j:Nat}(t:NL h)(hj:j≤h):cn (h+1) t j=cnL t j:=by
 show (if j=h+1 then 1 else _)=_
 rw[if_neg (by omega)];rfl
def U0 (f:Nat→Nat):Nat→Nat
 |0=>f 0
 |h+1=>f 0+U0 (fun j=>f (j+1)) h
theorem Acv:∀ (h:Nat) (f:Nat→Nat),U0 f (h+1)=U0 f h+f (h+1)
 |0,f=>rfl
 |h+1,f=>by
  have:=Acv h fun j=>f (j+1)
  simp only[U0]at this ⊢;omega
theorem Mp:∀ (h:Nat) {f g:Nat→Nat},(∀ j,j≤h→f j=g j)→U0 f h=U0 g h
 |0,f,g,hf=>hf 0 (Nat.le_refl _)
 |h+1,f,g,hf=>by simp only[U0];rw[hf 0 (by omega),Mp h fun j hj=>hf (j+1) (by omega)]
theorem Acw:∀ (h:Nat) (f g:Nat→Nat),U0 (fun j=>f j+g j) h=U0 f h+U0 g h
 |0,f,g=>rfl
 |h+1,f,g=>by simp only[U0];rw[Acw h];omega
theorem Yh:∀ (h:Nat),U0 (fun _=>0) h=0
 |0=>rfl
 |h+1=>by simp only[U0];rw[Yh h]
theorem Aov:∀ (h n:Nat) (t:BTr h),(pgT h n t).length=U0 (cn h t) h
 |0,n,t=>rfl
 |h+1,n,t=>by
  rw[Acv,Ln,Mp (g:=cnL (show NL h from t)) h fun j hj=>Qp (show NL h from t) hj]
  rw[show (pgT (h+1) n t).length=(flP (show NL h from t)).length+1 from rfl]
  have:∀ l:NL h,(flP l).length=U0 (cnL l) h:=by
   intro l
   induction l with
   |nil=>rw[show cnL ([]:NL h)=fun _=>0 from rfl,Yh];rfl
   |cons x l ih=>
    rw[Da,length_append,Aov h,ih,←Acw]
    exact Mp h fun j _=>(Iq x l j).symm
  rw[this]
def SzT:(h:Nat)→BTr h→Prop
 |0,t=>szL (B7 t)≤496∧∀ e∈(show List Ent from t),e.k.length≤140
 |h+1,t=>szL (Bc (show NL h from t))≤496∧(∀ x∈(show NL h from t),x.1.k.length≤140)∧∀ x∈(show NL h from t),SzT h x.2.2
theorem Hi.szT {v:Nat→List UInt8}:∀ {h n:Nat} {t:BTr h},Hi v h n t→SzT h t
 |0,n,t,ht=>⟨D4.sz ht,fun e he=>(D4.ok ht ⟨e,0⟩ (mem_map.2 ⟨e,he,rfl⟩)).1.1⟩
 |h+1,n,t,ht=>⟨ht.1.sz,fun x hx=>(ht.1.ok ⟨x.1,x.2.1⟩ (mem_map.2 ⟨x,hx,rfl⟩)).1.1,fun x hx=>(ht.2 x hx).szT⟩
theorem Acx:∀ {h:Nat} {t t':BTr h} {e:Ent} {more:Option (Ent×Nat×BTr h)},SzT h t→e.k.length≤140→Uu h t e t' more→∀ z,more=some z→z.1.k.length≤140
 |0,t,t',e,more,hz,he,hi,z,hm=>by
  rcases hi.2 with⟨_,_,rfl⟩|⟨_,_,_,m,y,hy,_,rfl⟩
  ·cases hm
  ·obtain rfl:=Option.some.inj hm
   obtain⟨y0,h1,rfl⟩:=mem_map.1 (List.mem_of_getElem? hy)
   rcases mem_append.1 h1 with h1|h1
   ·exact hz.2 _ (List.mem_of_mem_take h1)
   ·rcases mem_cons.1 h1 with rfl|h1
    ·exact he
    ·exact hz.2 _ (List.mem_of_mem_drop h1)
 |h+1,t,t',e,more,hz,he,hi,z,hm=>by
  obtain⟨l1,x,l2,s',more',rfl,_,hin,hs⟩:=hi
  have ih:=Acx (hz.2.2 x (by simp)) he hin
  rcases hs with⟨_,_,rfl⟩|⟨_,_,_,m,y,hy,_,rfl⟩
  ·cases hm
  ·obtain rfl:=Option.some.inj hm
   obtain⟨y0,h1,rfl⟩:=mem_map.1 (List.mem_of_getElem? hy)
   simp only[mem_append,mem_cons,Option.mem_toList]at h1
   rcases h1 with h1|rfl|h1|h1
   ·exact hz.2.1 y0 (by simp[h1])
   ·exact hz.2.1 x (by simp)
   ·exact ih y0 h1
   ·exact hz.2.1 y0 (by simp[h1])
theorem Aow {a b c d:Nat}(h1:a=c)(h2:b=d):a+b=c+d:=by rw[h1,h2]
theorem A1u {h:Nat}{l:NL h}{t':BTr (h+1)}{more:Option (Ent×Nat×BTr (h+1))}(hs:SpR Bc l (show NL h from t') more):(∀ j,j≤h→cn (h+1) t' j+cnO more j=cnL l j)∧((more=none∧cn (h+1) t' (h+1)+cnO more (h+1)=1)∨(more≠none∧496<szL (Bc l)∧cn (h+1) t' (h+1)+cnO more (h+1)=2)):=by
 rcases hs with⟨s1,h1,rfl⟩|⟨s1,_,_,m,y,_,h1,rfl⟩
 ·subst h1
  exact⟨fun j hj=>Qp t' hj,.inl ⟨rfl,Ln (h+1) t'⟩⟩
 ·refine⟨fun j hj=> ?_,.inr ⟨Option.some_ne_none _,s1,?_⟩⟩
  ·have a1:cn (h+1) t' j=cnL (l.take (C6 (Bc l))) j:=by rw[← h1];exact Qp _ hj
   have a2:cnO (h:=h+1) (some (y.e,m,l.drop (C6 (Bc l)))) j=cnL (l.drop (C6 (Bc l))) j:=Qp _ hj
   have a3:=Uz (l.take (C6 (Bc l))) (l.drop (C6 (Bc l))) j
   rw[List.take_append_drop]at a3
   exact (Aow a1 a2).trans a3.symm
  ·have a1:=Ln (h+1) t'
   have a2:cnO (h:=h+1) (some (y.e,m,l.drop (C6 (Bc l)))) (h+1)=1:=Ln (h+1) _
   exact Aow a1 a2
theorem Ajx:∀ {h:Nat} {t t':BTr h} {e:Ent} {more:Option (Ent×Nat×BTr h)},SzT h t→Uu h t e t' more→∃ δ:Nat→Nat,(∀ j,δ j≤1)∧(∀ j,δ (j+1)≤δ j)∧(∀ j,j≤h→cn h t' j+cnO more j=cn h t j+δ j)∧(more≠none→δ h=1)∧(more=none→δ h=0)
 |0,t,t',e,more,hz,hi=>by
  rcases hi.2 with⟨_,_,rfl⟩|⟨_,_,_,m,y,hy,_,rfl⟩
  ·refine⟨fun _=>0,fun _=>Nat.zero_le _,fun _=>Nat.le_refl _,fun j hj=> ?_,fun h=>absurd rfl h,fun _=>rfl⟩
   obtain rfl:j=0:=Nat.le_zero.1 hj
   rfl
  ·refine⟨fun j=>if j=0 then 1 else 0,fun j=>by dsimp only;split<;>omega,fun j=>by dsimp only;rw[if_neg (by omega)];exact Nat.zero_le _,fun j hj=> ?_,fun _=>rfl,fun h=>by cases h⟩
   obtain rfl:j=0:=Nat.le_zero.1 hj
   rfl
 |h+1,t,t',e,more,hz,hi=>by
  obtain⟨l1,x,l2,s',more',rfl,_,hin,hs⟩:=hi
  obtain⟨δ,d1,d2,d3,d4,d5⟩:=Ajx (hz.2.2 x (by simp)) hin
  obtain⟨l,hl⟩:∃ l:NL h,l=l1++(x.1,x.2.1,s')::(more'.toList++l2):=⟨_,rfl⟩
  rw[← hl]at hs
  have hc:∀ j,j≤h→cnL l j=cnL (l1++x::l2:NL h) j+δ j:=fun j hj=>by
   rw[hl,Uz,Iq,Uz,Aq1,Uz,Iq]
   have:=d3 j hj
   dsimp only;omega
  obtain⟨c1,c2⟩:=A1u hs
  have hz1:szL (Bc (l1++x::l2:NL h))≤496:=hz.1
  have k1:∀ j,j≤h→cn (h+1) t' j+cnO more j=cn (h+1) (l1++x::l2:NL h) j+δ j:=fun j hj=>(c1 j hj).trans ((hc j hj).trans (congrArg (· +δ j) (Qp (l1++x::l2:NL h) hj).symm))
  have k2:=Ln (h+1) (l1++x::l2:NL h)
  rcases c2 with⟨rfl,c2⟩|⟨c0,s1,c2⟩
  ·refine⟨fun j=>if j≤h then δ j else 0,fun j=> ?_,fun j=> ?_,fun j hj=> ?_,fun h=>absurd rfl h,fun _=>if_neg (by omega)⟩
   ·dsimp only
    split
    ·exact d1 j
    ·omega
   ·dsimp only
    by_cases e:j+1≤h
    ·rw[if_pos e,if_pos (by omega)];exact d2 j
    ·rw[if_neg e];exact Nat.zero_le _
   ·dsimp only
    rcases Nat.lt_or_ge h j with e|e
    ·obtain rfl:j=h+1:=by omega
     rw[if_neg (by omega)]
     exact c2.trans k2.symm
    ·rw[if_pos e];exact k1 j e
  ·have hmo:more'≠none:=fun e0=>by
    subst e0
    have e1:Bc l=Bc (l1++x::l2:NL h):=by rw[hl];simp[Bc]
    rw[e1]at s1
    omega
   have d4':=d4 hmo
   refine⟨fun j=>if j≤h then δ j else if j=h+1 then 1 else 0,fun j=> ?_,fun j=> ?_,fun j hj=> ?_,fun _=> ?_,fun h=>absurd h c0⟩
   ·dsimp only
    split
    ·exact d1 j
    ·split<;>omega
   ·dsimp only
    rcases Nat.lt_trichotomy (j+1) (h+1)with e|e|e
    ·rw[if_pos (by omega),if_pos (by omega)];exact d2 j
    ·rw[if_neg (by omega),if_pos e,if_pos (by omega)]
     obtain rfl:j=h:=by omega
     omega
    ·rw[if_neg (by omega),if_neg (by omega)];exact Nat.zero_le _
   ·dsimp only
    rcases Nat.lt_or_ge h j with e|e
    ·obtain rfl:j=h+1:=by omega
     rw[if_neg (by omega),if_pos rfl]
     exact c2.trans (congrArg (· +1) k2.symm)
    ·rw[if_pos e];exact k1 j e
   ·dsimp only
    rw[if_neg (by omega),if_pos rfl]
theorem Ajy : ∀ {h : Nat} {t t' : BTr h} {e : Ent} {more : Option (Ent × Nat × BTr h)}, Uu h t e t' more → (Bp h t').length + (match more with
    | none => 0
    | some z => (Bp h z.2.2).length) = (Bp h t).length + 1
  | 0, t, t', e, more, hi => by
    have hl : (List.take (Iu (B7 t) e) (show List Ent from t) ++ e :: List.drop (Iu (B7 t) e) (show List Ent from t)).length = (show List Ent from t).length + 1 := by
      rw [length_append, length_cons, length_take, List.length_drop]; omega
    rcases hi.2 with ⟨_, rfl, rfl⟩ | ⟨_, _, _, m, y, hy, rfl, rfl⟩
    · exact hl
    · show (List.take _ _).length + (List.drop _ _).length = _
      rw [← length_append, List.take_append_drop]; exact hl
  | h + 1, t, t', e, more, hi => by
    obtain ⟨l1, x, l2, s', more', rfl, _, hin, hs⟩ := hi
    have ih := Ajy hin
    obtain ⟨l, hl⟩ : ∃ l : NL h, l = l1 ++ (x.1, x.2.1, s') :: (more'.toList ++ l2) := ⟨_, rfl⟩
    rw [← hl] at hs
    have hc : (l.flatMap fun x => Bp h x.2.2).length = ((l1 ++ x :: l2 : NL h).flatMap fun x => Bp h x.2.2).length + 1 := by
      rw [hl]
      cases more' with
      | none => simp only [Option.toList, nil_append, flatMap_append, flatMap_cons, length_append] at ih ⊢; omega
      | some z => simp only [Option.toList, List.cons_append, nil_append, flatMap_append, flatMap_cons, length_append] at ih ⊢; omega
    rcases hs with ⟨_, rfl, rfl⟩ | ⟨_, _, _, m, y, hy, rfl, rfl⟩
    · exact hc
    · show ((List.take _ l).flatMap fun x => Bp h x.2.2).length + ((List.drop _ l).flatMap fun x => Bp h x.2.2).length = _
      rw [← length_append, ← flatMap_append, List.take_append_drop]; exact hc
theorem Aox {l:List Itm}(h:∀ x∈l,x.e.k.length≤140):szL l≤150*l.length:=by
 induction l with
 |nil=>simp[Dy]
 |cons x l ih=>
  have h1:=ih fun y hy=>h y (by simp[hy])
  have h2:=h x (by simp)
  rw[Cc,length_cons]
  have:szI x≤150:=by unfold szI;omega
  omega
def Ajz:(h:Nat)→BTr h→Prop
 |0,_=>True
 |h+1,t=>∃ x r,(show NL h from t)=x::r∧x.1.k=[]
structure PgI (h:Nat)(t:BTr h):Prop where
 c0:1≤h→cn h t 0+2≤(Bp h t).length
 cj:∀ j,1≤j→j<h→cn h t j+3≤cn h t (j - 1)
 hd:Ajz h t
theorem Ami {h:Nat}(t:NL h):cn (h+1) t h=t.length:=by
 rw[Qp t (Nat.le_refl h)]
 induction t with
 |nil=>rfl
 |cons x l ih=>rw[Iq,ih,Ln,length_cons];omega
theorem Yi {h:Nat}{l1 l2:NL h}{x:Ent×Nat×BTr h}{s':BTr h}{o:Option (Ent×Nat×BTr h)}(hz:Ajz (h+1) (l1++x::l2:NL h)):Ajz (h+1) (l1++(x.1,x.2.1,s')::(o.toList++l2):NL h):=by
 obtain⟨y,r,hy,h0⟩:=hz
 have hy:l1++x::l2=y::r:=hy
 cases l1 with
 |nil=>
  simp only[nil_append,List.cons.injEq]at hy
  obtain⟨rfl,rfl⟩:=hy
  exact⟨_,_,rfl,h0⟩
 |cons a l1=>
  simp only[List.cons_append,List.cons.injEq]at hy
  obtain⟨rfl,rfl⟩:=hy
  exact⟨_,_,rfl,h0⟩
theorem Amj {h:Nat}{l1 l2:NL h}{x:Ent×Nat×BTr h}{s':BTr h}{e:Ent}{more':Option (Ent×Nat×BTr h)}(hz:SzT (h+1) (l1++x::l2:NL h))(he:e.k.length≤140)(hin:Uu h x.2.2 e s' more'):∀ y∈Bc (l1++(x.1,x.2.1,s')::(more'.toList++l2):NL h),y.e.k.length≤140:=fun y hy=>by
 obtain⟨y0,h1,rfl⟩:=mem_map.1 hy
 simp only[mem_append,mem_cons,Option.mem_toList]at h1
 rcases h1 with h1|rfl|h1|h1
 ·exact hz.2.1 y0 (by simp[h1])
 ·exact hz.2.1 x (by simp)
 ·exact Acx (hz.2.2 x (by simp)) he hin y0 h1
 ·exact hz.2.1 y0 (by simp[h1])
theorem Amk {h:Nat}{l:NL h}(hk:∀ y∈Bc l,y.e.k.length≤140)(hz:Ajz (h+1) l):szL (Bc l)+140≤150*l.length:=by
 obtain⟨x,r,hl,h0⟩:=hz
 have hl:l=x::r:=hl
 subst hl
 rw[Dn]at hk ⊢
 have:=Aox fun y hy=>hk y (List.mem_cons_of_mem _ hy)
 rw[Ex]at this
 rw[Cc,length_cons]
 have h1:szI ⟨x.1,x.2.1⟩=10:=by unfold szI;simp[h0]
 omega
theorem Ae1 {h:Nat}{t:BTr (h+1)}{t':BTr (h+1)}{e:Ent}{z:Ent×Nat×BTr (h+1)}(hz:SzT (h+1) t)(hd:Ajz (h+1) t)(he:e.k.length≤140)(hi:Uu (h+1) t e t' (some z)):4≤(show NL h from t).length:=by
 obtain⟨l1,x,l2,s',more',rfl,_,hin,hs⟩:=hi
 have hk:=Amj hz he hin
 have h1:=Amk hk (Yi hd)
 rcases hs with⟨_,_,h2⟩|⟨s1,_⟩
 ·cases h2
 ·have h3:(l1++(x.1,x.2.1,s')::(more'.toList++l2):NL h).length≤(l1++x::l2:NL h).length+1:=by
   cases more'<;>simp<;>omega
  show 4≤(l1++x::l2:NL h).length
  omega
theorem Aj0 {t t':BTr 0}{e:Ent}{z:Ent×Nat×BTr 0}(hz:SzT 0 t)(he:e.k.length≤140)(hi:Uu 0 t e t' (some z)):3≤(Bp 0 t).length:=by
 rcases hi.2 with⟨_,_,h2⟩|⟨s1,_⟩
 ·cases h2
 ·have h1:=Aox (l:=B7 ((show List Ent from t).take (Iu (B7 t) e)++e::(show List Ent from t).drop (Iu (B7 t) e))) fun y hy=>by
   obtain⟨y0,h1,rfl⟩:=mem_map.1 hy
   rcases mem_append.1 h1 with h1|h1
   ·exact hz.2 _ (List.mem_of_mem_take h1)
   ·rcases mem_cons.1 h1 with rfl|h1
    ·exact he
    ·exact hz.2 _ (List.mem_of_mem_drop h1)
  have h2:(B7 ((show List Ent from t).take (Iu (B7 t) e)++e::(show List Ent from t).drop (Iu (B7 t) e))).length=(show List Ent from t).length+1:=by
   unfold B7
   rw[length_map,length_append,length_cons,length_take,List.length_drop];omega
  rw[h2]at h1
  show 3≤(show List Ent from t).length
  omega
theorem U8 {h h':Nat}{t:BTr h}{t':BTr h'}{e:Ent}(hp:PgI h t)(hz:SzT h t)(he:e.k.length≤140)(hr:Z9 h t e h' t'):PgI h' t'∧(Bp h' t').length=(Bp h t).length+1:=by
 rcases hr with⟨rfl,hi⟩|⟨rfl,t1,n,m,x,s,hi,ht⟩
 ·have hi:Uu h' t e t' none:=hi
  obtain⟨δ,d1,d2,d3,d4,d5⟩:=Ajx hz hi
  have hen:=Ajy hi
  simp only[Nat.add_zero]at hen
  have e1:∀ j,j≤h'→cn h' t' j=cn h' t j+δ j:=fun j hj=>d3 j hj
  refine⟨⟨fun h1=> ?_,fun j j1 j2=> ?_,?_⟩,hen⟩
  ·rw[e1 0 (by omega),hen]
   have:=hp.c0 h1;have:=d1 0;omega
  ·rw[e1 j (by omega),e1 (j - 1) (by omega)]
   have h2:=hp.cj j j1 j2
   have h3:=d2 (j - 1)
   rw[Nat.sub_add_cancel j1]at h3
   omega
  ·cases h' with
   |zero=>trivial
   |succ h=>
    obtain⟨l1,x,l2,s',more',rfl,_,hin,hs⟩:=hi
    rcases hs with⟨_,h2,_⟩|⟨_,_,_,_,_,_,_,h2⟩
    ·have h2:t'=(l1++(x.1,x.2.1,s')::(more'.toList++l2):NL h):=h2
     rw[h2]
     exact Yi hp.hd
    ·cases h2
 ·have ht:t'=([(C8,n,t1),(x,m,s)]:NL h):=ht
  subst ht
  obtain⟨δ,d1,d2,d3,d4,d5⟩:=Ajx hz hi
  have hen:=Ajy hi
  have d4':=d4 (Option.some_ne_none _)
  have e1:∀ j,j≤h→cn (h+1) ([(C8,n,t1),(x,m,s)]:NL h) j=cn h t j+δ j:=fun j hj=>by
   rw[Qp _ hj,Iq,Iq]
   exact d3 j hj
  have e2:(Bp (h+1) ([(C8,n,t1),(x,m,s)]:NL h)).length=(Bp h t).length+1:=by
   show ([(C8,n,t1),(x,m,s)].flatMap fun x=>Bp h x.2.2).length=_
   simp only[flatMap_cons,List.flatMap_nil,append_nil,length_append]
   exact hen
  refine⟨⟨fun h1=> ?_,fun j j1 j2=> ?_,⟨_,_,rfl,rfl⟩⟩,e2⟩
  ·rw[e1 0 (by omega),e2]
   cases h with
   |zero=>
    have:=Aj0 hz he hi
    rw[Ln 0 t,d4'];omega
   |succ h=>have:=hp.c0 (by omega);have:=d1 0;omega
  ·rw[e1 j (by omega),e1 (j - 1) (by omega)]
   have h3:=d2 (j - 1)
   rw[Nat.sub_add_cancel j1]at h3
   rcases Nat.lt_or_ge j h with h4|h4
   ·have h2:=hp.cj j j1 h4
    omega
   ·obtain rfl:j=h:=by omega
    obtain⟨k,rfl⟩:∃ k,j=k+1:=⟨j - 1,by omega⟩
    have h5:=Ae1 hz hp.hd he hi
    have h6:=Ami (show NL k from t)
    have h7:=Ln (k+1) t
    simp only[Nat.add_sub_cancel]at h3 ⊢
    have h8:cn (k+1) t k=(show NL k from t).length:=h6
    have:=d1 (k+1)
    omega
theorem Aq2:PgI 0 ([]:List Ent):=⟨fun h=>by omega,fun j h1 h2=>by omega,trivial⟩
theorem Acy:∀ (h:Nat) (f:Nat→Nat),(∀ j,1≤j→j<h+1→f j+3≤f (j - 1))→f (h+1)=1→6*U0 f (h+1)≤f 0*f 0+3*f 0+2+6
 |0,f,hf,h1=>by
  have h1:f 1=1:=h1
  simp only[U0]
  rw[h1]
  generalize f 0=a
  have h2:3*a≤a*a+2:=by
   rcases Nat.lt_or_ge a 3 with h|h
   ·have:a=0∨a=1∨a=2:=by omega
    rcases this with rfl|rfl|rfl<;>decide
   ·have:=Nat.mul_le_mul_right a h
    omega
  omega
 |h+1,f,hf,h1=>by
  have ih:=Acy h (fun j=>f (j+1)) (fun j j1 j2=>by
   have:=hf (j+1) (by omega) (by omega)
   simp only[Nat.add_sub_cancel]at this
   rw[Nat.sub_add_cancel j1];exact this) h1
  have h3:=hf 1 (Nat.le_refl _) (by omega)
  have h4:U0 f (h+1+1)=f 0+U0 (fun j=>f (j+1)) (h+1):=rfl
  rw[h4]
  simp only[Nat.zero_add,Nat.sub_self]at ih h3
  obtain⟨d,hd⟩:∃ d,f 0=f 1+3+d:=⟨f 0 - f 1 - 3,by omega⟩
  rw[hd]
  generalize f 1=a at*
  have e1:(a+3+d)*(a+3+d)=a*a+6*a+9+2*(a*d)+6*d+d*d:=by
   simp only[Nat.add_mul,Nat.mul_add,Nat.mul_comm d a,Nat.mul_comm d 3,Nat.mul_comm a 3]
   omega
  rw[e1]
  have:=Nat.zero_le (a*d)
  have:=Nat.zero_le (d*d)
  omega
theorem A1v {h n:Nat}{t:BTr h}(hp:PgI h t)(h1:1≤h):6*(pgT h n t).length≤cn h t 0*cn h t 0+3*cn h t 0+2+6:=by
 obtain⟨k,rfl⟩:∃ k,h=k+1:=⟨h - 1,by omega⟩
 rw[Aov]
 exact Acy k _ (fun j j1 j2=>hp.cj j j1 j2) (Ln _ _)
def Su:Cv:=(.det 0 (.det 1 (.det 2 (.det 3 (.det 5 (.det 6 (.det 7 (.act 4 (.det 8 (.fin 9 (.fin 10 (.det 11 .done))))))))))))
def tYl:=aa wX <| aa wbu <| aa T3 <| aa T4 <| aa T29 <| aa T51 <| aa T70 <| aa T75 <| aa T188 <| aa T192 <| aa T228 <| aa T232 <| aa T234 T239
theorem Aq3 (k:List UInt8)(hk:k.length≤1000000)(σ:St):Aa Tryz.prog 107 [.p (.sl 1 (Ay k))] σ fun r s=>s=σ∧r= .p (.sl 1 (Ay k)):=by
 refine Aa.pureF (R:=fun r=>r= .p (.sl 1 (Ay k))) ?_ rfl σ
 cases k with
 |nil=>
  refine Aa.nilSplit ?_ fun ad c=> ?_
  ·have h:Aa Tryz.prog 107 [.p (.v (.slice none 0 0))] [] fun r s=>r= .p (.v (.slice none 0 0)):=by
    refine Ab Am Ao Tryz.func107 (by kernel_rfl) rfl (nt:=7) (rs:=[.tmp 2]) rfl rfl ?_
    repeat' simp only[↓wBA,tYl,seval]
    all_goals refine rtS ?_
    all_goals simp only[A1.eq_1,Ak.eq_1,Ak.eq_2,Ax.eq_1,tYl,seval]
   refine Aa.mono (R:=fun r s=>r= .p (.sl 1 [])) ?_ ?_
   ·exact⟨h.1,fun M vs hM hv=>(h.2 M vs hM hv).mono fun e w' ⟨v,r,s,M',a1,a2,a3,a4,a5,a6,a7⟩=>by
     subst a7
     have:=(Cg a5).2
     subst this
     exact⟨_,.p (.sl 1 []),s,M',a1,a2,a3,a4,by simp only[Ag,Ce];exact .inl ⟨trivial,none,0,rfl,fun _=>rfl⟩,a6,rfl⟩⟩
   ·rintro r s rfl
    exact⟨rfl,rfl⟩
  ·have hm0:=lM (n:=0) (by omega)
   refine Ab Am Ao Tryz.func107 (by kernel_rfl) rfl (nt:=7) (rs:=[.tmp 2]) rfl rfl ?_
   repeat' simp only[↓wBA,tYl,seval,A5,Lu,E1,hm0]
   all_goals refine Co (a:=_) ?_ rfl rfl
   all_goals simp only[tYl,seval]
   all_goals simp_all [wS,Ay]
 |cons b k=>
  have hl:=Dm (b::k)
  have hc:Ay (b::k)=[Bq b]::Ay k:=rfl
  have hl1:=tL (n:=k.length+1) (by simp at hk;omega)
  have hl2:=lM (n:=k.length+1) (by simp at hk;omega)
  have hek:=Dm k
  rw[hc]
  refine Ab Am Ao Tryz.func107 (by kernel_rfl) rfl (nt:=7) (rs:=[.tmp 2]) rfl rfl ?_
  repeat' simp only[↓wBA,tYl,seval,A5,Lu,E1,Nat.mul_one,hl1,hl2,hek]
  all_goals refine Co (a:=_) ?_ rfl rfl
  all_goals simp only[tYl,seval]
  all_goals simp_all [wS]
def G9 (lo:List UInt8)(my:List UInt8→Bool)(e:Ent):Bool:=decide (0≤Lib.compareBytes e.k lo)&&my e.k
def Hj {α:Type}(lo:List UInt8)(my:List UInt8→Bool)(l:List (Ent×Nat×α))(i:Nat)(x:Ent):Bool:=
 (decide (0<i)&& !my x.k)||(match l[i+1]? with
  |some y=>decide (Lib.compareBytes y.1.k lo<0)
  |none=>false)
def Iv {α:Type}(lo:List UInt8)(my:List UInt8→Bool)(P:α→List Ent)(l:List (Ent×Nat×α))(i:Nat):List Ent:=match l[i]? with
 |some x=>if Hj lo my l i x.1 then []else P x.2.2
 |none=>[]
def Do (lo:List UInt8)(my:List UInt8→Bool):(h:Nat)→BTr h→List Ent
 |0,t=>(show List Ent from t).filter (G9 lo my)
 |h+1,t=>(List.range (show NL h from t).length).flatMap (Iv lo my (Do lo my h) (show NL h from t))
def EntP (av:AV)(l:List Ent):Prop:=(l=[]∧av= .p (.v (.slice none 0 0)))∨(l≠[]∧av= .p (.sl 3 (l.map Ev)))
theorem Qq {α β:Type}(f g:α→List β)(h:∀ x,(f x).length≤(g x).length):∀ l:List α,(l.flatMap f).length≤(l.flatMap g).length
 |[]=>Nat.le_refl _
 |x::l=>by have:=Qq f g h l;have:=h x;simp only[flatMap_cons,length_append];omega
def optF {α β:Type}(f:α→List β):Option α→List β
 |some x=>f x
 |none=>[]
theorem Mq {α β:Type}(f:α→List β):∀ l:List α,(List.range l.length).flatMap (fun i=>optF f l[i]?)=l.flatMap f
 |[]=>rfl
 |x::l=>by
  rw[length_cons,List.range_succ_eq_map,flatMap_cons,List.flatMap_map,flatMap_cons]
  simp only[List.getElem?_cons_zero,List.getElem?_cons_succ]
  rw[Mq f l]
  rfl
theorem Acz {α:Type}(lo:List UInt8)(my:List UInt8→Bool)(P Q:α→List Ent)(hPQ:∀ x,(P x).length≤(Q x).length)(l:List (Ent×Nat×α))(n:Nat)(hn:n≤l.length):((List.range n).flatMap (Iv lo my P l)).length≤(l.flatMap fun x=>Q x.2.2).length:=by
 have h1:((List.range n).flatMap (Iv lo my P l)).length≤((List.range l.length).flatMap (Iv lo my P l)).length:=by
  have:List.range l.length=List.range n++(List.range (l.length - n)).map (n+ ·):=by
   rw[← List.range_add];congr 1;omega
  rw[this,flatMap_append,length_append];omega
 have h2:=Qq (Iv lo my P l) (fun i=>optF (fun x:Ent×Nat×α=>Q x.2.2) l[i]?) (fun i=>by
  unfold Iv
  cases l[i]? with
  |none=>exact Nat.le_refl _
  |some x=>
   simp only[optF]
   split
   ·simp
   ·exact hPQ x.2.2) (List.range l.length)
 have h3:=Mq (fun x:Ent×Nat×α=>Q x.2.2) l
 have h4:=congrArg List.length h3
 exact Nat.le_trans h1 (Nat.le_trans h2 (Nat.le_of_eq h4))
theorem Yj (lo:List UInt8)(my:List UInt8→Bool):∀ (h:Nat) (t:BTr h),(Do lo my h t).length≤(Bp h t).length
 |0,t=>by simp only[Do,Bp];exact List.length_filter_le _ _
 |h+1,t=>Acz (α:=BTr h) lo my (Do lo my h) (Bp h) (Yj lo my h) (show NL h from t) _ (Nat.le_refl _)
theorem Aj1 {v:Nat→List UInt8}:∀ {h n:Nat} {t:BTr h},Hi v h n t→(Bp h t).length≤49*(pgT h n t).length
 |0,n,t,ht=>by
  have:=ht.node.n
  have h1:(B7 t).length=List.length (show List Ent from t):=by unfold B7;exact length_map _
  have h2:(itsT 0 t).length=(B7 t).length:=rfl
  have h3:(Bp 0 t).length=List.length (show List Ent from t):=rfl
  simp only[pgT,length_cons,length_nil]
  omega
 |h+1,n,t,ht=>by
  have hch:=ht.2
  have:∀ l:NL h,(∀ x∈l,Hi v h x.2.1 x.2.2)→(l.flatMap fun x=>Bp h x.2.2).length≤49*(flP l).length:=by
   intro l
   induction l with
   |nil=>intro _;exact Nat.le_refl _
   |cons x l ih=>
    intro h1
    have a1:=ih fun y hy=>h1 y (by simp[hy])
    have a2:=Aj1 (h1 x (by simp))
    rw[Da]
    simp only[flatMap_cons,length_append]
    omega
  have h2:=this _ hch
  have h3:(pgT (h+1) n t).length=(flP (show NL h from t)).length+1:=rfl
  rw[h3]
  have h4:(Bp (h+1) t).length=((show NL h from t).flatMap fun x=>Bp h x.2.2).length:=rfl
  rw[h4]
  omega
theorem U9 {q:St}{av:AV}{E T:TypeId}{e eb:Nat}{ez:List Value}{ls:List (List PV)}{tk:Nat}(hk:cx.kind T=some (.slice E e eb ez))(h:It q av E e ls)(hb:ls.length*eb≤140737488355328)(hb2:ls.length≤1000000):A5 cx tk T av (.p (.v (.slice none 0 0))) q=some (av,q):=by
 have c2:ls.length≤maxLen:=by unfold maxLen;omega
 have c3:0≤maxLen:=Nat.zero_le _
 unfold A5
 rw[hk]
 rcases h with⟨rfl,rfl⟩|⟨t,rfl,hne,ht⟩
 ·simp[Lu,E1,c3,Sw]
 ·simp[Lu,E1,ht,c2,hb]
  exact Ub ht
section
variable {σ:St} {b p dd l kh n:Nat} {U:Nat→Prop} {P:Al} {v:Nat→List UInt8} {T:Nat→Bool}
def Kept (kl:List (Nat×Ob))(s:St):Prop:=∀ q∈kl,s[q.1]? =some (some q.2)
theorem Kept.fr {kl:List (Nat×Ob)}{s s':St}(h:Kept kl s){F F':Nat→Prop}(hf:Fr s s' F F')(hF:∀ q∈kl,¬ F q.1):Kept kl s':=fun q hq=>hf.get (h q hq) (hF q hq)
theorem Aa.ansY {P:Program}{f:FuncId}{args:List AV}{σ:St}{R R':AV→St→Prop}(h:Aa P f args σ R)(hk:∀ r s,R r s→∃ r',R' r' s∧∀ (M:A2) (v:Value),Ag M r v→Ag M r' v):Aa P f args σ R':=
 ⟨h.1,fun M vs hM hv=>(h.2 M vs hM hv).mono fun e w' ⟨v,r,s,M',h1,h2,h3,h4,h5,h6,h7⟩=>by
  obtain⟨r',h8,h9⟩:=hk r s h7
  exact⟨v,r',s,M',h1,h2,h3,h4,h9 _ _ h5,h6,h8⟩⟩
def EntO (av:AV)(l:List Ent):Prop:=(l=[]∧av= .p (.v (.slice none 0 0)))∨∃ t,l≠[]∧av= .own t 3 (l.map Ev)
def Ir (h:Nat)(t:BTr h)(lo:List UInt8)(my:List UInt8→Bool)(σ:St)(b p dd l kh:Nat)(U:Nat→Prop)(P:Al)(v:Nat→List UInt8)(r:AV)(σ':St):Prop:=
 ∃ U' P' av,r= .tup [av,Ad .i64 0]∧Fr σ σ' U U'∧Bt σ' b p dd l kh U' P' v∧Kp P P' 0∧EntP av (Do lo my h t)
def Aj2 (h:Nat)(t:BTr h)(lo:List UInt8)(my:List UInt8→Bool)(σ:St)(b p dd l kh:Nat)(U:Nat→Prop)(P:Al)(v:Nat→List UInt8)(r:AV)(σ':St):Prop:=
 ∃ U' P' av,r= .tup [av,Ad .i64 0]∧Fr σ σ' U U'∧Bt σ' b p dd l kh U' P' v∧Kp P P' 0∧EntO av (Do lo my h t)
theorem Yk {h:Nat}{t:BTr h}{lo:List UInt8}{my:List UInt8→Bool}{f:FuncId}{args:List AV}(hc:Aa Tryz.prog f args σ fun r σ'=>Aj2 h t lo my σ b p dd l kh U P v r σ'):Aa Tryz.prog f args σ fun r σ'=>Ir h t lo my σ b p dd l kh U P v r σ':=by
 refine hc.ansY ?_
 rintro r s ⟨U',P',av,rfl,h1,h2,h3,h4⟩
 rcases h4 with⟨h5,rfl⟩|⟨to,h5,rfl⟩
 ·exact⟨_,⟨U',P',_,rfl,h1,h2,h3,.inl ⟨h5,rfl⟩⟩,fun M v h=>h⟩
 ·refine⟨_,⟨U',P',_,rfl,h1,h2,h3,.inr ⟨h5,rfl⟩⟩,fun M v h=> ?_⟩
  simp only[Ag,Af]at h ⊢
  obtain⟨us,e1,u1,us1,e2,e3,e4⟩:=h
  refine⟨us,e1,u1,us1,e2,?_,e4⟩
  have:=Alz (M:=M) (t:=to) (e:=3) (u:=u1) (by simp only[Ag];exact e3)
  simpa only[Ag]using this
theorem Ae2 {lo:List UInt8}{lox:PV}{my:List UInt8→Bool}{g:FuncId}{caps:List AV}{kl:List (Nat×Ob)}{t:List Ent}(hB:Bt σ b p dd l kh U P v)(hb:Bud P 1)(hn:n<P.pages)(hN:D4 (v n) 2 (B7 t))(hlo:BX lox lo)(hkl:Kept kl σ)(hklU:∀ q∈kl,¬ U q.1)
 (hmy:∀ (s:St) (k:List UInt8),Kept kl s→Aa Tryz.prog g (.p (.sl 1 (Ay k))::caps) s fun r s'=>s'=s∧r=Az (my k)):
 Aa Tryz.prog 145 [.agg [.mp b 2 0 0],Ad .i64 (n:Nat),.p lox,.fn g [] caps] σ fun r σ'=>Ir 0 t lo my σ b p dd l kh U P v r σ':=by
 refine Yk ?_
 have hlt:=hB.lt
 have hl49:=hN.n
 have hil:(B7 t).length=t.length:=by simp[B7]
 refine Ab Am Ao Tryz.func145 (by kernel_rfl) rfl (nt:=108) (rs:=[.tmp 8,.tmp 9]) rfl rfl ?_
 repeat' simp only[↓wBA,tYl,seval,wH]
 have a1:=Ap.app σ [some (Ob.row 1 [[AV.mp b 2 0 0]])]
 refine (X3 (hB.ap a1) hn hN hb).mono ?_
 rintro _ s1 ⟨U1,P1,a,rfl,f1,hB1,k1,ha,hta⟩
 have q1:=f1.len
 simp only[length_append,length_cons,length_nil]at q1
 have hlt1:=hB1.lt
 have hlf:=ha.x.leaf
 have hcc:=ha.x.cells
 obtain⟨S1,hS1⟩:∃ S1,S1=s1++[some (Ob.row 2 [[AV.p (.v (.int .i64 2)),a]])]:=⟨_,rfl⟩
 have aS:Ap s1 S1:=⟨_,hS1⟩
 have hS1l:S1.length=s1.length+1:=by rw[hS1];simp
 have bN:S1[s1.length]? =some (some (Ob.row 2 [[AV.p (.v (.int .i64 2)),a]])):=by rw[hS1];simp
 have yN:=Ac bN
 have haS:NdA S1 a (B7 t):=ha.same fun j hj=>by rw[hS1,getElem?_append_left (ha.lt hj)]
 have hla:Bf cx 232 a=some t.length:=by
  rcases ha with⟨h0,rfl⟩|⟨_,tn,rfl,_⟩
  ·rw[← hil,h0];rfl
  ·rw[hil];exact Ahe
 have fS:Fr σ S1 U U1:=(a1.fr.trans f1).trans aS.fr
 have hBS:=hB1.ap aS
 have hkS:Kept kl S1:=hkl.fr fS hklU
 have hkU1:∀ q∈kl,¬ U1 q.1:=fun q hq e=>(fS.own q.1 e).elim (hklU q hq) fun e=>by have:=Ac (hkl q hq);omega
 repeat' simp only[↓wBA,tYl,seval,wH,c2y,hS1.symm,bN,hla]
 refine As (X:={ q:Nat×AV // q.1≤t.length }) (fun q=>t.length - q.1.1) (fun q=>[(12,q.1.2),(30,Ad .i64 (q.1.1:Nat))]) [8,9,13,14,15,16,17,31,32,33,34,35,36,37,38,39,40,41,42,43,44,45,46,47,48,49,50,51,52,53,54,55,56,57,58,59,60,61,62,63,64,65,66,67,68,69,70,71,72,73,74,75,76,77,78,79,80,81,82,83,84,85,86,87,88,89,90,91,92,93,94,95,96,97,98,99,100,101,102,103,104,105,106,107,108,109,110] (fun q s=>Fr S1 s (fun _=>False) (fun _=>False)∧It s q.1.2 192 3 (((t.take q.1.1).filter (G9 lo my)).map Ev)∧(∀ j,B0 q.1.2=some j→S1.length≤j)) (⟨(0,.p (.v (.slice none 0 0))),by omega⟩) ?_ ?_ ?_ ?_
 ·simp only[wHl,wHf]
 ·exact⟨Fr.refl _ _,.inl ⟨rfl,by simp⟩,fun j hj=>by cases hj⟩
 ·rintro _ _ ⟨h,_⟩;exact h.len
 ·intro y J s hI
  simp only[wHl]
  obtain⟨⟨i,av⟩,hi⟩:=y
  obtain⟨fs,how,hown⟩:=hI
  dsimp only at*
  have ls:=fs.len
  have cN:=fs.get bN id
  have zN:=Ac cN
  have hi0:=nnI i
  have hkk:=hkS.fr fs fun _ _=>id
  have hfl:((t.take i).filter (G9 lo my)).length≤49:=by
   have h1:=List.length_filter_le (G9 lo my) (t.take i)
   have h2:(t.take i).length≤t.length:=by rw[length_take];omega
   omega
  by_cases hlt2:i<t.length
  ·have hdec:=dT (i:=i) (n:=t.length) hlt2
   have hw:=wI i (by omega)
   obtain⟨x,hx⟩:∃ x,t[i]? =some x:=⟨t[i],by simp⟩
   have hgx:(B7 t)[i]? =some ⟨x,0⟩:=by simp[B7,hx]
   have hgc:((B7 t).map itC)[i]? =some (itC ⟨x,0⟩):=by simp[hgx]
   rcases haS with⟨h0,_⟩|⟨_,tn,rfl,htn⟩
   ·rw[h0]at hgx;simp at hgx
   have ctn:=fs.get htn id
   have ztn:=Ac ctn
   have hif:((i:Int)<((B7 t).length:Int))=True:=eq_true (by omega)
   have hxo:x.k.length≤140:=(hN.ok _ (List.mem_of_getElem? hgx)).1.1
   have hkx:Kept kl (s++[some (Ob.row 4 [itC ⟨x,0⟩])]):=fun q hq=>by rw[getElem?_append_left (Ac (hkk q hq))];exact hkk q hq
   have hmx:=hmy _ x.k hkx
   have hnx:(t.take (i+1)).filter (G9 lo my)=(t.take i).filter (G9 lo my)++(if G9 lo my x then [x]else []):=by
    rw[List.take_add_one,hx]
    simp only[Option.toList,List.filter_append,List.filter_cons,List.filter_nil]
   have hbc:=fun s=>Ait (x:=.sl 1 (Ay x.k)) (.inl rfl) hlo s
   by_cases hc:0≤Lib.compareBytes x.k lo
   ·have hd:decide (Lib.compareBytes x.k lo≥0)=true:=by simpa using hc
    have hd':decide (0≤Lib.compareBytes x.k lo)=true:=by simpa using hc
    cases hm:my x.k with
    |true=>
     rw[hm]at hmx
     have ht1:G9 lo my x=true:=by unfold G9;rw[hm];simpa using hc
     rw[ht1]at hnx
     have hcl:=fun s=>Aq3 x.k (by omega) s
     repeat' first|simp only[↓wBA,tYl,seval,Su,wH,wHl,hdec,hi0,hif,ctn,hgc,itC,cN,zN,hd]|((with_reducible show Aa _ _ _ _ _);first|refine (hbc _).eq ?_|refine hmx.eq ?_|refine (hcl _).eq ?_)|(with_reducible refine dQ Su 12 (some 51) ?_)
     obtain⟨q0,hq0⟩:∃ q0,q0=s++[some (Ob.row 4 [itC ⟨x,0⟩])]++[some (Ob.right 192 3)]:=⟨_,rfl⟩
     have hql:q0.length=s.length+2:=by rw[hq0];simp
     have how1:=how.same (q':=q0) fun j hj=>by rw[hq0,List.append_assoc,getElem?_append_left (how.lt hj)]
     obtain⟨av2,s2,e1,e2,e3,e4,e5⟩:=E7 (y:=.own (s.length+1) 3 [Ev x]) (m:=[Ev x]) Eg how1 rfl (by simp) (by simp only[length_map,length_cons,length_nil];omega) (by simp only[length_map,length_cons,length_nil];omega)
     rw[hql,hq0]at e1
     simp only[itC,Ev,c0y,Ad]at e1
     repeat' simp only[↓wBA,tYl,seval,wHl,e1,hw]
     rw[if_pos rfl]at hnx
     refine⟨⟨(i+1,av2),by omega⟩,by show t.length - (i+1)<t.length - i;omega,⟨?_,?_,fun j hj=> ?_⟩,by simp only[]⟩
     ·refine⟨by omega,fun j hj hn=> ?_,fun j h=>h.elim⟩
      have hjs:j<s.length:=by omega
      rw[e4 j (by omega) fun e=>by have:=hown j e;omega,hq0,List.append_assoc,getElem?_append_left hjs]
      exact fs.keep j hj hn
     ·dsimp only
      rw[hnx,List.map_append];exact e2
     ·rcases e5 j hj with h|h
      ·exact hown j h
      ·omega
    |false=>
     rw[hm]at hmx
     have ht1:G9 lo my x=false:=by unfold G9;rw[hm];simp
     rw[ht1]at hnx
     repeat' first|simp only[↓wBA,tYl,seval,wH,wHl,hdec,hi0,hif,hw,ctn,hgc,itC,cN,zN,hd]|((with_reducible show Aa _ _ _ _ _);first|refine (hbc _).eq ?_|refine hmx.eq ?_)
     rw[if_neg (by simp),append_nil]at hnx
     refine⟨⟨(i+1,av),by omega⟩,by show t.length - (i+1)<t.length - i;omega,⟨fs.app _,?_,hown⟩,by simp only[]⟩
     dsimp only
     rw[hnx]
     exact how.same fun j hj=>getElem?_append_left (how.lt hj)
   ·have hd:decide (Lib.compareBytes x.k lo≥0)=false:=by simpa using hc
    have hd':decide (0≤Lib.compareBytes x.k lo)=false:=by simpa using hc
    have ht1:G9 lo my x=false:=by unfold G9;rw[hd'];rfl
    rw[ht1]at hnx
    repeat' first|simp only[↓wBA,tYl,seval,wH,wHl,hdec,hi0,hif,hw,ctn,hgc,itC,cN,zN,hd]|((with_reducible show Aa _ _ _ _ _);refine (hbc _).eq ?_)
    rw[if_neg (by simp),append_nil]at hnx
    refine⟨⟨(i+1,av),by omega⟩,by show t.length - (i+1)<t.length - i;omega,⟨fs.app _,?_,hown⟩,by simp only[]⟩
    dsimp only
    rw[hnx]
    exact how.same fun j hj=>getElem?_append_left (how.lt hj)
  ·obtain rfl:i=t.length:=by omega
   have hdec:=dF (i:=t.length) (n:=t.length) hlt2
   rw[List.take_length]at how
   rcases how with⟨rfl,he⟩|⟨to,rfl,hne,hto⟩
   ·skip
    repeat' simp only[↓wBA,tYl,seval,wHl,hdec]
    all_goals refine rtS ?_
    all_goals simp only[A1.eq_1,Ak.eq_1,Ak.eq_2,Ax.eq_1,tYl,seval]
    refine⟨U1,P1,_,rfl,fS.trans fs.none,hBS.frame fs fun _ _=>id,k1,.inl ⟨?_,rfl⟩⟩
    show List.filter _ _=[]
    simpa using he
   ·skip
    repeat' simp only[↓wBA,tYl,seval,wHl,hdec]
    all_goals refine rtS ?_
    all_goals simp only[A1.eq_1,Ak.eq_1,Ak.eq_2,Ax.eq_1,tYl,seval]
    exact⟨U1,P1,_,rfl,fS.trans fs.none,hBS.frame fs fun _ _=>id,k1,.inr ⟨to,fun e=>hne (by show List.map Ev (Do lo my 0 t)=[];rw[e];rfl),rfl⟩⟩
end
end Go.Proofs.YtpoigihfeehehaaGreatDoor
