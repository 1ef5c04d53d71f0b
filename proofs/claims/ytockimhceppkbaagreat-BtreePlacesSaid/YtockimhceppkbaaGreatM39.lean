/- Trees: an entry is taken out: the plain part. Trees: an entry is taken out below a page. Trees: a child and the next one joined, told of trees. -/
import Derived.Test.YtockimhceppkbaaGreatM37
import Derived.Test.YtockimhceppkbaaGreatM38
set_option linter.unusedSimpArgs false
set_option linter.unusedVariables false
set_option linter.defProp false
set_option maxRecDepth 100000
set_option maxHeartbeats 32000000
namespace Go.Proofs.YtockimhceppkbaaGreat
open Go.RowKit
open List (flatMap_append getElem?_set_ne length_append length_set mem_append mem_cons mem_flatMap mem_map mem_of_getElem? nodup_append nodup_cons not_mem_nil)
def OkD:(h:Nat)→Ent→Option Ent→BTr h→Prop
 |0,lo,hi,t=>SortE t∧∀ e∈(show List Ent from t),leE lo e∧ltO e hi
 |h+1,lo,hi,t=>(show NL h from t)≠[]∧SortE ((show NL h from t).map (·.1))∧(∀ x∈(show NL h from t),ltO x.1 hi)∧OkC (OkD h) lo hi (show NL h from t)
theorem ltO_ofle {a b:Ent}{hi:Option Ent}(h1:leE a b)(h2:ltO b hi):ltO a hi:=by
 cases hi with
 |none=>trivial
 |some x=>exact leE_lt h1 h2
theorem OkC.imp {α:Type}{P Q:Ent→Option Ent→α→Prop}(h:∀ lo hi x,ltO lo hi→P lo hi x→Q lo hi x):∀ {l:List (Ent×Nat×α)} {lo:Ent} {hi:Option Ent},ltO lo hi→OkC P lo hi l→OkC Q lo hi l
 |[],_,_,_,_=>trivial
 |[x],lo,hi,h0,hc=>h _ _ _ h0 hc
 |x::y::r,lo,hi,h0,hc=>by
  obtain⟨h1,h2,h3,h4⟩:=hc
  exact⟨h1,h2,h _ _ _ (show ltO lo (some y.1) from h1) h3,OkC.imp h h2 h4⟩
theorem OkC.imp0 {α:Type}{P Q:Ent→Option Ent→α→Prop}(h:∀ lo hi x,P lo hi x→Q lo hi x):∀ {l:List (Ent×Nat×α)} {lo:Ent} {hi:Option Ent},OkC P lo hi l→OkC Q lo hi l
 |[],_,_,_=>trivial
 |[x],lo,hi,hc=>h _ _ _ hc
 |x::y::r,lo,hi,hc=>by
  obtain⟨h1,h2,h3,h4⟩:=hc
  exact⟨h1,h2,h _ _ _ h3,OkC.imp0 h h4⟩
theorem OkD.ofT:∀ {h:Nat} {lo:Ent} {hi:Option Ent} {t:BTr h},ltO lo hi→OkT true h lo hi t→OkD h lo hi t
 |0,_,_,_,_,h=>h
 |h+1,lo,hi,t,h0,hk=>by
  obtain⟨h1,h2,h3⟩:=hk
  refine⟨h1,head_lt h2 h3,fun x hx=> ?_,OkC.imp (fun lo hi x h0 hx=>OkD.ofT h0 hx) h0 h3⟩
  obtain⟨l,hl⟩:∃ l:NL h,l=t:=⟨_,rfl⟩
  have hx:x∈l:=by rw[hl];exact hx
  have h3:OkC (OkT true h) lo hi l:=by rw[hl];exact h3
  have h2:HeadOk true lo l:=by rw[hl];exact h2
  cases l with
  |nil=>simp at hx
  |cons y r=>
   rcases mem_cons.1 hx with rfl|hx
   ·exact ltO_ofle (headT.1 h2 _ rfl) h0
   ·exact ((okC_sort h3).2 x hx).2
theorem OkD.head {h:Nat}{lo:Ent}{l:NL h}(hs:SortE (l.map (·.1))):HeadOk false lo l:=by
 cases l with
 |nil=>trivial
 |cons x r=>
  cases r with
  |nil=>intro h;cases h
  |cons y r=>exact (List.pairwise_cons.1 hs).1 y.1 (by simp)
theorem OkD.toT:∀ {h:Nat} {lo:Ent} {hi:Option Ent} {t:BTr h},OkD h lo hi t→OkT false h lo hi t
 |0,_,_,_,h=>h
 |h+1,lo,hi,t,hk=>⟨hk.1,OkD.head hk.2.1,OkC.imp0 (fun lo hi x hx=>OkD.toT hx) hk.2.2.2⟩
theorem OkC.loMono {α:Type}{P:Ent→Option Ent→α→Prop}(h:∀ lo lo' hi x,leE lo lo'→P lo' hi x→P lo hi x){l:List (Ent×Nat×α)}{lo lo':Ent}{hi:Option Ent}(h0:leE lo lo')(hc:OkC P lo' hi l):OkC P lo hi l:=by
 cases l with
 |nil=>trivial
 |cons x r=>
  cases r with
  |nil=>exact h _ _ _ _ h0 hc
  |cons y r=>
   obtain⟨h1,h2,h3,h4⟩:=hc
   exact⟨leE_lt h0 h1,h2,h _ _ _ _ h0 h3,h4⟩
theorem OkD.loMono:∀ {h:Nat} {lo lo':Ent} {hi:Option Ent} {t:BTr h},leE lo lo'→OkD h lo' hi t→OkD h lo hi t
 |0,lo,lo',hi,t,h0,h=>⟨h.1,fun e he=>⟨leE_trans h0 (h.2 e he).1,(h.2 e he).2⟩⟩
 |h+1,lo,lo',hi,t,h0,hk=>⟨hk.1,hk.2.1,hk.2.2.1,OkC.loMono (P:=OkD h) (fun lo lo' hi x h0 hx=>OkD.loMono h0 hx) h0 hk.2.2.2⟩
theorem OkC.hiMono {α:Type}{P:Ent→Option Ent→α→Prop}(h:∀ lo x hi t,ltO x hi→P lo (some x) t→P lo hi t){x:Ent}{hi:Option Ent}(hx:ltO x hi):∀ {l:List (Ent×Nat×α)} {lo:Ent},OkC P lo (some x) l→OkC P lo hi l
 |[],_,_=>trivial
 |[a],lo,hc=>h _ _ _ _ hx hc
 |a::b::r,lo,hc=>by
  obtain⟨h1,h2,h3,h4⟩:=hc
  exact⟨h1,ltO_mono h2 hx,h3,OkC.hiMono h hx h4⟩
theorem OkD.hiMono:∀ {h:Nat} {lo x:Ent} {hi:Option Ent} {t:BTr h},ltO x hi→OkD h lo (some x) t→OkD h lo hi t
 |0,lo,x,hi,t,hx,h=>⟨h.1,fun e he=>⟨(h.2 e he).1,ltO_mono (h.2 e he).2 hx⟩⟩
 |h+1,lo,x,hi,t,hx,hk=>⟨hk.1,hk.2.1,fun z hz=>ltO_mono (hk.2.2.1 z hz) hx,OkC.hiMono (P:=OkD h) (fun lo x hi t hx ht=>OkD.hiMono hx ht) hx hk.2.2.2⟩
theorem entsD_ok {h:Nat}{lo:Ent}{hi:Option Ent}{t:BTr h}(hk:OkD h lo hi t):SortE (entsT h t)∧∀ e∈entsT h t,leE lo e∧ltO e hi:=entsT_ok hk.toT
theorem okC_drop {h:Nat}{lo:Ent}{hi:Option Ent}{l1 l2:NL h}{x:Ent×Nat×BTr h}(hc:OkC (OkD h) lo hi (l1++x::l2)):OkC (OkD h) lo hi (l1++l2):=by
 cases l1 with
 |nil=>
  cases l2 with
  |nil=>trivial
  |cons y r=>
   obtain⟨h1,h2,h3,h4⟩:=hc
   exact OkC.loMono (P:=OkD h) (fun lo lo' hi x h0 hx=>OkD.loMono h0 hx) h1.le h4
 |cons a l1=>
  obtain⟨h1,h2,h3,h4⟩:=(okC_app (by simp)).1 hc
  cases l2 with
  |nil=>rw[List.append_nil];exact OkC.hiMono (P:=OkD h) (fun lo x hi t hx ht=>OkD.hiMono hx ht) h3 h1
  |cons y r=>
   obtain⟨g1,g2,g3,g4⟩:=h4
   exact (okC_app (by simp)).2 ⟨OkC.hiMono (P:=OkD h) (fun lo x hi t hx ht=>OkD.hiMono hx ht) (show ltO x.1 (some y.1) from g1) h1,ltE_trans h2 g1,g2,g4⟩
def hdE {h:Nat}(y:Ent):NL h→NL h
 |[]=>[]
 |z::r=>(y,z.2.1,z.2.2)::r
def app0 (a b:List Ent):BTr 0:=a++b
def app1 {h:Nat}(a b:NL h):BTr (h+1):=a++b
def catT:(h:Nat)→BTr h→Ent→BTr h→BTr h
 |0,a,_,b=>app0 a b
 |_+1,a,y,b=>app1 a (hdE y b)
theorem cat_ents:∀ {h:Nat} (a:BTr h) (y:Ent) (b:BTr h),entsT h (catT h a y b)=entsT h a++entsT h b
 |0,a,y,b=>rfl
 |h+1,a,y,b=>by
  obtain⟨l,hl⟩:∃ l:NL h,l=b:=⟨_,rfl⟩
  subst hl
  cases l with
  |nil=>show List.flatMap _ ((show NL h from a)++[])=_;rw[List.append_nil];simp[entsT]
  |cons z r=>
   show List.flatMap (fun x:Ent×Nat×BTr h=>entsT h x.2.2) ((show NL h from a)++(y,z.2.1,z.2.2)::r)=_
   rw[flatMap_append];rfl
theorem cat_ok:∀ {h:Nat} {lo y:Ent} {hi:Option Ent} {a b:BTr h},OkD h lo (some y) a→OkD h y hi b→ltE lo y→ltO y hi→OkD h lo hi (catT h a y b)
 |0,lo,y,hi,a,b,ha,hb,h1,h2=>by
  refine⟨List.pairwise_append.2 ⟨ha.1,hb.1,fun u hu w hw=>lt_leE (ha.2 u hu).2 (hb.2 w hw).1⟩,fun e he=> ?_⟩
  rcases mem_append.1 he with he|he
  ·exact⟨(ha.2 e he).1,ltO_mono (ha.2 e he).2 h2⟩
  ·exact⟨leE_trans h1.le (hb.2 e he).1,(hb.2 e he).2⟩
 |h+1,lo,y,hi,a,b,ha,hb,h1,h2=>by
  obtain⟨a1,a2,a3,a4⟩:=ha
  obtain⟨b1,b2,b3,b4⟩:=hb
  obtain⟨l,hl⟩:∃ l:NL h,l=b:=⟨_,rfl⟩
  subst hl
  cases l with
  |nil=>exact absurd rfl b1
  |cons z r=>
   obtain⟨s1,s2⟩:=okC_sort b4
   have hap:OkC (OkD h) lo hi ((show NL h from a)++(y,z.2.1,z.2.2)::r):=(okC_app a1).2 ⟨a4,h1,h2,okC_cons.2 (by have:=okC_cons.1 b4;exact this)⟩
   refine⟨List.append_ne_nil_of_right_ne_nil _ (by simp[hdE]),?_,fun x hx=> ?_,hap⟩
   ·show SortE (((show NL h from a)++(y,z.2.1,z.2.2)::r).map (·.1))
    rw[List.map_append,List.map_cons]
    refine List.pairwise_append.2 ⟨a2,List.pairwise_cons.2 ⟨fun w hw=> ?_,s1⟩,fun u hu w hw=> ?_⟩
    ·obtain⟨q,hq,rfl⟩:=mem_map.1 hw
     exact (s2 q hq).1
    ·obtain⟨p,hp,rfl⟩:=mem_map.1 hu
     have hpy:ltE p.1 y:=a3 p hp
     rcases mem_cons.1 hw with rfl|hw
     ·exact hpy
     ·obtain⟨q,hq,rfl⟩:=mem_map.1 hw
      exact ltE_trans hpy (s2 q hq).1
   ·have hx:x∈(show NL h from a)++(y,z.2.1,z.2.2)::r:=hx
    rcases mem_append.1 hx with hx|hx
    ·exact ltO_mono (a3 x hx) h2
    ·rcases mem_cons.1 hx with rfl|hx
     ·exact h2
     ·exact b3 x (List.mem_cons_of_mem _ hx)
theorem okC_join {h:Nat}{lo:Ent}{hi:Option Ent}{x y:Ent×Nat×BTr h}{B:NL h}(hc:OkC (OkD h) lo hi (x::y::B)):OkC (OkD h) lo hi ((x.1,x.2.1,catT h x.2.2 y.1 y.2.2)::B):=by
 obtain⟨h1,h2,h3,h4⟩:=hc
 obtain⟨g1,g2⟩:=okC_cons.1 h4
 have hyB:ltO y.1 (hiOf B hi):=by
  cases B with
  |nil=>exact h2
  |cons z r=>exact (g2 z r rfl).1
 refine okC_cons.2 ⟨cat_ok h3 g1 h1 hyB,fun z r e=> ?_⟩
 obtain⟨k1,k2,k3⟩:=g2 z r e
 exact⟨ltE_trans h1 k1,k2,k3⟩
def JS {h:Nat}(l l':NL h):Prop:=l'=l∨∃ (A:NL h) (x y:Ent×Nat×BTr h) (B:NL h),l=A++x::y::B∧l'=A++(x.1,x.2.1,catT h x.2.2 y.1 y.2.2)::B
theorem JS.okC {h:Nat}{l l':NL h}{lo:Ent}{hi:Option Ent}(hj:JS l l')(hc:OkC (OkD h) lo hi l):OkC (OkD h) lo hi l':=by
 rcases hj with rfl|⟨A,x,y,B,rfl,rfl⟩
 ·exact hc
 ·cases A with
  |nil=>exact okC_join hc
  |cons a A=>
   obtain⟨h1,h2,h3,h4⟩:=(okC_app (by simp)).1 hc
   exact (okC_app (by simp)).2 ⟨h1,h2,h3,okC_join h4⟩
theorem JS.keys {h:Nat}{l l':NL h}(hj:JS l l'):(l'.map (·.1)).Sublist (l.map (·.1)):=by
 rcases hj with rfl|⟨A,x,y,B,rfl,rfl⟩
 ·exact List.Sublist.refl _
 ·simp only[List.map_append,List.map_cons]
  exact List.Sublist.append (List.Sublist.refl _) (List.Sublist.cons_cons _ (List.Sublist.cons _ (List.Sublist.refl _)))
theorem JS.ne {h:Nat}{l l':NL h}(hj:JS l l')(hne:l≠[]):l'≠[]:=by
 rcases hj with rfl|⟨A,x,y,B,rfl,rfl⟩
 ·exact hne
 ·simp
theorem JS.ents {h:Nat}{l l':NL h}(hj:JS l l'):(l'.flatMap fun x=>entsT h x.2.2)=l.flatMap fun x=>entsT h x.2.2:=by
 rcases hj with rfl|⟨A,x,y,B,rfl,rfl⟩
 ·rfl
 ·simp[flatMap_append,cat_ents]
def nilT:(h:Nat)→BTr h→Prop
 |0,t=>(show List Ent from t)=[]
 |h+1,t=>(show NL h from t)=[]
theorem nil_ents {h:Nat}{t:BTr h}(hn:nilT h t):entsT h t=[]:=by
 cases h with
 |zero=>exact hn
 |succ h=>
  have hn:(show NL h from t)=[]:=hn
  show List.flatMap _ (show NL h from t)=[]
  rw[hn];rfl
def RemR:(h:Nat)→BTr h→Ent→BTr h→Prop
 |0,t,e,t'=>∃ A B:List Ent,(show List Ent from t)=A++e::B∧(show List Ent from t')=A++B
 |h+1,t,e,t'=>∃ (l1:NL h) (x:Ent×Nat×BTr h) (l2:NL h) (s':BTr h),(show NL h from t)=l1++x::l2∧RemR h x.2.2 e s'∧
   ((nilT h s'∧(show NL h from t')=l1++l2)∨(¬ nilT h s'∧∃ l3:NL h,JS (l1++(x.1,x.2.1,s')::l2) l3∧JS l3 (show NL h from t')))
theorem rem_ents:∀ {h:Nat} {t t':BTr h} {e:Ent},RemR h t e t'→∃ A B,entsT h t=A++e::B∧entsT h t'=A++B
 |0,t,t',e,h=>h
 |h+1,t,t',e,hr=>by
  obtain⟨l1,x,l2,s',ht,hr,hc⟩:=hr
  obtain⟨A,B,h1,h2⟩:=rem_ents hr
  have hT:entsT (h+1) t=(l1.flatMap fun x=>entsT h x.2.2)++(A++e::B)++l2.flatMap fun x=>entsT h x.2.2:=by
   show List.flatMap _ (show NL h from t)=_
   rw[ht];simp[flatMap_append,h1]
  refine⟨(l1.flatMap fun x=>entsT h x.2.2)++A,B++l2.flatMap fun x=>entsT h x.2.2,by rw[hT];simp,?_⟩
  show List.flatMap _ (show NL h from t')=_
  rcases hc with⟨hn,ht'⟩|⟨_,l3,j1,j2⟩
  ·rw[nil_ents hn]at h2
   have hA:A=[]∧B=[]:=by
    have:=h2.symm
    simpa using this
   rw[ht',hA.1,hA.2];simp[flatMap_append]
  ·rw[j2.ents,j1.ents];simp[flatMap_append,h2]
theorem rem_ok:∀ {h:Nat} {t t':BTr h} {e lo:Ent} {hi:Option Ent},OkD h lo hi t→RemR h t e t'→¬ nilT h t'→OkD h lo hi t'
 |0,t,t',e,lo,hi,hk,hr,_=>by
  obtain⟨A,B,h1,h2⟩:=hr
  have hs:(A++B).Sublist (A++e::B):=List.Sublist.append (List.Sublist.refl _) (List.Sublist.cons _ (List.Sublist.refl _))
  rw[← h1,←h2]at hs
  exact⟨hk.1.sublist hs,fun x hx=>hk.2 x (hs.subset hx)⟩
 |h+1,t,t',e,lo,hi,hk,hr,hnn=>by
  obtain⟨l1,x,l2,s',ht,hr,hc⟩:=hr
  obtain⟨k1,k2,k3,k4⟩:=hk
  obtain⟨l,hl⟩:∃ l:NL h,l=t:=⟨_,rfl⟩
  have ht:l=l1++x::l2:=by rw[hl];exact ht
  rw[show (show NL h from t)=l from hl.symm]at k1 k2 k3 k4
  rw[ht]at k1 k2 k3 k4
  rcases hc with⟨hn,ht'⟩|⟨hn,l3,j1,j2⟩
  ·have hs:(l1++l2).Sublist (l1++x::l2):=List.Sublist.append (List.Sublist.refl _) (List.Sublist.cons _ (List.Sublist.refl _))
   refine⟨hnn,?_,?_,?_⟩
   ·show SortE ((show NL h from t').map (·.1))
    rw[ht'];exact k2.sublist (hs.map _)
   ·show ∀ z∈(show NL h from t'),_
    rw[ht'];exact fun z hz=>k3 z (hs.subset hz)
   ·show OkC (OkD h) lo hi (show NL h from t')
    rw[ht'];exact okC_drop k4
  ·have hch:=okC_child k4
   have hset:=okC_set k4 (rem_ok hch hr hn)
   have hkeys:(l1++(x.1,x.2.1,s')::l2).map (·.1)=(l1++x::l2).map (·.1):=by simp
   have hsub:=j2.keys.trans j1.keys
   rw[hkeys]at hsub
   refine⟨hnn,k2.sublist hsub,fun z hz=> ?_,j2.okC (j1.okC hset)⟩
   have hz1:z.1∈(l1++x::l2).map (·.1):=hsub.subset (mem_map.2 ⟨z,hz,rfl⟩)
   obtain⟨w,hw,he⟩:=mem_map.1 hz1
   rw[← he];exact k3 w hw
theorem find_mem {h:Nat}{lo e:Ent}{hi:Option Ent}{l1 l2:NL h}{x:Ent×Nat×BTr h}(hc:OkC (OkD h) lo hi (l1++x::l2))(h1:leE (loOf l1 lo x.1) e)(h2:ltO e (hiOf l2 hi))(hm:e∈(l1++x::l2).flatMap fun x=>entsT h x.2.2):e∈entsT h x.2.2:=by
 have hE:∀ (l:NL h) (lo:Ent) (hi:Option Ent),OkC (OkD h) lo hi l→∀ e∈l.flatMap (fun x=>entsT h x.2.2),leE lo e∧ltO e hi:=fun l lo hi hc=>(okC_ents (F:=entsT h) (fun lo hi x hx=>entsD_ok hx) hc).2
 rw[flatMap_append,List.flatMap_cons]at hm
 rcases mem_append.1 hm with hm|hm
 ·exfalso
  cases l1 with
  |nil=>simp at hm
  |cons a l1=>
   obtain⟨g1,g2,g3,g4⟩:=(okC_app (by simp)).1 hc
   have:=(hE _ _ _ g1 e hm).2
   exact h1 this
 ·rcases mem_append.1 hm with hm|hm
  ·exact hm
  ·exfalso
   have hx:OkC (OkD h) (loOf l1 lo x.1) hi (x::l2):=by
    cases l1 with
    |nil=>exact hc
    |cons a l1=>exact ((okC_app (by simp)).1 hc).2.2.2
   cases l2 with
   |nil=>simp at hm
   |cons y r=>
    obtain⟨g1,g2,g3,g4⟩:=hx
    exact (hE _ _ _ g4 e hm).1 h2
def pl47_9Dm:Plan:=(.det 0 (.det 1 (.det 2 (.det 3 (.act 4 (.fin 5 (.det 6 .done)))))))
def pl47_11Dm:Plan:=(.det 0 (.det 1 (.det 2 (.det 3 (.det 4 (.det 5 (.det 6 (.det 7 (.two 8 (.det 9 (.det 10 (.det 11 (.act 12 (.fin 13 (.det 14 .done)))))) 12 (.fin 8 (.det 9 (.det 10 (.det 11 (.fin 13 (.det 14 .done)))))))))))))))
def pl47_18Dm:Plan:=(.det 0 (.det 1 (.det 2 (.det 3 (.det 4 (.det 5 (.det 6 (.det 7 (.fin 8 (.det 9 .done))))))))))
def pl47_22Dm:Plan:=(.det 0 (.det 1 (.det 2 (.det 3 (.act 4 (.fin 5 (.det 6 .done)))))))
def tDm:=aa wX <| aa wbu <| aa T3 <| aa T4 <| aa T25 <| aa T30 <| aa T48 <| aa T86 <| aa T90 <| aa T92 <| aa T97 T139
def NeT:(h:Nat)→BTr h→Prop
 |0,_=>True
 |h+1,t=>∀ x∈(show NL h from t),¬ nilT h x.2.2∧NeT h x.2.2
structure DelW (v v':Nat→List UInt8)(T T':Nat→Bool)(np:Nat)(C C':List Nat):Prop where
 sub:∀ q∈C',q∈C
 nd:C'.Nodup
 tk:∀ q,T' q=if q∈C then decide (q∈C')else T q
 oth:∀ q,q∉C→q≠0→v' q=v q
 tkk:Tk (v' 0) np T'
theorem DelW.trans {v v' v'':Nat→List UInt8}{T T' T'':Nat→Bool}{np:Nat}{C C' C'':List Nat}(h:DelW v v' T T' np C C')(k:DelW v' v'' T' T'' np C' C''):DelW v v'' T T'' np C C'':=by
 refine⟨fun q hq=>h.sub q (k.sub q hq),k.nd,fun q=> ?_,fun q hq h0=>(k.oth q (fun e=>hq (h.sub q e)) h0).trans (h.oth q hq h0),k.tkk⟩
 rw[k.tk]
 by_cases e:q∈C'
 ·rw[if_pos e,if_pos (h.sub q e)]
 ·rw[if_neg e,h.tk]
  by_cases e2:q∈C
  ·rw[if_pos e2,if_pos e2,decide_eq_false e,decide_eq_false fun e3=>e (k.sub q e3)]
  ·rw[if_neg e2,if_neg e2]
theorem DelW.lift {v v':Nat→List UInt8}{T T':Nat→Bool}{np:Nat}{A B C C':List Nat}(h:DelW v v' T T' np C C')(hn:(A++C++B).Nodup)(ht:∀ q∈A++C++B,T q=true):DelW v v' T T' np (A++C++B) (A++C'++B):=by
 have hAC:∀ q,q∈A→q∉C:=fun q ha hc=>(nodup_append.1 (nodup_append.1 hn).1).2.2 q ha q hc rfl
 have hBC:∀ q,q∈B→q∉C:=fun q hb hc=>(nodup_append.1 hn).2.2 q (by simp[hc]) q hb rfl
 have hAB:∀ q,q∈A→q∉B:=fun q ha hb=>(nodup_append.1 hn).2.2 q (by simp[ha]) q hb rfl
 refine⟨fun q hq=> ?_,nodup_append.2 ⟨nodup_append.2 ⟨(nodup_append.1 (nodup_append.1 hn).1).1,h.nd,fun a ha b hb e=>hAC a ha (e▸h.sub b hb)⟩,(nodup_append.1 hn).2.1,fun a ha b hb e=> ?_⟩,fun q=> ?_,fun q hq h0=>h.oth q (fun e=>hq (by simp[e])) h0,h.tkk⟩
 ·rcases mem_append.1 hq with hq|hq
  ·rcases mem_append.1 hq with hq|hq
   ·simp[hq]
   ·simp[h.sub q hq]
  ·simp[hq]
 ·subst e
  rcases mem_append.1 ha with ha|ha
  ·exact hAB a ha hb
  ·exact hBC a hb (h.sub a ha)
 ·rw[h.tk]
  by_cases e1:q∈C
  ·have:q∉A∧q∉B:=⟨fun e=>hAC q e e1,fun e=>hBC q e e1⟩
   rw[if_pos e1,if_pos (by simp[e1])]
   simp[this.1,this.2]
  ·rw[if_neg e1]
   by_cases e2:q∈A++C++B
   ·rw[if_pos e2,ht q e2]
    have:q∈A∨q∈B:=by simpa [e1]using e2
    symm
    apply decide_eq_true
    rcases this with h|h<;>simp[h]
   ·rw[if_neg e2]
def RemPost (h n:Nat)(t:BTr h)(e:Ent)(σ:St)(b p dd l kh:Nat)(U:Nat→Prop)(P:PoolV)(v:Nat→List UInt8)(T:Nat→Bool)(r:AV)(σ':St):Prop:=∃ U' P' v' T' a,Fr σ σ' U U'∧Bt σ' b p dd l kh U' P' v'∧Kp P P' 0∧leaf a=true∧cellsA a=some [a]∧
 ((e∉entsT h t∧r= .tup [.agg [intV .i64 (kdT h:Nat),a],intV .i64 1]∧v'=v∧T'=T)∨
  (∃ t' tn,e∈entsT h t∧RemR h t e t'∧a= .ms tn 4 0 (itsT h t').length∧r= .tup [.agg [intV .i64 (kdT h:Nat),a],intV .i64 0]∧σ'[tn]? =some (some (.row 4 ((itsT h t').map itC)))∧σ.length≤tn∧¬ U' tn∧TrAt v' h n t'∧DelW v v' T T' P.pages (pgT h n t) (pgT h n t')))
theorem frG {S s R S0:St}{L:List Nat}{U1 U2:Nat→Prop}(f:Fr S0 s U1 U2)(h0:S0.length=S.length)(h1:∀ j,j∉L→S0[j]? =S[j]?)(hR:s.length≤R.length)(hL:∀ j∈L,R[j]? =S[j]?)(hK:∀ j,j<S.length→j∉L→R[j]? =s[j]?):Fr S R U1 U2:=by
 have q:=f.len
 refine⟨by omega,fun j hj hn=> ?_,fun j hj=>(f.own j hj).imp id fun e=>by omega⟩
 by_cases e:j∈L
 ·exact hL j e
 ·rw[hK j hj e,f.keep j (by omega) hn,h1 j e]
theorem szL_sub:∀ {l m:List Itm},l.Sublist m→szL l≤szL m
 |_,_,.slnil=>Nat.le_refl _
 |_,_,.cons a h=>by have:=szL_sub h;rw[szL_cons];omega
 |_,_,.cons_cons a h=>by have:=szL_sub h;rw[szL_cons,szL_cons];omega
theorem found0 {t:List Ent}{e:Ent}{k:Nat}(hs:SortE t)(hcut:CutAt (its0 t) e k):t[k]? =some e∨(e∉t∧∀ x,(its0 t)[k]? =some x→(cmpE x.e e==0)=false):=by
 by_cases hm:e∈t
 ·left
  obtain⟨j,hj⟩:=List.mem_iff_getElem?.1 hm
  have hgj:(its0 t)[j]? =some ⟨e,0⟩:=by simp[its0,hj]
  have hc0:cmpE e e=0:=cmpE_zero.2 rfl
  have hkj:k≤j:=by
   rcases Nat.lt_or_ge j k with h'|h'
   ·have:=(hcut.2 j _ hgj).1 h'
    simp only at this;omega
   ·exact h'
  obtain⟨x,hx⟩:∃ x,t[k]? =some x:=⟨t[k]'(by have:=(List.getElem?_eq_some_iff.1 hj).1;omega),by simp⟩
  have hgk:(its0 t)[k]? =some ⟨x,0⟩:=by simp[its0,hx]
  have h1:=(hcut.2 k _ hgk).2 (Nat.le_refl _)
  by_cases hjk:j=k
  ·subst hjk
   rw[hj]at hx
   simp only[Option.some.injEq]at hx
   subst hx
   exact hj
  ·exfalso
   have h2:ltE x e:=by
    have hp:=List.pairwise_iff_getElem.1 hs
    obtain⟨a1,a2⟩:=List.getElem?_eq_some_iff.1 hx
    obtain⟨b1,b2⟩:=List.getElem?_eq_some_iff.1 hj
    have:=hp k j a1 b1 (by omega)
    rwa [a2,b2]at this
   unfold ltE at h2;simp only at h1;omega
 ·right
  refine⟨hm,fun x hx=> ?_⟩
  cases hg:t[k]? with
  |none=>simp[its0,hg]at hx
  |some y=>
   have hgk:(its0 t)[k]? =some ⟨y,0⟩:=by simp[its0,hg]
   rw[hgk]at hx
   simp only[Option.some.injEq]at hx
   subst hx
   have:cmpE y e≠0:=fun h0=>hm (by rw[← cmpE_zero.1 h0];exact mem_of_getElem? hg)
   simp[this]
section
variable {σ:St} {b p dd l kh n:Nat} {U:Nat→Prop} {P:PoolV} {v:Nat→List UInt8} {T:Nat→Bool} {e:Ent}
theorem atRemLeaf {t:List Ent}(h:Bt σ b p dd l kh U P v)(hT:Tk (v 0) P.pages T)(hb:Bud P 1)(hN:NodeP (v n) 2 (its0 t))(hn:1≤n∧n<P.pages∧T n=true)(hs:SortE t)(hnp:P.pages≤3200):
 ACalls Tryz.prog 47 [.agg [.mp b 2 0 0],intV .i64 (n:Nat),entA e] σ fun r σ'=>RemPost 0 n t e σ b p dd l kh U P v T r σ':=by
 have hlt:=h.lt
 have hl49:=hN.n
 have hil:(its0 t).length=t.length:=by simp[its0]
 have hie:(its0 t).map (·.e)=t:=by simp[its0,Function.comp_def]
 have hcut:=cutI_at (l:=its0 t) (e:=e) (by rw[hie];exact hs)
 have hcl:=cut_le0 t e
 obtain⟨k,hk⟩:∃ k,k=cutI (its0 t) e:=⟨_,rfl⟩
 rw[← hk]at hcut hcl
 refine acalls_of cx_ok dr_ok Tryz.func47 (by kernel_rfl) rfl (nt:=116) (rs:=[.cell 6 92,.tmp 7]) rfl rfl ?_
 simp only[entA]
 repeat' first|((with_reducible first|apply cs|apply ws|apply wd|apply wu)<;>intro h<;>try simp only[h])|simp only[↓wBA,tDm,convA,seval,pl47_9Dm,pl47_11Dm,pl47_18Dm,pl47_22Dm,wH]|(with_reducible first|refine dQ pl47_9Dm 7 (some 44) ?_|refine dQ pl47_11Dm 15 (some 53) ?_|refine dQ pl47_18Dm 10 (some 94) ?_|refine dQ pl47_22Dm 7 (some 114) ?_)|with_reducible refine And.intro ?_ ?_
 have a1:Ap σ (σ++[some (Ob.row 1 [[AV.mp b 2 0 0]])]++[some (Ob.row 3 [[.p (.sl 1 (encB e.k)),intV .i64 (e.p:Nat),intV .i64 (e.s:Nat)]])]++[some (Ob.row 2 [[intV .i64 0,.p (.v (.slice none 0 0))]])]):=((Ap.app _ _).more _).more _
 refine (atRead (h.ap a1) hn.2.1 hN hb).mono ?_
 rintro _ s1 ⟨U1,P1,a,rfl,f1,h1,k1,ha,hta⟩
 have l1:=f1.len
 simp only[length_append,List.length_cons,List.length_nil]at l1
 have b0:s1[σ.length]? =some (some (Ob.row 1 [[AV.mp b 2 0 0]])):=by
  rw[f1.keep _ (by simp) fun e=>by have:=hlt _ e;omega];simp[intV]
 have b1:s1[σ.length+1]? =some (some (Ob.row 3 [[.p (.sl 1 (encB e.k)),intV .i64 (e.p:Nat),intV .i64 (e.s:Nat)]])):=by
  rw[f1.keep _ (by simp) fun e=>by have:=hlt _ e;omega];simp[intV]
 have b2:s1[σ.length+2]? =some (some (Ob.row 2 [[intV .i64 0,.p (.v (.slice none 0 0))]])):=by
  rw[f1.keep _ (by simp) fun e=>by have:=hlt _ e;omega];simp[intV]
 have hlt1:=h1.lt
 have hlf:=ha.x.leaf
 have hcc:=ha.x.cells
 have nU0:∀ j,σ.length≤j→j<σ.length+3→¬ U1 j:=fun j hj hj2 e=>(f1.own j e).elim (fun e=>by have:=hlt j e;omega) fun e=>by simp at e;omega
 obtain⟨S1,hS1⟩:∃ S1,S1=s1++[some (Ob.row 2 [[AV.p (.v (.int .i64 2)),a]])]:=⟨_,rfl⟩
 have aS:Ap s1 S1:=⟨_,hS1⟩
 have hS1l:S1.length=s1.length+1:=by rw[hS1];simp
 have bN:S1[s1.length]? =some (some (Ob.row 2 [[AV.p (.v (.int .i64 2)),a]])):=by rw[hS1];simp
 have c0:=aS.get b0
 have c1:=aS.get b1
 have c2:=aS.get b2
 have y0:=at_lt c0
 have y1:=at_lt c1
 have y2:=at_lt c2
 have yN:=at_lt bN
 have hx1:=ha.x.ap aS
 have hbs:=absfA acl3 hx1.a (by omega) e k hcut
 simp only[entA]at hbs
 have fS:Fr σ S1 U U1:=(a1.fr.trans f1).trans aS.fr
 rcases found0 hs hcut with hke|⟨hm,hq⟩
 rotate_left
 ·replace hbs:=hbs.mono (R':=fun r s=>s=S1∧r= .tup [intV .i64 (k:Nat),boolV false]) fun r s ⟨g1,g2⟩=>⟨g1,by
   rw[g2]
   cases hg:(its0 t)[k]? with
   |none=>rfl
   |some x=>simp only[hq x hg]⟩
  simp only[intV,boolV]at hbs
  repeat' first|((with_reducible first|apply cs|apply ws|apply wd|apply wu)<;>intro h<;>try simp only[h])|simp only[↓wBA,tDm,convA,seval,pl47_9Dm,pl47_11Dm,pl47_18Dm,pl47_22Dm,wH,c2y,hS1.symm,c0,c1,c2,bN,y0,y1,y2,yN,hlf,hcc]|((with_reducible show ACalls _ _ _ _ _);refine hbs.eq ?_)|(with_reducible first|refine dQ pl47_9Dm 7 (some 44) ?_|refine dQ pl47_11Dm 15 (some 53) ?_|refine dQ pl47_18Dm 10 (some 94) ?_|refine dQ pl47_22Dm 7 (some 114) ?_)|with_reducible refine And.intro ?_ ?_
  all_goals refine ret_st ?_ (by first|exact Nat.le_refl _|(simp only[length_set,length_append];omega)|omega)
  all_goals simp only[resA.eq_1,resL.eq_1,resL.eq_2,resV.eq_1,resV.eq_2,↓wBA,tDm,convA,seval,wH,y2]
  exact⟨U1,P1,v,T,a,Fr.setY fS (by omega) _,(h1.ap aS).set (nU0 _ (by omega) (by omega)) _,k1,hlf,hcc,.inl ⟨hm,rfl,rfl,rfl⟩⟩
 ·replace hbs:=hbs.mono (R':=fun r s=>s=S1∧r= .tup [intV .i64 (k:Nat),boolV true]) fun r s ⟨g1,g2⟩=>⟨g1,by
   rw[g2]
   have hgk:(its0 t)[k]? =some ⟨e,0⟩:=by simp[its0,hke]
   rw[hgk]
   simp[cmpE_zero.2 (rfl:e=e)]⟩
  simp only[intV,boolV]at hbs
  rcases ha with⟨h0,_⟩|⟨hne,ta,rfl,hta'⟩
  ·have:t=[]:=by simpa [its0]using h0
   rw[this]at hke;simp at hke
  have hkl:=(List.getElem?_eq_some_iff.1 hke).1
  obtain⟨hta1,htaU⟩:=hta ta rfl
  simp only[length_append,List.length_cons,List.length_nil]at hta1
  have yta:=at_lt hta'
  have hwk:=wI k (by omega)
  have hdl:=adel (i:=k) (l:=its0 t) (by omega) (by omega) (aS.get hta')
  simp only[intV]at hdl
  repeat' first|((with_reducible first|apply cs|apply ws|apply wd|apply wu)<;>intro h<;>try simp only[h])|simp only[↓wBA,tDm,convA,seval,pl47_9Dm,pl47_11Dm,pl47_18Dm,pl47_22Dm,wH,c2y,hS1.symm,c0,c1,c2,bN,y0,y1,y2,yN,hlf,hcc,hwk]|((with_reducible show ACalls _ _ _ _ _);refine hbs.eq ?_)|(with_reducible first|refine dQ pl47_9Dm 7 (some 44) ?_|refine dQ pl47_11Dm 15 (some 53) ?_|refine dQ pl47_18Dm 10 (some 94) ?_|refine dQ pl47_22Dm 7 (some 114) ?_)|with_reducible refine And.intro ?_ ?_
  refine hdl.mono ?_
  rintro _ s2 ⟨rfl,rfl⟩
  obtain⟨t2,ht2⟩:∃ t2,t2=t.take k++t.drop (k+1):=⟨_,rfl⟩
  have hi2:(its0 t).take k++(its0 t).drop (k+1)=its0 t2:=by rw[ht2];simp[its0]
  have hl2:(its0 t).length - 1=(its0 t2).length:=by rw[← hi2];simp;omega
  rw[hi2,hl2]
  have x1:(ta=s1.length)=False:=eq_false (by omega)
  have x2:(s1.length=ta)=False:=eq_false (by omega)
  obtain⟨S2,hS2⟩:∃ S2,S2=(S1.set ta none).set s1.length (some (Ob.row 2 [[AV.p (.v (.int .i64 2)),AV.ms S1.length 4 0 (its0 t2).length]]))++[some (Ob.row 4 ((its0 t2).map itC))]:=⟨_,rfl⟩
  have hg2:∀ j,j≠ta→j≠s1.length→j<S1.length→S2[j]? =S1[j]? :=fun j h1 h2 h3=>by rw[hS2,List.getElem?_append_left (by simpa using h3),getElem?_set_ne (fun e=>h2 e.symm),getElem?_set_ne (fun e=>h1 e.symm)]
  have d0:=(hg2 _ (by omega) (by omega) y0).trans c0
  have d1:=(hg2 _ (by omega) (by omega) y1).trans c1
  have d2:=(hg2 _ (by omega) (by omega) y2).trans c2
  have dN:S2[s1.length]? =some (some (Ob.row 2 [[AV.p (.v (.int .i64 2)),AV.ms S1.length 4 0 (its0 t2).length]])):=by rw[hS2,List.getElem?_append_left (by simpa using yN),List.getElem?_set_self (by simpa using yN)]
  have dt:S2[S1.length]? =some (some (Ob.row 4 ((its0 t2).map itC))):=by rw[hS2,List.getElem?_append_right (by simp)];simp
  have z0:=at_lt d0
  have z1:=at_lt d1
  have z2:=at_lt d2
  have zN:=at_lt dN
  have zt:=at_lt dt
  have hB2:Bt S2 b p dd l kh U1 P1 v:=by rw[hS2];exact (((h1.ap aS).set htaU _).set (fun e=>by have:=hlt1 _ e;omega) _).ap (Ap.app _ _)
  have fS2:Fr σ S2 U U1:=by rw[hS2];exact (Fr.setY (Fr.setY fS (show σ.length≤ta by omega) _) (show σ.length≤s1.length by omega) _).app _
  repeat' first|((with_reducible first|apply cs|apply ws|apply wd|apply wu)<;>intro h<;>try simp only[h])|simp only[↓wBA,tDm,convA,seval,pl47_9Dm,pl47_11Dm,pl47_18Dm,pl47_22Dm,wH,hS2.symm,x1,x2,yN,bN,d0,dN,z0,zN]|(with_reducible first|refine dQ pl47_9Dm 7 (some 44) ?_|refine dQ pl47_11Dm 15 (some 53) ?_|refine dQ pl47_18Dm 10 (some 94) ?_|refine dQ pl47_22Dm 7 (some 114) ?_)|with_reducible refine And.intro ?_ ?_
  have hsub:(its0 t2).Sublist (its0 t):=by
   rw[← hi2]
   conv=>rhs;rw[← List.take_append_drop k (its0 t)]
   exact List.Sublist.append (List.Sublist.refl _) (List.drop_sublist_drop_left _ (Nat.le_succ k))
  have hok2:∀ x∈its0 t2,x.ok:=fun x hx=>hN.ok x (hsub.subset hx)
  have hsz2:szL (its0 t2)≤496:=Nat.le_trans (szL_sub hsub) hN.sz
  have nN:¬ U1 s1.length:=fun e=>by have:=hlt1 _ e;omega
  have nA:¬ U1 σ.length:=nU0 _ (by omega) (by omega)
  have n2:¬ U1 (σ.length+2):=nU0 _ (by omega) (by omega)
  have hW:=atWrite (n:=n) (a:=.ms S1.length 4 0 (its0 t2).length) (kd:=2) (((hB2.set nN none).set nA none).set nN none) hn.1 (by rw[k1.pages];exact hn.2.1) (.inl ⟨S1.length,0,rfl,_,by rw[getElem?_set_ne (by omega),getElem?_set_ne (by omega),getElem?_set_ne (by omega)];exact dt,by simp,fun j x hj=>by simp[hj]⟩) (.inl rfl) hok2 hsz2
  simp only[intV,c2y]at hW
  refine hW.mono ?_
  rintro _ s3 ⟨rfl,U3,f3,hB3⟩
  have l3:=f3.len
  simp only[length_set]at l3
  have w0:σ.length<s3.length:=by omega
  have wN:s1.length<s3.length:=by omega
  have w2:σ.length+2<s3.length:=by omega
  have e2:s3[σ.length+2]? =some (some (Ob.row 2 [[intV .i64 0,.p (.v (.slice none 0 0))]])):=by rw[f3.keep _ (by simpa using z2) n2,getElem?_set_ne (by omega),getElem?_set_ne (by omega),getElem?_set_ne (by omega)];exact d2
  have x3:(s1.length=σ.length)=False:=eq_false (by omega)
  have x4:(σ.length=s1.length)=False:=eq_false (by omega)
  have x5:(s1.length=σ.length+2)=False:=eq_false (by omega)
  have x6:(σ.length+2=s1.length)=False:=eq_false (by omega)
  repeat' first|((with_reducible first|apply cs|apply ws|apply wd|apply wu)<;>intro h<;>try simp only[h])|simp only[↓wBA,tDm,convA,seval,pl47_9Dm,pl47_11Dm,pl47_18Dm,pl47_22Dm,wH,d0,dN,z0,zN,w0,wN,w2,e2,x3,x4,x5,x6]|(with_reducible first|refine dQ pl47_9Dm 7 (some 44) ?_|refine dQ pl47_11Dm 15 (some 53) ?_|refine dQ pl47_18Dm 10 (some 94) ?_|refine dQ pl47_22Dm 7 (some 114) ?_)|with_reducible refine And.intro ?_ ?_
  all_goals refine ret_st ?_ (by first|exact Nat.le_refl _|(simp only[length_set,length_append];omega)|omega)
  all_goals simp only[resA.eq_1,resL.eq_1,resL.eq_2,resV.eq_1,resV.eq_2,↓wBA,tDm,convA,seval,wH,w0,wN,w2]
  have nU3:∀ j,j<S2.length→¬ U1 j→¬ U3 j:=fun j hj hn e=>(f3.own j e).elim hn fun e=>by simp at e;omega
  obtain⟨R0,hR0⟩:∃ R0,R0=((s3.set s1.length none).set σ.length (some (Ob.row 1 [[AV.mp b 2 0 0]]))).set s1.length (some (Ob.row 2 [[AV.p (.v (.int .i64 2)),AV.ms S1.length 4 0 (its0 t2).length]])):=⟨_,rfl⟩
  have hR0l:R0.length=s3.length:=by rw[hR0];simp
  have hR0g:∀ j,j≠s1.length→j≠σ.length→R0[j]? =s3[j]? :=fun j g1 g2=>by rw[hR0,getElem?_set_ne (fun e=>g1 e.symm),getElem?_set_ne (fun e=>g2 e.symm),getElem?_set_ne (fun e=>g1 e.symm)]
  have fR:Fr S2 R0 U1 U3:=frG (L:=[s1.length,σ.length]) f3 (by simp) (fun j hj=>by
   simp only[mem_cons,not_mem_nil,or_false,not_or]at hj
   rw[getElem?_set_ne (fun e=>hj.1 e.symm),getElem?_set_ne (fun e=>hj.2 e.symm),getElem?_set_ne (fun e=>hj.1 e.symm)]) (by omega) (fun j hj=>by
   simp only[mem_cons,not_mem_nil,or_false]at hj
   rcases hj with rfl|rfl
   ·rw[dN,hR0,List.getElem?_set_self (by simpa using wN)]
   ·rw[d0,hR0,getElem?_set_ne (by omega),List.getElem?_set_self (by simpa using w0)]) fun j _ hj=>by
   simp only[mem_cons,not_mem_nil,or_false,not_or]at hj
   exact hR0g j hj.1 hj.2
  have hBR:Bt R0 b p dd l kh U3 P1 (upV v n (fitF 2 (its0 t2)).1):=by rw[hR0];exact ((hB3.set (nU3 _ zN nN) _).set (nU3 _ z0 nA) _).set (nU3 _ zN nN) _
  rw[← hR0]
  have htt:t=t.take k++e::t.drop (k+1):=by
   obtain⟨g1,g2⟩:=List.getElem?_eq_some_iff.1 hke
   conv=>lhs;rw[← List.take_append_drop k t,List.drop_eq_getElem_cons g1,g2]
  refine⟨U3,P1,_,T,.ms S1.length 4 0 (its0 t2).length,Fr.setY (fS2.trans fR) (by omega) _,hBR.set (nU3 _ z2 n2) _,k1,rfl,rfl,.inr ⟨t2,S1.length,mem_of_getElem? hke,⟨t.take k,t.drop (k+1),htt,ht2⟩,rfl,rfl,?_,by omega,nU3 _ zt fun e=>by have:=hlt1 _ e;omega,?_,?_⟩⟩
  ·rw[getElem?_set_ne (by omega),hR0g _ (by omega) (by omega),f3.keep _ (by simpa using zt) fun e=>by have:=hlt1 _ e;omega]
   rw[getElem?_set_ne (by omega),getElem?_set_ne (by omega),getElem?_set_ne (by omega)]
   exact dt
  ·show NodeP (upV v n _ n) 2 (its0 t2)
   unfold upV;rw[if_pos rfl];exact (fit_yes (.inl rfl) hok2 hsz2).2
  ·refine⟨fun q hq=>hq,by simp[pgT],fun q=> ?_,fun q hq _=> ?_,?_⟩
   ·by_cases e:q=n
    ·subst e;simp[pgT,hn.2.2]
    ·simp[pgT,e]
   ·unfold upV;rw[if_neg (fun e=>hq (by simp[pgT,e]))]
   ·unfold upV;rw[if_neg (by omega)];exact hT
end
theorem its0_app (a b:List Ent):its0 (a++b)=its0 a++its0 b:=by simp[its0]
theorem its1_hd {h:Nat}(y:Ent)(l:NL h):its1 (hdE y l)=setE y (its1 l):=by cases l<;>rfl
theorem flP_hd {h:Nat}(y:Ent)(l:NL h):flP (hdE y l)=flP l:=by cases l<;>rfl
theorem cat_its0 (a:List Ent)(y:Ent)(b:List Ent):itsT 0 (catT 0 a y b)=catI 2 y (its0 a) (its0 b):=by
 have h1:itsT 0 (catT 0 a y b)=its0 (a++b):=rfl
 have h2:catI 2 y (its0 a) (its0 b)=its0 a++its0 b:=rfl
 rw[h1,h2,its0_app]
theorem cat_its1 {h:Nat}(a:NL h)(y:Ent)(b:NL h):itsT (h+1) (catT (h+1) a y b)=catI 3 y (its1 a) (its1 b):=by
 have h1:itsT (h+1) (catT (h+1) a y b)=its1 (a++hdE y b):=rfl
 have h2:catI 3 y (its1 a) (its1 b)=its1 a++setE y (its1 b):=rfl
 rw[h1,h2,its1_app,its1_hd]
theorem cat_its {h:Nat}(a:BTr h)(y:Ent)(b:BTr h):itsT h (catT h a y b)=catI (kdT h) y (itsT h a) (itsT h b):=by
 cases h with
 |zero=>exact cat_its0 a y b
 |succ h=>exact cat_its1 a y b
theorem cat_pgC1 {h:Nat}(a:NL h)(y:Ent)(b:NL h):pgC (h+1) (catT (h+1) a y b)=flP a++flP b:=by
 have h1:pgC (h+1) (catT (h+1) a y b)=flP (a++hdE y b):=rfl
 rw[h1,flP_app,flP_hd]
theorem cat_pgC {h:Nat}(a:BTr h)(y:Ent)(b:BTr h):pgC h (catT h a y b)=pgC h a++pgC h b:=by
 cases h with
 |zero=>rfl
 |succ h=>exact cat_pgC1 a y b
theorem hd_mem {h:Nat}{y:Ent}{l:NL h}{x:Ent×Nat×BTr h}(hx:x∈hdE y l):∃ z∈l,z.2=x.2:=by
 cases l with
 |nil=>simp[hdE]at hx
 |cons z r=>
  rcases mem_cons.1 hx with rfl|hx
  ·exact⟨z,by simp,rfl⟩
  ·exact⟨x,List.mem_cons_of_mem _ hx,rfl⟩
theorem cat_tr1 {h:Nat}{v v':Nat→List UInt8}{n m:Nat}{a b:NL h}{y:Ent}(ha:TrAt v (h+1) n a)(hb:TrAt v (h+1) m b)(hN:NodeP (v' n) 3 (itsT (h+1) (catT (h+1) a y b)))(hv:∀ q∈flP a++flP b,v' q=v q):TrAt v' (h+1) n (catT (h+1) a y b):=by
 refine⟨hN,fun x hx=> ?_⟩
 have hx:x∈a++hdE y b:=hx
 rcases mem_append.1 hx with hx|hx
 ·exact (ha.2 x hx).congr fun q hq=>hv q (mem_append.2 (.inl (mem_flatMap.2 ⟨x,hx,hq⟩)))
 ·obtain⟨z,hz,e⟩:=hd_mem hx
  rw[← e]
  exact (hb.2 z hz).congr fun q hq=>hv q (mem_append.2 (.inr (mem_flatMap.2 ⟨z,hz,hq⟩)))
theorem cat_tr {h:Nat}{v v':Nat→List UInt8}{n m:Nat}{a b:BTr h}{y:Ent}(ha:TrAt v h n a)(hb:TrAt v h m b)(hN:NodeP (v' n) (kdT h) (itsT h (catT h a y b)))(hv:∀ q∈pgC h a++pgC h b,v' q=v q):TrAt v' h n (catT h a y b):=by
 cases h with
 |zero=>exact hN
 |succ h=>exact cat_tr1 ha hb hN hv
theorem cat_ne1 {h:Nat}{a b:NL h}{y:Ent}(h1:a≠[])(h2:NeT (h+1) a)(h3:NeT (h+1) b):¬ nilT (h+1) (catT (h+1) a y b)∧NeT (h+1) (catT (h+1) a y b):=by
 refine⟨fun e=> ?_,fun x hx=> ?_⟩
 ·have e:a++hdE y b=[]:=e
  exact h1 (List.append_eq_nil_iff.1 e).1
 ·have hx:x∈a++hdE y b:=hx
  rcases mem_append.1 hx with hx|hx
  ·exact h2 x hx
  ·obtain⟨z,hz,e⟩:=hd_mem hx
   rw[← e]
   exact h3 z hz
theorem cat_ne {h:Nat}{a b:BTr h}{y:Ent}(h1:¬ nilT h a)(h2:NeT h a)(h3:NeT h b):¬ nilT h (catT h a y b)∧NeT h (catT h a y b):=by
 cases h with
 |zero=>
  refine⟨fun e=> ?_,trivial⟩
  have e:(List.append a b:List Ent)=[]:=e
  exact h1 (List.append_eq_nil_iff.1 e).1
 |succ h=>exact cat_ne1 h1 h2 h3
structure Kids (h:Nat)(v:Nat→List UInt8)(T:Nat→Bool)(np n:Nat)(l:NL h):Prop where
 tr:∀ x∈l,TrAt v h x.2.1 x.2.2
 ne:∀ x∈l,¬ nilT h x.2.2∧NeT h x.2.2
 nd:(n::flP l).Nodup
 tk:∀ q∈n::flP l,1≤q∧q<np∧T q=true
 ok:∀ z∈its1 l,z.ok
 sz:szL (its1 l)≤496
theorem its_ne {h:Nat}{t:BTr h}(hn:¬ nilT h t):itsT h t≠[]:=by
 cases h with
 |zero=>exact fun e=>hn (List.map_eq_nil_iff.1 (show its0 t=[] from e))
 |succ h=>exact fun e=>hn (List.map_eq_nil_iff.1 (show its1 t=[] from e))
theorem cat_okI {kd:Nat}{y:Ent}{la lb:List Itm}(hy:y.ok)(ha:∀ z∈la,z.ok)(hb:∀ z∈lb,z.ok):∀ z∈catI kd y la lb,z.ok:=by
 intro z hz
 unfold catI at hz
 rcases mem_append.1 hz with hz|hz
 ·exact ha z hz
 ·split at hz
  ·cases lb with
   |nil=>simp[setE]at hz
   |cons z' r=>
    rcases mem_cons.1 hz with rfl|hz
    ·exact⟨hy,(hb z' (by simp)).2⟩
    ·exact hb z (List.mem_cons_of_mem _ hz)
  ·exact hb z hz
theorem Kids.join {h np n:Nat}{v v':Nat→List UInt8}{T:Nat→Bool}{A B:NL h}{x y:Ent×Nat×BTr h}(hk:Kids h v T np n (A++x::y::B))(hs:szL (itsT h (catT h x.2.2 y.1 y.2.2))≤496)(hvx:v' x.2.1=(fitF (kdT h) (itsT h (catT h x.2.2 y.1 y.2.2))).1)(hvo:∀ q,q≠x.2.1→q≠0→v' q=v q)
 (hTk:Tk (v' 0) np fun m=>if m=y.2.1 then false else T m) (hcok:∀ z∈itsT h (catT h x.2.2 y.1 y.2.2),z.ok):
 Kids h v' (fun m=>if m=y.2.1 then false else T m) np n (A++(x.1,x.2.1,catT h x.2.2 y.1 y.2.2)::B)∧DelW v v' T (fun m=>if m=y.2.1 then false else T m) np (n::flP (A++x::y::B)) (n::flP (A++(x.1,x.2.1,catT h x.2.2 y.1 y.2.2)::B)):=by
 have e1:n::flP (A++x::y::B)=n::(flP A++(x.2.1::pgC h x.2.2++(y.2.1::pgC h y.2.2++flP B))):=by rw[flP_app,flP_cons,flP_cons,pgT_C,pgT_C]
 have e2:n::flP (A++(x.1,x.2.1,catT h x.2.2 y.1 y.2.2)::B)=n::(flP A++(x.2.1::pgC h x.2.2++(pgC h y.2.2++flP B))):=by rw[flP_app,flP_cons,pgT_C,cat_pgC];simp
 have hnd:=hk.nd
 have htk:=hk.tk
 rw[e1]at hnd htk
 have hsub:(n::(flP A++(x.2.1::pgC h x.2.2++(pgC h y.2.2++flP B)))).Sublist (n::(flP A++(x.2.1::pgC h x.2.2++(y.2.1::pgC h y.2.2++flP B)))):=
  List.Sublist.cons_cons _ (List.Sublist.append (List.Sublist.refl _) (List.Sublist.append (List.Sublist.refl _) (List.Sublist.cons _ (List.Sublist.refl _))))
 have hperm:(n::(flP A++(x.2.1::pgC h x.2.2++(y.2.1::pgC h y.2.2++flP B)))).Perm (y.2.1::n::(flP A++(x.2.1::pgC h x.2.2++(pgC h y.2.2++flP B)))):=by
  refine (List.Perm.cons _ ?_).trans (List.Perm.swap _ _ _)
  refine (List.Perm.append_left _ ?_).trans List.perm_middle
  refine (List.Perm.append_left (x.2.1::pgC h x.2.2) ?_).trans List.perm_middle
  exact List.Perm.refl _
 have hnd2:=nodup_cons.1 (hperm.nodup_iff.1 hnd)
 have hyn:∀ q,q∈n::(flP A++(x.2.1::pgC h x.2.2++(pgC h y.2.2++flP B)))→q≠y.2.1:=fun q hq e=>hnd2.1 (e▸hq)
 have hxnd:∀ q,q∈flP A∨q∈pgC h x.2.2∨q∈pgC h y.2.2∨q∈flP B→q≠x.2.1:=fun q hq e=>by
  subst e
  have h1:=(nodup_cons.1 hnd2.2).2
  obtain⟨p1,p2,p3⟩:=nodup_append.1 h1
  rcases hq with hq|hq|hq|hq
  ·exact p3 _ hq _ (by simp) rfl
  ·exact (nodup_cons.1 (nodup_append.1 p2).1).1 hq
  ·exact (nodup_append.1 p2).2.2 x.2.1 (by simp) x.2.1 (by simp[hq]) rfl
  ·exact (nodup_append.1 p2).2.2 x.2.1 (by simp) x.2.1 (by simp[hq]) rfl
 have h0:∀ q,q∈n::(flP A++(x.2.1::pgC h x.2.2++(y.2.1::pgC h y.2.2++flP B)))→q≠0:=fun q hq e=>by have:=(htk q hq).1;omega
 have hv:∀ q,q∈flP A∨q∈pgC h x.2.2∨q∈pgC h y.2.2∨q∈flP B→v' q=v q:=fun q hq=>hvo q (hxnd q hq) (h0 q (by rcases hq with h|h|h|h<;>simp[h]))
 have hxT:=hk.tr x (by simp)
 have hyT:=hk.tr y (by simp)
 have hcat:TrAt v' h x.2.1 (catT h x.2.2 y.1 y.2.2):=cat_tr hxT hyT (by rw[hvx];exact (fit_yes (by cases h<;>simp[kdT]) hcok hs).2) fun q hq=>hv q (by rcases mem_append.1 hq with h|h<;>simp[h])
 have hcne:=cat_ne (y:=y.1) (hk.ne x (by simp)).1 (hk.ne x (by simp)).2 (hk.ne y (by simp)).2
 have hi:its1 (A++(x.1,x.2.1,catT h x.2.2 y.1 y.2.2)::B)=its1 (A++x::B):=by simp[its1]
 have hisub:(its1 (A++x::B)).Sublist (its1 (A++x::y::B)):=List.Sublist.map _ (List.Sublist.append (List.Sublist.refl _) (List.Sublist.cons_cons _ (List.Sublist.cons _ (List.Sublist.refl _))))
 refine⟨⟨fun z hz=> ?_,fun z hz=> ?_,by rw[e2];exact hnd2.2,fun q hq=> ?_,fun z hz=>hk.ok z (hisub.subset (hi▸hz)),by rw[hi];exact Nat.le_trans (szL_sub hisub) hk.sz⟩,⟨fun q hq=> ?_,by rw[e2];exact hnd2.2,fun q=> ?_,fun q hq hq0=>hvo q (fun e=>hq (by rw[e1,e];simp)) hq0,hTk⟩⟩
 ·rcases mem_append.1 hz with hz|hz
  ·exact (hk.tr z (by simp[hz])).congr fun q hq=>hv q (.inl (mem_flatMap.2 ⟨z,hz,hq⟩))
  ·rcases mem_cons.1 hz with rfl|hz
   ·exact hcat
   ·exact (hk.tr z (by simp[hz])).congr fun q hq=>hv q (.inr (.inr (.inr (mem_flatMap.2 ⟨z,hz,hq⟩))))
 ·rcases mem_append.1 hz with hz|hz
  ·exact hk.ne z (by simp[hz])
  ·rcases mem_cons.1 hz with rfl|hz
   ·exact hcne
   ·exact hk.ne z (by simp[hz])
 ·rw[e2]at hq
  obtain⟨g1,g2,g3⟩:=htk q (hsub.subset hq)
  exact⟨g1,g2,by rw[if_neg (hyn q hq)];exact g3⟩
 ·rw[e2]at hq
  rw[e1];exact hsub.subset hq
 ·rw[e1,e2]
  by_cases e:q=y.2.1
  ·subst e
   rw[if_pos rfl,if_pos (by simp),decide_eq_false hnd2.1]
  ·rw[if_neg e]
   by_cases hm:q∈n::(flP A++(x.2.1::pgC h x.2.2++(y.2.1::pgC h y.2.2++flP B)))
   ·rw[if_pos hm,(htk q hm).2.2]
    have:=hperm.subset hm
    rcases mem_cons.1 this with h|h
    ·exact absurd h e
    ·exact (decide_eq_true h).symm
   ·rw[if_neg hm]
section
variable {σ:St} {b p dd l kh n h t:Nat} {U:Nat→Prop} {P:PoolV} {v:Nat→List UInt8} {T:Nat→Bool}
theorem ajoinT {ll:NL h}{i:Nat}(hB:Bt σ b p dd l kh U P v)(hT:Tk (v 0) P.pages T)(hnp:P.pages≤3200)(hb:Bud P 1)(ht:σ[t]? =some (some (.row 4 ((its1 ll).map itC))))(htU:¬ U t)(hk:Kids h v T P.pages n ll)(hi:i≤ll.length):
 ACalls Tryz.prog 86 [.agg [.mp b 2 0 0],.agg [intV .i64 3,.ms t 4 0 (its1 ll).length],intV .i64 (i:Nat)] σ fun r σ'=>∃ U' P' v' T' ll' t',Fr σ σ' (fun q=>U q∨q=t) U'∧Bt σ' b p dd l kh U' P' v'∧Kp P P' 0∧JS ll ll'∧r= .tup [.agg [intV .i64 3,.ms t' 4 0 (its1 ll').length],intV .i64 0]∧σ'[t']? =some (some (.row 4 ((its1 ll').map itC)))∧(t'=t∨σ.length≤t')∧¬ U' t'∧Kids h v' T' P.pages n ll'∧DelW v v' T T' P.pages (n::flP ll) (n::flP ll'):=by
 have hil:=its1_len ll
 have hl49:(its1 ll).length≤49:=by have:=hk.sz;have:=szL_len (its1 ll);omega
 have hself:DelW v v T T P.pages (n::flP ll) (n::flP ll):=⟨fun q hq=>hq,hk.nd,fun q=>by
  by_cases e:q∈n::flP ll
  ·rw[if_pos e,(hk.tk q e).2.2,decide_eq_true e]
  ·rw[if_neg e],fun q _ _=>rfl,hT⟩
 rcases Nat.lt_or_ge (i+1) ll.length with hlt|hge
 rotate_left
 ·refine (ajoinOut (its:=its1 ll) (by omega) (by omega) (by omega)).mono ?_
  rintro r s ⟨rfl,ha⟩
  exact⟨U,P,v,T,ll,t,fr_up ha.fr,hB.ap ha,Kp.refl P 0,.inl rfl,rfl,ha.get ht,.inl rfl,htU,hk,hself⟩
 ·obtain⟨A,x,y,B,rfl,hAi⟩:∃ A x y B,ll=A++x::y::B∧A.length=i:=by
   refine⟨ll.take i,ll[i],ll[i+1],ll.drop (i+2),?_,by rw[List.length_take];omega⟩
   conv=>lhs;rw[← List.take_append_drop i ll,List.drop_eq_getElem_cons (by omega),List.drop_eq_getElem_cons (by omega)]
  have hX:(its1 (A++x::y::B))[i]? =some ⟨x.1,x.2.1⟩:=by rw[its1_app,List.getElem?_append_right (by rw[its1_len];omega),its1_len,hAi];simp[its1]
  have hY:(its1 (A++x::y::B))[i+1]? =some ⟨y.1,y.2.1⟩:=by rw[its1_app,List.getElem?_append_right (by rw[its1_len];omega),its1_len,hAi];simp[its1]
  have hpx:x.2.1∈n::flP (A++x::y::B):=by rw[flP_app,flP_cons,flP_cons,pgT_C];simp
  have hpy:y.2.1∈n::flP (A++x::y::B):=by rw[flP_app,flP_cons,flP_cons,pgT_C h y.2.1];simp
  have hxy:x.2.1≠y.2.1:=fun e=>by
   have:=(nodup_cons.1 hk.nd).2
   rw[flP_app,flP_cons,flP_cons,pgT_C,pgT_C]at this
   have h2:=(nodup_append.1 this).2.1
   exact (nodup_append.1 h2).2.2 x.2.1 (by simp) y.2.1 (by simp) e
  have hj:=ajoin (i:=i) (kd:=kdT h) (X:=⟨x.1,x.2.1⟩) (Y:=⟨y.1,y.2.1⟩) hB hT hnp hb ht htU (by omega) hX hY (hk.ok _ (mem_of_getElem? hY)) ⟨(hk.tk _ hpx).1,(hk.tk _ hpx).2.1⟩ (hk.tk _ hpy) hxy (hk.tr x (by simp)).node (hk.tr y (by simp)).node (its_ne (hk.ne x (by simp)).1) (its_ne (hk.ne y (by simp)).1)
  refine hj.mono ?_
  rintro r s ⟨U',P',v',T',f,hB',hk',hR⟩
  have hci:=cat_its (h:=h) x.2.2 y.1 y.2.2
  rcases hR with⟨h1,rfl,rfl,rfl,h8,h9⟩|⟨h1,t',rfl,h2,h3,h4,h5,h6,h7,rfl⟩
  ·exact⟨U',P',_,_,_,t,f,hB',hk',.inl rfl,rfl,h8,.inl rfl,h9,hk,hself⟩
  ·rw[← hci]at h1 h5
   have hyok:=(hk.ok _ (mem_of_getElem? hY)).1
   have hcok:∀ z∈itsT h (catT h x.2.2 y.1 y.2.2),z.ok:=by
    rw[hci]
    exact cat_okI hyok (hk.tr x (by simp)).node.ok (hk.tr y (by simp)).node.ok
   obtain⟨k1,k2⟩:=hk.join h1 h5 h6 h7 hcok
   have hl':its1 (A++(x.1,x.2.1,catT h x.2.2 y.1 y.2.2)::B)=(its1 (A++x::y::B)).take (i+1)++(its1 (A++x::y::B)).drop (i+2):=by
    subst hAi
    simp[its1,List.take_append,List.drop_append]
    rw[List.take_of_length_le (by simp),List.drop_of_length_le (by simp)]
    rfl
   refine⟨U',P',v',_,A++(x.1,x.2.1,catT h x.2.2 y.1 y.2.2)::B,t',f,hB',hk',.inr ⟨A,x,y,B,rfl,rfl⟩,?_,by rw[hl'];exact h4,.inr h2,h3,k1,k2⟩
   have:(its1 (A++x::y::B)).length - 1=(its1 (A++(x.1,x.2.1,catT h x.2.2 y.1 y.2.2)::B)).length:=by simp[its1]
   rw[this]
end
end Go.Proofs.YtockimhceppkbaaGreat
