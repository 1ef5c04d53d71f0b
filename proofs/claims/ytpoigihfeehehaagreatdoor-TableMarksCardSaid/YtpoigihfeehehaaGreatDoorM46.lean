/- Trees, plain: what is told of a range. Trees, plain: what an insertion brings in. Trees as a table's indexes. Columns, indexes and roots are cloned; an index is added. table.places. Is a place among versions? Values compared. plan.Covers. -/
import Derived.Test.YtpoigihfeehehaaGreatDoorM45
import Derived.Test.YtpoigihfeehehaaGreatDoorM44
import Derived.Test.YtpoigihfeehehaaGreatDoorM43
import Derived.Test.YtpoigihfeehehaaGreatDoorM41
set_option linter.all false
set_option maxRecDepth 100000
set_option maxHeartbeats 32000000
namespace Go.Proofs.YtpoigihfeehehaaGreatDoor
open Go.RowKit
theorem Aw9 {a b:Ent}(h:leE a b):Lib.compareBytes a.k b.k≤0:=by
 rcases Int.lt_or_le 0 (Lib.compareBytes a.k b.k)with h1|h1
 ·exact absurd (Jg.2 (.inl (by rw[Up];omega))) h
 ·exact h1
theorem A2g {a b:Ent}(h:ltE a b):Lib.compareBytes a.k b.k≤0:=Aw9 h.le
theorem Adb {a b c:List UInt8}(h1:Lib.compareBytes a b≤0)(h2:Lib.compareBytes b c<0):Lib.compareBytes a c<0:=by
 rcases Int.lt_or_eq_of_le h1 with h|h
 ·exact Uq h h2
 ·rw[Qh h];exact h2
theorem Am0 {a b c:List UInt8}(h1:Lib.compareBytes a b≤0)(h2:Lib.compareBytes b c≤0):Lib.compareBytes a c≤0:=by
 rcases Int.lt_or_eq_of_le h2 with h|h
 ·exact Int.le_of_lt (Adb h1 h)
 ·rw[← Qh h];exact h1
section
variable {α:Type} {P:Ent→Option Ent→α→Prop} {F:α→List Ent}
theorem Adc (hP:∀ lo hi x,P lo hi x→Qi (F x)∧∀ e∈F x,leE lo e∧ltO e hi):∀ {l:List (Ent×Nat×α)} {lo:Ent} {hi:Option Ent},OkC P lo hi l→Qi (l.flatMap fun x=>F x.2.2)∧∀ e∈l.flatMap (fun x=>F x.2.2),leE lo e∧ltO e hi
 |[],lo,hi,_=>⟨List.Pairwise.nil,fun e he=>by simp at he⟩
 |x::l,lo,hi,h=>by
  obtain⟨h1,h2⟩:=Ed.1 h
  obtain⟨g1,g2⟩:=hP _ _ _ h1
  cases l with
  |nil=>simp only[YA,WQ,ZT];exact⟨g1,g2⟩
  |cons y r=>
   obtain⟨h3,h4,h5⟩:=h2 y r rfl
   obtain⟨i1,i2⟩:=Adc hP h5
   rw[YA]
   refine⟨XG.2 ⟨g1,i1,fun a ha b hb=>Aox (g2 a ha).2 (i2 b hb).1⟩,fun e he=> ?_⟩
   rcases QS.1 he with he|he
   ·exact⟨(g2 e he).1,Le (g2 e he).2 h4⟩
   ·exact⟨Aje h3.le (i2 e he).1,(i2 e he).2⟩
theorem Axa {l:List (Ent×Nat×α)}{lo:Ent}{hi:Option Ent}(h:OkC P lo hi l){i:Nat}{x:Ent×Nat×α}(hx:l[i]? =some x):P (loOf (l.take i) lo x.1) (hiOf (l.drop (i+1)) hi) x.2.2:=by
 have hi:=(QC.1 hx)
 obtain⟨h1,h2⟩:=hi
 have e:l=l.take i++x::l.drop (i+1):=by
  conv=>lhs;rw[← ZI i l,YB h1,h2]
 rw[e]at h
 exact Lf h
end
theorem Ve {d:Bool}:∀ {h:Nat} {lo:Ent} {hi:Option Ent} {t:BTr h},OkT d h lo hi t→Qi (Bj h t)∧∀ e∈Bj h t,leE lo e∧ltO e hi
 |0,lo,hi,t,h=>h
 |h+1,lo,hi,t,hk=>Adc (F:=Bj h) (fun lo hi x hx=>Ve hx) hk.2.2
theorem Ade {d:Bool}{lo:List UInt8}{my:List UInt8→Bool}(hmy:∀ a b:List UInt8,Lib.compareBytes a b≤0→my b=true→my a=true):∀ {h:Nat} {l0:Ent} {hi:Option Ent} {t:BTr h},OkT d h l0 hi t→Dm lo my h t=(Bj h t).filter (G7 lo my)
 |0,l0,hi,t,_=>rfl
 |h+1,l0,hi,t,hk=>by
  have key:∀ (l:NL h),OkC (OkT d h) l0 hi l→∀ i,i<l.length→Ir lo my (Dm lo my h) l i=optF (fun x:Ent×Nat×BTr h=>(Bj h x.2.2).filter (G7 lo my)) l[i]? :=by
   intro l hc i hi'
   obtain⟨x,hx⟩:∃ x,l[i]? =some x:=⟨l[i],by simp⟩
   have hP:=Axa hc hx
   have ih:=Ade (lo:=lo) hmy hP
   have hb:=(Ve hP).2
   unfold Ir
   rw[hx]
   simp only[optF]
   by_cases hs:Hh lo my l i x.1=true
   ·rw[if_pos hs]
    refine (List.filter_eq_nil_iff.2 fun e he=> ?_).symm
    obtain⟨b1,b2⟩:=hb e he
    unfold Hh at hs
    rw[WT]at hs
    rcases hs with hs|hs
    ·simp only[QV,decide_eq_true_eq,Bool.not_eq_true']at hs
     obtain⟨h0,h1⟩:=hs
     have hlo:loOf (l.take i) l0 x.1=x.1:=by
      cases hct:l.take i with
      |nil=>
       have:=congrArg List.length hct
       rw[QZ]at this
       simp only[QI]at this
       omega
      |cons a r=>rfl
     rw[hlo]at b1
     intro ht
     unfold G7 at ht
     rw[QV]at ht
     rw[hmy _ _ (Aw9 b1) ht.2]at h1
     cases h1
    ·cases hy:l[i+1]? with
     |none=>rw[hy]at hs;simp at hs
     |some y=>
      rw[hy]at hs
      simp only[decide_eq_true_eq]at hs
      have hhi:hiOf (l.drop (i+1)) hi=some y.1:=by
       obtain⟨y1,y2⟩:=QC.1 hy
       rw[YB y1,y2];rfl
      rw[hhi]at b2
      have:=Adb (A2g b2) hs
      intro ht
      unfold G7 at ht
      simp only[QV,decide_eq_true_eq]at ht
      omega
   ·rw[if_neg hs];exact ih
  have h2:∀ (l:NL h),OkC (OkT d h) l0 hi l→(List.range l.length).flatMap (Ir lo my (Dm lo my h) l)=(l.flatMap fun x=>Bj h x.2.2).filter (G7 lo my):=by
   intro l hc
   have h3:(List.range l.length).flatMap (Ir lo my (Dm lo my h) l)=(List.range l.length).flatMap (fun i=>optF (fun x:Ent×Nat×BTr h=>(Bj h x.2.2).filter (G7 lo my)) l[i]?):=by
    rw[List.flatMap_def,List.flatMap_def]
    congr 1
    exact List.map_congr_left fun i hi=>key l hc i (List.mem_range.1 hi)
   rw[Mu]at h3
   rw[h3,List.filter_flatMap]
  exact h2 t hk.2.2
theorem Arh (hi:List UInt8):∀ a b:List UInt8,Lib.compareBytes a b≤0→decide (Lib.compareBytes b hi≤0)=true→decide (Lib.compareBytes a hi≤0)=true:=fun a b h1 h2=>by
 simp only[decide_eq_true_eq]at h2 ⊢
 exact Am0 h1 h2
def inR (lo hi:List UInt8)(e:Ent):Bool:=decide (0≤Lib.compareBytes e.k lo)&&decide (Lib.compareBytes e.k hi≤0)
theorem Am1 {d:Bool}{h:Nat}{l0:Ent}{h0:Option Ent}{t:BTr h}(lo hi:List UInt8)(hk:OkT d h l0 h0 t):Dm lo (fun k=>decide (Lib.compareBytes k hi≤0)) h t=(Bj h t).filter (inR lo hi):=by
 rw[Ade (Arh hi) hk];rfl
def entO {h:Nat}:Option (Ent×Nat×BTr h)→List Ent
 |none=>[]
 |some z=>Bj h z.2.2
theorem Vf:∀ {h:Nat} {t t':BTr h} {e:Ent} {more:Option (Ent×Nat×BTr h)},Ur h t e t' more→∀ x,x∈Bj h t'∨x∈entO more→x=e∨x∈Bj h t
 |0,t,t',e,more,hi,x,hx=>by
  obtain⟨L,hL⟩:∃ L:List Ent,L=(show List Ent from t).take (Iq (B1 t) e)++e::(show List Ent from t).drop (Iq (B1 t) e):=⟨_,rfl⟩
  have hs:=hi.2
  rw[← hL]at hs
  have hxL:x∈L:=by
   rcases hs with⟨_,rfl,rfl⟩|⟨_,_,_,m,y,_,rfl,rfl⟩
   ·rcases hx with hx|hx
    ·exact hx
    ·cases hx
   ·rcases hx with hx|hx
    ·exact ZM hx
    ·exact ZX hx
  rw[hL]at hxL
  rcases QS.1 hxL with h|h
  ·exact .inr (ZM h)
  ·rcases QP.1 h with h|h
   ·exact .inl h
   ·exact .inr (ZX h)
 |h+1,t,t',e,more,hi,x,hx=>by
  obtain⟨l1,y,l2,s',more',rfl,_,hin,hs⟩:=hi
  obtain⟨l,hl⟩:∃ l:NL h,l=l1++(y.1,y.2.1,s')::(more'.toList++l2):=⟨_,rfl⟩
  rw[← hl]at hs
  have hxl:x∈l.flatMap fun z=>Bj h z.2.2:=by
   rcases hs with⟨_,rfl,rfl⟩|⟨_,_,_,m,w,_,rfl,rfl⟩
   ·rcases hx with hx|hx
    ·exact hx
    ·cases hx
   ·rcases hx with hx|hx
    ·obtain⟨z,hz,hx⟩:=YN.1 (show x∈(l.take _).flatMap fun z=>Bj h z.2.2 from hx)
     exact YN.2 ⟨z,ZM hz,hx⟩
    ·obtain⟨z,hz,hx⟩:=YN.1 (show x∈(l.drop _).flatMap fun z=>Bj h z.2.2 from hx)
     exact YN.2 ⟨z,ZX hz,hx⟩
  obtain⟨z,hz,hx⟩:=YN.1 hxl
  have hT:∀ z∈(l1++y::l2:NL h),x∈Bj h z.2.2→x∈Bj (h+1) (l1++y::l2:NL h):=fun z hz hx=>YN.2 ⟨z,hz,hx⟩
  rw[hl]at hz
  simp only[QS,QP,Option.mem_toList]at hz
  rcases hz with hz|rfl|hz|hz
  ·exact .inr (hT z (by simp[hz]) hx)
  ·rcases Vf hin x (.inl hx)with h|h
   ·exact .inl h
   ·exact .inr (hT y (by simp) h)
  ·rcases Vf hin x (.inr (by rw[hz];exact hx))with h|h
   ·exact .inl h
   ·exact .inr (hT y (by simp) h)
  ·exact .inr (hT z (by simp[hz]) hx)
theorem Am2 {h h':Nat}{t:BTr h}{t':BTr h'}{e:Ent}(hr:Aah h t e h' t')(x:Ent)(hx:x∈Bj h' t'):x=e∨x∈Bj h t:=by
 rcases hr with⟨rfl,hi⟩|⟨rfl,t1,n,m,y,s,hi,ht⟩
 ·exact Vf hi x (.inl hx)
 ·have ht:t'=([(C4,n,t1),(y,m,s)]:NL h):=ht
  subst ht
  have hx:x∈([(C4,n,t1),(y,m,s)]:NL h).flatMap fun z=>Bj h z.2.2:=hx
  simp only[YA,WQ,ZT,QS]at hx
  exact Vf hi x hx
theorem Adf {α:Type}:∀ {l' l:List α},l'.Nodup→(∀ x∈l',x∈l)→l.length≤l'.length→l'.Perm l
 |[],l,_,_,hl=>by
  have:l=[]:=YX.1 (Nat.le_zero.1 hl)
  rw[this]
 |a::l',l,hn,hs,hl=>by
  obtain⟨h1,h2⟩:=ZU.1 hn
  obtain⟨s,t,rfl⟩:=List.append_of_mem (hs a (by simp))
  have ih:=Adf (l:=s++t) h2 (fun x hx=>by
   have:=hs x (by simp[hx])
   rcases QS.1 this with h|h
   ·simp[h]
   ·rcases QP.1 h with h|h
    ·exact absurd (h▸hx) h1
    ·simp[h]) (by simp only[QE,QF]at hl ⊢;omega)
  exact (ih.cons a).trans List.perm_middle.symm
theorem Am3 {l:List Ent}(h:Qi l):l.Nodup:=h.imp fun hab e=>by subst e;exact Mp _ hab
theorem Akf {v v':Nat→List UInt8}{T T':Nat→Bool}{np root h h':Nat}{t:BTr h}{t':BTr h'}{e:Ent}(hR:Lh v T np root h t)(hR':Lh v' T' np root h' t')(hp:PgI h t)(he:e.k.length≤140)(hr:Aah h t e h' t'):(Bj h' t').Perm (e::Bj h t):=by
 obtain⟨_,h1⟩:=Uy hp hR.tr.szT he hr
 exact Adf (Am3 (Ve hR'.ok).1) (fun x hx=>by rcases Am2 hr x hx with h|h<;>simp[h]) (by rw[QF];omega)
def Mx (n:Nat):Nat:=(n*n+3*n+8) / 6+1
theorem So (a b:Nat)(h:a≤b):Mx a≤Mx b:=by
 unfold Mx
 have:=Nat.mul_le_mul h h
 omega
def IT:Aw8:=fun v T np root ps L=>∃ (h:Nat) (t:BTr h),Lh v T np root h t∧ps=pgT h root t∧L=Bj h t∧PgI h t
theorem Adg {h n:Nat}{t:BTr h}(hp:PgI h t):(pgT h n t).length≤Mx (Bj h t).length:=by
 unfold Mx
 cases h with
 |zero=>simp[pgT]
 |succ k=>
  have h1:=A2f (n:=n) hp (by omega)
  have h2:=hp.c0 (by omega)
  have h3:cn (k+1) t 0≤(Bj (k+1) t).length:=by omega
  have h4:=Nat.mul_le_mul h3 h3
  omega
def Gg:Kd:=⟨82,83,Ara,IT,Mx⟩
theorem Akg:KdOk Gg where
 tl:=⟨_,rfl⟩
 pg:=fun ⟨h,t,h1,h2,h3,h4⟩=>by
  subst h2;subst h3
  exact⟨h1.nd,h1.tk,Adg h4⟩
 oth:=fun ⟨h,t,h1,h2,h3,h4⟩ hv hT=>by
  subst h2
  exact⟨h,t,⟨h1.tr.congr hv,h1.nd,fun q hq=>⟨(h1.tk q hq).1,(h1.tk q hq).2.1,hT q hq⟩,h1.ok⟩,rfl,h3,h4⟩
 mono:=So
 mkC:=fun {σ b p dd l kh U P v T} hB hT hnp hT0 hb hc=>by
  have hc:cnt T P.pages+Mx 0≤P.pages:=hc
  have hr:Mx 0=2:=rfl
  refine (Aw7 hB hT hnp (by omega) hT0 hb).mono ?_
  rintro r s ⟨U1,P1,v1,f1,h1,k1,⟨n,hn,rfl,hvo,hTk,ht0,hR⟩|⟨hall,_⟩⟩
  ·refine⟨n,[n],U1,P1,v1,_,rfl,f1,h1,k1,⟨⟨by simp,fun q hq=> ?_,fun q hq=> ?_,fun q hq=> ?_,fun q hq hT hq0=> ?_,ht0,hTk⟩,by simp,fun q hq=> ?_⟩,0,([]:List Ent),hR,by simp[pgT],rfl,Arc⟩
   ·simp only[ZR]at hq;subst hq
    exact hR.tk q (by simp[pgT])
   ·simp only[ZR]at hq;subst hq
    exact .inr hn
   ·unfold D3;split
    ·rfl
    ·exact hq
   ·exact hvo q (fun e=>by rw[e,hn]at hT;cases hT) hq0
   ·unfold D3 at hq;split at hq
    ·rename_i e;exact .inr (by simp[e])
    ·exact .inl hq
  ·have:=Qc (T:=T) P.pages hall
   omega
 insC:=fun {σ b p dd l kh root U P v T ps L e} hB hT hnp hT0 hb ⟨h,t,hR,hps,hL,hp⟩ heo hne hle hc=>by
  subst hps;subst hL
  have hc:cnt T P.pages+Mx ((Bj h t).length+1)≤P.pages:=hc
  refine (A12 hB hT hnp hT0 hb hR heo).mono ?_
  rintro r s ⟨U1,P1,v1,T1,h',t',f1,hB1,k1,hR1,hW,⟨rfl,hr,hx⟩|⟨_,hin,_⟩|⟨_,hall,hl⟩⟩
  ·obtain⟨g1,g2⟩:=Uy hp hR.tr.szT heo.1 hr
   exact⟨rfl,pgT h' root t',U1,P1,v1,T1,_,f1,hB1,k1,⟨hW,Aq1 hr,hx⟩,⟨h',t',hR1,rfl,rfl,g1⟩,Akf hR hR1 hp heo.1 hr⟩
  ·exact absurd hin hne
  ·obtain⟨h2,t2,q1,q2⟩:=hl.cnt hall
   obtain⟨g1,g2⟩:=Uy hp hR.tr.szT heo.1 q1
   have g3:=Adg (n:=0) g1
   rw[g2]at g3
   omega
def tTl:=aa wX <| aa wbu <| aa T40 <| aa T43 T44
theorem Axb {ls:List (List PV)}(h0:ls≠[])(hl:ls.length≤1000000)(σ:St):Aa Tryz.prog 34 [.p (.sl 4 ls)] σ fun r s=>s=σ∧r= .p (.sl 4 ls):=by
 refine Aa.pureF (R:=fun r=>r= .p (.sl 4 ls)) ?_ rfl σ
 cases ls with
 |nil=>exact absurd rfl h0
 |cons c r=>
  have hl1:=tL (n:=(r.length+1)*32) (by simp at hl;omega)
  have hl2:=lM (n:=r.length+1) (by simp at hl;omega)
  refine Ab Am An Tryz.func34 (by kernel_rfl) rfl (nt:=7) (rs:=[.tmp 2]) rfl rfl ?_
  repeat' simp only[↓wBA,tTl,seval,A2,Lx,Ey,hl1,hl2]
  all_goals refine rtS ?_
  all_goals simp only[wRe,tTl,seval]
  exact⟨rfl,rfl⟩
theorem A2h {ls:List (List PV)}(h0:ls≠[])(hl:ls.length≤1000000)(σ:St):Aa Tryz.prog 45 [.p (.sl 4 ls)] σ fun r s=>r= .own σ.length 4 ls∧s=σ++[some (.right 37 (ls.length*4))]:=by
 cases ls with
 |nil=>exact absurd rfl h0
 |cons c r=>
  have hl1:=tL (n:=(r.length+1)*48) (by simp at hl;omega)
  have hl2:=lM (n:=r.length+1) (by simp at hl;omega)
  refine Ab Am An Tryz.func45 (by kernel_rfl) rfl (nt:=7) (rs:=[.tmp 2]) rfl rfl ?_
  repeat' simp only[↓wBA,tTl,seval,wH,A2,Lx,Ey,hl1,hl2]
  all_goals refine rtS ?_
  all_goals simp only[wRe,tTl,seval]
theorem A2i {ls:List (List PV)}(h0:ls≠[])(hl:ls.length≤1000000)(σ:St):Aa Tryz.prog 46 [.p (.sl 1 ls)] σ fun r s=>r= .own σ.length 1 ls∧s=σ++[some (.right 3 (ls.length*1))]:=by
 cases ls with
 |nil=>exact absurd rfl h0
 |cons c r=>
  have hl1:=tL (n:=(r.length+1)*8) (by simp at hl;omega)
  have hl2:=lM (n:=r.length+1) (by simp at hl;omega)
  refine Ab Am An Tryz.func46 (by kernel_rfl) rfl (nt:=7) (rs:=[.tmp 2]) rfl rfl ?_
  repeat' simp only[↓wBA,tTl,seval,wH,A2,Lx,Ey,hl1,hl2]
  all_goals refine rtS ?_
  all_goals simp only[wRe,tTl,seval]
theorem Axc (σ:St):Aa Tryz.prog 45 [.p (.v (.slice none 0 0))] σ fun r s=>s=σ∧r= .p (.v (.slice none 0 0)):=by
 refine Aa.pureF (R:=fun r=>r= .p (.v (.slice none 0 0))) ?_ rfl σ
 refine Ab Am An Tryz.func45 (by kernel_rfl) rfl (nt:=7) (rs:=[.tmp 2]) rfl rfl ?_
 repeat' simp only[↓wBA,tTl,seval]
 all_goals refine rtS ?_
 all_goals simp only[wRe,tTl,seval]
 exact⟨rfl,rfl⟩
theorem Axd (σ:St):Aa Tryz.prog 46 [.p (.v (.slice none 0 0))] σ fun r s=>s=σ∧r= .p (.v (.slice none 0 0)):=by
 refine Aa.pureF (R:=fun r=>r= .p (.v (.slice none 0 0))) ?_ rfl σ
 refine Ab Am An Tryz.func46 (by kernel_rfl) rfl (nt:=7) (rs:=[.tmp 2]) rfl rfl ?_
 repeat' simp only[↓wBA,tTl,seval]
 all_goals refine rtS ?_
 all_goals simp only[wRe,tTl,seval]
 exact⟨rfl,rfl⟩
def Yp:Cq:=(.det 0 (.det 1 (.det 2 (.det 3 (.det 4 (.det 5 (.det 6 (.det 7 (.det 9 (.det 10 (.act 8 (.act 11 (.fin 12 (.det 13 (.det 14 (.det 15 (.det 16 (.det 17 .done))))))))))))))))))
def tT7:=aa wX <| aa wbu <| aa T3 <| aa T4 <| aa T24 <| aa T26 <| aa T29 <| aa T37 <| aa T38 <| aa T43 <| aa T44 <| aa T46 <| aa T51 <| aa T70 <| aa T124 <| aa T185 <| aa T186 <| aa T188 T192
def Yq (e:Ent):List PV:=[.v (.int .i64 (e.p:Nat)),.v (.int .i64 (e.s:Nat))]
section
variable {σ:St} {b p dd l kh first w ix:Nat} {U:Nat→Prop} {P:Ak} {v:Nat→List UInt8} {T:Nat→Bool} {ns:List Nat} {E:List Ver} {X:List Ixx}
theorem A2j {x:Ixx}{lo hi:Va}(h:Bt σ b p dd l kh U P v)(ht:Tab v T P.pages first ns E X w)(hb:Bud P 1)(hE:E.length≤60)(hx:X[ix]? =some x)(hxk:x.kd=Gg)(hxh:x.x.2.2.2=false)(hlo:okW lo)(hhi:okW hi)(nm tn:ByteArray)(c:Int)(cols:List (List PV)):
 Aa Tryz.prog 50 [.mp b 2 0 0,Of nm cols X first,Ad .i64 (ix:Nat),.agg [.p (.v (.string tn)),.p (.v (.int .i64 c)),.p (.v (.int .i64 lo.1)),.p (.v (.int .i64 lo.2.1)),.p (.v (.string lo.2.2)),.p (.v (.int .i64 hi.1)),.p (.v (.int .i64 hi.2.1)),.p (.v (.string hi.2.2))]] σ fun r σ'=>∃ (U':Nat→Prop) (P':Ak),r= .tup [.p (lsP 2 ((x.L.filter (inR [0] [0])++x.L.filter (inR (Gj lo) (Gj hi))).map Yq)),Ad .i64 0]∧Fr σ σ' U U'∧Bt σ' b p dd l kh U' P' v∧Kp P P' 0:=by
 have hlt:=h.lt
 have hxm:=QG hx
 have hI:=ht.st.ix x hxm
 rw[hxk]at hI
 obtain⟨hh,t,hR,hps,hL,hp⟩:=hI
 have hk0:=Aak (v:=(0,0,emp)) ⟨by simp[okV],by decide,by decide⟩
 have hklo:=Aak hlo
 have hkhi:=Aak hhi
 have hLl:x.L.length=E.length:=by rw[(ht.ent x hxm).length_eq,QL]
 unfold Of
 have hXne:X≠[]:=fun e=>by rw[e]at hx;simp at hx
 have ez2:lsP 4 (X.map fun x=>Fv x.x)= .sl 4 (X.map fun x=>Fv x.x):=by unfold lsP;rw[if_neg (by simpa using hXne)]
 have ez4:lsP 1 (X.map fun x=>[PV.v (.int .i64 (x.root:Nat))])= .sl 1 (X.map fun x=>[PV.v (.int .i64 (x.root:Nat))]):=by unfold lsP;rw[if_neg (by simpa using hXne)]
 rw[ez2,ez4]
 have hxl:=(QC.1 hx).1
 have hif:((ix:Int)<(X.length:Int))=True:=eq_true (by omega)
 have hi0:=nnI ix
 have hg:(X.map fun x=>Fv x.x)[ix]? =some (Fv x.x):=by rw[QR,hx];rfl
 have hg4:(X.map fun x=>[PV.v (.int .i64 (x.root:Nat))])[ix]? =some [PV.v (.int .i64 (x.root:Nat))]:=by rw[QR,hx];rfl
 obtain⟨LX,hLX⟩:∃ LX,LX=X.map fun x=>Fv x.x:=⟨_,rfl⟩
 obtain⟨LR,hLR⟩:∃ LR,LR=X.map fun x=>[PV.v (.int .i64 (x.root:Nat))]:=⟨_,rfl⟩
 have hLXl:LX.length=X.length:=by rw[hLX,QL]
 have hLRl:LR.length=X.length:=by rw[hLR,QL]
 rw[← hLX]at hg ⊢
 rw[← hLR]at hg4 ⊢
 rw[hL]at hLl
 rw[hL]
 simp only[Fv,hxh]at hg
 obtain⟨lk,ln,lx⟩:=lo
 obtain⟨hk,hn,hx'⟩:=hi
 simp only[vaA,vaC,QK,ZB]at hk0 hklo hkhi
 obtain⟨Q,hQ⟩:∃ Q:Nat→Va×Va,Q=fun j=>if j=0 then ((0,0,emp),(0,0,emp))else ((lk,ln,lx),(hk,hn,hx')):=⟨_,rfl⟩
 obtain⟨F,hF⟩:∃ F:Nat→List Ent,F=fun j=>(Bj hh t).filter (inR (Gj (Q j).1) (Gj (Q j).2)):=⟨_,rfl⟩
 obtain⟨G,hG⟩:∃ G:Nat→List Ent,G=fun j=>if j=0 then []else if j=1 then F 0 else F 0++F 1:=⟨_,rfl⟩
 have hG2:G 2=(Bj hh t).filter (inR [0] [0])++(Bj hh t).filter (inR (Gj (lk,ln,lx)) (Gj (hk,hn,hx'))):=by rw[hG,hF,hQ];rfl
 have hGs:∀ j,j<2→G (j+1)=G j++F j:=fun j hj=>by
  rw[hG]
  have:j=0∨j=1:=by omega
  rcases this with rfl|rfl<;>simp
 have hFl:∀ j,(F j).length≤60:=fun j=>by
  rw[hF]
  have:=WS (inR (Gj (Q j).1) (Gj (Q j).2)) (Bj hh t)
  simp only
  omega
 have hGl:∀ j,(G j).length≤120:=fun j=>by
  have h0:=hFl 0
  have h1:=hFl 1
  rw[hG]
  simp only
  split
  ·simp
  ·split
   ·omega
   ·rw[QE];omega
 obtain⟨Lw,hLw⟩:∃ Lw:List (List PV),Lw=[[PV.v (.int .i64 0),.v (.int .i64 0),.v (.string { data:= #[] }),.v (.int .i64 0),.v (.int .i64 0),.v (.string { data:= #[] })],[.v (.int .i64 lk),.v (.int .i64 ln),.v (.string lx),.v (.int .i64 hk),.v (.int .i64 hn),.v (.string hx')]]:=⟨_,rfl⟩
 have hLwj:∀ j,j<2→∃ a1 a2 a3 b1 b2 b3,Lw[j]? =some [PV.v (.int .i64 a1),.v (.int .i64 a2),.v (.string a3),.v (.int .i64 b1),.v (.int .i64 b2),.v (.string b3)]∧Q j=((a1,a2,a3),(b1,b2,b3))∧okW (a1,a2,a3)∧okW (b1,b2,b3):=fun j hj=>by
  have:j=0∨j=1:=by omega
  have h0:okW (0,0,emp):=⟨by simp[okV],by decide,by decide⟩
  rw[hLw,hQ]
  rcases this with rfl|rfl
  ·exact⟨_,_,_,_,_,_,rfl,rfl,h0,h0⟩
  ·exact⟨_,_,_,_,_,_,rfl,rfl,hlo,hhi⟩
 have hLwl:Lw.length=2:=by rw[hLw];rfl
 refine Aa.frz ?_
 refine Ab Am An Tryz.func50 (by kernel_rfl) rfl (nt:=87) (rs:=[.tmp 8,.tmp 9]) rfl rfl ?_
 repeat' simp only[↓wBA,tT7,seval,wH]
 obtain⟨S,hS⟩:∃ S,S=σ++[some (Ob.row 5 [[AV.p (.v (.string nm)),AV.p (.sl 4 cols),AV.p (.sl 4 LX),AV.p (.v (.int .i64 (first:Nat))),AV.p (.sl 1 LR)]])]++[some (Ob.row 8 [[AV.p (.v (.string tn)),AV.p (.v (.int .i64 c)),AV.p (.v (.int .i64 lk)),AV.p (.v (.int .i64 ln)),AV.p (.v (.string lx)),AV.p (.v (.int .i64 hk)),AV.p (.v (.int .i64 hn)),AV.p (.v (.string hx'))]])]++[some (Ob.right 185 12)]:=⟨_,rfl⟩
 have aS:Ap σ S:=by rw[hS];exact ((Ap.app _ _).more _).more _
 have lS:S.length=σ.length+3:=by rw[hS];simp
 have x0:S[σ.length]? =some (some (Ob.row 5 [[AV.p (.v (.string nm)),AV.p (.sl 4 cols),AV.p (.sl 4 LX),AV.p (.v (.int .i64 (first:Nat))),AV.p (.sl 1 LR)]])):=by rw[hS];simp
 rw[← hS]
 simp only[hLw.symm]
 have hUS:∀ t,σ.length≤t→¬ U t:=fun t h1 h2=>by have:=hlt t h2;omega
 refine Ar (X:={ q:Nat×AV // q.1≤2 }) (fun q=>2 - q.1.1) (fun q=>[(10,q.1.2),(29,Ad .i64 (q.1.1:Nat))]) [8,9,12,13,14,15,16,18,30,31,32,33,34,35,36,37,38,39,40,41,42,43,44,45,46,47,48,49,50,51,52,53,54,55,56,57,58,59,60,61,62,63,64,65,66,67,68,69,70,71,72,73,74,75,76,77,78,79,80,81,82,83,84,85,86,87,88,89] (fun q s=>S.length≤s.length∧∃ U' P',Fr S s U U'∧Bt s b p dd l kh U' P' v∧Kp P P' 0∧Kr s q.1.2 51 2 ((G q.1.1).map Yq)∧∀ t,Ch q.1.2=some t→S.length≤t∧¬ U' t) (⟨(0,.p (.v (.slice none 0 0))),by simp⟩) ?_ ?_ ?_ ?_
 ·simp only[wHl,wHf]
 ·exact⟨QH _,U,P,Fr.refl _ _,h.ap aS,Kp.refl P _,.inl ⟨rfl,by rw[hG];rfl⟩,by simp[Ch]⟩
 ·rintro _ _ ⟨h,_⟩;exact h
 ·intro y J s hI
  simp only[wHl]
  obtain⟨⟨j,av⟩,hj⟩:=y
  obtain⟨ls,U4,P4,f4,h4,k4,ow4,on4⟩:=hI
  dsimp only at*
  have hj0:=nnI j
  have hwj:=wI j (by omega)
  have x40:=f4.get x0 (hUS _ (by omega))
  have y40:=Ac x40
  by_cases hlt':j<2
  ·have e1:decide ((j:Int)<2)=true:=decide_eq_true (by omega)
   have hij:((j:Int)<2)=True:=eq_true (by omega)
   obtain⟨a1,a2,a3,b1,b2,b3,hgj,hQj,oka,okb⟩:=hLwj j hlt'
   have hka:=Aak oka
   have hkb:=Aak okb
   simp only[vaA,vaC,QK,ZB]at hka hkb
   have hFj:F j=(Bj hh t).filter (inR (Gj (a1,a2,a3)) (Gj (b1,b2,b3))):=by rw[hF];simp only;rw[hQj]
   have hr:=fun {s':St} (hB:Bt s' b p dd l kh U4 P4 v)=>Are (lo:=Gj (a1,a2,a3)) (hi:=Gj (b1,b2,b3)) (lox:=.sl 1 (Ax (Gj (a1,a2,a3)))) (hix:=.sl 1 (Ax (Gj (b1,b2,b3)))) hB (hb.kp (k:=1) k4 (by omega)) (by rw[k4.pages];exact hR) (.inl rfl) (.inl rfl)
   repeat' first|simp only[↓wBA,tT7,seval,Yp,wH,wHl,hj0,hgj,hij,hg,hg4,hi0,x40,y40]|((with_reducible show Aa _ _ _ _ _);first|refine (hka _).eq ?_|refine (hkb _).eq ?_)|(with_reducible refine dQ Yp 18 (some 59) ?_)
   refine (hr (h4.ap (Ap.app _ _))).mono ?_
   rintro _ s5 ⟨U5,P5,av5,rfl,f5,h5,k5,hE5⟩
   rw[Am1 _ _ hR.ok,←hFj]at hE5
   have l5:=f5.len
   simp only[QE,QF,QI]at l5
   have hla5:Ba cx 188 av5=some (F j).length:=by
    unfold Ba
    rw[Eh]
    rcases hE5 with⟨e,rfl⟩|⟨_,rfl⟩
    ·rw[e];rfl
    ·simp[Bp]
   have hFlj:=hFl j
   have hGlj:=hGl j
   have hlt4:=h4.lt
   have ow5:Kr s5 av 51 2 ((G j).map Yq):=ow4.same fun t ht=>by
    rw[f5.keep t (by rw[QE];have:=ow4.lt ht;omega) (on4 t ht).2,QD (ow4.lt ht)]
   have on5:∀ t,Ch av=some t→S.length≤t∧¬ U5 t:=fun t ht=>⟨(on4 t ht).1,fun e=>(f5.own t e).elim (on4 t ht).2 fun e=>by rw[QE]at e;have:=ow4.lt ht;omega⟩
   have f45:=f4.trans ((Ap.app _ _).fr.trans f5)
   repeat' simp only[↓wBA,tT7,seval,wHl,hla5]
   refine Ar (X:={ q:Nat×AV // q.1≤(F j).length }) (fun q=>(F j).length - q.1.1) (fun q=>[(10,q.1.2),(79,Ad .i64 (q.1.1:Nat))]) [18,80,81,82,83,84,85,86,87,88] (fun q s'=>s5.length≤s'.length∧Fr S s' U U5∧Bt s' b p dd l kh U5 P5 v∧Kr s' q.1.2 51 2 ((G j++(F j).take q.1.1).map Yq)∧∀ t,Ch q.1.2=some t→S.length≤t∧¬ U5 t) (⟨(0,av),by simp⟩) ?_ ?_ ?_ ?_
   ·simp only[wHl,wHf]
   ·exact⟨QH _,f45,h5,by simpa using ow5,on5⟩
   ·rintro _ _ ⟨h,_⟩;exact h
   ·intro y J' s' hI
    simp only[wHl]
    obtain⟨⟨i,aw⟩,hi⟩:=y
    obtain⟨ls',f6,h6,ow6,on6⟩:=hI
    dsimp only at*
    have hi0':=nnI i
    have hwi:=wI i (by omega)
    by_cases hlt6:i<(F j).length
    ·have e6:=dT (i:=i) (n:=(F j).length) hlt6
     obtain⟨e,he⟩:∃ e,(F j)[i]? =some e:=⟨(F j)[i],by simp⟩
     have hFne:F j≠[]:=fun e0=>by rw[e0]at hlt6;simp at hlt6
     obtain rfl:av5= .p (.sl 3 ((F j).map Et)):=by
      rcases hE5 with⟨e0,_⟩|⟨_,e0⟩
      ·exact absurd e0 hFne
      ·exact e0
     have hge:((F j).map Et)[i]? =some [.sl 1 (Ax e.k),.v (.int .i64 (e.p:Nat)),.v (.int .i64 (e.s:Nat))]:=by rw[QR,he];rfl
     have hif6:((i:Int)<((F j).length:Int))=True:=eq_true (by omega)
     obtain⟨LF,hLF⟩:∃ LF,LF=(F j).map Et:=⟨_,rfl⟩
     have hLFl:LF.length=(F j).length:=by rw[hLF,QL]
     rw[← hLF]at hge hla5 ⊢
     have htk:(F j).take (i+1)=(F j).take i++[e]:=by rw[YU,he];rfl
     obtain⟨X6,hX6⟩:∃ X6,X6=s'++[some (Ob.row 3 [[AV.p (.sl 1 (Ax e.k)),AV.p (.v (.int .i64 (e.p:Nat))),AV.p (.v (.int .i64 (e.s:Nat)))]])]++[some (Ob.right 51 2)]:=⟨_,rfl⟩
     have hX6l:X6.length=s'.length+2:=by rw[hX6];simp
     have hX6k:∀ t,t<s'.length→X6[t]? =s'[t]? :=fun t ht=>by rw[hX6,QX,QD ht]
     have ow7:=ow6.same (q':=X6) fun t ht=>hX6k t (ow6.lt ht)
     obtain⟨av7,q7,g1,g2,g3,g4,g5⟩:=G3 (q:=X6) (y:=.own (s'.length+1) 2 [Yq e]) (m:=[Yq e]) Ki ow7 rfl (by simp) (by simp only[QL,QE,QZ,QF,QI];omega) (by simp only[QL,QE,QZ,QF,QI];omega)
     rw[hX6l]at g1 g3 g4 g5
     rw[hX6]at g1
     simp only[Yq]at g1
     obtain⟨ek,ep,es⟩:=e
     dsimp only at*
     repeat' simp only[↓wBA,tT7,seval,wH,wHl,hi0',hge,hif6,g1,hwi]
     have hk7:∀ t,t<s'.length→Ch aw≠some t→q7[t]? =s'[t]? :=fun t h1 h2=>(g4 t (by omega) h2).trans (hX6k t h1)
     have l6:=f6.len
     refine⟨⟨(i+1,av7),by show i+1≤(F j).length;omega⟩,by show (F j).length - (i+1)<(F j).length - i;omega,⟨by omega,⟨by omega,fun t ht hn=> ?_,f6.own⟩,h6.same fun t ht=>hk7 t (h6.lt t ht) fun e=>(on6 t e).2 ht,?_,fun t ht=>(g5 t ht).elim (on6 t) fun e=>⟨by omega,fun hu=>by have:=h6.lt t hu;omega⟩⟩,by simp only[]⟩
     ·rw[hk7 t (by omega) (fun e=>by have:=(on6 t e).1;omega)];exact f6.keep t ht hn
     ·dsimp only
      rw[htk,←QX,ZH];exact g2
    ·obtain rfl:i=(F j).length:=by omega
     have e6:=dF (i:=(F j).length) (n:=(F j).length) hlt6
     rw[ZS,←hGs j hlt']at ow6
     repeat' simp only[↓wBA,tT7,seval,wHl,e6,hwj]
     refine⟨⟨(j+1,aw),by show j+1≤2;omega⟩,by show 2 - (j+1)<2 - j;omega,⟨by omega,U5,P5,f6,h6,k4.trans k5,ow6,on6⟩,by simp only[]⟩
  ·obtain rfl:j=2:=by omega
   have e1:decide (((2:Nat):Int)<2)=false:=by decide
   repeat' simp only[↓wBA,tT7,seval,wHl]
   all_goals refine rtS ?_
   all_goals simp only[wRe,tT7,seval]
   refine⟨U4,P4,?_,aS.fr.trans f4,h4,k4⟩
   rw[hG2]at ow4
   simp only[Tr,frzL]
   unfold lsP
   rcases ow4 with⟨rfl,e⟩|⟨t,rfl,e,_⟩
   ·rw[if_pos e];rfl
   ·rw[if_neg e];rfl
end
def tT8:=aa wX <| aa wbu <| aa T3 <| aa T51 <| aa T56 <| aa T62 T129
theorem A2k {σ:St}{t n k:Nat}(w:Ver)(ht:σ[t]? =some (some (.row 2 [[Ad .i64 (n:Nat),Ad .i64 (k:Nat)]]))):Aa Tryz.prog 53 [.agg (Dt w),.mp t 2 0 0] σ fun r s=>Ap σ s∧r=Av (decide (w.1=(n,k))):=by
 have yt:=Ac ht
 obtain⟨⟨wn,wk⟩,⟨wm,wt⟩,wv⟩:=w
 have aS:=Ap.app σ [some (Ob.row 5 [Dt ((wn,wk),(wm,wt),wv)])]
 simp only[Dt,verC,QK,ZB]at aS ⊢
 simp only[Ad]at ht
 refine Ab Am An Tryz.func53 (by kernel_rfl) rfl (nt:=6) (rs:=[.tmp 3]) rfl rfl ?_
 by_cases h1:wn=n
 ·subst h1
  by_cases h2:wk=k
  ·subst h2
   repeat' simp only[↓wBA,tT8,seval,wH,ht,yt]
   all_goals refine rtS ?_
   all_goals simp only[wRe,tT8,seval]
   exact⟨aS,rfl⟩
  ·have e1:((wk:Int)==(k:Int))=false:=by simp;omega
   have e2:((wk:Int)=(k:Int))=False:=by simp;omega
   repeat' simp only[↓wBA,tT8,seval,wH,ht,yt,e1]
   all_goals refine rtS ?_
   all_goals simp only[wRe,tT8,seval]
   exact⟨aS,by simp[h2]⟩
 ·have e1:((wn:Int)==(n:Int))=false:=by simp;omega
  have e2:((wn:Int)=(n:Int))=False:=by simp;omega
  repeat' simp only[↓wBA,tT8,seval,wH,ht,yt,e1]
  all_goals refine rtS ?_
  all_goals simp only[wRe,tT8,seval]
  exact⟨aS,by simp[h1]⟩
theorem A2l {σ:St}{av:AV}{O:List Ver}{t n k:Nat}(h:Mm σ av 5 (O.map Dt))(hO:O.length≤1000000)(ht:σ[t]? =some (some (.row 2 [[Ad .i64 (n:Nat),Ad .i64 (k:Nat)]]))):
 Aa Tryz.prog 99 [av,.fn 53 [] [.mp t 2 0 0]] σ fun r s=>Ap σ s∧∃ m:Int,r=Ad .i64 m∧decide (m≥0)=O.any fun w=>decide (w.1=(n,k)):=by
 have hla:Ba cx 56 av=some O.length:=by
  unfold Ba
  rw[Mf]
  rcases h with⟨rfl,e⟩|⟨t',rfl,_,_⟩
  ·rw[YZ]at e;rw[e];rfl
  ·simp[Bp]
 refine Ab Am An Tryz.func99 (by kernel_rfl) rfl (nt:=17) (rs:=[.tmp 4]) rfl rfl ?_
 repeat' simp only[↓wBA,tT8,seval,hla]
 refine Ar (X:={ i:Nat // i≤O.length }) (fun i=>O.length - i.1) (fun i=>[(8,Ad .i64 (i.1:Nat))]) [4,5,9,10,11,12,13,14,15,16,17,18] (fun i s=>Ap σ s∧∀ w∈O.take i.1,¬ w.1=(n,k)) (⟨0,by omega⟩) ?_ ?_ ?_ ?_
 ·simp only[wHl,wHf]
 ·exact⟨Ap.refl _,by simp⟩
 ·rintro _ _ ⟨h,_⟩;exact h.len
 ·intro y J s hI
  simp only[wHl]
  obtain⟨i,hi⟩:=y
  obtain⟨a,hall⟩:=hI
  have la:=a.len
  dsimp only at*
  have hi0:=nnI i
  have hwi:=wI i (by omega)
  by_cases hlt:i<O.length
  ·have e1:=dT (i:=i) (n:=O.length) hlt
   have hif:((i:Int)<(O.length:Int))=True:=eq_true (by omega)
   obtain⟨w,hw⟩:∃ w,O[i]? =some w:=⟨O[i],by simp⟩
   obtain⟨tl,rfl,hrow⟩:∃ tl,av= .ms tl 5 0 O.length∧σ[tl]? =some (some (.row 5 (O.map Dt))):=by
    rcases h with⟨_,e⟩|⟨t',e,_,hr⟩
    ·rw[YZ]at e;rw[e]at hlt;simp at hlt
    ·exact⟨t',by simpa using e,hr⟩
   have xr:=a.get hrow
   have yr:=Ac xr
   have hg:(O.map Dt)[i]? =some (Dt w):=by rw[QR,hw];rfl
   have htk:O.take (i+1)=O.take i++[w]:=by rw[YU,hw];rfl
   have hc:=A2k w (a.get ht)
   have hwm:=QG hw
   obtain⟨⟨wn,wk⟩,⟨wm,wt⟩,wv⟩:=w
   simp only[Dt,verC,QK,ZB]at hg hc
   by_cases hq:(wn,wk)=(n,k)
   ·rw[decide_eq_true hq]at hc
    repeat' first|simp only[↓wBA,tT8,seval,wHl,hi0,hg,hif,xr]|((with_reducible show Aa _ _ _ _ _);refine hc.mono ?_;rintro _ s2 ⟨a2,rfl⟩;have la2:=a2.len)
    all_goals refine rtS ?_
    all_goals simp only[wRe,tT8,seval]
    refine⟨a.trans a2,i,rfl,?_⟩
    rw[List.any_eq_true.2 ⟨_,hwm,by simpa using hq⟩]
    simp
   ·rw[decide_eq_false hq]at hc
    repeat' first|simp only[↓wBA,tT8,seval,wHl,hi0,hg,hif,xr,hwi]|((with_reducible show Aa _ _ _ _ _);refine hc.mono ?_;rintro _ s2 ⟨a2,rfl⟩;have la2:=a2.len)
    refine⟨⟨i+1,by omega⟩,by show O.length - (i+1)<O.length - i;omega,⟨a.trans a2,fun w hw=> ?_⟩,by simp only[]⟩
    dsimp only at hw
    rw[htk]at hw
    rcases QS.1 hw with h|h
    ·exact hall w h
    ·simp only[ZR]at h;subst h;exact hq
  ·obtain rfl:i=O.length:=by omega
   have e1:=dF (i:=O.length) (n:=O.length) hlt
   rw[ZS]at hall
   repeat' simp only[↓wBA,tT8,seval,wHl,e1]
   all_goals refine rtS ?_
   all_goals simp only[wRe,tT8,seval]
   refine⟨a,-1,rfl,?_⟩
   have:(O.any fun w=>decide (w.1=(n,k)))=false:=by
    rw[List.any_eq_false]
    intro w hw
    simpa using hall w hw
   rw[this];rfl
theorem Axe {σ:St}{av:AV}{O:List Ver}{t n k:Nat}(h:Mm σ av 5 (O.map Dt))(hO:O.length≤1000000)(ht:σ[t]? =some (some (.row 2 [[Ad .i64 (n:Nat),Ad .i64 (k:Nat)]]))):
 Aa Tryz.prog 52 [av,.fn 53 [] [.mp t 2 0 0]] σ fun r s=>Ap σ s∧r=Av (O.any fun w=>decide (w.1=(n,k))):=by
 refine Ab Am An Tryz.func52 (by kernel_rfl) rfl (nt:=7) (rs:=[.tmp 4]) rfl rfl ?_
 repeat' simp only[↓wBA,tT8,seval]
 refine (A2l h hO ht).mono ?_
 rintro _ s ⟨a,m,rfl,hm⟩
 have la:=a.len
 repeat' simp only[↓wBA,tT8,seval,hm]
 all_goals refine rtS ?_
 all_goals simp only[wRe,tT8,seval]
 exact a
def Adh:Cq:=(.det 0 (.det 1 (.det 2 (.det 3 (.det 5 (.det 6 (.det 7 (.det 8 (.det 10 (.det 11 (.det 12 (.det 13 (.act 4 (.act 9 (.fin 14 (.fin 15 (.fin 16 (.det 17 .done))))))))))))))))))
def tCm:=aa wX <| aa wbu <| aa T2 <| aa T3 <| aa T9 <| aa T24 T44
theorem aNaN (k:IntKind)(n:Int)(f:FuncId)(hf:f=142∨f=148)(σ:St):Aa Tryz.prog f [Ad k n] σ fun r s=>s=σ∧r=Av false:=by
 refine Aa.pureF (R:=fun r=>r=Av false) ?_ rfl σ
 rcases hf with rfl|rfl
 ·skip
  refine Ab Am An Tryz.func142 (by kernel_rfl) rfl (nt:=5) (rs:=[.tmp 2]) rfl rfl ?_
  repeat' simp only[↓wBA,tCm,seval]
  all_goals refine Cc (a:=_) ?_ rfl rfl
  all_goals simp only[tCm,seval]
  all_goals simp_all [wS]
 ·skip
  refine Ab Am An Tryz.func148 (by kernel_rfl) rfl (nt:=5) (rs:=[.tmp 2]) rfl rfl ?_
  repeat' simp only[↓wBA,tCm,seval]
  all_goals refine Cc (a:=_) ?_ rfl rfl
  all_goals simp only[tCm,seval]
  all_goals simp_all [wS]
theorem A2m (s:ByteArray)(σ:St):Aa Tryz.prog 149 [.p (.v (.string s))] σ fun r s=>s=σ∧r=Av false:=by
 refine Aa.pureF (R:=fun r=>r=Av false) ?_ rfl σ
 refine Ab Am An Tryz.func149 (by kernel_rfl) rfl (nt:=5) (rs:=[.tmp 2]) rfl rfl ?_
 repeat' simp only[↓wBA,tCm,seval,Oi]
 all_goals refine Cc (a:=_) ?_ rfl rfl
 all_goals simp only[tCm,seval]
 all_goals simp_all [wS]
theorem Axf (a b:Int)(f:FuncId)(hf:f=95∨f=100)(σ:St):Aa Tryz.prog f [Ad .i64 a,Ad .i64 b] σ fun r s=>s=σ∧r=Ad .i64 (cmpI a b):=by
 refine Aa.pureF (R:=fun r=>r=Ad .i64 (cmpI a b)) ?_ rfl σ
 rcases hf with rfl|rfl
 ·skip
  refine Ab Am An Tryz.func95 (by kernel_rfl) rfl (nt:=18) (rs:=[.tmp 4]) rfl rfl ?_
  repeat' first|((with_reducible apply cs)<;>intro h<;>try simp only[h])|simp only[↓wBA,tCm,seval]|((with_reducible show Aa _ _ _ _ _);refine (aNaN _ _ _ (.inl rfl) _).eq ?_)
  all_goals refine Cc (a:=_) ?_ rfl rfl
  all_goals simp only[tCm,seval]
  all_goals simp_all [wS,cmpI]
  all_goals grind
 ·skip
  refine Ab Am An Tryz.func100 (by kernel_rfl) rfl (nt:=18) (rs:=[.tmp 4]) rfl rfl ?_
  repeat' first|((with_reducible apply cs)<;>intro h<;>try simp only[h])|simp only[↓wBA,tCm,seval]|((with_reducible show Aa _ _ _ _ _);refine (aNaN _ _ _ (.inr rfl) _).eq ?_)
  all_goals refine Cc (a:=_) ?_ rfl rfl
  all_goals simp only[tCm,seval]
  all_goals simp_all [wS,cmpI]
  all_goals grind
theorem A2n (a b:ByteArray)(σ:St):Aa Tryz.prog 101 [.p (.v (.string a)),.p (.v (.string b))] σ fun r s=>s=σ∧r=Ad .i64 (cmpS a b):=by
 refine Aa.pureF (R:=fun r=>r=Ad .i64 (cmpS a b)) ?_ rfl σ
 refine Ab Am An Tryz.func101 (by kernel_rfl) rfl (nt:=18) (rs:=[.tmp 4]) rfl rfl ?_
 repeat' first|((with_reducible apply cs)<;>intro h<;>try simp only[h])|simp only[↓wBA,tCm,seval,Oi]|((with_reducible show Aa _ _ _ _ _);refine (A2m _ _).eq ?_)
 all_goals refine Cc (a:=_) ?_ rfl rfl
 all_goals simp only[tCm,seval]
 all_goals simp_all [wS,cmpS]
 all_goals grind
def orI:List Int→Int
 |[]=>0
 |a::l=>if a≠0 then a else orI l
theorem Am4 (l:List Int)(i:Nat)(h:i<l.length):orI (l.drop i)=if l[i]≠0 then l[i]else orI (l.drop (i+1)):=by
 rw[YB h];rfl
theorem aor (l:List Int)(hl:l.length≤1000)(σ:St):Aa Tryz.prog 94 [.p (.sl 1 (l.map fun n=>[.v (.int .i64 n)]))] σ fun r s=>s=σ∧r=Ad .i64 (orI l):=by
 refine Aa.pureF (R:=fun r=>r=Ad .i64 (orI l)) ?_ rfl σ
 refine Ab Am An Tryz.func94 (by kernel_rfl) rfl (nt:=17) (rs:=[.tmp 2]) rfl rfl ?_
 simp only[↓wBA,tCm,seval]
 refine Hs (l.length) (fun i=>[(8,Ad .i64 (i:Nat)),(2,.any),(5,.any),(9,.any),(10,.any),(11,.any),(12,.any),(13,.any),(14,.any),(15,.any),(16,.any)]) (fun i=>[]) (fun i=>orI (l.drop i)=orI l) ?_ ?_ ?_
 ·rfl
 ·skip
  simp only[wR]
  simp[wW]
 ·intro i hi hI
  simp only[wR]
  by_cases hlt:i<l.length
  ·have hdec:=dT (i:=i) (n:=l.length) (by omega)
   have hi0:=nnI i
   have hw:=wI i (by omega)
   have hg:(l.map fun n=>[PV.v (.int .i64 n)])[i]? =some [.v (.int .i64 l[i])]:=by simp[hlt]
   have hI':=Am4 l i hlt
   rw[hI]at hI'
   repeat' first|((with_reducible apply cs)<;>intro h<;>try simp only[h])|simp only[↓wBA,tCm,seval,hdec,hi0,hg,hw]
   ·skip
    all_goals refine Cc (a:=_) ?_ rfl rfl
    all_goals simp only[tCm,seval]
    all_goals simp_all [wS]
   ·skip
    refine⟨⟨i+1,by omega,?_⟩,by show l.length - (i+1)<l.length - i;omega,?_⟩
    ·simp_all
    ·skip
     simp only[]
     simp[wW]
  ·have hdec:=dF (i:=i) (n:=l.length) (by omega)
   have hI':orI l=0:=by rw[← hI,List.drop_of_length_le (by omega)];rfl
   repeat' simp only[↓wBA,tCm,seval,hdec]
   all_goals refine Cc (a:=_) ?_ rfl rfl
   all_goals simp only[tCm,seval]
   all_goals simp_all [wS]
theorem Axg (a b:Va)(σ:St):Aa Tryz.prog 54 [vaA a,vaA b] σ fun r s=>s=σ∧r=Ad .i64 (cmpV a b):=by
 refine Aa.pureF (R:=fun r=>r=Ad .i64 (cmpV a b)) ?_ rfl σ
 obtain⟨a1,a2,a3⟩:=a
 obtain⟨b1,b2,b3⟩:=b
 refine Ab Am An Tryz.func54 (by kernel_rfl) rfl (nt:=20) (rs:=[.tmp 4]) rfl rfl ?_
 simp only[vaA,vaC,QK,ZB]
 repeat' first|simp only[↓wBA,tCm,seval,Adh]|((with_reducible show Aa _ _ _ _ _);first|refine (Axf _ _ _ (.inl rfl) _).eq ?_|refine (Axf _ _ _ (.inr rfl) _).eq ?_|refine (A2n _ _ _).eq ?_|(refine Aa.frzArgs ((aor [_,_,_] (by simp) _).mono ?_);rintro _ _ ⟨rfl,rfl⟩))|(with_reducible refine dQ Adh 18 (some 5) ?_)
 all_goals refine Cc (a:=_) ?_ rfl rfl
 all_goals simp only[tCm,seval]
 all_goals simp_all [wS,cmpV,orI]
 all_goals grind
def tTm:=aa wX <| aa wbu <| aa T3 <| aa T24 <| aa T26 T54
def Akh (tn:ByteArray)(c:Int)(lo hi:Va):List PV:=[.v (.string tn),.v (.int .i64 c),.v (.int .i64 lo.1),.v (.int .i64 lo.2.1),.v (.string lo.2.2),.v (.int .i64 hi.1),.v (.int .i64 hi.2.1),.v (.string hi.2.2)]
def Yr (tn:ByteArray)(c:Int)(lo hi:Va):AV:=.agg ((Akh tn c lo hi).map .p)
def covV (lo hi v:Va):Bool:=decide (v.1=0)||(decide (cmpV lo v≤0)&&decide (cmpV v hi≤0))
theorem Ari (tn:ByteArray)(lo hi:Va){l:List Va}{c:Nat}{v:Va}(hv:l[c]? =some v)(hl:l.length≤1000000)(σ:St):
 Aa Tryz.prog 18 [Yr tn (c:Nat) lo hi,.p (.sl 3 (enV l))] σ fun r s=>s=σ∧r=Av (covV lo hi v):=by
 refine Aa.pureF (R:=fun r=>r=Av (covV lo hi v)) ?_ rfl σ
 obtain⟨hlt,hve⟩:=QC.1 hv
 have hln:=Ea l
 have hg:=Ji l c hlt
 rw[hve]at hg
 have hc0:decide ((c:Int)<0)=false:=decide_eq_false (by omega)
 have hc1:decide ((c:Int)≥(l.length:Int))=false:=decide_eq_false (by omega)
 have hif:((c:Int)<(l.length:Int))=True:=eq_true (by omega)
 have hn0:=nnI c
 have h1:=Axg lo v
 have h2:=Axg v hi
 unfold covV
 generalize cmpV lo v=q1 at*
 generalize cmpV v hi=q2 at*
 obtain⟨k1,n1,x1⟩:=lo
 obtain⟨k2,n2,x2⟩:=hi
 obtain⟨k,n,x⟩:=v
 simp only[vaA,vaC,Yr,Akh,QK,ZB]at h1 h2 hg ⊢
 refine Ab Am An Tryz.func18 (by kernel_rfl) rfl (nt:=39) (rs:=[.tmp 4]) rfl rfl ?_
 by_cases hk:k=0
 ·subst hk
  repeat' first|simp only[↓wBA,tTm,seval,hln,hc0,hc1,hg,hn0]|((with_reducible show Aa _ _ _ _ _);first|refine (h1 _).eq ?_|refine (h2 _).eq ?_)
  all_goals refine rtS ?_
  all_goals simp only[wRe,tTm,seval]
  exact⟨rfl,rfl⟩
 ·have hk':(k==0)=false:=by simpa using hk
  cases d1:decide (q1≤0)with
  |true=>
   repeat' first|simp only[↓wBA,tTm,seval,wH,hln,hc0,hc1,hg,hn0,hk',d1]|((with_reducible show Aa _ _ _ _ _);first|refine (h1 _).eq ?_|refine (h2 _).eq ?_)
   all_goals refine rtS ?_
   all_goals simp only[wRe,tTm,seval]
   exact⟨rfl,by rw[decide_eq_false hk];rfl⟩
  |false=>
   repeat' first|simp only[↓wBA,tTm,seval,wH,hln,hc0,hc1,hg,hn0,hk',d1]|((with_reducible show Aa _ _ _ _ _);first|refine (h1 _).eq ?_|refine (h2 _).eq ?_)
   all_goals refine rtS ?_
   all_goals simp only[wRe,tTm,seval]
   exact⟨rfl,by rw[decide_eq_false hk];rfl⟩
