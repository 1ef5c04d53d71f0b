/- Trees: what is left behind a removal below: the plain part. Trees: an entry is taken out below a page that is no leaf. Trees: a root without need taken away: the plain part. -/
import Derived.Test.YtockimhceppkbaaGreatM39
import Derived.Test.YtockimhceppkbaaGreatM35
set_option linter.unusedSimpArgs false
set_option linter.unusedVariables false
set_option linter.defProp false
set_option maxRecDepth 100000
set_option maxHeartbeats 32000000
namespace Go.Proofs.YtockimhceppkbaaGreat
open Go.RowKit
open List (getElem?_set_ne getElem?_set_self length_append length_cons length_nil length_set mem_append mem_cons mem_flatMap nodup_cons not_mem_nil)
theorem Fr.take {σ S R:St}{U U2 U3:Nat→Prop}{t:Nat}(h:Fr σ S U U2)(ht:σ.length≤t)(k:Fr S R (fun q=>U2 q∨q=t) U3):Fr σ R U U3:=
 ⟨Nat.le_trans h.len k.len,fun j hj hn=>(k.keep j (Nat.lt_of_lt_of_le hj h.len) fun e=>e.elim (fun e=>(h.own j e).elim hn fun e=>by omega) fun e=>by omega).trans (h.keep j hj hn),fun j hj=>(k.own j hj).elim (fun e=>e.elim (h.own j) fun e=>.inr (by omega)) fun e=>.inr (Nat.le_trans h.len e)⟩
theorem JS.len {h:Nat}{l l':NL h}(hj:JS l l'):l.length≤l'.length+1:=by
 rcases hj with rfl|⟨A,x,y,B,rfl,rfl⟩
 ·omega
 ·simp;omega
theorem JS.nes {h:Nat}{l l':NL h}(hj:JS l l')(hn:∀ x∈l,¬ nilT h x.2.2∧NeT h x.2.2):∀ x∈l',¬ nilT h x.2.2∧NeT h x.2.2:=by
 rcases hj with rfl|⟨A,x,y,B,rfl,rfl⟩
 ·exact hn
 ·intro z hz
  rcases mem_append.1 hz with hz|hz
  ·exact hn z (by simp[hz])
  ·rcases mem_cons.1 hz with rfl|hz
   ·exact cat_ne (hn x (by simp)).1 (hn x (by simp)).2 (hn y (by simp)).2
   ·exact hn z (by simp[hz])
theorem rem_ne:∀ {h:Nat} {t t':BTr h} {e:Ent},NeT h t→RemR h t e t'→NeT h t'
 |0,_,_,_,_,_=>trivial
 |h+1,t,t',e,hN,hr=>by
  obtain⟨l1,x,l2,s',ht,hr,hc⟩:=hr
  obtain⟨l,hl⟩:∃ l:NL h,l=t:=⟨_,rfl⟩
  obtain⟨l',hl'⟩:∃ l:NL h,l=t':=⟨_,rfl⟩
  have ht:l=l1++x::l2:=by rw[hl];exact ht
  have hN:∀ x∈l,¬ nilT h x.2.2∧NeT h x.2.2:=by rw[hl];exact hN
  rw[ht]at hN
  have goal:∀ x∈l',¬ nilT h x.2.2∧NeT h x.2.2:=by
   rcases hc with⟨hn,ht'⟩|⟨hn,l3,j1,j2⟩
   ·have ht':l'=l1++l2:=by rw[hl'];exact ht'
    rw[ht']
    intro z hz
    rcases mem_append.1 hz with hz|hz
    ·exact hN z (by simp[hz])
    ·exact hN z (by simp[hz])
   ·have j2:JS l3 l':=by rw[hl'];exact j2
    refine j2.nes (j1.nes fun z hz=> ?_)
    rcases mem_append.1 hz with hz|hz
    ·exact hN z (by simp[hz])
    ·rcases mem_cons.1 hz with rfl|hz
     ·exact⟨hn,rem_ne (hN x (by simp)).2 hr⟩
     ·exact hN z (by simp[hz])
  rw[hl']at goal
  exact goal
theorem nil_pgC {h:Nat}{t:BTr h}(hn:nilT h t):pgC h t=[]:=by
 cases h with
 |zero=>rfl
 |succ h=>
  have hn:(show NL h from t)=[]:=hn
  show flP (show NL h from t)=[]
  rw[hn];rfl
theorem nil_its {h:Nat}{t:BTr h}(hn:nilT h t):itsT h t=[]:=by
 cases h with
 |zero=>
  have hn:(show List Ent from t)=[]:=hn
  show its0 (show List Ent from t)=[]
  rw[hn];rfl
 |succ h=>
  have hn:(show NL h from t)=[]:=hn
  show its1 (show NL h from t)=[]
  rw[hn];rfl
theorem Kids.of {h n np:Nat}{v v':Nat→List UInt8}{T T':Nat→Bool}{C:List Nat}{l:NL h}(hC:DelW v v' T T' np C (n::flP l))(htk:∀ q∈C,1≤q∧q<np∧T q=true)(tr:∀ x∈l,TrAt v' h x.2.1 x.2.2)(ne:∀ x∈l,¬ nilT h x.2.2∧NeT h x.2.2)(ok:∀ z∈its1 l,z.ok)(sz:szL (its1 l)≤496):Kids h v' T' np n l:=
 ⟨tr,ne,hC.nd,fun q hq=>by
  obtain⟨g1,g2,_⟩:=htk q (hC.sub q hq)
  exact⟨g1,g2,by rw[hC.tk,if_pos (hC.sub q hq),decide_eq_true hq]⟩,ok,sz⟩
section
variable {h n np:Nat} {v v2:Nat→List UInt8} {T T2:Nat→Bool} {l1 l2:NL h} {x:Ent×Nat×BTr h} {s':BTr h}
theorem kid_oth (hnd:(n::flP (l1++x::l2)).Nodup)(htk:∀ q∈n::flP (l1++x::l2),1≤q)(ho:∀ q,q∉pgT h x.2.1 x.2.2→q≠0→v2 q=v q){z:Ent×Nat×BTr h}(hz:z∈l1∨z∈l2)(hT:TrAt v h z.2.1 z.2.2):TrAt v2 h z.2.1 z.2.2:=by
 have hn2:=(nodup_cons.1 hnd).2
 rw[flP_app,flP_cons]at hn2
 refine hT.congr fun q hq=>ho q (fun e=> ?_) fun e=> ?_
 ·rcases hz with hz|hz
  ·exact (List.nodup_append.1 hn2).2.2 q (mem_flatMap.2 ⟨z,hz,hq⟩) q (by simp[e]) rfl
  ·exact (List.nodup_append.1 (List.nodup_append.1 hn2).2.1).2.2 q e q (mem_flatMap.2 ⟨z,hz,hq⟩) rfl
 ·have:=htk q (List.mem_cons_of_mem _ (mem_flatMap.2 ⟨z,by rcases hz with hz|hz<;>simp[hz],hq⟩))
  omega
theorem kid_parts:n::flP (l1++x::l2)=(n::flP l1)++pgT h x.2.1 x.2.2++flP l2:=by rw[flP_app,flP_cons];simp
theorem Kids.rem (hTr:TrAt v (h+1) n (l1++x::l2:NL h))(hNe:∀ z∈l1++x::l2,¬ nilT h z.2.2∧NeT h z.2.2)(hnd:(n::flP (l1++x::l2)).Nodup)(htk:∀ q∈n::flP (l1++x::l2),1≤q∧q<np∧T q=true)(hx:TrAt v2 h x.2.1 s')(hn0:¬ nilT h s')(hn1:NeT h s')(hW:DelW v v2 T T2 np (pgT h x.2.1 x.2.2) (pgT h x.2.1 s')):
 Kids h v2 T2 np n (l1++(x.1,x.2.1,s')::l2)∧DelW v v2 T T2 np (n::flP (l1++x::l2)) (n::flP (l1++(x.1,x.2.1,s')::l2)):=by
 have hL:=hW.lift (A:=n::flP l1) (B:=flP l2) (by rw[← kid_parts];exact hnd) (fun q hq=>(htk q (by rw[kid_parts];exact hq)).2.2)
 rw[← kid_parts,show (n::flP l1)++pgT h x.2.1 s'++flP l2=n::flP (l1++(x.1,x.2.1,s')::l2) from by rw[flP_app,flP_cons];simp]at hL
 have hN:NodeP (v n) 3 (its1 (l1++x::l2)):=hTr.1
 have hi:its1 (l1++(x.1,x.2.1,s')::l2)=its1 (l1++x::l2):=by simp[its1]
 refine⟨Kids.of hL htk (fun z hz=> ?_) (fun z hz=> ?_) (by rw[hi];exact hN.ok) (by rw[hi];exact hN.sz),hL⟩
 ·rcases mem_append.1 hz with hz|hz
  ·exact kid_oth hnd (fun q hq=>(htk q hq).1) hW.oth (.inl hz) (hTr.2 z (by simp[hz]))
  ·rcases mem_cons.1 hz with rfl|hz
   ·exact hx
   ·exact kid_oth hnd (fun q hq=>(htk q hq).1) hW.oth (.inr hz) (hTr.2 z (by simp[hz]))
 ·rcases mem_append.1 hz with hz|hz
  ·exact hNe z (by simp[hz])
  ·rcases mem_cons.1 hz with rfl|hz
   ·exact⟨hn0,hn1⟩
   ·exact hNe z (by simp[hz])
theorem Kids.del {v3:Nat→List UInt8}(hTr:TrAt v (h+1) n (l1++x::l2:NL h))(hNe:∀ z∈l1++x::l2,¬ nilT h z.2.2∧NeT h z.2.2)(hnd:(n::flP (l1++x::l2)).Nodup)(htk:∀ q∈n::flP (l1++x::l2),1≤q∧q<np∧T q=true)(hn0:nilT h s')(hW:DelW v v2 T T2 np (pgT h x.2.1 x.2.2) (pgT h x.2.1 s'))(hv3:∀ q,q≠0→v3 q=v2 q)(hTk:Tk (v3 0) np fun m=>if m=x.2.1 then false else T2 m):
 Kids h v3 (fun m=>if m=x.2.1 then false else T2 m) np n (l1++l2)∧DelW v v3 T (fun m=>if m=x.2.1 then false else T2 m) np (n::flP (l1++x::l2)) (n::flP (l1++l2)):=by
 have e0:pgT h x.2.1 s'=[x.2.1]:=by rw[pgT_C,nil_pgC hn0]
 rw[e0]at hW
 have hS:DelW v2 v3 T2 (fun m=>if m=x.2.1 then false else T2 m) np [x.2.1] []:=⟨fun q hq=>by simp at hq,List.nodup_nil,fun q=>by simp,fun q _ h0=>hv3 q h0,hTk⟩
 have hW3:=hW.trans hS
 have hL:=hW3.lift (A:=n::flP l1) (B:=flP l2) (by rw[← kid_parts];exact hnd) (fun q hq=>(htk q (by rw[kid_parts];exact hq)).2.2)
 rw[← kid_parts,show (n::flP l1)++[]++flP l2=n::flP (l1++l2) from by rw[flP_app];simp]at hL
 have hN:NodeP (v n) 3 (its1 (l1++x::l2)):=hTr.1
 have hs:(its1 (l1++l2)).Sublist (its1 (l1++x::l2)):=List.Sublist.map _ (List.Sublist.append (List.Sublist.refl _) (List.Sublist.cons _ (List.Sublist.refl _)))
 refine⟨Kids.of hL htk (fun z hz=> ?_) (fun z hz=>hNe z (by rcases mem_append.1 hz with h|h<;>simp[h])) (fun z hz=>hN.ok z (hs.subset hz)) (Nat.le_trans (szL_sub hs) hN.sz),hL⟩
 exact kid_oth hnd (fun q hq=>(htk q hq).1) hW3.oth (mem_append.1 hz) (hTr.2 z (by rcases mem_append.1 hz with h|h<;>simp[h]))
theorem Kids.tree {l l3:NL h}{v3 v4:Nat→List UInt8}{T3:Nat→Bool}(hk:Kids h v3 T3 np n l3)(hL:DelW v v3 T T3 np (n::flP l) (n::flP l3))(h1:v4 n=(fitF 3 (its1 l3)).1)(h2:∀ q,q≠n→v4 q=v3 q):TrAt v4 (h+1) n l3∧DelW v v4 T T3 np (pgT (h+1) n l) (pgT (h+1) n l3):=by
 have hn0:n≠0:=fun e=>by have:=(hk.tk n (by simp)).1;omega
 refine⟨⟨by rw[h1];exact (fit_yes (.inr rfl) hk.ok hk.sz).2,fun z hz=>(hk.tr z hz).congr fun q hq=>h2 q fun e=> ?_⟩,⟨hL.sub,hL.nd,hL.tk,fun q hq h0=>(h2 q fun e=>hq (by rw[e];exact pgT_root _ _ _)).trans (hL.oth q hq h0),by rw[h2 0 fun e=>hn0 e.symm];exact hL.tkk⟩⟩
 exact (nodup_cons.1 hk.nd).1 (e▸mem_flatMap.2 ⟨z,hz,hq⟩)
end
def pl47_9Dv:Plan:=(.det 0 (.det 1 (.det 2 (.det 3 (.act 4 (.fin 5 (.det 6 .done)))))))
def pl47_11Dv:Plan:=(.det 0 (.det 1 (.det 2 (.det 3 (.det 4 (.det 5 (.det 6 (.det 7 (.two 8 (.det 9 (.det 10 (.det 11 (.act 12 (.fin 13 (.det 14 .done)))))) 12 (.fin 8 (.det 9 (.det 10 (.det 11 (.fin 13 (.det 14 .done)))))))))))))))
def pl47_18Dv:Plan:=(.det 0 (.det 1 (.det 2 (.det 3 (.det 4 (.det 5 (.det 6 (.det 7 (.fin 8 (.det 9 .done))))))))))
def pl47_22Dv:Plan:=(.det 0 (.det 1 (.det 2 (.det 3 (.act 4 (.fin 5 (.det 6 .done)))))))
def tDv:=aa wX <| aa wbu <| aa T3 <| aa T4 <| aa T25 <| aa T30 <| aa T48 <| aa T86 <| aa T90 <| aa T92 <| aa T97 T139
section
variable {σ:St} {b p dd l kh n h:Nat} {U:Nat→Prop} {P:PoolV} {v:Nat→List UInt8} {T:Nat→Bool} {e lo:Ent} {hi:Option Ent}
def RA (σ S:St)(b p dd l kh tn nx ny ty:Nat)(e:Ent)(h:Nat)(x:Ent×Nat×BTr h)(s':BTr h)(its:List Itm)(U U2:Nat→Prop)(P P2:PoolV)(v v2:Nat→List UInt8)(T T2:Nat→Bool):Prop:=
 Fr σ S U U2∧Bt S b p dd l kh U2 P2 v2∧Kp P P2 0∧
 S[σ.length]? =some (some (Ob.row 1 [[AV.mp b 2 0 0]]))∧S[σ.length+2]? =some (some (Ob.row 2 [[intV .i64 0,.p (.v (.slice none 0 0))]]))∧S[nx]? =some (some (Ob.row 2 [[AV.p (.v (.int .i64 3)),AV.ms tn 4 0 its.length]]))∧
 S[tn]? =some (some (Ob.row 4 (its.map itC)))∧S[ny]? =some (some (Ob.row 2 [[intV .i64 (kdT h:Nat),AV.ms ty 4 0 (itsT h s').length]]))∧S[ty]? =some (some (Ob.row 4 ((itsT h s').map itC)))∧
 ¬ U2 σ.length∧¬ U2 (σ.length+2)∧¬ U2 nx∧¬ U2 tn∧¬ U2 ny∧¬ U2 ty∧σ.length+3≤nx∧σ.length+3≤tn∧σ.length+3≤ny∧nx≠tn∧nx≠ny∧tn≠ny∧ny≠ty∧
 e∈entsT h x.2.2∧RemR h x.2.2 e s'∧TrAt v2 h x.2.1 s'∧DelW v v2 T T2 P.pages (pgT h x.2.1 x.2.2) (pgT h x.2.1 s')
def RB (σ S:St)(b p dd l kh nx t3 n:Nat)(e:Ent)(h:Nat)(t l3:NL h)(U U3:Nat→Prop)(P P3:PoolV)(v v3:Nat→List UInt8)(T T3:Nat→Bool):Prop:=
 Fr σ S U U3∧Bt S b p dd l kh U3 P3 v3∧Kp P P3 0∧
 S[σ.length]? =some (some (Ob.row 1 [[AV.mp b 2 0 0]]))∧S[σ.length+2]? =some (some (Ob.row 2 [[intV .i64 0,.p (.v (.slice none 0 0))]]))∧S[nx]? =some (some (Ob.row 2 [[AV.p (.v (.int .i64 3)),AV.ms t3 4 0 (its1 l3).length]]))∧
 S[t3]? =some (some (Ob.row 4 ((its1 l3).map itC)))∧¬ U3 σ.length∧¬ U3 (σ.length+2)∧¬ U3 nx∧¬ U3 t3∧σ.length+3≤nx∧σ.length+3≤t3∧nx≠t3∧
 RemR (h+1) t e l3∧Kids h v3 T3 P.pages n l3∧DelW v v3 T T3 P.pages (n::flP t) (n::flP l3)
theorem atRemNode {t0:NL h}(hB:Bt σ b p dd l kh U P v)(hT:Tk (v 0) P.pages T)(hnp:P.pages≤3200)(hb:Bud P 1)(hTr:TrAt v (h+1) n t0)(hnd:(pgT (h+1) n t0).Nodup)
 (htk:∀ q∈pgT (h+1) n t0,1≤q∧q<P.pages∧T q=true) (hOk:OkD (h+1) lo hi t0) (hNe:NeT (h+1) t0) (h1:leE lo e) (h2:ltO e hi)
 (ih:∀ {σ:St} {U:Nat→Prop} {P:PoolV} {v:Nat→List UInt8} {T:Nat→Bool} {n:Nat} {t:BTr h} {lo:Ent} {hi:Option Ent},Bt σ b p dd l kh U P v→Tk (v 0) P.pages T→P.pages≤3200→Bud P 1→TrAt v h n t→(pgT h n t).Nodup→(∀ q∈pgT h n t,1≤q∧q<P.pages∧T q=true)→OkD h lo hi t→NeT h t→leE lo e→ltO e hi→
  ACalls Tryz.prog 47 [.agg [.mp b 2 0 0],intV .i64 (n:Nat),entA e] σ fun r σ'=>RemPost h n t e σ b p dd l kh U P v T r σ'):
 ACalls Tryz.prog 47 [.agg [.mp b 2 0 0],intV .i64 (n:Nat),entA e] σ fun r σ'=>RemPost (h+1) n t0 e σ b p dd l kh U P v T r σ':=by
 have hn:=htk n (pgT_root _ _ _)
 have hlt:=hB.lt
 have hT1:=hOk.toT
 obtain⟨hne,hsk,hup,hoc⟩:=hOk
 obtain⟨l1,x,l2,rfl,hpl,g1,g2⟩:=okC_find (d:=false) hne (OkD.head hsk) hoc h1 h2
 obtain⟨t,ht⟩:∃ t:NL h,t=l1++x::l2:=⟨_,rfl⟩
 rw[← ht]at hoc hpl hsk
 have hN:NodeP (v n) 3 (its1 t):=by rw[ht];exact hTr.1
 have hl49:=hN.n
 have hcut:=cutI_at (l:=its1 t) (e:=e) (by rw[its1_e];exact hsk)
 obtain⟨i,hi'⟩:∃ i,i=belF (its1 t) e (cutI (its1 t) e):=⟨_,rfl⟩
 have hpl1:l1.length=i:=by rw[hi'];exact hpl
 have hil:i<(its1 t).length:=by rw[its1_len,ht,←hpl1];simp
 have hne':its1 t≠[]:=fun e=>by rw[e]at hil;simp at hil
 have hgi:((its1 t).map itC)[i]? =some (itC ⟨x.1,x.2.1⟩):=by
  rw[← hpl1,ht,its1_app,its1_cons,List.map_append,List.getElem?_append_right (by simp[its1])]
  simp[its1]
 have hif:((i:Int)<((its1 t).length:Int))=True:=eq_true (by omega)
 have hi0:=nnI i
 have hiw:=wI i (by omega)
 have hmemIff:e∈entsT (h+1) (l1++x::l2:NL h)↔e∈entsT h x.2.2:=⟨fun hm=>find_mem (by rw[← ht];exact hoc) g1 g2 hm,fun hm=>mem_flatMap.2 ⟨x,by simp,hm⟩⟩
 have hxm:∀ q,q∈pgT h x.2.1 x.2.2→q∈pgT (h+1) n (l1++x::l2:NL h):=fun q hq=>by
  rw[pgT_node];exact List.mem_cons_of_mem _ (mem_flatMap.2 ⟨x,by simp,hq⟩)
 have hxs:(pgT h x.2.1 x.2.2).Sublist (pgT (h+1) n (l1++x::l2:NL h)):=by
  rw[pgT_node,flP_app,flP_cons]
  exact List.Sublist.cons _ ((List.sublist_append_left _ _).trans (List.sublist_append_right _ _))
 refine acalls_of cx_ok dr_ok Tryz.func47 (by kernel_rfl) rfl (nt:=116) (rs:=[.cell 6 92,.tmp 7]) rfl rfl ?_
 simp only[entA]
 repeat' first|((with_reducible first|apply cs|apply ws|apply wd|apply wu)<;>intro h<;>try simp only[h])|simp only[↓wBA,tDv,convA,seval,pl47_9Dv,pl47_11Dv,pl47_18Dv,pl47_22Dv,wH]|(with_reducible first|refine dQ pl47_9Dv 7 (some 44) ?_|refine dQ pl47_11Dv 15 (some 53) ?_|refine dQ pl47_18Dv 10 (some 94) ?_|refine dQ pl47_22Dv 7 (some 114) ?_)|with_reducible refine And.intro ?_ ?_
 have a1:Ap σ (σ++[some (Ob.row 1 [[AV.mp b 2 0 0]])]++[some (Ob.row 3 [[.p (.sl 1 (encB e.k)),intV .i64 (e.p:Nat),intV .i64 (e.s:Nat)]])]++[some (Ob.row 2 [[intV .i64 0,.p (.v (.slice none 0 0))]])]):=((Ap.app _ _).more _).more _
 refine (atRead (hB.ap a1) hn.2.1 hN hb).mono ?_
 rintro _ s1 ⟨U1,P1,a,rfl,f1,hB1,k1,ha,hta⟩
 rcases ha with⟨h0,_⟩|⟨_,tn,rfl,htn⟩
 ·exact absurd h0 hne'
 have q1:=f1.len
 simp only[length_append,length_cons,length_nil]at q1
 have b0:s1[σ.length]? =some (some (Ob.row 1 [[AV.mp b 2 0 0]])):=by
  rw[f1.keep _ (by simp) fun e=>by have:=hlt _ e;omega];simp[intV]
 have b1:s1[σ.length+1]? =some (some (Ob.row 3 [[.p (.sl 1 (encB e.k)),intV .i64 (e.p:Nat),intV .i64 (e.s:Nat)]])):=by
  rw[f1.keep _ (by simp) fun e=>by have:=hlt _ e;omega];simp[intV]
 have b2:s1[σ.length+2]? =some (some (Ob.row 2 [[intV .i64 0,.p (.v (.slice none 0 0))]])):=by
  rw[f1.keep _ (by simp) fun e=>by have:=hlt _ e;omega];simp[intV]
 have hlt1:=hB1.lt
 obtain⟨htn1,htnU⟩:=hta tn rfl
 simp only[length_append,length_cons,length_nil]at htn1
 have yn:=at_lt htn
 have nU0:∀ j,σ.length≤j→j<σ.length+3→¬ U1 j:=fun j hj hj2 e=>(f1.own j e).elim (fun e=>by have:=hlt j e;omega) fun e=>by simp at e;omega
 obtain⟨S1,hS1⟩:∃ S1,S1=s1++[some (Ob.row 2 [[AV.p (.v (.int .i64 3)),AV.ms tn 4 0 (its1 t).length]])]:=⟨_,rfl⟩
 have aS:Ap s1 S1:=⟨_,hS1⟩
 have hS1l:S1.length=s1.length+1:=by rw[hS1];simp
 have bN:S1[s1.length]? =some (some (Ob.row 2 [[AV.p (.v (.int .i64 3)),AV.ms tn 4 0 (its1 t).length]])):=by rw[hS1];simp
 have b0:=aS.get b0
 have b1:=aS.get b1
 have b2:=aS.get b2
 have hBS:=hB1.ap aS
 have htS:=aS.get htn
 have hM:ItM S1 tn 0 (its1 t):=⟨_,htS,by simp,fun j x hj=>by simp[hj]⟩
 have hbl:=abelow 3 hM.a (by omega) e _ hcut
 rw[← hi']at hbl
 have y0S:=at_lt b0
 have y1S:=at_lt b1
 have y2S:=at_lt b2
 have yNS:=at_lt bN
 have ynS:=at_lt htS
 simp only[entA]at hbl
 have x1:(σ.length+1=tn)=False:=eq_false (by omega)
 have x2:(tn=σ.length+1)=False:=eq_false (by omega)
 have x3:(tn=s1.length)=False:=eq_false (by omega)
 have x4:(s1.length=tn)=False:=eq_false (by omega)
 have x5:(tn=σ.length)=False:=eq_false (by omega)
 have x6:(σ.length=tn)=False:=eq_false (by omega)
 have x7:(s1.length=σ.length)=False:=eq_false (by omega)
 have x8:(σ.length=s1.length)=False:=eq_false (by omega)
 have x9:(s1.length=σ.length+1)=False:=eq_false (by omega)
 have x10:(σ.length+1=s1.length)=False:=eq_false (by omega)
 have fS:Fr σ S1 U U1:=(a1.fr.trans f1).trans aS.fr
 have n0:¬ U1 σ.length:=nU0 _ (Nat.le_refl _) (by omega)
 have n1:¬ U1 (σ.length+1):=nU0 _ (by omega) (by omega)
 have n2:¬ U1 (σ.length+2):=nU0 _ (by omega) (by omega)
 have nN:¬ U1 s1.length:=fun e=>by have:=hlt1 _ e;omega
 have hoX:=okC_child (by rw[← ht];exact hoc:OkC (OkD h) lo hi (l1++x::l2))
 have htk1:∀ q∈pgT h x.2.1 x.2.2,1≤q∧q<P1.pages∧T q=true:=fun q hq=>by rw[k1.pages];exact htk q (hxm q hq)
 refine' (fun key:(∀ (S:St) (ny ty:Nat) (U2:Nat→Prop) (P2:PoolV) (v2:Nat→List UInt8) (T2:Nat→Bool) (s':BTr h),RA σ S b p dd l kh tn s1.length ny ty e h x s' (its1 t) U U2 P P2 v v2 T T2→(_:St→Nat→Nat→BTr h→Prop) S ny ty s')=> ?main) ?tail
 case main=>
  repeat' first|((with_reducible first|apply cs|apply ws|apply wd|apply wu)<;>intro h<;>try simp only[h])|simp only[↓wBA,tDv,convA,seval,pl47_9Dv,pl47_11Dv,pl47_18Dv,pl47_22Dv,wH,c3y,hS1.symm,b0,b1,b2,bN,y0S,y1S,y2S,yNS,htS,ynS,hgi,hif,hi0,itC,x1,x2,x3,x4,x5,x6,x7,x8,x9,x10]|((with_reducible show ACalls _ _ _ _ _);refine hbl.eq ?_)|(with_reducible first|refine dQ pl47_9Dv 7 (some 44) ?_|refine dQ pl47_11Dv 15 (some 53) ?_|refine dQ pl47_18Dv 10 (some 94) ?_|refine dQ pl47_22Dv 7 (some 114) ?_)|with_reducible refine And.intro ?_ ?_
  ·skip
   refine (ih ((((hBS.set n1 none).set htnU none).set nN none).set n0 none) (by rw[k1.pages];exact hT) (by rw[k1.pages];exact hnp) (hb.kp k1 (by omega)) (hTr.2 x (by simp)) (hnd.sublist hxs) htk1 hoX (hNe x (by simp)).2 g1 g2).mono ?_
   rintro r s2 ⟨U2,P2,v2,T2,a2,f2,hB2,k2,hla,hca,hO⟩
   have l2:=f2.len
   simp only[length_set]at l2
   have w0:σ.length<s2.length:=by omega
   have w1:σ.length+1<s2.length:=by omega
   have wN:s1.length<s2.length:=by omega
   have wn:tn<s2.length:=by omega
   have nU2:∀ j,j<S1.length→¬ U1 j→¬ U2 j:=fun j hj hn e=>(f2.own j e).elim hn fun e=>by simp at e;omega
   obtain⟨R,hR⟩:∃ R,R=(((s2.set σ.length (some (Ob.row 1 [[AV.mp b 2 0 0]]))).set s1.length (some (Ob.row 2 [[AV.p (.v (.int .i64 3)),AV.ms tn 4 0 (its1 t).length]]))).set tn (some (Ob.row 4 ((its1 t).map itC)))).set (σ.length+1) (some (Ob.row 3 [[.p (.sl 1 (encB e.k)),intV .i64 (e.p:Nat),intV .i64 (e.s:Nat)]])):=⟨_,rfl⟩
   have hRl:R.length=s2.length:=by rw[hR];simp
   have hRg:∀ j,j≠σ.length→j≠s1.length→j≠tn→j≠σ.length+1→R[j]? =s2[j]? :=fun j g1 g2 g3 g4=>by rw[hR,getElem?_set_ne (fun e=>g4 e.symm),getElem?_set_ne (fun e=>g3 e.symm),getElem?_set_ne (fun e=>g2 e.symm),getElem?_set_ne (fun e=>g1 e.symm)]
   have fR:Fr S1 R U1 U2:=frG (L:=[σ.length,s1.length,tn,σ.length+1]) f2 (by simp) (fun j hj=>by
    simp only[mem_cons,not_mem_nil,or_false,not_or]at hj
    obtain⟨j1,j2,j3,j4⟩:=hj
    rw[getElem?_set_ne (fun e=>j1 e.symm),getElem?_set_ne (fun e=>j2 e.symm),getElem?_set_ne (fun e=>j3 e.symm),getElem?_set_ne (fun e=>j4 e.symm)]) (by omega) (fun j hj=>by
    simp only[mem_cons,not_mem_nil,or_false]at hj
    rcases hj with rfl|rfl|rfl|rfl
    ·rw[b0,hR,getElem?_set_ne (by omega),getElem?_set_ne (by omega),getElem?_set_ne (by omega),getElem?_set_self w0]
    ·rw[bN,hR,getElem?_set_ne (by omega),getElem?_set_ne (by omega),getElem?_set_self (by simpa using wN)]
    ·rw[htS,hR,getElem?_set_ne (by omega),getElem?_set_self (by simpa using wn)]
    ·rw[b1,hR,getElem?_set_self (by simpa using w1)]) fun j _ hj=>by
    simp only[mem_cons,not_mem_nil,or_false,not_or]at hj
    exact hRg j hj.1 hj.2.1 hj.2.2.1 hj.2.2.2
   have hBR:Bt R b p dd l kh U2 P2 v2:=by rw[hR];exact (((hB2.set (nU2 _ y0S n0) _).set (nU2 _ yNS nN) _).set (nU2 _ ynS htnU) _).set (nU2 _ y1S n1) _
   have r2:=fR.get b2 n2
   have p2:=at_lt r2
   have k02:=k1.trans k2
   have fSR:=fS.trans fR
   rcases hO with⟨hnm,rfl,ev2,eT2⟩|⟨s',ty,hmm,hRR,rfl,rfl,hty,hty1,htyU,hTr',hDW⟩
   ·simp only[intV]at hR
    obtain⟨Q,hQ⟩:∃ Q,Q=R++[some (Ob.row 2 [[AV.p (.v (.int .i64 (kdT h:Nat))),a2]])]:=⟨_,rfl⟩
    have aQ:Ap R Q:=⟨_,hQ⟩
    have d2:=aQ.get r2
    have e2:=at_lt d2
    simp only[↓wBA,tDv,convA,seval,wH,hla,hca,b0,b1,bN,htS,w0,w1,wN,wn,x1,x2,x3,x4,x5,x6,x7,x8,x9,x10]
    simp only[hR.symm]
    simp only[hQ.symm]
    simp only[↓wBA,tDv,convA,seval,wH,d2,e2]
    all_goals refine ret_st ?_ (by first|exact Nat.le_refl _|(simp only[length_set,length_append];omega)|omega)
    all_goals simp only[resA.eq_1,resL.eq_1,resL.eq_2,resV.eq_1,resV.eq_2,↓wBA,tDv,convA,seval,wH,e2]
    exact⟨U2,P2,v2,T2,.ms tn 4 0 (its1 t).length,Fr.setY (fSR.trans aQ.fr) (show σ.length≤σ.length+2 by omega) _,(hBR.ap aQ).set (nU2 _ y2S n2) _,k02,rfl,rfl,.inl ⟨fun hm=>hnm (hmemIff.1 hm),rfl,ev2,eT2⟩⟩
   ·simp only[intV]at hR
    simp only[↓wBA,tDv,convA,seval,wH,b0,b1,bN,htS,w0,w1,wN,wn,x1,x2,x3,x4,x5,x6,x7,x8,x9,x10]
    simp only[hR.symm]
    simp only[length_set]at hty1
    have wty:=at_lt hty
    obtain⟨ny,hny⟩:∃ ny,ny=s2.length:=⟨_,rfl⟩
    obtain⟨Q,hQ⟩:∃ Q,Q=R++[some (Ob.row 2 [[AV.p (.v (.int .i64 (kdT h:Nat))),AV.ms ty 4 0 (itsT h s').length]])]:=⟨_,rfl⟩
    have aQ:Ap R Q:=⟨_,hQ⟩
    have hyQ:Q[ny]? =some (some (Ob.row 2 [[AV.p (.v (.int .i64 (kdT h:Nat))),AV.ms ty 4 0 (itsT h s').length]])):=by rw[hQ,hny,←hRl,List.getElem?_append_right (Nat.le_refl _)];simp
    simp only[hQ.symm]
    simp only[hny.symm]
    rw[k1.pages]at hDW
    exact key Q ny ty U2 P2 v2 T2 s' ⟨fSR.trans aQ.fr,hBR.ap aQ,k02,aQ.get (fR.get b0 n0),aQ.get r2,aQ.get (fR.get bN nN),aQ.get (fR.get htS htnU),hyQ,aQ.get ((hRg ty (by omega) (by omega) (by omega) (by omega)).trans hty),nU2 _ y0S n0,nU2 _ y2S n2,nU2 _ yNS nN,nU2 _ ynS htnU,fun e=>by have:=hB2.lt _ e;omega,htyU,by omega,by omega,by omega,by omega,by omega,by omega,by omega,hmm,hRR,hTr',hDW⟩
  ·skip
   refine (ih (hBS.ap (Ap.app _ _)) (by rw[k1.pages];exact hT) (by rw[k1.pages];exact hnp) (hb.kp k1 (by omega)) (hTr.2 x (by simp)) (hnd.sublist hxs) htk1 hoX (hNe x (by simp)).2 g1 g2).mono ?_
   rintro r s2 ⟨U2,P2,v2,T2,a2,f2,hB2,k2,hla,hca,hO⟩
   have aY:=Ap.app S1 [some (Ob.row 2 [[AV.p (.v (.int .i64 0)),.p (.v (.slice none 0 0))]])]
   have l2:=f2.len
   simp only[length_append,length_cons,length_nil]at l2
   have hlt1S:∀ j,U1 j→j<S1.length:=fun j hj=>by have:=hlt1 j hj;omega
   have nU2:∀ j,j<S1.length+1→¬ U1 j→¬ U2 j:=fun j hj hn e=>(f2.own j e).elim hn fun e=>by simp at e;omega
   have nY1:¬ U1 S1.length:=fun e=>by have:=hlt1S _ e;omega
   have c0:=f2.get (aY.get b0) n0
   have c2:=f2.get (aY.get b2) n2
   have cN:=f2.get (aY.get bN) nN
   have cn:=f2.get (aY.get htS) htnU
   have cy:s2[S1.length]? =some (some (Ob.row 2 [[AV.p (.v (.int .i64 0)),.p (.v (.slice none 0 0))]])):=f2.get (by simp) nY1
   have p0:=at_lt c0
   have p2:=at_lt c2
   have pN:=at_lt cN
   have pn:=at_lt cn
   have py:=at_lt cy
   have z1:=lf y0S
   have z2:=lf y2S
   have z3:=lf yNS
   have z4:=lf ynS
   have z5:(S1.length=σ.length+2)=False:=eq_false (by omega)
   have z6:(σ.length+2=S1.length)=False:=eq_false (by omega)
   have k02:=k1.trans k2
   have fSR:Fr σ s2 U U2:=(fS.trans aY.fr).trans f2
   rcases hO with⟨hnm,rfl,ev2,eT2⟩|⟨s',ty,hmm,hRR,rfl,rfl,hty,hty1,htyU,hTr',hDW⟩
   ·skip
    simp only[↓wBA,tDv,convA,seval,wH,hla,hca,c0,c2,cN,cn,cy,p0,p2,pN,pn,py,z1,z2,z3,z4,z5,z6]
    all_goals refine ret_st ?_ (by first|exact Nat.le_refl _|(simp only[length_set,length_append];omega)|omega)
    all_goals simp only[resA.eq_1,resL.eq_1,resL.eq_2,resV.eq_1,resV.eq_2,↓wBA,tDv,convA,seval,wH,p2,z5,z6]
    exact⟨U2,P2,v2,T2,.ms tn 4 0 (its1 t).length,Fr.setY (Fr.setY fSR (show σ.length≤S1.length by omega) _) (show σ.length≤σ.length+2 by omega) _,(hB2.set (nU2 _ (by omega) nY1) _).set (nU2 _ (by omega) n2) _,k02,rfl,rfl,.inl ⟨fun hm=>hnm (hmemIff.1 hm),rfl,ev2,eT2⟩⟩
   ·skip
    simp only[↓wBA,tDv,convA,seval,wH,c0,c2,cN,cn,cy,p0,p2,pN,pn,py,z1,z2,z3,z4,z5,z6]
    simp only[length_append,length_cons,length_nil]at hty1
    have wty:=at_lt hty
    obtain⟨ny,hny⟩:∃ ny,ny=S1.length:=⟨_,rfl⟩
    obtain⟨Q,hQ⟩:∃ Q,Q=s2.set S1.length (some (Ob.row 2 [[AV.p (.v (.int .i64 (kdT h:Nat))),AV.ms ty 4 0 (itsT h s').length]])):=⟨_,rfl⟩
    have hQg:∀ j,j≠S1.length→Q[j]? =s2[j]? :=fun j hj=>by rw[hQ,getElem?_set_ne (fun e=>hj e.symm)]
    have hyQ:Q[ny]? =some (some (Ob.row 2 [[AV.p (.v (.int .i64 (kdT h:Nat))),AV.ms ty 4 0 (itsT h s').length]])):=by rw[hQ,hny,getElem?_set_self py]
    have hBQ:Bt Q b p dd l kh U2 P2 v2:=by rw[hQ];exact hB2.set (nU2 _ (by omega) nY1) _
    have fQ:Fr σ Q U U2:=by rw[hQ];exact Fr.setY fSR (show σ.length≤S1.length by omega) _
    simp only[hQ.symm]
    simp only[hny.symm]
    rw[k1.pages]at hDW
    exact key Q ny ty U2 P2 v2 T2 s' ⟨fQ,hBQ,k02,(hQg _ (by omega)).trans c0,(hQg _ (by omega)).trans c2,(hQg _ (by omega)).trans cN,(hQg _ (by omega)).trans cn,hyQ,(hQg _ (by omega)).trans hty,nU2 _ (by omega) n0,nU2 _ (by omega) n2,nU2 _ (by omega) nN,nU2 _ (by omega) htnU,fun e=>nU2 _ (by omega) nY1 (hny▸e),htyU,by omega,by omega,by omega,by omega,by omega,by omega,by omega,hmm,hRR,hTr',hDW⟩
 case tail=>
  rintro S ny ty U2 P2 v2 T2 s' ⟨fS2,hB2,k2,g0,gr,gx,gtn,gy,gty,m0,mr,mx,mn,my,mty,q2,q3,q4,q5,q6,q7,q8,hmm,hRR,hTr',hDW⟩
  have hndl:(n::flP (l1++x::l2)).Nodup:=hnd
  have htkl:∀ q∈n::flP (l1++x::l2),1≤q∧q<P.pages∧T q=true:=htk
  have hsl:=fS2.len
  have u0:=at_lt g0
  have ur:=at_lt gr
  have ux:=at_lt gx
  have utn:=at_lt gtn
  have uy:=at_lt gy
  obtain⟨nx,hnx⟩:∃ nx,nx=s1.length:=⟨_,rfl⟩
  simp only[hnx.symm]at gx mx q2 q5 q6 ux ⊢
  have hlt2:=hB2.lt
  have x11:(nx=ny)=False:=eq_false q6
  have x12:(ny=nx)=False:=eq_false q6.symm
  have x13:(nx=σ.length)=False:=eq_false (by omega)
  have x14:(σ.length=nx)=False:=eq_false (by omega)
  have x15:(nx=σ.length+2)=False:=eq_false (by omega)
  have x16:(σ.length+2=nx)=False:=eq_false (by omega)
  have x17:(nx=tn)=False:=eq_false q5
  have x18:(tn=nx)=False:=eq_false q5.symm
  have hpx:=htkl x.2.1 (by rw[flP_app,flP_cons];simp[pgT_root])
  have hT2x:T2 x.2.1=true:=by rw[hDW.tk,if_pos (pgT_root _ _ _),decide_eq_true (pgT_root _ _ _)]
  have hsub2:T2 x.2.1=true∧P2.pages=P.pages:=⟨hT2x,k2.pages⟩
  by_cases hnil:nilT h s'
  case' pos=>
   have hdec:decide (((itsT h s').length:Int)>0)=false:=by rw[nil_its hnil];rfl
   rw[hdec]
   simp only[↓wBA,tDv,convA,seval,wH,g0,gr,gx,gtn,u0,ur,ux,utn,x5,x6,x11,x12,x13,x14,x15,x16,x17,x18,hgi,hif,hi0,itC]
   have hFr:=abFree (n:=x.2.1) (T:=T2) hB2 (by rw[k2.pages];exact hDW.tkk) (by rw[k2.pages];exact hnp) hpx.1 (by rw[k2.pages];exact hpx.2.1) hT2x (hb.kp k2 (by omega))
   repeat' first|((with_reducible first|apply cs|apply ws|apply wd|apply wu)<;>intro h<;>try simp only[h])|simp only[↓wBA,tDv,convA,seval,pl47_9Dv,pl47_11Dv,pl47_18Dv,pl47_22Dv,wH,g0,gr,gx,gtn,u0,ur,ux,utn,x5,x6,x11,x12,x13,x14,x15,x16,x17,x18,hgi,hif,hi0,itC]|(with_reducible first|refine dQ pl47_9Dv 7 (some 44) ?_|refine dQ pl47_11Dv 15 (some 53) ?_|refine dQ pl47_18Dv 10 (some 94) ?_|refine dQ pl47_22Dv 7 (some 114) ?_)|with_reducible refine And.intro ?_ ?_
   refine hFr.mono ?_
   rintro _ s3 ⟨rfl,U9,P9,v9,f3,hB3,k3,hv3,hT3⟩
   have l3:=f3.len
   have nU3:∀ j,j<S.length→¬ U2 j→¬ U9 j:=fun j hj hn e=>(f3.own j e).elim hn fun e=>by omega
   have c0:=f3.get g0 m0
   have cr:=f3.get gr mr
   have cx':=f3.get gx mx
   have cn:=f3.get gtn mn
   have o0:=at_lt c0
   have or:=at_lt cr
   have ox:=at_lt cx'
   have on:=at_lt cn
   have hdl:=adel (i:=i) (by omega) (by omega) cn
   simp only[intV]at hdl
   repeat' first|((with_reducible first|apply cs|apply ws|apply wd|apply wu)<;>intro h<;>try simp only[h])|simp only[↓wBA,tDv,convA,seval,pl47_9Dv,pl47_11Dv,pl47_18Dv,pl47_22Dv,wH,hiw,c0,cr,cx',cn,o0,or,ox,on,x5,x6,x11,x12,x13,x14,x15,x16,x17,x18]|(with_reducible first|refine dQ pl47_9Dv 7 (some 44) ?_|refine dQ pl47_11Dv 15 (some 53) ?_|refine dQ pl47_18Dv 10 (some 94) ?_|refine dQ pl47_22Dv 7 (some 114) ?_)|with_reducible refine And.intro ?_ ?_
   refine hdl.mono ?_
   rintro _ s4 ⟨rfl,rfl⟩
   obtain⟨l9,hl9⟩:∃ l9:NL h,l9=l1++l2:=⟨_,rfl⟩
   obtain⟨T9,hT9⟩:∃ T9,T9=fun m=>if m=x.2.1 then false else T2 m:=⟨_,rfl⟩
   have e3:(its1 t).take i++(its1 t).drop (i+1)=its1 l9:=by
    rw[hl9,ht,←hpl1];simp[its1,List.take_append,List.drop_append]
   have e4:(its1 t).length - 1=(its1 l9).length:=by rw[hl9,ht];simp[its1]
   rw[e3,e4]
   simp only[↓wBA,tDv,convA,seval,wH,hiw,c0,cr,cx',cn,o0,or,ox,on,x5,x6,x11,x12,x13,x14,x15,x16,x17,x18]
   obtain⟨hK,hL⟩:=Kids.del hTr hNe hndl htkl hnil hDW hv3 (by rw[k2.pages]at hT3;exact hT3)
   rw[← hl9,←hT9]at hK hL
   have hRem:RemR (h+1) (l1++x::l2:NL h) e l9:=⟨l1,x,l2,s',rfl,hRR,.inl ⟨hnil,hl9⟩⟩
   obtain⟨t9,ht3⟩:∃ t9,t9=s3.length:=⟨_,rfl⟩
   obtain⟨S3,hS3⟩:∃ S3,S3=(s3.set tn none).set nx (some (Ob.row 2 [[AV.p (.v (.int .i64 3)),AV.ms t9 4 0 (its1 l9).length]]))++[some (.row 4 ((its1 l9).map itC))]:=⟨_,rfl⟩
   have hS3l:S3.length=s3.length+1:=by rw[hS3];simp
   have hSg:∀ j,j<s3.length→j≠nx→j≠tn→S3[j]? =s3[j]? :=fun j h1 h2 h3=>by rw[hS3,List.getElem?_append_left (by simpa using h1),getElem?_set_ne (fun e=>h2 e.symm),getElem?_set_ne (fun e=>h3 e.symm)]
   have hB3n:∀ j,U9 j→j<s3.length:=hB3.lt
   have hRB:RB σ S3 b p dd l kh nx t9 n e h (l1++x::l2) l9 U U9 P P9 v v9 T T9:=⟨by rw[hS3];exact (Fr.setY (Fr.setY (fS2.trans f3) (show σ.length≤tn by omega) _) (show σ.length≤nx by omega) _).app _,by rw[hS3];exact ((hB3.set (nU3 _ utn mn) _).set (nU3 _ ux mx) _).ap (Ap.app _ _),k2.trans k3,(hSg _ o0 (by omega) (by omega)).trans c0,(hSg _ or (by omega) (by omega)).trans cr,by rw[hS3,List.getElem?_append_left (by simpa using ox),getElem?_set_self (by simpa using ox)],by rw[hS3,ht3,List.getElem?_append_right (by simp)];simp,nU3 _ u0 m0,nU3 _ ur mr,nU3 _ ux mx,fun e=>by have:=hB3n _ e;omega,q2,by omega,by omega,hRem,hK,hL⟩
   simp only[ht3.symm]
   simp only[hS3.symm]
   skip
  case' neg=>
   have hdec:decide (((itsT h s').length:Int)>0)=true:=by have:=List.length_pos_iff.2 (its_ne hnil);simp;omega
   rw[hdec]
   have hmx:(if (0:Int)>IntKind.i64.wrap ((i:Int) - 1)then (0:Int)else IntKind.i64.wrap ((i:Int) - 1))=((i - 1:Nat):Int):=by rw[wrap_i64 (by omega) (by omega)];split<;>omega
   obtain⟨hK,hL⟩:=Kids.rem hTr hNe hndl htkl hTr' hnil (rem_ne (hNe x (by simp)).2 hRR) hDW
   obtain⟨ll,hll⟩:∃ ll:NL h,ll=l1++(x.1,x.2.1,s')::l2:=⟨_,rfl⟩
   have e1:its1 ll=its1 t:=by rw[hll,ht];simp[its1]
   rw[← hll]at hK hL
   have hJ:=ajoinT (ll:=ll) (i:=i - 1) (n:=n) (T:=T2) hB2 (by rw[k2.pages];exact hDW.tkk) (by rw[k2.pages];exact hnp) (hb.kp k2 (by omega)) (by rw[e1];exact gtn) mn (by rw[k2.pages];exact hK) (by rw[← its1_len,e1];omega)
   rw[e1,k2.pages]at hJ
   simp only[intV]at hJ
   simp only[↓wBA,tDv,convA,seval,wH,g0,gr,gx,gtn,u0,ur,ux,utn,x5,x6,x11,x12,x13,x14,x15,x16,x17,x18,hmx]
   refine hJ.mono ?_
   rintro _ s3 ⟨U3,P3,v3,T3,ll3,t3,f3,hB3,k3,hj3,rfl,ht3,ht3',ht3U,hk3,hD3⟩
   have l3:=f3.len
   have nU3:∀ j,j<S.length→¬ U2 j→j≠tn→¬ U3 j:=fun j hj hn hne e=>(f3.own j e).elim (fun e=>e.elim hn hne) fun e=>by omega
   have c0:=f3.get g0 (fun e=>e.elim m0 (by omega))
   have cr:=f3.get gr (fun e=>e.elim mr (by omega))
   have cx':=f3.get gx (fun e=>e.elim mx q5)
   have o0:=at_lt c0
   have or:=at_lt cr
   have ox:=at_lt cx'
   have ot:=at_lt ht3
   have ht30:σ.length+3≤t3:=by rcases ht3' with rfl|h<;>omega
   have hxt3:nx≠t3:=by rcases ht3' with rfl|h<;>omega
   have f03:=fS2.take (by omega) f3
   have k03:=k2.trans k3
   have hL3:=hL.trans hD3
   rcases Nat.eq_zero_or_pos i with hi0'|hipos
   case' inl=>
    have hd0:decide ((i:Int)>0)=false:=by simp;omega
    simp only[↓wBA,tDv,convA,seval,wH,c0,cr,cx',o0,or,ox,x5,x6,x11,x12,x13,x14,x15,x16,x17,x18,hd0]
    have hRem:RemR (h+1) (l1++x::l2:NL h) e ll3:=⟨l1,x,l2,s',rfl,hRR,.inr ⟨hnil,ll3,by rw[← hll];exact hj3,.inl rfl⟩⟩
    obtain⟨S3,hS3⟩:∃ S3,S3=s3.set nx (some (Ob.row 2 [[AV.p (.v (.int .i64 3)),AV.ms t3 4 0 (its1 ll3).length]])):=⟨_,rfl⟩
    have hSg:∀ j,j≠nx→S3[j]? =s3[j]? :=fun j hj=>by rw[hS3,getElem?_set_ne (fun e=>hj e.symm)]
    have hRB:RB σ S3 b p dd l kh nx t3 n e h (l1++x::l2) ll3 U U3 P P3 v v3 T T3:=⟨by rw[hS3];exact Fr.setY f03 (by omega) _,by rw[hS3];exact hB3.set (nU3 _ ux mx q5) _,k03,(hSg _ (by omega)).trans c0,(hSg _ (by omega)).trans cr,by rw[hS3,getElem?_set_self ox],(hSg _ (by omega)).trans ht3,nU3 _ u0 m0 (by omega),nU3 _ ur mr (by omega),nU3 _ ux mx q5,ht3U,q2,ht30,hxt3,hRem,hk3,hL3⟩
    simp only[hS3.symm]
    obtain⟨t9,ht9⟩:∃ a,a=t3:=⟨_,rfl⟩
    subst ht9
    obtain⟨l9,hl9⟩:∃ a,a=ll3:=⟨_,rfl⟩
    subst hl9
    obtain⟨U9,hU9⟩:∃ a,a=U3:=⟨_,rfl⟩
    subst hU9
    obtain⟨P9,hP9⟩:∃ a,a=P3:=⟨_,rfl⟩
    subst hP9
    obtain⟨v9,hv9⟩:∃ a,a=v3:=⟨_,rfl⟩
    subst hv9
    obtain⟨T9,hT9⟩:∃ a,a=T3:=⟨_,rfl⟩
    subst hT9
    skip
   case' inr=>
    have hd0:decide ((i:Int)>0)=true:=by simp;omega
    simp only[↓wBA,tDv,convA,seval,wH,c0,cr,cx',o0,or,ox,x5,x6,x11,x12,x13,x14,x15,x16,x17,x18,hd0]
    have hJ2:=ajoinT (ll:=ll3) (i:=i) (n:=n) (T:=T3) (hB3.set (nU3 _ ux mx q5) (some (Ob.row 2 [[AV.p (.v (.int .i64 3)),AV.ms t3 4 0 (its1 ll3).length]]))) (by rw[k3.pages,k2.pages];exact hD3.tkk) (by rw[k3.pages,k2.pages];exact hnp) (hb.kp k03 (by omega)) (by rw[getElem?_set_ne (by omega)];exact ht3) ht3U (by rw[k3.pages,k2.pages];exact hk3) (by have:=hj3.len;rw[← its1_len ll,e1]at this;omega)
    rw[k3.pages,k2.pages]at hJ2
    simp only[intV]at hJ2
    refine hJ2.mono ?_
    rintro _ s4 ⟨U9,P9,v9,T9,l9,t9,f4,hB4,k4,hj4,rfl,ht4,ht4',ht4U,hk4,hD4⟩
    have l4:=f4.len
    simp only[length_set]at l4 ht4'
    have nU4:∀ j,j<s3.length→¬ U3 j→j≠t3→¬ U9 j:=fun j hj hn hne e=>(f4.own j e).elim (fun e=>e.elim hn hne) fun e=>by simp at e;omega
    have d0:=f4.get ((getElem?_set_ne (by omega)).trans c0) (fun e=>e.elim (nU3 _ u0 m0 (by omega)) (by omega))
    have dr:=f4.get ((getElem?_set_ne (by omega)).trans cr) (fun e=>e.elim (nU3 _ ur mr (by omega)) (by omega))
    have dx:=f4.get (getElem?_set_self ox) (fun e=>e.elim (nU3 _ ux mx q5) hxt3)
    have i0:=at_lt d0
    have ir:=at_lt dr
    have ix:=at_lt dx
    have it:=at_lt ht4
    have ht40:σ.length+3≤t9:=by rcases ht4' with rfl|h<;>omega
    have hxt4:nx≠t9:=by rcases ht4' with rfl|h<;>omega
    have f04:=(Fr.setY f03 (show σ.length≤nx by omega) (some (Ob.row 2 [[AV.p (.v (.int .i64 3)),AV.ms t3 4 0 (its1 ll3).length]]))).take (by omega) f4
    have k04:=k03.trans k4
    have hL4:=hL3.trans hD4
    simp only[↓wBA,tDv,convA,seval,wH,d0,dr,dx,i0,ir,ix,x5,x6,x11,x12,x13,x14,x15,x16,x17,x18,hd0]
    have hRem:RemR (h+1) (l1++x::l2:NL h) e l9:=⟨l1,x,l2,s',rfl,hRR,.inr ⟨hnil,ll3,by rw[← hll];exact hj3,hj4⟩⟩
    obtain⟨S3,hS3⟩:∃ S3,S3=s4.set nx (some (Ob.row 2 [[AV.p (.v (.int .i64 3)),AV.ms t9 4 0 (its1 l9).length]])):=⟨_,rfl⟩
    have hSg:∀ j,j≠nx→S3[j]? =s4[j]? :=fun j hj=>by rw[hS3,getElem?_set_ne (fun e=>hj e.symm)]
    have hRB:RB σ S3 b p dd l kh nx t9 n e h (l1++x::l2) l9 U U9 P P9 v v9 T T9:=⟨by rw[hS3];exact Fr.setY f04 (by omega) _,by rw[hS3];exact hB4.set (nU4 _ ox (nU3 _ ux mx q5) hxt3) _,k04,(hSg _ (by omega)).trans d0,(hSg _ (by omega)).trans dr,by rw[hS3,getElem?_set_self ix],(hSg _ (by omega)).trans ht4,nU4 _ o0 (nU3 _ u0 m0 (by omega)) (by omega),nU4 _ or (nU3 _ ur mr (by omega)) (by omega),nU4 _ ox (nU3 _ ux mx q5) hxt3,ht4U,q2,ht40,hxt4,hRem,hk4,hL4⟩
    simp only[hS3.symm]
    skip
  all_goals
   obtain⟨fE,hBE,kE,e0,er,ex,et,n0E,nrE,nxE,ntE,qE1,qE2,qE3,hRemE,hKE,hLE⟩:=hRB
   have j0:=at_lt e0
   have jr:=at_lt er
   have jx:=at_lt ex
   have jt:=at_lt et
   repeat' first|((with_reducible first|apply cs|apply ws|apply wd|apply wu)<;>intro h<;>try simp only[h])|simp only[↓wBA,tDv,convA,seval,pl47_9Dv,pl47_11Dv,pl47_18Dv,pl47_22Dv,wH,c3y,e0,er,ex,j0,jr,jx,x13,x14,x15,x16]|(with_reducible first|refine dQ pl47_9Dv 7 (some 44) ?_|refine dQ pl47_11Dv 15 (some 53) ?_|refine dQ pl47_18Dv 10 (some 94) ?_|refine dQ pl47_22Dv 7 (some 114) ?_)|with_reducible refine And.intro ?_ ?_
   have hW:=atWrite (n:=n) (a:=.ms t9 4 0 (its1 l9).length) (kd:=3) ((hBE.set nxE none).set n0E none) hn.1 (by rw[kE.pages];exact hn.2.1) (.inl ⟨t9,0,rfl,_,by rw[getElem?_set_ne (by omega),getElem?_set_ne (by omega)];exact et,by simp,fun j x hj=>by simp[hj]⟩) (.inr rfl) hKE.ok hKE.sz
   simp only[intV,c3y]at hW
   refine hW.mono ?_
   rintro _ s6 ⟨rfl,U6,f6,hB6⟩
   have l6:=f6.len
   simp only[length_set]at l6
   have w0:σ.length<s6.length:=by omega
   have wx:nx<s6.length:=by omega
   have wr:σ.length+2<s6.length:=by omega
   have nU6:∀ j,j<S3.length→¬ U9 j→¬ U6 j:=fun j hj hn e=>(f6.own j e).elim hn fun e=>by simp at e;omega
   have er6:s6[σ.length+2]? =some (some (Ob.row 2 [[intV .i64 0,.p (.v (.slice none 0 0))]])):=by rw[f6.keep _ (by simpa using jr) nrE,getElem?_set_ne (by omega),getElem?_set_ne (by omega)];exact er
   repeat' first|((with_reducible first|apply cs|apply ws|apply wd|apply wu)<;>intro h<;>try simp only[h])|simp only[↓wBA,tDv,convA,seval,pl47_9Dv,pl47_11Dv,pl47_18Dv,pl47_22Dv,wH,e0,ex,j0,jx,w0,wx,wr,er6,x13,x14,x15,x16]|(with_reducible first|refine dQ pl47_9Dv 7 (some 44) ?_|refine dQ pl47_11Dv 15 (some 53) ?_|refine dQ pl47_18Dv 10 (some 94) ?_|refine dQ pl47_22Dv 7 (some 114) ?_)|with_reducible refine And.intro ?_ ?_
   all_goals refine ret_st ?_ (by first|exact Nat.le_refl _|(simp only[length_set,length_append];omega)|omega)
   all_goals simp only[resA.eq_1,resL.eq_1,resL.eq_2,resV.eq_1,resV.eq_2,↓wBA,tDv,convA,seval,wH,w0,wx,wr]
   obtain⟨R0,hR0⟩:∃ R0,R0=((s6.set nx none).set σ.length (some (Ob.row 1 [[AV.mp b 2 0 0]]))).set nx (some (Ob.row 2 [[AV.p (.v (.int .i64 3)),AV.ms t9 4 0 (its1 l9).length]])):=⟨_,rfl⟩
   have hR0l:R0.length=s6.length:=by rw[hR0];simp
   have hR0g:∀ j,j≠nx→j≠σ.length→R0[j]? =s6[j]? :=fun j g1 g2=>by rw[hR0,getElem?_set_ne (fun e=>g1 e.symm),getElem?_set_ne (fun e=>g2 e.symm),getElem?_set_ne (fun e=>g1 e.symm)]
   have fR:Fr S3 R0 U9 U6:=frG (L:=[nx,σ.length]) f6 (by simp) (fun j hj=>by
    simp only[mem_cons,not_mem_nil,or_false,not_or]at hj
    rw[getElem?_set_ne (fun e=>hj.2 e.symm),getElem?_set_ne (fun e=>hj.1 e.symm)]) (by omega) (fun j hj=>by
    simp only[mem_cons,not_mem_nil,or_false]at hj
    rcases hj with rfl|rfl
    ·rw[ex,hR0,getElem?_set_self (by simpa using wx)]
    ·rw[e0,hR0,getElem?_set_ne (by omega),getElem?_set_self (by simpa using w0)]) fun j _ hj=>by
    simp only[mem_cons,not_mem_nil,or_false,not_or]at hj
    exact hR0g j hj.1 hj.2
   have hBR:Bt R0 b p dd l kh U6 P9 (upV v9 n (fitF 3 (its1 l9)).1):=by rw[hR0];exact ((hB6.set (nU6 _ jx nxE) _).set (nU6 _ j0 n0E) _).set (nU6 _ jx nxE) _
   rw[← hR0]
   obtain⟨hTrE,hDE⟩:=Kids.tree (T:=T) (v:=v) (l:=l1++x::l2) (v4:=upV v9 n (fitF 3 (its1 l9)).1) hKE hLE (by unfold upV;rw[if_pos rfl]) (fun q hq=>by unfold upV;rw[if_neg hq])
   refine⟨U6,P9,_,T9,.ms t9 4 0 (its1 l9).length,Fr.setY (fE.trans fR) (by omega) _,hBR.set (nU6 _ jr nrE) _,kE,rfl,rfl,.inr ⟨l9,t9,hmemIff.2 hmm,hRemE,rfl,rfl,?_,by omega,nU6 _ jt ntE,hTrE,hDE⟩⟩
   rw[getElem?_set_ne (by omega),hR0g _ (by omega) (by omega),f6.keep _ (by simpa using jt) ntE,getElem?_set_ne (by omega),getElem?_set_ne (by omega)]
   exact et
end
structure RootD (v:Nat→List UInt8)(T:Nat→Bool)(np root h:Nat)(t:BTr h):Prop where
 tr:TrAt v h root t
 nd:(pgT h root t).Nodup
 tk:∀ q∈pgT h root t,1≤q∧q<np∧T q=true
 ok:¬ nilT h t→OkD h zeroE none t
 ne:NeT h t
theorem move_tr {h:Nat}{v v':Nat→List UInt8}{n m:Nat}{t:BTr h}(ht:TrAt v h m t)(hN:NodeP (v' n) (kdT h) (itsT h t))(hv:∀ q∈pgC h t,v' q=v q):TrAt v' h n t:=by
 cases h with
 |zero=>exact hN
 |succ h=>exact⟨hN,fun x hx=>(ht.2 x hx).congr fun q hq=>hv q (mem_flatMap.2 ⟨x,hx,hq⟩)⟩
theorem kdT_or (h:Nat):kdT h=2∨kdT h=3:=by cases h<;>simp[kdT]
section
variable {v v':Nat→List UInt8} {T:Nat→Bool} {np root h:Nat}
theorem RootD.lower {x:Ent×Nat×BTr h}(hR:RootD v T np root (h+1) ([x]:NL h))(h1:v' root=(fitF (kdT h) (itsT h x.2.2)).1)(h2:∀ q,q≠root→q≠0→v' q=v q):RootD v' (fun m=>if m=x.2.1 then false else T m) np root h x.2.2:=by
 have hp:pgT (h+1) root ([x]:NL h)=root::x.2.1::pgC h x.2.2:=by rw[pgT_node,flP_cons,pgT_C];simp[flP]
 have hnd:=hR.nd
 have htk:=hR.tk
 rw[hp]at hnd htk
 have hn1:=nodup_cons.1 hnd
 have hn2:=nodup_cons.1 hn1.2
 have hx:TrAt v h x.2.1 x.2.2:=hR.tr.2 x (by simp)
 refine⟨move_tr hx (by rw[h1];exact (fit_yes (kdT_or h) hx.node.ok hx.node.sz).2) fun q hq=>h2 q (fun e=>hn1.1 (by rw[← e];simp[hq])) (fun e=>by have:=(htk q (by simp[hq])).1;omega),?_,fun q hq=> ?_,fun _=> ?_,(hR.ne x (by simp)).2⟩
 ·rw[pgT_C];exact nodup_cons.2 ⟨fun e=>hn1.1 (by simp[e]),hn2.2⟩
 ·rw[pgT_C]at hq
  have hq1:q∈root::x.2.1::pgC h x.2.2:=by rcases mem_cons.1 hq with h|h<;>simp[h]
  have hqx:q≠x.2.1:=fun e=>by
   rcases mem_cons.1 hq with h|h
   ·exact hn1.1 (by rw[← h,e];simp)
   ·exact hn2.1 (e▸h)
  rw[if_neg hqx]
  exact htk q hq1
 ·exact (hR.ok (fun e=>by have e:([x]:NL h)=[]:=e;simp at e)).2.2.2
theorem low_ents (x:Ent×Nat×BTr h):entsT (h+1) ([x]:NL h)=entsT h x.2.2:=by
 show List.flatMap (fun x:Ent×Nat×BTr h=>entsT h x.2.2) [x]=_
 simp
theorem RootD.empt (hR:RootD v T np root (h+1) ([]:NL h))(h1:v' root=(fitF 2 []).1):RootD v' T np root 0 ([]:List Ent):=by
 have hp:pgT 0 root ([]:List Ent)=[root]:=rfl
 refine⟨?_,by rw[hp];simp,fun q hq=> ?_,fun e=>absurd rfl e,trivial⟩
 ·show NodeP (v' root) 2 []
  rw[h1];exact (fit_yes (.inl rfl) (fun x hx=>by simp at hx) (by simp[szL])).2
 ·rw[hp]at hq
  have:=List.mem_singleton.1 hq
  subst this
  exact hR.tk q (pgT_root _ _ _)
theorem OkD.nil {lo:Ent}{hi:Option Ent}:OkD 0 lo hi ([]:List Ent):=⟨List.Pairwise.nil,fun e he=>by simp at he⟩
theorem RootD.ok0 {t:BTr 0}(hR:RootD v T np root 0 t):OkD 0 zeroE none t:=by
 by_cases hn:nilT 0 t
 ·have hn:t=([]:List Ent):=hn
  rw[hn];exact OkD.nil
 ·exact hR.ok hn
def LowR (h0:Nat)(t0:BTr h0)(root:Nat)(σ:St)(b p dd l kh:Nat)(U:Nat→Prop)(P:PoolV)(σ':St):Prop:=
 ∃ U' P' v' T' h' t',Fr σ σ' U U'∧Bt σ' b p dd l kh U' P' v'∧Kp P P' 0∧Tk (v' 0) P.pages T'∧RootD v' T' P.pages root h' t'∧OkD h' zeroE none t'∧entsT h' t'=entsT h0 t0
end
end Go.Proofs.YtockimhceppkbaaGreat
