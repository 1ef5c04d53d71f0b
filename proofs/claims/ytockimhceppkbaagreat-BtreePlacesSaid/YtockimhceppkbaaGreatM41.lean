/- Trees: Delete. Trees: Delete. Trees, plain: how many pages there are: levels. Trees, plain: how many pages there are: what each level leaves out. Trees, plain: how many pages there are: two levels can't both be tight for long. Trees, plain: how many pages there are: at most 599 behind 61 insertions. Loops: the ways out told together. BtreePages. Trees by insertions have no empty pages. Trees: entries from a key on, in memory of one's own: leaves. -/
import Derived.Test.YtockimhceppkbaaGreatM40
import Derived.Test.YtockimhceppkbaaGreatM35
import Derived.Test.YtockimhceppkbaaGreatM18
import Derived.Test.YtockimhceppkbaaGreatM38
import Derived.Test.YtockimhceppkbaaGreatM37
set_option linter.unusedSimpArgs false
set_option linter.unusedVariables false
set_option linter.defProp false
set_option maxRecDepth 100000
set_option maxHeartbeats 32000000
namespace Go.Proofs.YtockimhceppkbaaGreat
open Go.RowKit
open List (flatMap_cons length_append length_cons length_set mem_append mem_cons mem_flatMap mem_map mem_of_mem_drop mem_of_mem_take nil_append)
def tDy:=aa wX <| aa wbu <| aa T3 <| aa T25 <| aa T30 <| aa T86 <| aa T90 <| aa T92 T97
section
variable {b p dd l kh:Nat} {e:Ent}
theorem atRem (h:Nat):∀ {σ:St} {U:Nat→Prop} {P:PoolV} {v:Nat→List UInt8} {T:Nat→Bool} {n:Nat} {t:BTr h} {lo:Ent} {hi:Option Ent},Bt σ b p dd l kh U P v→Tk (v 0) P.pages T→P.pages≤3200→Bud P 1→TrAt v h n t→(pgT h n t).Nodup→(∀ q∈pgT h n t,1≤q∧q<P.pages∧T q=true)→OkD h lo hi t→NeT h t→leE lo e→ltO e hi→
 ACalls Tryz.prog 47 [.agg [.mp b 2 0 0],intV .i64 (n:Nat),entA e] σ fun r σ'=>RemPost h n t e σ b p dd l kh U P v T r σ':=by
 induction h with
 |zero=>
  intro σ U P v T n t lo hi hB hT hnp hb hTr hnd htk hOk hNe h1 h2
  exact atRemLeaf hB hT hb hTr (htk n (pgT_root _ _ _)) hOk.1 hnp
 |succ h ih=>
  intro σ U P v T n t lo hi hB hT hnp hb hTr hnd htk hOk hNe h1 h2
  exact atRemNode hB hT hnp hb hTr hnd htk hOk hNe h1 h2 ih
end
section
variable {σ:St} {b p dd l kh root:Nat} {U:Nat→Prop} {P:PoolV} {v:Nat→List UInt8} {T:Nat→Bool}
theorem atLower {h0:Nat}{t0:BTr h0}(hB:Bt σ b p dd l kh U P v)(hT:Tk (v 0) P.pages T)(hnp:P.pages≤3200)(hb:Bud P 1)(hR:RootD v T P.pages root h0 t0):
 ACalls Tryz.prog 48 [.agg [.mp b 2 0 0],intV .i64 (root:Nat)] σ fun r σ'=>r=intV .i64 0∧LowR h0 t0 root σ b p dd l kh U P σ':=by
 have hlt:=hB.lt
 have hn:=hR.tk root (pgT_root _ _ _)
 refine acalls_of cx_ok dr_ok Tryz.func48 (by kernel_rfl) rfl (nt:=65) (rs:=[.tmp 4]) rfl rfl ?_
 repeat' first|((with_reducible first|apply cs|apply ws)<;>intro h<;>try simp only[h])|simp only[↓wBA,tDy,convA,seval,wH]
 obtain⟨S0,hS0⟩:∃ S0,S0=σ++[some (Ob.row 1 [[AV.mp b 2 0 0]])]:=⟨_,rfl⟩
 have a0:Ap σ S0:=⟨_,hS0⟩
 have hS0l:S0.length=σ.length+1:=by rw[hS0];simp
 have b0:S0[σ.length]? =some (some (Ob.row 1 [[AV.mp b 2 0 0]])):=by rw[hS0];simp
 have n0:¬ U σ.length:=fun e=>by have:=hlt _ e;omega
 have y0:=at_lt b0
 simp only[hS0.symm]
 refine awp_loopS (X:={ k:Nat // k≤h0 }) (fun k=>k.1) (fun k=>[(2,.mp σ.length 1 0 0)]) [4,5,6,7,8,9,10,11,12,13,14,15,16,17,18,19,20,21,22,23,24,25,26,27,28,29,30,31,32,33,34,35,36,37,38,39,40,41,42,43,44,45,46,47,48,49,50,51,52,53,54,55,56,57,58,59,60,61,62,63,64,65,66] (fun k s=>∃ U' P' v' T' t',Fr S0 s U U'∧Bt s b p dd l kh U' P' v'∧Kp P P' 0∧Tk (v' 0) P.pages T'∧RootD v' T' P.pages root k.1 t'∧entsT k.1 t'=entsT h0 t0) (⟨h0,Nat.le_refl _⟩) ?_ ?_ ?_ ?_
 ·simp only[wHl,wHf]
 ·exact⟨U,P,v,T,t0,Fr.refl _ _,hB.ap a0,Kp.refl P _,hT,hR,rfl⟩
 ·rintro _ _ ⟨_,_,_,_,_,h,_⟩;exact h.len
 ·intro y J s hI
  simp only[wHl]
  obtain⟨k,hk⟩:=y
  obtain⟨U1,P1,v1,T1,t,f1,hB1,k1,hT1,hR1,hE1⟩:=hI
  dsimp only at*
  have hnU:¬ U1 σ.length:=fun e=>(f1.own _ e).elim n0 fun e=>by omega
  have c0:=f1.get b0 n0
  have z0:=at_lt c0
  have hlt1:=hB1.lt
  have hl1:=f1.len
  cases k with
  |zero=>
   have hN:NodeP (v1 root) 2 (its0 t):=hR1.tr
   repeat' first|((with_reducible first|apply cs|apply ws)<;>intro h<;>try simp only[h])|simp only[↓wBA,tDy,convA,seval,wH,wHl,c0,z0]
   refine (atRead hB1 (by rw[k1.pages];exact hn.2.1) hN (hb.kp k1 (by omega))).mono ?_
   rintro _ s1 ⟨U2,P2,a,rfl,f2,hB2,k2,ha,hta⟩
   have hl2:=f2.len
   have hlf:=ha.x.leaf
   have hcc:=ha.x.cells
   obtain⟨S1,hS1⟩:∃ S1,S1=s1++[some (Ob.row 2 [[AV.p (.v (.int .i64 2)),a]])]:=⟨_,rfl⟩
   have aS:Ap s1 S1:=⟨_,hS1⟩
   have bN:S1[s1.length]? =some (some (Ob.row 2 [[AV.p (.v (.int .i64 2)),a]])):=by rw[hS1];simp
   have yN:=at_lt bN
   have hS1l:S1.length=s1.length+1:=by rw[hS1];simp
   simp only[↓wBA,tDy,convA,seval,wH,c2y,hlf,hcc,hS1.symm,bN,yN]
   all_goals refine ret_st ?_ (by first|exact Nat.le_refl _|(simp only[length_set,length_append];omega)|omega)
   all_goals simp only[resA.eq_1,resL.eq_1,resL.eq_2,resV.eq_1,resV.eq_2,↓wBA,tDy,convA,seval,wH]
   exact⟨U2,P2,v1,T1,0,t,((a0.fr.trans f1).trans f2).trans aS.fr,hB2.ap aS,k1.trans k2,hT1,hR1,hR1.ok0,hE1⟩
  |succ k=>
   have hN:NodeP (v1 root) 3 (its1 t):=hR1.tr.1
   obtain⟨tl,htl⟩:∃ tl:NL k,tl=t:=⟨_,rfl⟩
   subst htl
   have hkm:∀ t,lenA cx 90 (.ms t 4 0 (its1 tl).length)=some (its1 tl).length:=fun _=>km_90
   repeat' first|((with_reducible first|apply cs|apply ws)<;>intro h<;>try simp only[h])|simp only[↓wBA,tDy,convA,seval,wH,wHl,c0,z0]
   refine (atRead hB1 (by rw[k1.pages];exact hn.2.1) hN (hb.kp k1 (by omega))).mono ?_
   rintro _ s1 ⟨U2,P2,a,rfl,f2,hB2,k2,ha,hta⟩
   have hl2:=f2.len
   have hlf:=ha.x.leaf
   have hcc:=ha.x.cells
   obtain⟨S1,hS1⟩:∃ S1,S1=s1++[some (Ob.row 2 [[AV.p (.v (.int .i64 3)),a]])]:=⟨_,rfl⟩
   have aS:Ap s1 S1:=⟨_,hS1⟩
   have hS1l:S1.length=s1.length+1:=by rw[hS1];simp
   have bN:S1[s1.length]? =some (some (Ob.row 2 [[AV.p (.v (.int .i64 3)),a]])):=by rw[hS1];simp
   have yN:=at_lt bN
   have fS:=((a0.fr.trans f1).trans f2).trans aS.fr
   have d0:=aS.get (f2.get c0 hnU)
   have z1:=at_lt d0
   have hnU2:¬ U2 σ.length:=fun e=>(f2.own _ e).elim hnU fun e=>by omega
   have hlt2:=hB2.lt
   have nN:¬ U2 s1.length:=fun e=>by have:=hlt2 _ e;omega
   rcases tl with _|⟨x,_|⟨x2,r⟩⟩
   ·rcases ha with⟨_,rfl⟩|⟨h0,_⟩
    rotate_left
    ·exact absurd rfl h0
    simp only[↓wBA,tDy,convA,seval,wH,c3y,hlf,hcc,hS1.symm,bN,yN,d0,z1]
    have hW:=atWrite (n:=root) (a:=.p (.v (.slice none 0 0))) (kd:=2) (its:=[]) (hB2.ap aS) hn.1 (by rw[k2.pages,k1.pages];exact hn.2.1) (NdA.x (.inl ⟨rfl,rfl⟩)) (.inl rfl) (fun x hx=>by simp at hx) (by simp[szL])
    simp only[intV,c2y]at hW
    refine hW.mono ?_
    rintro _ s3 ⟨rfl,U3,f3,hB3⟩
    have hl3:=f3.len
    simp only[↓wBA,tDy,convA,seval,wH]
    all_goals refine ret_st ?_ (by first|exact Nat.le_refl _|(simp only[length_set,length_append];omega)|omega)
    all_goals simp only[resA.eq_1,resL.eq_1,resL.eq_2,resV.eq_1,resV.eq_2,↓wBA,tDy,convA,seval,wH]
    exact⟨U3,P2,_,T1,0,([]:List Ent),fS.trans f3,hB3,k1.trans k2,by unfold upV;rw[if_neg (by omega)];exact hT1,hR1.empt (by unfold upV;rw[if_pos rfl]),OkD.nil,hE1⟩
   ·rcases ha with⟨h0,_⟩|⟨_,tn,rfl,htn⟩
    ·exact absurd h0 (by simp[its1])
    obtain⟨htn1,htnU⟩:=hta tn rfl
    have htS:=aS.get htn
    have ytS:=at_lt htS
    have hgi:((its1 ([x]:NL k)).map itC)[0]? =some (itC ⟨x.1,x.2.1⟩):=by simp[its1]
    have hln:(its1 ([x]:NL k)).length=1:=by simp[its1]
    have hkm1:∀ t,lenA cx 90 (.ms t 4 0 1)=some 1:=fun _=>km_90
    simp only[hln]at hS1 bN
    have hpc:=hR1.tk x.2.1 (by rw[pgT_node,flP_cons];simp[pgT_root])
    have hNc:NodeP (v1 x.2.1) (kdT k) (itsT k x.2.2):=(hR1.tr.2 x (by simp)).node
    have hnr:root≠x.2.1:=fun e=>by
     have hnd:=hR1.nd
     rw[pgT_node,flP_cons]at hnd
     exact (List.nodup_cons.1 hnd).1 (by rw[e];simp[pgT_root])
    simp only[↓wBA,tDy,convA,seval,wH,c3y,hlf,hcc,hS1.symm,bN,yN,d0,z1,hkm1,hln,htS,ytS,hgi,itC]
    refine (atRead (hB2.ap aS) (by rw[k2.pages,k1.pages];exact hpc.2.1) hNc (hb.kp (k1.trans k2) (by omega))).mono ?_
    rintro _ s3 ⟨U3,P3,a3,rfl,f3,hB3,k3,ha3,hta3⟩
    have hl3:=f3.len
    have hlf3:=ha3.x.leaf
    have hcc3:=ha3.x.cells
    obtain⟨S3,hS3⟩:∃ S3,S3=s3++[some (Ob.row 2 [[AV.p (.v (.int .i64 (kdT k:Nat))),a3]])]:=⟨_,rfl⟩
    have aS3:Ap s3 S3:=⟨_,hS3⟩
    have hS3l:S3.length=s3.length+1:=by rw[hS3];simp
    have bN3:S3[s3.length]? =some (some (Ob.row 2 [[AV.p (.v (.int .i64 (kdT k:Nat))),a3]])):=by rw[hS3];simp
    have yN3:=at_lt bN3
    have d03:=aS3.get (f3.get d0 hnU2)
    have z3:=at_lt d03
    simp only[↓wBA,tDy,convA,seval,wH,hlf3,hcc3,hS3.symm,bN3,yN3,d03,z3]
    have ha3S:NdA S3 a3 (itsT k x.2.2):=ha3.same fun j hj=>by rw[hS3,List.getElem?_append_left (ha3.lt hj)]
    have k03:=(k1.trans k2).trans k3
    have hlt3:=hB3.lt
    have hnU3:¬ U3 σ.length:=fun e=>(f3.own _ e).elim hnU2 fun e=>by omega
    have hW:=atWrite (n:=root) (a:=a3) (kd:=kdT k) (its:=itsT k x.2.2) (hB3.ap aS3) hn.1 (by rw[k03.pages];exact hn.2.1) ha3S.x (kdT_or k) hNc.ok hNc.sz
    simp only[intV]at hW
    refine hW.mono ?_
    rintro _ s4 ⟨rfl,U4,f4,hB4⟩
    have hl4:=f4.len
    have d04:=f4.get d03 hnU3
    have z4:=at_lt d04
    have hnU4:¬ U4 σ.length:=fun e=>(f4.own _ e).elim hnU3 fun e=>by omega
    have hFr:=abFree (n:=x.2.1) (T:=T1) hB4 (by rw[k03.pages];unfold upV;rw[if_neg (by omega)];exact hT1) (by rw[k03.pages];exact hnp) hpc.1 (by rw[k03.pages];exact hpc.2.1) hpc.2.2 (hb.kp k03 (by omega))
    simp only[↓wBA,tDy,convA,seval,wH,d04,z4]
    refine hFr.mono ?_
    rintro _ s5 ⟨rfl,U5,P5,v5,f5,hB5,k5,hv5,hT5⟩
    have hl5:=f5.len
    simp only[↓wBA,tDy,convA,seval,wH]
    rw[k03.pages]at hT5
    refine⟨⟨k,by omega⟩,by show k<k+1;omega,⟨U5,P5,v5,_,x.2.2,(((((f1.trans f2).trans aS.fr).trans f3).trans aS3.fr).trans f4).trans f5,hB5,k03.trans k5,hT5,hR1.lower ?_ ?_,(low_ents x).symm.trans hE1⟩,by simp only[wHl,wHf]⟩
    ·rw[hv5 _ (by omega)];unfold upV;rw[if_pos rfl]
    ·intro q h1 h2
     rw[hv5 _ h2];unfold upV;rw[if_neg h1]
   ·rcases ha with⟨h0,_⟩|⟨_,tn,rfl,htn⟩
    ·exact absurd h0 (by simp[its1])
    have hdec:decide (((its1 (x::x2::r:NL k)).length:Int)>1)=true:=by simp[its1];omega
    simp only[↓wBA,tDy,convA,seval,wH,c3y,hlf,hcc,hS1.symm,bN,yN,d0,z1,hkm,hdec]
    all_goals refine ret_st ?_ (by first|exact Nat.le_refl _|(simp only[length_set,length_append];omega)|omega)
    all_goals simp only[resA.eq_1,resL.eq_1,resL.eq_2,resV.eq_1,resV.eq_2,↓wBA,tDy,convA,seval,wH]
    exact⟨U2,P2,v1,T1,k+1,_,fS,hB2.ap aS,k1.trans k2,hT1,hR1,hR1.ok (fun e=>by have e:(x::x2::r:NL k)=[]:=e;simp at e),hE1⟩
end
def tDz:=aa wX <| aa wbu <| aa T3 <| aa T25 <| aa T30 <| aa T37 <| aa T48 <| aa T86 T92
def DelPost (root h:Nat)(t:BTr h)(e:Ent)(σ:St)(b p dd l kh:Nat)(U:Nat→Prop)(P:PoolV)(v:Nat→List UInt8)(T:Nat→Bool)(r:AV)(σ':St):Prop:=
 (r=intV .i64 1∧e∉entsT h t∧∃ U' P',Fr σ σ' U U'∧Bt σ' b p dd l kh U' P' v∧Kp P P' 0)∨
 (r=intV .i64 0∧∃ U' P' v' T' h' t',Fr σ σ' U U'∧Bt σ' b p dd l kh U' P' v'∧Kp P P' 0∧Tk (v' 0) P.pages T'∧RootD v' T' P.pages root h' t'∧OkD h' zeroE none t'∧∃ A B,entsT h t=A++e::B∧entsT h' t'=A++B)
section
variable {σ:St} {b p dd l kh root h:Nat} {U:Nat→Prop} {P:PoolV} {v:Nat→List UInt8} {T:Nat→Bool} {t:BTr h} {e:Ent}
theorem RootD.post (hR:RootD v T P.pages root h t)(hOk:OkD h zeroE none t){v':Nat→List UInt8}{T':Nat→Bool}{t':BTr h}(hr:RemR h t e t')(hTr:TrAt v' h root t')(hD:DelW v v' T T' P.pages (pgT h root t) (pgT h root t')):RootD v' T' P.pages root h t':=
 ⟨hTr,hD.nd,fun q hq=>by
  obtain⟨g1,g2,_⟩:=hR.tk q (hD.sub q hq)
  exact⟨g1,g2,by rw[hD.tk,if_pos (hD.sub q hq),decide_eq_true hq]⟩,fun hn=>rem_ok hOk hr hn,rem_ne hR.ne hr⟩
theorem atDelete (hB:Bt σ b p dd l kh U P v)(hT:Tk (v 0) P.pages T)(hnp:P.pages≤3200)(hb:Bud P 1)(hR:RootD v T P.pages root h t)(hOk:OkD h zeroE none t):
 ACalls Tryz.prog 18 [.mp b 2 0 0,intV .i64 (root:Nat),.p (.sl 1 (encB e.k)),.agg [intV .i64 (e.p:Nat),intV .i64 (e.s:Nat)]] σ fun r σ'=>DelPost root h t e σ b p dd l kh U P v T r σ':=by
 have hlt:=hB.lt
 have hn:=hR.tk root (pgT_root _ _ _)
 have hrm:=fun {s:St} {U1:Nat→Prop} {P1:PoolV} (h1:Bt s b p dd l kh U1 P1 v) (hT1:Tk (v 0) P1.pages T) (hn1:P1.pages≤3200) (hb1:Bud P1 1) (htk:∀ q∈pgT h root t,1≤q∧q<P1.pages∧T q=true)=>atRem (e:=e) h h1 hT1 hn1 hb1 hR.tr hR.nd htk hOk hR.ne (zeroE_le e) trivial
 simp only[entA]at hrm
 refine acalls_of cx_ok dr_ok Tryz.func18 (by kernel_rfl) rfl (nt:=27) (rs:=[.tmp 8]) rfl rfl ?_
 repeat' first|((with_reducible first|apply cs|apply ws)<;>intro h<;>try simp only[h])|simp only[↓wBA,tDz,convA,seval,wH]
 have a1:Ap σ (σ++[some (Ob.row 2 [[intV .i64 (e.p:Nat),intV .i64 (e.s:Nat)]])]++[some (Ob.row 1 [[AV.mp b 2 0 0]])]):=(Ap.app _ _).more _
 refine (hrm (hB.ap a1) hT hnp hb hR.tk).mono ?_
 rintro r s1 ⟨U1,P1,v1,T1,a,f1,hB1,k1,hla,hca,hO⟩
 have q1:=f1.len
 simp only[length_append,length_cons,List.length_nil]at q1
 have f01:=a1.fr.trans f1
 have n1:¬ U (σ.length+1):=fun e=>by have:=hlt _ e;omega
 have b1:s1[σ.length+1]? =some (some (Ob.row 1 [[AV.mp b 2 0 0]])):=by
  rw[f1.keep _ (by simp) n1];simp
 have y1:=at_lt b1
 have n11:¬ U1 (σ.length+1):=fun e=>(f1.own _ e).elim n1 fun e=>by simp at e
 rcases hO with⟨hnm,rfl,rfl,rfl⟩|⟨t',tn,hmm,hRR,rfl,rfl,htn,htn1,htnU,hTr',hDW⟩
 ·skip
  simp only[↓wBA,tDz,convA,seval,wH,hla,hca]
  all_goals refine ret_st ?_ (by first|exact Nat.le_refl _|(simp only[length_set,length_append];omega)|omega)
  all_goals simp only[resA.eq_1,resL.eq_1,resL.eq_2,resV.eq_1,resV.eq_2,↓wBA,tDz,convA,seval,wH]
  exact .inl ⟨rfl,hnm,U1,P1,f01.trans (Ap.app _ _).fr,hB1.ap (Ap.app _ _),k1⟩
 ·obtain⟨S1,hS1⟩:∃ S1,S1=s1++[some (Ob.row 2 [[intV .i64 (kdT h:Nat),AV.ms tn 4 0 (itsT h t').length]])]:=⟨_,rfl⟩
  have aS:Ap s1 S1:=⟨_,hS1⟩
  have d1:=aS.get b1
  have z1:=at_lt d1
  have hR':=hR.post hOk hRR hTr' hDW
  have hlo:=atLower (hB1.ap aS) (by rw[k1.pages];exact hDW.tkk) (by rw[k1.pages];exact hnp) (hb.kp k1 (by omega)) (by rw[k1.pages];exact hR')
  simp only[intV]at hlo hS1
  simp only[↓wBA,tDz,convA,seval,wH,hS1.symm,d1,z1]
  refine hlo.mono ?_
  rintro _ s2 ⟨rfl,U2,P2,v2,T2,h2,t2,f2,hB2,k2,hT2,hR2,hOk2,hE2⟩
  have hl2:=f2.len
  rw[k1.pages]at hT2 hR2
  simp only[↓wBA,tDz,convA,seval,wH]
  all_goals refine ret_st ?_ (by first|exact Nat.le_refl _|(simp only[length_set,length_append];omega)|omega)
  all_goals simp only[resA.eq_1,resL.eq_1,resL.eq_2,resV.eq_1,resV.eq_2,↓wBA,tDz,convA,seval,wH]
  obtain⟨A,B,g1,g2⟩:=rem_ents hRR
  exact .inr ⟨rfl,U2,P2,v2,T2,h2,t2,(f01.trans aS.fr).trans f2,hB2,k1.trans k2,hT2,hR2,hOk2,A,B,g1,hE2.trans g2⟩
end
def cn:(h:Nat)→BTr h→Nat→Nat
 |0,_,j=>if j=0 then 1 else 0
 |h+1,t,j=>if j=h+1 then 1 else ((show NL h from t).map fun x=>cn h x.2.2 j).sum
def cnL {h:Nat}(l:NL h)(j:Nat):Nat:=(l.map fun x=>cn h x.2.2 j).sum
def cnO {h:Nat}:Option (Ent×Nat×BTr h)→Nat→Nat
 |none,_=>0
 |some z,j=>cn h z.2.2 j
theorem cnL_app {h:Nat}(a b:NL h)(j:Nat):cnL (a++b) j=cnL a j+cnL b j:=by simp[cnL]
theorem cnL_cons {h:Nat}(x:Ent×Nat×BTr h)(b:NL h)(j:Nat):cnL (x::b) j=cn h x.2.2 j+cnL b j:=by simp[cnL]
theorem cnL_opt {h:Nat}(o:Option (Ent×Nat×BTr h))(j:Nat):cnL o.toList j=cnO o j:=by cases o<;>simp[cnL,cnO]
theorem cn_top (h:Nat)(t:BTr h):cn h t h=1:=by cases h<;>simp[cn]
theorem cn_low {h j:Nat}(t:NL h)(hj:j≤h):cn (h+1) t j=cnL t j:=by
 show (if j=h+1 then 1 else _)=_
 rw[if_neg (by omega)];rfl
def sumN (f:Nat→Nat):Nat→Nat
 |0=>f 0
 |h+1=>f 0+sumN (fun j=>f (j+1)) h
theorem sumN_top:∀ (h:Nat) (f:Nat→Nat),sumN f (h+1)=sumN f h+f (h+1)
 |0,f=>rfl
 |h+1,f=>by
  have:=sumN_top h fun j=>f (j+1)
  simp only[sumN]at this ⊢;omega
theorem sumN_congr:∀ (h:Nat) {f g:Nat→Nat},(∀ j,j≤h→f j=g j)→sumN f h=sumN g h
 |0,f,g,hf=>hf 0 (Nat.le_refl _)
 |h+1,f,g,hf=>by simp only[sumN];rw[hf 0 (by omega),sumN_congr h fun j hj=>hf (j+1) (by omega)]
theorem sumN_add:∀ (h:Nat) (f g:Nat→Nat),sumN (fun j=>f j+g j) h=sumN f h+sumN g h
 |0,f,g=>rfl
 |h+1,f,g=>by simp only[sumN];rw[sumN_add h];omega
theorem sumN_zero:∀ (h:Nat),sumN (fun _=>0) h=0
 |0=>rfl
 |h+1=>by simp only[sumN];rw[sumN_zero h]
theorem pg_sum:∀ (h n:Nat) (t:BTr h),(pgT h n t).length=sumN (cn h t) h
 |0,n,t=>rfl
 |h+1,n,t=>by
  rw[sumN_top,cn_top,sumN_congr (g:=cnL (show NL h from t)) h fun j hj=>cn_low (show NL h from t) hj]
  rw[show (pgT (h+1) n t).length=(flP (show NL h from t)).length+1 from rfl]
  have:∀ l:NL h,(flP l).length=sumN (cnL l) h:=by
   intro l
   induction l with
   |nil=>rw[show cnL ([]:NL h)=fun _=>0 from rfl,sumN_zero];rfl
   |cons x l ih=>
    rw[flP_cons,length_append,pg_sum h,ih,←sumN_add]
    exact sumN_congr h fun j _=>(cnL_cons x l j).symm
  rw[this]
def SzT:(h:Nat)→BTr h→Prop
 |0,t=>szL (its0 t)≤496∧∀ e∈(show List Ent from t),e.k.length≤140
 |h+1,t=>szL (its1 (show NL h from t))≤496∧(∀ x∈(show NL h from t),x.1.k.length≤140)∧∀ x∈(show NL h from t),SzT h x.2.2
theorem TrAt.szT {v:Nat→List UInt8}:∀ {h n:Nat} {t:BTr h},TrAt v h n t→SzT h t
 |0,n,t,ht=>⟨NodeP.sz ht,fun e he=>(NodeP.ok ht ⟨e,0⟩ (mem_map.2 ⟨e,he,rfl⟩)).1.1⟩
 |h+1,n,t,ht=>⟨ht.1.sz,fun x hx=>(ht.1.ok ⟨x.1,x.2.1⟩ (mem_map.2 ⟨x,hx,rfl⟩)).1.1,fun x hx=>(ht.2 x hx).szT⟩
theorem ins_more:∀ {h:Nat} {t t':BTr h} {e:Ent} {more:Option (Ent×Nat×BTr h)},SzT h t→e.k.length≤140→InsR h t e t' more→∀ z,more=some z→z.1.k.length≤140
 |0,t,t',e,more,hz,he,hi,z,hm=>by
  rcases hi.2 with⟨_,_,rfl⟩|⟨_,_,_,m,y,hy,_,rfl⟩
  ·cases hm
  ·obtain rfl:=Option.some.inj hm
   obtain⟨y0,h1,rfl⟩:=mem_map.1 (List.mem_of_getElem? hy)
   rcases mem_append.1 h1 with h1|h1
   ·exact hz.2 _ (mem_of_mem_take h1)
   ·rcases mem_cons.1 h1 with rfl|h1
    ·exact he
    ·exact hz.2 _ (mem_of_mem_drop h1)
 |h+1,t,t',e,more,hz,he,hi,z,hm=>by
  obtain⟨l1,x,l2,s',more',rfl,_,hin,hs⟩:=hi
  have ih:=ins_more (hz.2.2 x (by simp)) he hin
  rcases hs with⟨_,_,rfl⟩|⟨_,_,_,m,y,hy,_,rfl⟩
  ·cases hm
  ·obtain rfl:=Option.some.inj hm
   obtain⟨y0,h1,rfl⟩:=mem_map.1 (List.mem_of_getElem? hy)
   simp only[mem_append,mem_cons,Option.mem_toList]at h1
   rcases h1 with h1|rfl|h1|h1
   ·exact hz.2.1 y0 (by simp[h1])
   ·exact hz.2.1 x (by simp)
   ·exact ih y0 h1
   ·exact hz.2.1 y0 (by simp[h1])
theorem add_eq {a b c d:Nat}(h1:a=c)(h2:b=d):a+b=c+d:=by rw[h1,h2]
theorem sp_cn {h:Nat}{l:NL h}{t':BTr (h+1)}{more:Option (Ent×Nat×BTr (h+1))}(hs:SpR its1 l (show NL h from t') more):(∀ j,j≤h→cn (h+1) t' j+cnO more j=cnL l j)∧((more=none∧cn (h+1) t' (h+1)+cnO more (h+1)=1)∨(more≠none∧496<szL (its1 l)∧cn (h+1) t' (h+1)+cnO more (h+1)=2)):=by
 rcases hs with⟨s1,h1,rfl⟩|⟨s1,_,_,m,y,_,h1,rfl⟩
 ·subst h1
  exact⟨fun j hj=>cn_low t' hj,.inl ⟨rfl,cn_top (h+1) t'⟩⟩
 ·refine⟨fun j hj=> ?_,.inr ⟨Option.some_ne_none _,s1,?_⟩⟩
  ·have a1:cn (h+1) t' j=cnL (l.take (midF (its1 l))) j:=by rw[← h1];exact cn_low _ hj
   have a2:cnO (h:=h+1) (some (y.e,m,l.drop (midF (its1 l)))) j=cnL (l.drop (midF (its1 l))) j:=cn_low _ hj
   have a3:=cnL_app (l.take (midF (its1 l))) (l.drop (midF (its1 l))) j
   rw[List.take_append_drop]at a3
   exact (add_eq a1 a2).trans a3.symm
  ·have a1:=cn_top (h+1) t'
   have a2:cnO (h:=h+1) (some (y.e,m,l.drop (midF (its1 l)))) (h+1)=1:=cn_top (h+1) _
   exact add_eq a1 a2
theorem ins_cn:∀ {h:Nat} {t t':BTr h} {e:Ent} {more:Option (Ent×Nat×BTr h)},SzT h t→InsR h t e t' more→∃ δ:Nat→Nat,(∀ j,δ j≤1)∧(∀ j,δ (j+1)≤δ j)∧(∀ j,j≤h→cn h t' j+cnO more j=cn h t j+δ j)∧(more≠none→δ h=1)∧(more=none→δ h=0)
 |0,t,t',e,more,hz,hi=>by
  rcases hi.2 with⟨_,_,rfl⟩|⟨_,_,_,m,y,hy,_,rfl⟩
  ·refine⟨fun _=>0,fun _=>Nat.zero_le _,fun _=>Nat.le_refl _,fun j hj=> ?_,fun h=>absurd rfl h,fun _=>rfl⟩
   obtain rfl:j=0:=Nat.le_zero.1 hj
   rfl
  ·refine⟨fun j=>if j=0 then 1 else 0,fun j=>by dsimp only;split<;>omega,fun j=>by dsimp only;rw[if_neg (by omega)];exact Nat.zero_le _,fun j hj=> ?_,fun _=>rfl,fun h=>by cases h⟩
   obtain rfl:j=0:=Nat.le_zero.1 hj
   rfl
 |h+1,t,t',e,more,hz,hi=>by
  obtain⟨l1,x,l2,s',more',rfl,_,hin,hs⟩:=hi
  obtain⟨δ,d1,d2,d3,d4,d5⟩:=ins_cn (hz.2.2 x (by simp)) hin
  obtain⟨l,hl⟩:∃ l:NL h,l=l1++(x.1,x.2.1,s')::(more'.toList++l2):=⟨_,rfl⟩
  rw[← hl]at hs
  have hc:∀ j,j≤h→cnL l j=cnL (l1++x::l2:NL h) j+δ j:=fun j hj=>by
   rw[hl,cnL_app,cnL_cons,cnL_app,cnL_opt,cnL_app,cnL_cons]
   have:=d3 j hj
   dsimp only;omega
  obtain⟨c1,c2⟩:=sp_cn hs
  have hz1:szL (its1 (l1++x::l2:NL h))≤496:=hz.1
  have k1:∀ j,j≤h→cn (h+1) t' j+cnO more j=cn (h+1) (l1++x::l2:NL h) j+δ j:=fun j hj=>(c1 j hj).trans ((hc j hj).trans (congrArg (· +δ j) (cn_low (l1++x::l2:NL h) hj).symm))
  have k2:=cn_top (h+1) (l1++x::l2:NL h)
  rcases c2 with⟨rfl,c2⟩|⟨c0,s1,c2⟩
  ·refine⟨fun j=>if j≤h then δ j else 0,fun j=> ?_,fun j=> ?_,fun j hj=> ?_,fun h=>absurd rfl h,fun _=>if_neg (by omega)⟩
   ·dsimp only
    split
    ·exact d1 j
    ·omega
   ·dsimp only
    by_cases e:j+1≤h
    ·rw[if_pos e,if_pos (by omega)];exact d2 j
    ·rw[if_neg e];exact Nat.zero_le _
   ·dsimp only
    rcases Nat.lt_or_ge h j with e|e
    ·obtain rfl:j=h+1:=by omega
     rw[if_neg (by omega)]
     exact c2.trans k2.symm
    ·rw[if_pos e];exact k1 j e
  ·have hmo:more'≠none:=fun e0=>by
    subst e0
    have e1:its1 l=its1 (l1++x::l2:NL h):=by rw[hl];simp[its1]
    rw[e1]at s1
    omega
   have d4':=d4 hmo
   refine⟨fun j=>if j≤h then δ j else if j=h+1 then 1 else 0,fun j=> ?_,fun j=> ?_,fun j hj=> ?_,fun _=> ?_,fun h=>absurd h c0⟩
   ·dsimp only
    split
    ·exact d1 j
    ·split<;>omega
   ·dsimp only
    rcases Nat.lt_trichotomy (j+1) (h+1)with e|e|e
    ·rw[if_pos (by omega),if_pos (by omega)];exact d2 j
    ·rw[if_neg (by omega),if_pos e,if_pos (by omega)]
     obtain rfl:j=h:=by omega
     omega
    ·rw[if_neg (by omega),if_neg (by omega)];exact Nat.zero_le _
   ·dsimp only
    rcases Nat.lt_or_ge h j with e|e
    ·obtain rfl:j=h+1:=by omega
     rw[if_neg (by omega),if_pos rfl]
     exact c2.trans (congrArg (· +1) k2.symm)
    ·rw[if_pos e];exact k1 j e
   ·dsimp only
    rw[if_neg (by omega),if_pos rfl]
theorem ins_en : ∀ {h : Nat} {t t' : BTr h} {e : Ent} {more : Option (Ent × Nat × BTr h)}, InsR h t e t' more → (entsT h t').length + (match more with
    | none => 0
    | some z => (entsT h z.2.2).length) = (entsT h t).length + 1
  | 0, t, t', e, more, hi => by
    have hl : (List.take (cutI (its0 t) e) (show List Ent from t) ++ e :: List.drop (cutI (its0 t) e) (show List Ent from t)).length = (show List Ent from t).length + 1 := by
      rw [length_append, length_cons, List.length_take, List.length_drop]; omega
    rcases hi.2 with ⟨_, rfl, rfl⟩ | ⟨_, _, _, m, y, hy, rfl, rfl⟩
    · exact hl
    · show (List.take _ _).length + (List.drop _ _).length = _
      rw [← length_append, List.take_append_drop]; exact hl
  | h + 1, t, t', e, more, hi => by
    obtain ⟨l1, x, l2, s', more', rfl, _, hin, hs⟩ := hi
    have ih := ins_en hin
    obtain ⟨l, hl⟩ : ∃ l : NL h, l = l1 ++ (x.1, x.2.1, s') :: (more'.toList ++ l2) := ⟨_, rfl⟩
    rw [← hl] at hs
    have hc : (l.flatMap fun x => entsT h x.2.2).length = ((l1 ++ x :: l2 : NL h).flatMap fun x => entsT h x.2.2).length + 1 := by
      rw [hl]
      cases more' with
      | none => simp only [Option.toList, nil_append, List.flatMap_append, flatMap_cons, length_append] at ih ⊢; omega
      | some z => simp only [Option.toList, List.cons_append, nil_append, List.flatMap_append, flatMap_cons, length_append] at ih ⊢; omega
    rcases hs with ⟨_, rfl, rfl⟩ | ⟨_, _, _, m, y, hy, rfl, rfl⟩
    · exact hc
    · show ((List.take _ l).flatMap fun x => entsT h x.2.2).length + ((List.drop _ l).flatMap fun x => entsT h x.2.2).length = _
      rw [← length_append, ← List.flatMap_append, List.take_append_drop]; exact hc
theorem szL_le {l:List Itm}(h:∀ x∈l,x.e.k.length≤140):szL l≤150*l.length:=by
 induction l with
 |nil=>simp[szL_nil]
 |cons x l ih=>
  have h1:=ih fun y hy=>h y (by simp[hy])
  have h2:=h x (by simp)
  rw[szL_cons,length_cons]
  have:szI x≤150:=by unfold szI;omega
  omega
def headZ:(h:Nat)→BTr h→Prop
 |0,_=>True
 |h+1,t=>∃ x r,(show NL h from t)=x::r∧x.1.k=[]
structure PgI (h:Nat)(t:BTr h):Prop where
 c0:1≤h→cn h t 0+2≤(entsT h t).length
 cj:∀ j,1≤j→j<h→cn h t j+3≤cn h t (j - 1)
 hd:headZ h t
theorem cn_items {h:Nat}(t:NL h):cn (h+1) t h=t.length:=by
 rw[cn_low t (Nat.le_refl h)]
 induction t with
 |nil=>rfl
 |cons x l ih=>rw[cnL_cons,ih,cn_top,length_cons];omega
theorem headZ_ins {h:Nat}{l1 l2:NL h}{x:Ent×Nat×BTr h}{s':BTr h}{o:Option (Ent×Nat×BTr h)}(hz:headZ (h+1) (l1++x::l2:NL h)):headZ (h+1) (l1++(x.1,x.2.1,s')::(o.toList++l2):NL h):=by
 obtain⟨y,r,hy,h0⟩:=hz
 have hy:l1++x::l2=y::r:=hy
 cases l1 with
 |nil=>
  simp only[nil_append,List.cons.injEq]at hy
  obtain⟨rfl,rfl⟩:=hy
  exact⟨_,_,rfl,h0⟩
 |cons a l1=>
  simp only[List.cons_append,List.cons.injEq]at hy
  obtain⟨rfl,rfl⟩:=hy
  exact⟨_,_,rfl,h0⟩
theorem ins_keys {h:Nat}{l1 l2:NL h}{x:Ent×Nat×BTr h}{s':BTr h}{e:Ent}{more':Option (Ent×Nat×BTr h)}(hz:SzT (h+1) (l1++x::l2:NL h))(he:e.k.length≤140)(hin:InsR h x.2.2 e s' more'):∀ y∈its1 (l1++(x.1,x.2.1,s')::(more'.toList++l2):NL h),y.e.k.length≤140:=fun y hy=>by
 obtain⟨y0,h1,rfl⟩:=mem_map.1 hy
 simp only[mem_append,mem_cons,Option.mem_toList]at h1
 rcases h1 with h1|rfl|h1|h1
 ·exact hz.2.1 y0 (by simp[h1])
 ·exact hz.2.1 x (by simp)
 ·exact ins_more (hz.2.2 x (by simp)) he hin y0 h1
 ·exact hz.2.1 y0 (by simp[h1])
theorem headZ_sz {h:Nat}{l:NL h}(hk:∀ y∈its1 l,y.e.k.length≤140)(hz:headZ (h+1) l):szL (its1 l)+140≤150*l.length:=by
 obtain⟨x,r,hl,h0⟩:=hz
 have hl:l=x::r:=hl
 subst hl
 rw[its1_cons]at hk ⊢
 have:=szL_le fun y hy=>hk y (List.mem_cons_of_mem _ hy)
 rw[its1_len]at this
 rw[szL_cons,length_cons]
 have h1:szI ⟨x.1,x.2.1⟩=10:=by unfold szI;simp[h0]
 omega
theorem split_five {h:Nat}{t:BTr (h+1)}{t':BTr (h+1)}{e:Ent}{z:Ent×Nat×BTr (h+1)}(hz:SzT (h+1) t)(hd:headZ (h+1) t)(he:e.k.length≤140)(hi:InsR (h+1) t e t' (some z)):4≤(show NL h from t).length:=by
 obtain⟨l1,x,l2,s',more',rfl,_,hin,hs⟩:=hi
 have hk:=ins_keys hz he hin
 have h1:=headZ_sz hk (headZ_ins hd)
 rcases hs with⟨_,_,h2⟩|⟨s1,_⟩
 ·cases h2
 ·have h3:(l1++(x.1,x.2.1,s')::(more'.toList++l2):NL h).length≤(l1++x::l2:NL h).length+1:=by
   cases more'<;>simp<;>omega
  show 4≤(l1++x::l2:NL h).length
  omega
theorem leaf_four {t t':BTr 0}{e:Ent}{z:Ent×Nat×BTr 0}(hz:SzT 0 t)(he:e.k.length≤140)(hi:InsR 0 t e t' (some z)):3≤(entsT 0 t).length:=by
 rcases hi.2 with⟨_,_,h2⟩|⟨s1,_⟩
 ·cases h2
 ·have h1:=szL_le (l:=its0 ((show List Ent from t).take (cutI (its0 t) e)++e::(show List Ent from t).drop (cutI (its0 t) e))) fun y hy=>by
   obtain⟨y0,h1,rfl⟩:=mem_map.1 hy
   rcases mem_append.1 h1 with h1|h1
   ·exact hz.2 _ (mem_of_mem_take h1)
   ·rcases mem_cons.1 h1 with rfl|h1
    ·exact he
    ·exact hz.2 _ (mem_of_mem_drop h1)
  have h2:(its0 ((show List Ent from t).take (cutI (its0 t) e)++e::(show List Ent from t).drop (cutI (its0 t) e))).length=(show List Ent from t).length+1:=by
   unfold its0
   rw[List.length_map,length_append,length_cons,List.length_take,List.length_drop];omega
  rw[h2]at h1
  show 3≤(show List Ent from t).length
  omega
theorem pgI_step {h h':Nat}{t:BTr h}{t':BTr h'}{e:Ent}(hp:PgI h t)(hz:SzT h t)(he:e.k.length≤140)(hr:RootR h t e h' t'):PgI h' t'∧(entsT h' t').length=(entsT h t).length+1:=by
 rcases hr with⟨rfl,hi⟩|⟨rfl,t1,n,m,x,s,hi,ht⟩
 ·have hi:InsR h' t e t' none:=hi
  obtain⟨δ,d1,d2,d3,d4,d5⟩:=ins_cn hz hi
  have hen:=ins_en hi
  simp only[Nat.add_zero]at hen
  have e1:∀ j,j≤h'→cn h' t' j=cn h' t j+δ j:=fun j hj=>d3 j hj
  refine⟨⟨fun h1=> ?_,fun j j1 j2=> ?_,?_⟩,hen⟩
  ·rw[e1 0 (by omega),hen]
   have:=hp.c0 h1;have:=d1 0;omega
  ·rw[e1 j (by omega),e1 (j - 1) (by omega)]
   have h2:=hp.cj j j1 j2
   have h3:=d2 (j - 1)
   rw[Nat.sub_add_cancel j1]at h3
   omega
  ·cases h' with
   |zero=>trivial
   |succ h=>
    obtain⟨l1,x,l2,s',more',rfl,_,hin,hs⟩:=hi
    rcases hs with⟨_,h2,_⟩|⟨_,_,_,_,_,_,_,h2⟩
    ·have h2:t'=(l1++(x.1,x.2.1,s')::(more'.toList++l2):NL h):=h2
     rw[h2]
     exact headZ_ins hp.hd
    ·cases h2
 ·have ht:t'=([(zeroE,n,t1),(x,m,s)]:NL h):=ht
  subst ht
  obtain⟨δ,d1,d2,d3,d4,d5⟩:=ins_cn hz hi
  have hen:=ins_en hi
  have d4':=d4 (Option.some_ne_none _)
  have e1:∀ j,j≤h→cn (h+1) ([(zeroE,n,t1),(x,m,s)]:NL h) j=cn h t j+δ j:=fun j hj=>by
   rw[cn_low _ hj,cnL_cons,cnL_cons]
   exact d3 j hj
  have e2:(entsT (h+1) ([(zeroE,n,t1),(x,m,s)]:NL h)).length=(entsT h t).length+1:=by
   show ([(zeroE,n,t1),(x,m,s)].flatMap fun x=>entsT h x.2.2).length=_
   simp only[flatMap_cons,List.flatMap_nil,List.append_nil,length_append]
   exact hen
  refine⟨⟨fun h1=> ?_,fun j j1 j2=> ?_,⟨_,_,rfl,rfl⟩⟩,e2⟩
  ·rw[e1 0 (by omega),e2]
   cases h with
   |zero=>
    have:=leaf_four hz he hi
    rw[cn_top 0 t,d4'];omega
   |succ h=>have:=hp.c0 (by omega);have:=d1 0;omega
  ·rw[e1 j (by omega),e1 (j - 1) (by omega)]
   have h3:=d2 (j - 1)
   rw[Nat.sub_add_cancel j1]at h3
   rcases Nat.lt_or_ge j h with h4|h4
   ·have h2:=hp.cj j j1 h4
    omega
   ·obtain rfl:j=h:=by omega
    obtain⟨k,rfl⟩:∃ k,j=k+1:=⟨j - 1,by omega⟩
    have h5:=split_five hz hp.hd he hi
    have h6:=cn_items (show NL k from t)
    have h7:=cn_top (k+1) t
    simp only[Nat.add_sub_cancel]at h3 ⊢
    have h8:cn (k+1) t k=(show NL k from t).length:=h6
    have:=d1 (k+1)
    omega
theorem pgI_nil:PgI 0 ([]:List Ent):=⟨fun h=>by omega,fun j h1 h2=>by omega,trivial⟩
theorem fall_sum:∀ (h:Nat) (f:Nat→Nat),(∀ j,1≤j→j<h+1→f j+3≤f (j - 1))→f (h+1)=1→6*sumN f (h+1)≤f 0*f 0+3*f 0+2+6
 |0,f,hf,h1=>by
  have h1:f 1=1:=h1
  simp only[sumN]
  rw[h1]
  generalize f 0=a
  have h2:3*a≤a*a+2:=by
   rcases Nat.lt_or_ge a 3 with h|h
   ·have:a=0∨a=1∨a=2:=by omega
    rcases this with rfl|rfl|rfl<;>decide
   ·have:=Nat.mul_le_mul_right a h
    omega
  omega
 |h+1,f,hf,h1=>by
  have ih:=fall_sum h (fun j=>f (j+1)) (fun j j1 j2=>by
   have:=hf (j+1) (by omega) (by omega)
   simp only[Nat.add_sub_cancel]at this
   rw[Nat.sub_add_cancel j1];exact this) h1
  have h3:=hf 1 (Nat.le_refl _) (by omega)
  have h4:sumN f (h+1+1)=f 0+sumN (fun j=>f (j+1)) (h+1):=rfl
  rw[h4]
  simp only[Nat.zero_add,Nat.sub_self]at ih h3
  obtain⟨d,hd⟩:∃ d,f 0=f 1+3+d:=⟨f 0 - f 1 - 3,by omega⟩
  rw[hd]
  generalize f 1=a at*
  have e1:(a+3+d)*(a+3+d)=a*a+6*a+9+2*(a*d)+6*d+d*d:=by
   simp only[Nat.add_mul,Nat.mul_add,Nat.mul_comm d a,Nat.mul_comm d 3,Nat.mul_comm a 3]
   omega
  rw[e1]
  have:=Nat.zero_le (a*d)
  have:=Nat.zero_le (d*d)
  omega
theorem pg_le {h n:Nat}{t:BTr h}(hp:PgI h t)(h1:1≤h):6*(pgT h n t).length≤cn h t 0*cn h t 0+3*cn h t 0+2+6:=by
 obtain⟨k,rfl⟩:∃ k,h=k+1:=⟨h - 1,by omega⟩
 rw[pg_sum]
 exact fall_sum k _ (fun j j1 j2=>hp.cj j j1 j2) (cn_top _ _)
abbrev kl (x:Ent×Nat×BTr 0):Nat:=x.1.k.length+10
section
variable {P:Program} {C:Ctx} {fr f:List AV} {σ s:St} {Q:Exit→List AV→St→Prop} {c:Code} {X:Type} {D:X→List (Nat×AV)} {Js:List Nat} {I:X→St→Prop} {id:Nat}
end
def entO {h:Nat}:Option (Ent×Nat×BTr h)→List Ent
 |none=>[]
 |some z=>entsT h z.2.2
theorem ins_mem:∀ {h:Nat} {t t':BTr h} {e:Ent} {more:Option (Ent×Nat×BTr h)},InsR h t e t' more→∀ x,x∈entsT h t'∨x∈entO more→x=e∨x∈entsT h t
 |0,t,t',e,more,hi,x,hx=>by
  obtain⟨L,hL⟩:∃ L:List Ent,L=(show List Ent from t).take (cutI (its0 t) e)++e::(show List Ent from t).drop (cutI (its0 t) e):=⟨_,rfl⟩
  have hs:=hi.2
  rw[← hL]at hs
  have hxL:x∈L:=by
   rcases hs with⟨_,rfl,rfl⟩|⟨_,_,_,m,y,_,rfl,rfl⟩
   ·rcases hx with hx|hx
    ·exact hx
    ·cases hx
   ·rcases hx with hx|hx
    ·exact mem_of_mem_take hx
    ·exact mem_of_mem_drop hx
  rw[hL]at hxL
  rcases mem_append.1 hxL with h|h
  ·exact .inr (mem_of_mem_take h)
  ·rcases mem_cons.1 h with h|h
   ·exact .inl h
   ·exact .inr (mem_of_mem_drop h)
 |h+1,t,t',e,more,hi,x,hx=>by
  obtain⟨l1,y,l2,s',more',rfl,_,hin,hs⟩:=hi
  obtain⟨l,hl⟩:∃ l:NL h,l=l1++(y.1,y.2.1,s')::(more'.toList++l2):=⟨_,rfl⟩
  rw[← hl]at hs
  have hxl:x∈l.flatMap fun z=>entsT h z.2.2:=by
   rcases hs with⟨_,rfl,rfl⟩|⟨_,_,_,m,w,_,rfl,rfl⟩
   ·rcases hx with hx|hx
    ·exact hx
    ·cases hx
   ·rcases hx with hx|hx
    ·obtain⟨z,hz,hx⟩:=mem_flatMap.1 (show x∈(l.take _).flatMap fun z=>entsT h z.2.2 from hx)
     exact mem_flatMap.2 ⟨z,mem_of_mem_take hz,hx⟩
    ·obtain⟨z,hz,hx⟩:=mem_flatMap.1 (show x∈(l.drop _).flatMap fun z=>entsT h z.2.2 from hx)
     exact mem_flatMap.2 ⟨z,mem_of_mem_drop hz,hx⟩
  obtain⟨z,hz,hx⟩:=mem_flatMap.1 hxl
  have hT:∀ z∈(l1++y::l2:NL h),x∈entsT h z.2.2→x∈entsT (h+1) (l1++y::l2:NL h):=fun z hz hx=>mem_flatMap.2 ⟨z,hz,hx⟩
  rw[hl]at hz
  simp only[mem_append,mem_cons,Option.mem_toList]at hz
  rcases hz with hz|rfl|hz|hz
  ·exact .inr (hT z (by simp[hz]) hx)
  ·rcases ins_mem hin x (.inl hx)with h|h
   ·exact .inl h
   ·exact .inr (hT y (by simp) h)
  ·rcases ins_mem hin x (.inr (by rw[hz];exact hx))with h|h
   ·exact .inl h
   ·exact .inr (hT y (by simp) h)
  ·exact .inr (hT z (by simp[hz]) hx)
theorem root_mem {h h':Nat}{t:BTr h}{t':BTr h'}{e:Ent}(hr:RootR h t e h' t')(x:Ent)(hx:x∈entsT h' t'):x=e∨x∈entsT h t:=by
 rcases hr with⟨rfl,hi⟩|⟨rfl,t1,n,m,y,s,hi,ht⟩
 ·exact ins_mem hi x (.inl hx)
 ·have ht:t'=([(zeroE,n,t1),(y,m,s)]:NL h):=ht
  subst ht
  have hx:x∈([(zeroE,n,t1),(y,m,s)]:NL h).flatMap fun z=>entsT h z.2.2:=hx
  simp only[flatMap_cons,List.flatMap_nil,List.append_nil,mem_append]at hx
  exact ins_mem hi x hx
section
variable {σ:St} {b:Nat} {n:Int}
end
def okN {h:Nat}(x:Ent×Nat×BTr h):Prop:=¬ nilT h x.2.2∧NeT h x.2.2
theorem ins_ne0 {t t':List Ent}{e:Ent}{more:Option (Ent×Nat×BTr 0)}(hi:InsR 0 t e t' more):¬ nilT 0 t'∧∀ z,more=some z→okN z:=by
 obtain⟨L,hL⟩:∃ L:List Ent,L=t.take (cutI (its0 t) e)++e::t.drop (cutI (its0 t) e):=⟨_,rfl⟩
 have hs:SpR its0 L t' more:=by rw[hL];exact hi.2
 have hL0:L≠[]:=by rw[hL];simp
 rcases hs with⟨_,rfl,rfl⟩|⟨_,m1,m2,m,y,_,rfl,rfl⟩
 ·exact⟨fun h=>hL0 h,fun z hz=>by cases hz⟩
 ·refine⟨fun hq=> ?_,fun z hz=> ?_⟩
  ·have hq:L.take (midF (its0 L))=[]:=hq
   rcases List.take_eq_nil_iff.1 hq with hq|hq
   ·omega
   ·exact hL0 hq
  ·obtain rfl:=Option.some.inj hz
   refine⟨fun hq=> ?_,trivial⟩
   have hq:L.drop (midF (its0 L))=[]:=hq
   have:=List.drop_eq_nil_iff.1 hq
   omega
theorem ins_ne1 {h:Nat}{t t':NL h}{e:Ent}{more:Option (Ent×Nat×BTr (h+1))}(ih:∀ {t t':BTr h} {e:Ent} {more:Option (Ent×Nat×BTr h)},InsR h t e t' more→NeT h t→(¬ nilT h t'∧NeT h t')∧∀ z,more=some z→okN z)(hi:InsR (h+1) t e t' more)(hN:∀ x∈t,okN x):(t'≠[]∧∀ x∈t',okN x)∧∀ z,more=some z→okN z:=by
 obtain⟨l1,x,l2,s',more',rfl,_,hin,hs⟩:=hi
 obtain⟨g1,g2⟩:=ih hin (hN x (by simp)).2
 obtain⟨L,hL⟩:∃ L:NL h,L=l1++(x.1,x.2.1,s')::(more'.toList++l2):=⟨_,rfl⟩
 rw[← hL]at hs
 have hL0:L≠[]:=by rw[hL];simp
 have hLn:∀ z∈L,okN z:=fun z hz=>by
  rw[hL]at hz
  simp only[mem_append,mem_cons,Option.mem_toList]at hz
  rcases hz with hz|rfl|hz|hz
  ·exact hN z (by simp[hz])
  ·exact g1
  ·exact g2 z hz
  ·exact hN z (by simp[hz])
 rcases hs with⟨_,rfl,rfl⟩|⟨_,m1,m2,m,y,_,rfl,rfl⟩
 ·exact⟨⟨hL0,hLn⟩,fun z hz=>by cases hz⟩
 ·refine⟨⟨fun hq=> ?_,fun z hz=>hLn z (mem_of_mem_take hz)⟩,fun z hz=> ?_⟩
  ·rcases List.take_eq_nil_iff.1 hq with hq|hq
   ·omega
   ·exact hL0 hq
  ·obtain rfl:=Option.some.inj hz
   refine⟨fun hq=> ?_,fun z hz=>hLn z (mem_of_mem_drop hz)⟩
   have hq:L.drop (midF (its1 L))=[]:=hq
   have:=List.drop_eq_nil_iff.1 hq
   omega
theorem ins_ne:∀ {h:Nat} {t t':BTr h} {e:Ent} {more:Option (Ent×Nat×BTr h)},InsR h t e t' more→NeT h t→(¬ nilT h t'∧NeT h t')∧∀ z,more=some z→okN z
 |0,t,t',e,more,hi,_=>⟨⟨(ins_ne0 hi).1,trivial⟩,(ins_ne0 hi).2⟩
 |h+1,t,t',e,more,hi,hN=>ins_ne1 ins_ne hi hN
theorem root_ne {h h':Nat}{t:BTr h}{t':BTr h'}{e:Ent}(hr:RootR h t e h' t')(hN:NeT h t):NeT h' t':=by
 rcases hr with⟨rfl,hi⟩|⟨rfl,t1,n,m,x,s,hi,ht⟩
 ·exact (ins_ne hi hN).1.2
 ·obtain⟨g1,g2⟩:=ins_ne hi hN
  have ht:t'=([(zeroE,n,t1),(x,m,s)]:NL h):=ht
  subst ht
  intro z hz
  have hz:z∈([(zeroE,n,t1),(x,m,s)]:NL h):=hz
  simp only[mem_cons,List.not_mem_nil,or_false]at hz
  rcases hz with rfl|rfl
  ·exact g1
  ·exact g2 _ rfl
theorem RootOk.toD {v:Nat→List UInt8}{T:Nat→Bool}{np root h:Nat}{t:BTr h}(hR:RootOk v T np root h t)(hN:NeT h t):RootD v T np root h t∧OkD h zeroE none t:=
 ⟨⟨hR.tr,hR.nd,hR.tk,fun _=>OkD.ofT trivial hR.ok,hN⟩,OkD.ofT trivial hR.ok⟩
structure OnlyW (T:Nat→Bool)(np m h:Nat)(t:BTr h)(k:Nat):Prop where
 only:∀ q,T q=true→q=0∨q∈pgT h m t
 pi:PgI h t
 en:(entsT h t).length≤k
theorem OnlyW.hasRoom {T T':Nat→Bool}{m h k:Nat}{t:BTr h}{e:Ent}(ho:OnlyW T 800 m h t k)(hk:k≤60)(hz:SzT h t)(he:e.k.length≤140)(hl:RootLack h t e T T')(ha:∀ q,q<800→T' q=true):False:=by
 obtain⟨h2,t2,q1,q2⟩:=hl.cnt ha
 have h1:=cntL (0::pgT h m t) (T:=fun _=>false) (T':=T) (fun q hq=>.inr (by simpa using ho.only q hq)) 800
 have h0:cnt (fun _=>false) 800=0:=by
  have:∀ n,cnt (fun _=>false) n=0:=fun n=>by
   induction n with
   |zero=>rfl
   |succ n ih=>simp[cnt,ih]
  exact this 800
 rw[h0,length_cons,pgT_len h m 0 t]at h1
 obtain⟨g1,g2⟩:=pgI_step ho.pi hz he q1
 have g5:=ho.en
 have g4:(pgT h2 0 t2).length≤700:=by
  cases h2 with
  |zero=>simp[pgT]
  |succ k=>
   have c0:=g1.c0 (by omega)
   have c1:=pg_le (n:=0) g1 (by omega)
   have c2:cn (k+1) t2 0*cn (k+1) t2 0≤59*59:=Nat.mul_le_mul (by omega) (by omega)
   omega
 omega
theorem OnlyW.goesOn {T T':Nat→Bool}{np m h h' k:Nat}{t:BTr h}{t':BTr h'}{e:Ent}(ho:OnlyW T np m h t k)(hz:SzT h t)(he:e.k.length≤140)(hr:RootR h t e h' t')(hx:∀ q,T' q=true→T q=true∨q∈pgT h' m t'):OnlyW T' np m h' t' (k+1):=by
 obtain⟨g1,g2⟩:=pgI_step ho.pi hz he hr
 refine⟨fun q hq=> ?_,g1,by have:=ho.en;omega⟩
 rcases hx q hq with h1|h1
 ·rcases ho.only q h1 with h2|h2
  ·exact .inl h2
  ·exact .inr (root_pg hr q h2)
 ·exact .inr h1
def tUb:=aa wX <| aa wbu T35
def cxY:Ctx:={ cx with muts:=[35*100000+7] }
theorem cxY_ok:cxY.ok Tryz.prog:=cx_ok
theorem drY_ok:DrawOk Tryz.prog (aDraw Tryz.prog cxY):=aDraw_ok cxY_ok (by kernel_rfl)
theorem kindY (t:TypeId):cxY.kind t=cx.kind t:=nr rfl
theorem tyY (t:TypeId):cxY.ty t=cx.ty t:=nr rfl
theorem mutsY:cxY.muts=[35*100000+7]:=nr rfl
theorem lenY {T:TypeId}{x:AV}:lenA cxY T x=lenA cx T x:=nr rfl
theorem getC {σ:St}{x:Option Ob}:(σ++[x])[σ.length]? =some x:=by simp
theorem setC {σ:St}{x y:Option Ob}:(σ++[x]).set σ.length y=σ++[y]:=by simp
theorem lenC {σ:St}{x:Option Ob}:(σ++[x]).length=σ.length+1:=by simp
theorem appC {σ:St}{x y:Option Ob}:σ++[x]++[y]=σ++[x,y]:=by simp
theorem atCloneM (b:UInt8)(k:List UInt8)(hk:(b::k).length≤1000000)(σ:St):ACalls Tryz.prog 81 [.p (.sl 1 (encB (b::k)))] σ fun r s=>r= .ms (σ.length+1) 1 0 (b::k).length∧s=σ++[none,some (.row 1 (bRow (b::k)))]:=by
 have hl:=encB_len' (b::k)
 have hc:encB (b::k)=[byteP b]::encB k:=rfl
 have hl1:=tL (n:=k.length+1) (by simp at hk;omega)
 have hl2:=lM (n:=k.length+1) (by simp at hk;omega)
 have hek:=encB_len' k
 rw[hc]
 refine acalls_of cxY_ok drY_ok Tryz.func81 (by kernel_rfl) rfl (nt:=7) (rs:=[.tmp 2]) rfl rfl ?_
 repeat' first|((with_reducible first|apply cs|apply ws)<;>intro h<;>try simp only[h])|simp only[↓wBA,tUb,convA,seval,appendM,srcM,srcA,Nat.mul_one,length_cons,List.length_nil,hl1,hl2,hek,Nat.zero_add,kindY,tyY,mutsY,lenY,getC,setC,lenC,appC]
 refine⟨.inl rfl,_,_,_,rfl,.inl ⟨rfl,rfl⟩,by simp,rfl,?_⟩
 simp[bRow,encB]
def cxE:Ctx:={ cx with muts:=[40*100000+61,40*100000+109] }
theorem cxE_ok:cxE.ok Tryz.prog:=cx_ok
theorem drE_ok:DrawOk Tryz.prog (aDraw Tryz.prog cxE):=aDraw_ok cxE_ok (by kernel_rfl)
theorem kindE (t:TypeId):cxE.kind t=cx.kind t:=nr rfl
theorem tyE (t:TypeId):cxE.ty t=cx.ty t:=nr rfl
theorem mutsE:cxE.muts=[40*100000+61,40*100000+109]:=nr rfl
theorem lenE {T:TypeId}{x:AV}:lenA cxE T x=lenA cx T x:=nr rfl
def entMC (q:Nat×Ent):List AV:=[.ms q.1 1 0 q.2.k.length,intV .i64 (q.2.p:Nat),intV .i64 (q.2.s:Nat)]
def rowM (L:List (Nat×Ent)):List (List AV):=L.map entMC
theorem rowM_len (L:List (Nat×Ent)):(rowM L).length=L.length:=by simp[rowM]
theorem rowM_app (L M:List (Nat×Ent)):rowM (L++M)=rowM L++rowM M:=by simp[rowM]
structure EntM (s:St)(av:AV)(L:List (Nat×Ent))(n0:Nat):Prop where
 av:(L=[]∧av= .p (.v (.slice none 0 0)))∨(L≠[]∧∃ t,av= .ms t 3 0 L.length∧s[t]? =some (some (.row 3 (rowM L)))∧n0≤t∧∀ q∈L,q.1≠t)
 ks:∀ q∈L,s[q.1]? =some (some (.row 1 (bRow q.2.k)))∧n0≤q.1
 nd:(L.map Prod.fst).Nodup
theorem EntM.nil (s:St)(n0:Nat):EntM s (.p (.v (.slice none 0 0))) [] n0:=⟨.inl ⟨rfl,rfl⟩,fun q hq=>by simp at hq,List.nodup_nil⟩
theorem EntM.same {s s':St}{av:AV}{L:List (Nat×Ent)}{n0:Nat}(h:EntM s av L n0)(hs:∀ j,n0≤j→j<s.length→s'[j]? =s[j]?):EntM s' av L n0:=by
 refine⟨h.av.imp id fun ⟨h1,t,h2,h3,h4,h5⟩=>⟨h1,t,h2,(hs t h4 (at_lt h3)).trans h3,h4,h5⟩,fun q hq=> ?_,h.nd⟩
 obtain⟨g1,g2⟩:=h.ks q hq
 exact⟨(hs _ g2 (at_lt g1)).trans g1,g2⟩
theorem EntM.mono {s:St}{av:AV}{L:List (Nat×Ent)}{n0 n1:Nat}(h:EntM s av L n0)(hn:n1≤n0):EntM s av L n1:=
 ⟨h.av.imp id fun ⟨h1,t,h2,h3,h4,h5⟩=>⟨h1,t,h2,h3,Nat.le_trans hn h4,h5⟩,fun q hq=>⟨(h.ks q hq).1,Nat.le_trans hn (h.ks q hq).2⟩,h.nd⟩
theorem EntM.leaf {s:St}{av:AV}{L:List (Nat×Ent)}{n0:Nat}(h:EntM s av L n0):leaf av=true:=by
 rcases h.av with⟨_,rfl⟩|⟨_,t,rfl,_⟩<;>rfl
theorem EntM.cells {s:St}{av:AV}{L:List (Nat×Ent)}{n0:Nat}(h:EntM s av L n0):cellsA av=some [av]:=by
 rcases h.av with⟨_,rfl⟩|⟨_,t,rfl,_⟩<;>rfl
theorem appM {q:St}{av:AV}{L M:List (Nat×Ent)}{n0 tb:Nat}(h:EntM q av L n0)(hM:M≠[])(hb:q[tb]? =some (some (.row 3 (rowM M))))(htb:∀ t,msOf' av=some t→t≠tb)(hl:L.length+M.length≤1000000):
 ∃ q',appendM cxE q.length 40 av (.ms tb 3 0 M.length) q=some (.ms q.length 3 0 (L++M).length,q')∧q'.length=q.length+1∧q'[q.length]? =some (some (.row 3 (rowM (L++M))))∧∀ j,j<q.length→(∀ t,msOf' av=some t→j≠t)→q'[j]? =q[j]? :=by
 have hMl:=List.length_pos_iff.2 hM
 have hsrc:srcM q 3 (.ms tb 3 0 M.length)=some (rowM M):=by
  unfold srcM
  simp only[srcA,hb]
  simp[rowM_len,List.take_of_length_le]
 have c2:M.length≤maxLen:=by unfold maxLen;omega
 have c3:L.length+M.length≤maxLen:=by unfold maxLen;omega
 have yb:=at_lt hb
 unfold appendM
 rw[kindE,ck_40]
 simp only[hsrc]
 rcases h.av with⟨rfl,rfl⟩|⟨hne,t,rfl,ht,ht0,htq⟩
 ·simp only[rowM_len,hMl,c2,nil_append,true_and]
  rw[if_pos ⟨by omega,trivial⟩]
  refine⟨q++[some (.row 3 (rowM M))],by rw[put_new rfl],by simp,by simp,fun j hj _=>List.getElem?_append_left hj⟩
 ·simp only[rowM_len,c3,true_and,ht,Nat.le_refl,and_self,if_true,and_true]
  rw[if_pos (by omega),List.take_of_length_le (by simp[rowM_len])]
  refine⟨q.set t none++[some (.row 3 (rowM L++rowM M))],by rw[put_new (by simp),length_append],by simp,by rw[List.getElem?_append_right (by simp)];simp[rowM_app],fun j hj hn=> ?_⟩
  rw[List.getElem?_append_left (by simpa using hj),List.getElem?_set_ne (fun e=>hn t rfl e.symm)]
theorem EntM.app {q q':St}{av:AV}{L M:List (Nat×Ent)}{n0:Nat}(h:EntM q av L n0)(hM:M≠[])(hn:n0≤q.length)(hk:∀ x∈M,q[x.1]? =some (some (.row 1 (bRow x.2.k)))∧n0≤x.1∧∀ t,msOf' av=some t→x.1≠t)(hnd:((L++M).map Prod.fst).Nodup)
 (h1:q'[q.length]? =some (some (.row 3 (rowM (L++M))))) (h2:∀ j,j<q.length→(∀ t,msOf' av=some t→j≠t)→q'[j]? =q[j]?):EntM q' (.ms q.length 3 0 (L++M).length) (L++M) n0:=by
 refine⟨.inr ⟨by simp[hM],q.length,rfl,h1,hn,fun x hx=> ?_⟩,fun x hx=> ?_,hnd⟩
 ·rcases mem_append.1 hx with hx|hx
  ·have:=at_lt (h.ks x hx).1;omega
  ·have:=at_lt (hk x hx).1;omega
 ·rcases mem_append.1 hx with hx|hx
  ·obtain⟨g1,g2⟩:=h.ks x hx
   refine⟨(h2 _ (at_lt g1) fun t ht=> ?_).trans g1,g2⟩
   rcases h.av with⟨rfl,_⟩|⟨_,t',rfl,_,_,htq⟩
   ·simp at hx
   ·simp only[msOf',Option.some.injEq]at ht
    subst ht;exact htq x hx
  ·obtain⟨g1,g2,g3⟩:=hk x hx
   exact⟨(h2 _ (at_lt g1) g3).trans g1,g2⟩
end Go.Proofs.YtockimhceppkbaaGreat
