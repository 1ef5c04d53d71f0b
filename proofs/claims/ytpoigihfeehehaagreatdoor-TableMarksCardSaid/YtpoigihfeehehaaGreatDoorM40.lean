/- Trees: an entry is put in below an inner page, walked. Trees: Insert. -/
import Derived.Test.YtpoigihfeehehaaGreatDoorM39
set_option linter.all false
set_option maxRecDepth 100000
set_option maxHeartbeats 32000000
namespace Go.Proofs.YtpoigihfeehehaaGreatDoor
open Go.RowKit
open List (not_mem_nil)
def Sk:Cq:=(.det 0 (.det 1 (.det 2 (.det 3 (.det 4 (.det 5 (.det 6 (.det 7 (.fin 8 (.det 9 (.det 10 (.det 11 (.det 12 (.det 13 .done))))))))))))))
def Sl:Cq:=(.det 0 (.det 1 (.det 2 (.det 3 (.det 4 (.det 5 (.det 6 (.act 7 (.fin 8 (.det 9 (.fin 10 .done)))))))))))
def tYj:=aa wX <| aa wbu <| aa T3 <| aa T29 <| aa T192 <| aa T228 <| aa T229 <| aa T232 <| aa T234 <| aa T239 T269
theorem G6.tup {h n:Nat}{t:BTr h}{e:Ent}{σ:St}{b p dd l kh:Nat}{U:Nat→Prop}{P:Ak}{v:Nat→List UInt8}{T:Nat→Bool}{r:AV}{σ':St}(hp:G6 h n t e σ b p dd l kh U P v T r σ'):∃ x y,r= .tup [x,y]:=by
 obtain⟨_,_,_,_,_,_,_,_,_,_,_,_,hO⟩:=hp
 rcases hO with⟨_,_,⟨_,rfl⟩|⟨_,_,_,_,_,rfl,_⟩⟩|⟨_,_,_,rfl⟩|⟨_,_,rfl,_⟩<;>exact⟨_,_,rfl⟩
theorem Ajs {σ:St}{b p dd l kh n h:Nat}{U:Nat→Prop}{P:Ak}{v:Nat→List UInt8}{T:Nat→Bool}{e lo:Ent}{hi:Option Ent}{t0:NL h}(hB:Bt σ b p dd l kh U P v)(hT:Tk (v 0) P.pages T)(hnp:P.pages≤3200)(hT0:T 0=true)(hb:Bud P 1)(hTr:Hg v (h+1) n t0)(hnd:(pgT (h+1) n t0).Nodup)
 (htk:∀ q∈pgT (h+1) n t0,1≤q∧q<P.pages∧T q=true) (hOk:OkT true (h+1) lo hi t0) (h1:leE lo e) (h2:ltO e hi) (heo:e.ok)
 (ih:∀ {σ:St} {U:Nat→Prop} {P:Ak} {v:Nat→List UInt8} {T:Nat→Bool} {n:Nat} {t:BTr h} {lo:Ent} {hi:Option Ent},Bt σ b p dd l kh U P v→Tk (v 0) P.pages T→P.pages≤3200→T 0=true→Bud P 1→Hg v h n t→(pgT h n t).Nodup→(∀ q∈pgT h n t,1≤q∧q<P.pages∧T q=true)→OkT true h lo hi t→leE lo e→ltO e hi→
  Aa Tryz.prog 131 [.agg [.mp b 2 0 0],Ad .i64 (n:Nat),Jo e] σ fun r σ'=>G6 h n t e σ b p dd l kh U P v T r σ'):
 Aa Tryz.prog 131 [.agg [.mp b 2 0 0],Ad .i64 (n:Nat),Jo e] σ fun r σ'=>G6 (h+1) n t0 e σ b p dd l kh U P v T r σ':=by
 have hn:=htk n (Fo _ _ _)
 have hlt:=hB.lt
 obtain⟨hne,hhd,hoc⟩:=hOk
 obtain⟨l1,x,l2,rfl,hpl,g1,g2⟩:=Us hne hhd hoc h1 h2
 obtain⟨t,ht⟩:∃ t:NL h,t=l1++x::l2:=⟨_,rfl⟩
 rw[← ht]at hhd hoc hpl
 have hN:D4 (v n) 3 (A9 t):=by rw[ht];exact hTr.1
 have hl49:=hN.n
 have hcut:=Qj (l:=A9 t) (e:=e) (by rw[Aoy];exact Ajh hhd hoc)
 obtain⟨i,hi'⟩:∃ i,i=belF (A9 t) e (Iq (A9 t) e):=⟨_,rfl⟩
 have hpl1:l1.length=i:=by rw[hi'];exact hpl
 have hil:i<(A9 t).length:=by rw[Ev,ht,←hpl1];simp
 have hne':A9 t≠[]:=fun e=>by rw[e]at hil;simp at hil
 have hgi:((A9 t).map itC)[i]? =some (itC ⟨x.1,x.2.1⟩):=by
  rw[← hpl1,ht,Dz,Dl,ZH,QY (by simp[A9])]
  simp[A9]
 have htake:(A9 t).take (i+1)=A9 l1++[⟨x.1,x.2.1⟩]:=by
  rw[ht,Dz,Dl,←hpl1,←Ev l1,List.take_append]
  simp
  exact ZF (Nat.le_succ _)
 have hdrop:(A9 t).drop (i+1)=A9 l2:=by
  rw[ht,Dz,Dl,←hpl1,←Ev l1,WV]
  simp
 have hif:((i:Int)<((A9 t).length:Int))=True:=eq_true (by omega)
 have hi0:=nnI i
 have hiw:=wI i (by omega)
 refine Ab Am An Tryz.func131 (by kernel_rfl) rfl (nt:=81) (rs:=[.tmp 6,.tmp 7]) rfl rfl ?_
 simp only[Jo]
 repeat' simp only[↓wBA,tYj,seval,wH]
 have a1:Ap σ (σ++[some (Ob.row 1 [[AV.mp b 2 0 0]])]++[some (Ob.row 3 [[.p (.sl 1 (Ax e.k)),Ad .i64 (e.p:Nat),Ad .i64 (e.s:Nat)]])]):=(Ap.app _ _).more _
 refine (X5 (hB.ap a1) hn.2.1 hN hb).mono ?_
 rintro _ s1 ⟨U1,P1,a,rfl,f1,hB1,k1,ha,hta⟩
 rcases ha with⟨h0,_⟩|⟨_,tn,rfl,htn⟩
 ·exact absurd h0 hne'
 have q1:=f1.len
 simp only[QE,QF,QI]at q1
 have b0:s1[σ.length]? =some (some (Ob.row 1 [[AV.mp b 2 0 0]])):=by
  rw[f1.keep _ (by simp) fun e=>by have:=hlt _ e;omega];simp[Ad]
 have b1:s1[σ.length+1]? =some (some (Ob.row 3 [[.p (.sl 1 (Ax e.k)),Ad .i64 (e.p:Nat),Ad .i64 (e.s:Nat)]])):=by
  rw[f1.keep _ (by simp) fun e=>by have:=hlt _ e;omega];simp[Ad]
 have y0:=Ac b0
 have y1:=Ac b1
 have hlt1:=hB1.lt
 obtain⟨htn1,htnU⟩:=hta tn rfl
 simp only[QE,QF,QI]at htn1
 have yn:=Ac htn
 have nU0:∀ j,σ.length≤j→j<σ.length+2→¬ U1 j:=fun j hj hj2 e=>(f1.own j e).elim (fun e=>by have:=hlt j e;omega) fun e=>by simp at e;omega
 obtain⟨S1,hS1⟩:∃ S1,S1=s1++[some (Ob.row 2 [[AV.p (.v (.int .i64 3)),AV.ms tn 4 0 (A9 t).length]])]:=⟨_,rfl⟩
 have aS:Ap s1 S1:=⟨_,hS1⟩
 have hS1l:S1.length=s1.length+1:=by rw[hS1];simp
 have bN:S1[s1.length]? =some (some (Ob.row 2 [[AV.p (.v (.int .i64 3)),AV.ms tn 4 0 (A9 t).length]])):=by rw[hS1];simp
 have b0:=aS.get b0
 have b1:=aS.get b1
 have hBS:=hB1.ap aS
 have htS:=aS.get htn
 have hM:ItM S1 tn 0 (A9 t):=⟨_,htS,by simp,fun j x hj=>by simp[hj]⟩
 have hbl:=Awm 3 hM.a (by omega) e _ hcut
 rw[← hi']at hbl
 have y0S:=Ac b0
 have y1S:=Ac b1
 have yNS:=Ac bN
 have ynS:=Ac htS
 simp only[Jo]at hbl
 repeat' first|simp only[↓wBA,tYj,seval,Sk,wH,c3y,hS1.symm,b0,b1,bN,htS,hgi,hif,hi0,itC]|((with_reducible show Aa _ _ _ _ _);refine hbl.eq ?_)|(with_reducible refine dQ Sk 14 (some 52) ?_)
 have hxm:∀ q,q∈pgT h x.2.1 x.2.2→q∈pgT (h+1) n (l1++x::l2:NL h):=fun q hq=>by
  rw[Bz];exact YG _ (YN.2 ⟨x,by simp,hq⟩)
 have hxs:(pgT h x.2.1 x.2.2).Sublist (pgT (h+1) n (l1++x::l2:NL h)):=by
  rw[Bz,Dr,C7]
  exact List.Sublist.cons _ ((WM _ _).trans (List.sublist_append_right _ _))
 refine (ih hBS (by rw[k1.pages];exact hT) (by rw[k1.pages];exact hnp) hT0 (hb.kp k1 (by omega)) (hTr.2 x (by simp)) (hnd.sublist hxs) (fun q hq=>by rw[k1.pages];exact htk q (hxm q hq)) (Lf (by rw[← ht];exact hoc)) g1 g2).mono ?_
 rintro r s2 hp
 obtain⟨rx,ry,rfl⟩:=hp.tup
 obtain⟨U2,P2,v2,T2,s',more',f2,hB2,k2,hs,hm,hW,hO⟩:=hp
 have q2:=f2.len
 have fS:Fr σ S1 U U1:=(a1.fr.trans f1).trans aS.fr
 have n0:¬ U1 σ.length:=nU0 _ (QH _) (by omega)
 have n1:¬ U1 (σ.length+1):=nU0 _ (by omega) (by omega)
 have nN:¬ U1 s1.length:=fun e=>by have:=hlt1 _ e;omega
 have c0:=f2.get b0 n0
 have c1:=f2.get b1 n1
 have cN:=f2.get bN nN
 have cn:=f2.get htS htnU
 have z0:=Ac c0
 have z1:=Ac c1
 have zN:=Ac cN
 have zn:=Ac cn
 rw[k1.pages]at hW hO
 have f02:=fS.trans f2
 have k02:=k1.trans k2
 have ntn:¬ U2 tn:=fun e=>(f2.own tn e).elim htnU fun e=>by omega
 have nN2:¬ U2 s1.length:=fun e=>(f2.own _ e).elim nN fun e=>by omega
 rcases hO with⟨hin,hex,hmo⟩|⟨hd1,hd2,hd3,hd4⟩|⟨hd1,hd3,hd4,hd2⟩
 ·rcases hmo with⟨rfl,hr⟩|⟨xm,m,z,tm,rfl,hr,htm,hle,hnU⟩
  ·simp only[AV.tup.injEq,YI,and_true]at hr
   obtain⟨rfl,rfl⟩:=hr
   have hsp:=Aaf (n:=n) (t:=tn) (kd:=3) hB2 (by rw[k02.pages];exact hW.tkk) (by rw[k02.pages];exact hnp) hW.t0 (hb.kp k02 (by omega)) hn.1 (by rw[k02.pages];exact hn.2.1) (hW.mono n hn.2.2) cn ntn (.inr rfl) hN.ok (by have:=hN.sz;omega)
   simp only[c3y]at hsp
   repeat' simp only[↓wBA,tYj,seval,nilQ,c0,cN]
   refine hsp.mono ?_
   rintro r s3 ⟨U3,P3,v3,f3,h3,k3,hR⟩
   obtain⟨rx,ry,rfl⟩:=hR.tup
   repeat' simp only[↓wBA,tYj,seval]
   have l3:=f3.len
   all_goals refine rtS ?_
   all_goals simp only[wRe,tYj,seval]
   have e1:A9 (l1++(x.1,x.2.1,s')::((none:Option (Ent×Nat×BTr h)).toList++l2):NL h)=A9 t:=by rw[ht];simp[A9]
   rw[k02.pages,←e1]at hR
   rw[ht]at hpl
   exact Yc (len0:=s2.length) (more':=none) (f02.trans f3) h3 (k02.trans k3) (by omega) hnp hn hTr hnd htk hs trivial hW hex hin hpl (by rw[e1];have:=hN.sz;omega) hR
  ·simp only[AV.tup.injEq,YI,and_true]at hr
   obtain⟨rfl,rfl⟩:=hr
   have wtm:=Ac htm
   have e1:A9 (l1++(x.1,x.2.1,s')::((some (xm,m,z):Option (Ent×Nat×BTr h)).toList++l2):NL h)=(A9 t).take (i+1)++⟨xm,m⟩::(A9 t).drop (i+1):=by
    rw[htake,hdrop];simp[A9]
   obtain⟨L2,hL2⟩:∃ L2,L2=A9 (l1++(x.1,x.2.1,s')::((some (xm,m,z):Option (Ent×Nat×BTr h)).toList++l2):NL h):=⟨_,rfl⟩
   rw[← hL2]at e1
   have hlen2:L2.length=(A9 t).length+1:=by rw[e1];simp;omega
   have hok2:∀ y∈L2,y.ok:=fun y hy=>by
    rw[e1]at hy
    rcases QS.1 hy with hy|hy
    ·exact hN.ok y (ZM hy)
    ·rcases QP.1 hy with rfl|hy
     ·exact hm.2
     ·exact hN.ok y (ZX hy)
   have hsz2:szL L2≤646:=by
    have g1:=hN.sz
    have g2:szL (A9 t)=szL ((A9 t).take (i+1))+szL ((A9 t).drop (i+1)):=by rw[← De,ZI]
    have g3:=I0 (x:=⟨xm,m⟩) hm.2
    rw[e1,De,B8];omega
   have hv1:(s2++[some (Ob.right 239 4)])[s2.length]? =some (some (Ob.right 239 4)):=by simp
   have hnd2:NdA (s2++[some (Ob.right 239 4)]) (.ms tn 4 0 (A9 t).length) (A9 t):=.inr ⟨hne',tn,rfl,by rw[QD zn];exact cn⟩
   have hai:=Ajm (x:=⟨xm,m⟩) (k:=i+1) hnd2 (by omega) (by omega) hv1
   simp only[itP]at hai
   rw[← e1]at hai
   have tx1:(tm=s1.length)=False:=eq_false (by omega)
   have tx2:(s1.length=tm)=False:=eq_false (by omega)
   have tx3:(tm=tn)=False:=eq_false (by omega)
   have tx4:(tn=tm)=False:=eq_false (by omega)
   repeat' first|simp only[↓wBA,tYj,seval,Sl,wH,cN,zN,htm,wtm,itC,hiw,tx1]|(with_reducible refine dQ Sl 11 (some 68) ?_)
   refine hai.mono ?_
   rintro _ s3 ⟨rfl,σ0,hl0,hs0,rfl⟩
   simp only[QE,QF,QI]at hl0
   have hms:∀ j,j≠tn→Je (.ms tn 4 0 (A9 t).length)≠some j:=fun j hj e=>hj (by simp only[Je,QB]at e;exact e.symm)
   have hs0':∀ j,j<s2.length→j≠tn→σ0[j]? =s2[j]? :=fun j hj hn=>by rw[hs0 j (hms j hn),QD hj]
   have d0:=(hs0' σ.length z0 (by omega)).trans c0
   have d1:=(hs0' (σ.length+1) z1 (by omega)).trans c1
   have dN:=(hs0' s1.length zN (by omega)).trans cN
   have w0:σ.length<σ0.length:=by omega
   have w1:σ.length+1<σ0.length:=by omega
   have wN:s1.length<σ0.length:=by omega
   have w2:s2.length+1=σ0.length:=by omega
   obtain⟨X,hX⟩:∃ X,X=σ0.set s1.length (some (Ob.row 2 [[AV.p (PV.v (Value.int IntKind.i64 3)),AV.ms σ0.length 4 0 ((A9 t).length+1)]]))++[some (Ob.row 4 (L2.map itC))]:=⟨_,rfl⟩
   have hXl:X.length=σ0.length+1:=by rw[hX];simp
   have hXr:X[σ0.length]? =some (some (Ob.row 4 (L2.map itC))):=by rw[hX,QY (by simp)];simp
   have hX0:∀ j,j<s2.length→j≠tn→j≠s1.length→X[j]? =s2[j]? :=fun j hj hn hn2=>by
    rw[hX,QD (by simp;omega),QO (by omega)];exact hs0' j hj hn
   have hlt2:=hB2.lt
   have hBX:Bt X b p dd l kh U2 P2 v2:=hB2.same fun j hj=>hX0 j (hlt2 j hj) (fun e=>ntn (e▸hj)) (fun e=>nN2 (e▸hj))
   have fX:Fr σ X U U2:=by
    refine⟨by omega,fun j hj hn=> ?_,f02.own⟩
    rw[hX0 j (by omega) (by omega) (by omega)]
    exact f02.keep j hj hn
   have hsp:=Aaf (n:=n) (t:=σ0.length) (kd:=3) hBX (by rw[k02.pages];exact hW.tkk) (by rw[k02.pages];exact hnp) hW.t0 (hb.kp k02 (by omega)) hn.1 (by rw[k02.pages];exact hn.2.1) (hW.mono n hn.2.2) hXr (fun e=>by have:=hlt2 _ e;omega) (.inr rfl) hok2 hsz2
   rw[hlen2]at hsp
   simp only[c3y]at hsp
   rw[hX]at hsp
   repeat' simp only[↓wBA,tYj,seval,wH,d0,dN,w0,wN,w2,y0]
   refine hsp.mono ?_
   rintro r s3 ⟨U3,P3,v3,f3,h3,k3,hR⟩
   obtain⟨rx,ry,rfl⟩:=hR.tup
   repeat' simp only[↓wBA,tYj,seval]
   have l3:=f3.len
   rw[← hX]at f3 l3
   all_goals refine rtS ?_
   all_goals simp only[wRe,tYj,seval]
   rw[k02.pages,←hX,hL2]at hR
   rw[ht]at hpl
   exact Yc (len0:=X.length) (more':=some (xm,m,z)) (fX.trans f3) h3 (k02.trans k3) (by omega) hnp hn hTr hnd htk hs hm hW hex hin hpl (by rw[← hL2];exact hsz2) hR
 ·simp only[AV.tup.injEq,YI,and_true]at hd4
  obtain⟨rfl,rfl⟩:=hd4
  repeat' simp only[↓wBA,tYj,seval,nilQ]
  all_goals refine rtS ?_
  all_goals simp only[wRe,tYj,seval]
  subst hd3
  rw[ht]at hpl
  exact Acr f02 hB2 k02 hTr hnd htk hs hW hpl (.inl ⟨hd1,hd2,rfl⟩)
 ·simp only[AV.tup.injEq,YI,and_true]at hd4
  obtain⟨rfl,rfl⟩:=hd4
  repeat' simp only[↓wBA,tYj,seval,nilQ]
  all_goals refine rtS ?_
  all_goals simp only[wRe,tYj,seval]
  subst hd3
  rw[ht]at hpl
  exact Acr f02 hB2 k02 hTr hnd htk hs hW hpl (.inr ⟨hd1,rfl,hd2⟩)
def Yd:Cq:=(.det 0 (.det 1 (.det 2 (.det 3 (.det 4 (.det 5 (.det 6 (.act 7 (.det 8 (.fin 9 (.det 10 .done)))))))))))
def tYk:=aa wX <| aa wbu <| aa T3 <| aa T4 <| aa T29 <| aa T38 <| aa T51 <| aa T70 <| aa T192 <| aa T228 <| aa T229 <| aa T232 <| aa T234 T239
theorem Acs {b p dd l kh:Nat}{e:Ent}(heo:e.ok):∀ (h:Nat) {σ:St} {U:Nat→Prop} {P:Ak} {v:Nat→List UInt8} {T:Nat→Bool} {n:Nat} {t:BTr h} {lo:Ent} {hi:Option Ent},Bt σ b p dd l kh U P v→Tk (v 0) P.pages T→P.pages≤3200→T 0=true→Bud P 1→Hg v h n t→(pgT h n t).Nodup→(∀ q∈pgT h n t,1≤q∧q<P.pages∧T q=true)→OkT true h lo hi t→leE lo e→ltO e hi→
 Aa Tryz.prog 131 [.agg [.mp b 2 0 0],Ad .i64 (n:Nat),Jo e] σ fun r σ'=>G6 h n t e σ b p dd l kh U P v T r σ'
 |0,σ,U,P,v,T,n,t,lo,hi,hB,hT,hnp,hT0,hb,hTr,hnd,htk,hOk,h1,h2=>Ajn (lo:=lo) (hi:=hi) hB hT hnp hT0 hb hTr (htk n (Fo 0 n t)) hOk.1 heo
 |h+1,σ,U,P,v,T,n,t,lo,hi,hB,hT,hnp,hT0,hb,hTr,hnd,htk,hOk,h1,h2=>Ajs hB hT hnp hT0 hb hTr hnd htk hOk h1 h2 heo fun a1 a2 a3 a4 a5 a6 a7 a8 a9 a10 a11=>Acs heo h a1 a2 a3 a4 a5 a6 a7 a8 a9 a10 a11
def C4:Ent:=⟨[],0,0⟩
theorem Oe (e:Ent):leE C4 e:=fun h=>by
 rcases Jg.1 h with h|⟨_,h⟩
 ·have:Lib.compareBytes e.k []=0∨Lib.compareBytes e.k []=1:=by
   cases e.k with
   |nil=>exact .inl rfl
   |cons a b=>exact .inr rfl
  simp only[C4]at h
  omega
 ·simp only[C4]at h;omega
def kdT:Nat→Nat
 |0=>2
 |_+1=>3
def itsT:(h:Nat)→BTr h→List Itm
 |0,t=>B1 t
 |h+1,t=>A9 (show NL h from t)
def pgC:(h:Nat)→BTr h→List Nat
 |0,_=>[]
 |h+1,t=>flP (show NL h from t)
theorem Afc (h n:Nat)(t:BTr h):pgT h n t=n::pgC h t:=by cases h<;>rfl
theorem Hg.node {v:Nat→List UInt8}{h n:Nat}{t:BTr h}(ht:Hg v h n t):D4 (v n) (kdT h) (itsT h t):=by
 cases h with
 |zero=>exact ht
 |succ h=>exact ht.1
theorem Hg.move {v v':Nat→List UInt8}{h n m:Nat}{t:BTr h}(ht:Hg v h n t)(hN:D4 (v' m) (kdT h) (itsT h t))(hv:∀ q∈pgC h t,v' q=v q):Hg v' h m t:=by
 cases h with
 |zero=>exact hN
 |succ h=>exact⟨hN,fun x hx=>(ht.2 x hx).congr fun q hq=>hv q (YN.2 ⟨x,hx,hq⟩)⟩
structure Lh (v:Nat→List UInt8)(T:Nat→Bool)(np root h:Nat)(t:BTr h):Prop where
 tr:Hg v h root t
 nd:(pgT h root t).Nodup
 tk:∀ q∈pgT h root t,1≤q∧q<np∧T q=true
 ok:OkT true h C4 none t
def Aah (h:Nat)(t:BTr h)(e:Ent)(h':Nat)(t':BTr h'):Prop:=
 (∃ q:h'=h,Ur h t e (q▸t') none)∨∃ (q:h'=h+1) (t1:BTr h) (n m:Nat) (x:Ent) (s:BTr h),Ur h t e t1 (some (x,m,s))∧(q▸t':BTr (h+1))=([(C4,n,t1),(x,m,s)]:NL h)
def Li (h:Nat)(t:BTr h)(e:Ent)(T T':Nat→Bool):Prop:=∃ (L:List Nat) (h2:Nat) (t2:BTr h2),(∀ q,T' q=true→T q=true∨q∈L)∧Aah h t e h2 t2∧L.length+(pgT h 0 t).length+1≤(pgT h2 0 t2).length
theorem Aai {h n m root:Nat}{x y:Ent}{t s:BTr h}:pgT (h+1) root ([(x,n,t),(y,m,s)]:NL h)=root::(pgT h n t++pgT h m s):=by
 rw[Bz];simp[flP]
theorem Ajt {h:Nat}{t:BTr h}{e:Ent}{T T':Nat→Bool}(hl:Ajk h t e T T'):Li h t e T T':=by
 obtain⟨L,t2,more2,u1,u2,u3,u4⟩:=hl
 cases more2 with
 |none=>exact⟨L,h,t2,u1,.inl ⟨rfl,u2⟩,by simpa [Ce]using u4⟩
 |some z=>
  obtain⟨x,m,s⟩:=z
  refine⟨L,h+1,([(C4,0,t2),(x,m,s)]:NL h),u1,.inr ⟨rfl,t2,0,m,x,s,u2,rfl⟩,?_⟩
  rw[Aai]
  simp only[Ce]at u4
  simp only[QF,QE];omega
theorem Amg {h root m:Nat}{t t1 s:BTr h}{e x:Ent}{T T':Nat→Bool}(hn:(pgT h root t).Nodup)(hT:∀ q∈pgT h root t,T q=true)(hi:Ur h t e t1 (some (x,m,s)))(hx:∀ q,T' q=true→T q=true∨q∈pgT h root t1++pgT h m s):Li h t e T T':=by
 have hnl:=Ajr (T:=T) hn hT (X9 (n:=root) hi)
 rw[QE,Mq h root 0 t,Mq h root 0 t1]at hnl
 refine⟨(pgT h root t1++pgT h m s).filter fun q=> !T q,h+1,([(C4,0,t1),(x,m,s)]:NL h),fun q hq=> ?_,.inr ⟨rfl,t1,0,m,x,s,hi,rfl⟩,?_⟩
 ·cases hTq:T q with
  |true=>exact .inl rfl
  |false=>
   rcases hx q hq with h|h
   ·rw[hTq]at h;cases h
   ·exact .inr (List.mem_filter.2 ⟨h,by simp[hTq]⟩)
 ·rw[Aai]
  simp only[Ce]at hnl
  simp only[QF,QE];omega
theorem Aq1 {h root h':Nat}{t:BTr h}{e:Ent}{t':BTr h'}(hr:Aah h t e h' t'):∀ q∈pgT h root t,q∈pgT h' root t':=by
 rcases hr with⟨rfl,hi⟩|⟨rfl,t1,n,m,x,s,hi,ht⟩
 ·intro q hq
  have:=X9 (n:=root) hi q hq
  simpa [Ce]using this
 ·have ht:t'=([(C4,n,t1),(x,m,s)]:NL h):=ht
  subst ht
  intro q hq
  rw[Aai]
  rw[Afc]at hq
  rcases QP.1 hq with rfl|hq
  ·simp
  ·exact YG _ (X9 (n:=n) hi q (by rw[Afc];exact YG _ hq))
theorem cntL:∀ (L:List Nat) {T T':Nat→Bool},(∀ q,T' q=true→T q=true∨q∈L)→∀ np,cnt T' np≤cnt T np+L.length
 |[],T,T',h,np=>by
  induction np with
  |zero=>exact QH _
  |succ k ih=>
   simp only[cnt]
   have:T' k=true→T k=true:=fun h1=>(h k h1).elim id fun e=>by simp at e
   simp only[QI,XD]at ih ⊢
   cases h1:T' k with
   |true=>rw[this h1];simp;omega
   |false=>simp;split<;>omega
 |a::L,T,T',h,np=>by
  have h1:=cntL L (T:=D3 T a true) (T':=T') (fun q hq=>by
   unfold D3
   by_cases e:q=a
   ·rw[if_pos e];exact .inl rfl
   ·rw[if_neg e]
    rcases h q hq with h|h
    ·exact .inl h
    ·rcases QP.1 h with h|h
     ·exact absurd h e
     ·exact .inr h) np
  have h2:cnt (D3 T a true) np≤cnt T np+1:=by
   clear h1 h
   induction np with
   |zero=>exact YS _
   |succ k ih=>
    simp only[cnt]
    by_cases e:k=a
    ·subst e
     have:cnt (D3 T k true) k=cnt T k:=Xs k fun m hm=>by unfold D3;rw[if_neg (by omega)]
     rw[this]
     split<;>split<;>omega
    ·have:D3 T a true k=T k:=by unfold D3;rw[if_neg e]
     rw[this];omega
  simp only[QF];omega
theorem Li.cnt {h:Nat}{t:BTr h}{e:Ent}{T T':Nat→Bool}{np:Nat}(hl:Li h t e T T')(ha:∀ q,q<np→T' q=true):∃ h2 t2,Aah h t e h2 t2∧np+(pgT h 0 t).length+1≤Proofs.YtpoigihfeehehaaGreatDoor.cnt T np+(pgT h2 0 t2).length:=by
 obtain⟨L,h2,t2,u1,u2,u3⟩:=hl
 have:=cntL L u1 np
 rw[Qc np ha]at this
 exact⟨h2,t2,u2,by omega⟩
def Amh (root h:Nat)(t:BTr h)(e:Ent)(σ:St)(b p dd l kh:Nat)(U:Nat→Prop)(P:Ak)(v:Nat→List UInt8)(T:Nat→Bool)(r:AV)(σ':St):Prop:=
 ∃ U' P' v' T' h' t',Fr σ σ' U U'∧Bt σ' b p dd l kh U' P' v'∧Kp P P' 0∧Lh v' T' P.pages root h' t'∧Od v v' T T' P.pages (pgT h root t) (pgT h' root t')∧
   ((r=Ad .i64 0∧Aah h t e h' t'∧∀ q,T' q=true→T q=true∨q∈pgT h' root t')
   ∨(r=Ad .i64 1∧e∈Bj h t∧∃ q:h'=h,(q▸t':BTr h)=t)
   ∨(r=Ad .i64 20∧(∀ q,q<P.pages→T' q=true)∧Li h t e T T'))
def Ut (n m:Nat)(x:Ent):List (List PV):=[[.v (.slice none 0 0),.v (.int .i64 0),.v (.int .i64 0),.v (.int .i64 (n:Nat))],itP ⟨x,m⟩]
theorem Aju (σ:St)(tv n m:Nat)(x:Ent):ItX σ (.own tv 4 (Ut n m x)) [⟨C4,n⟩,⟨x,m⟩]:=by
 refine .inr ⟨rfl,rfl,fun s M u hM hu=> ?_⟩
 have h:=Al7 hu
 simp only[Ag]at h
 have h2:Ca M.w (allJ M.w) (.sl 4 (Ut n m x)) u:=Ca.later (fun b o h=>hM.imm b o h) (fun _ _ _=>rfl) _ _ h
 simp only[Ca,Ut,Br,Do]at h2
 simp only[Ca,encI,QK,ZB,Br,itP,Do]at h2 ⊢
 rcases h2 with⟨h0,_⟩|⟨bb,off,cap,e1,e2,e3,⟨⟨u0,c1,c2,c3⟩,c4⟩,e5⟩
 ·simp at h0
 ·refine .inr ⟨bb,off,cap,e1,e2,rfl,⟨⟨u0,c1,c2,?_⟩,c4⟩,e5⟩
  have:=c3.2;subst this
  exact .inl ⟨by simp[C4,Ax],none,0,rfl,fun _=>rfl⟩
theorem Ami {h root nn np m:Nat}{t1 z:BTr h}{xm:Ent}{v1 v3 v5:Nat→List UInt8}{T1:Nat→Bool}(ht1:Hg v1 h root t1)(hm:X8 v1 h (some (xm,m,z)))(hnd:(pgT h root t1++pgT h m z).Nodup)(htk:∀ q∈pgT h root t1++pgT h m z,1≤q∧q<np∧T1 q=true)(h0:T1 0=true)(hnp:np≤3200)
 (hn1:1≤nn) (hn2:nn<np) (hTn:T1 nn=false) (hvo:∀ q,q≠nn→q≠0→v3 q=v1 q) (hTk:Tk (v3 0) np (D3 T1 nn true)) (hv5:v5=upV (upV v3 nn (Hx (kdT h) (itsT h t1)).1) root (Hx 3 [⟨C4,nn⟩,⟨xm,m⟩]).1) (hok1:OkT true h C4 (some xm) t1) (hok2:OkT true h xm none z) (hlt:ltE C4 xm):
 Lh v5 (D3 T1 nn true) np root (h+1) ([(C4,nn,t1),(xm,m,z)]:NL h)∧Od v1 v5 T1 (D3 T1 nn true) np (pgT h root t1++pgT h m z) (pgT (h+1) root ([(C4,nn,t1),(xm,m,z)]:NL h))∧∀ q,D3 T1 nn true q=true→T1 q=true∨q∈pgT (h+1) root ([(C4,nn,t1),(xm,m,z)]:NL h):=by
 have hps:pgT (h+1) root ([(C4,nn,t1),(xm,m,z)]:NL h)=root::nn::(pgC h t1++pgT h m z):=by
  rw[Bz];simp[flP,Afc h nn t1]
 rw[hps]
 rw[Afc h root t1]at hnd htk ⊢
 simp only[ZN]at hnd htk ⊢
 have hro:=htk root (by simp)
 have hrn:root≠nn:=fun e=>by rw[e]at hro;rw[hTn]at hro;simp at hro
 have hnn:∀ q∈pgC h t1++pgT h m z,q≠nn∧q≠root∧q≠0:=fun q hq=>by
  have:=htk q (by simp only[QP];exact .inr hq)
  exact⟨fun e=>by rw[e,hTn]at this;simp at this,fun e=>(ZU.1 hnd).1 (e▸hq),by omega⟩
 have hv:∀ q∈pgC h t1++pgT h m z,v5 q=v1 q:=fun q hq=>by
  obtain⟨g1,g2,g3⟩:=hnn q hq
  rw[hv5];unfold upV;rw[if_neg g2,if_neg g1];exact hvo q g1 g3
 have hvn:v5 nn=(Hx (kdT h) (itsT h t1)).1:=by rw[hv5];unfold upV;rw[if_neg (fun e=>hrn e.symm),if_pos rfl]
 have hvr:v5 root=(Hx 3 [⟨C4,nn⟩,⟨xm,m⟩]).1:=by rw[hv5];unfold upV;rw[if_pos rfl]
 have hkd:kdT h=2∨kdT h=3:=by cases h<;>simp[kdT]
 have hN1:=(E6 hkd ht1.node.ok ht1.node.sz).2
 have hi:∀ y∈([⟨C4,nn⟩,⟨xm,m⟩]:List Itm),y.ok:=fun y hy=>by
  simp only[QP,not_mem_nil,or_false]at hy
  rcases hy with rfl|rfl
  ·exact⟨⟨by simp[C4],by simp[C4],by simp[C4]⟩,by show nn<65536;omega⟩
  ·exact hm.2
 have hsz:szL ([⟨C4,nn⟩,⟨xm,m⟩]:List Itm)≤496:=by
  have:=I0 (hi ⟨xm,m⟩ (by simp))
  have:=I0 (hi ⟨C4,nn⟩ (by simp))
  rw[B8,B8,Dy];omega
 have hN3:=(E6 (.inr rfl) hi hsz).2
 rw[← hvr]at hN3
 rw[← hvn]at hN1
 have hT0':D3 T1 nn true 0=true:=by unfold D3;split<;>simp_all
 have hmono:∀ q,T1 q=true→D3 T1 nn true q=true:=fun q h=>by unfold D3;split<;>simp_all
 have hnd':(root::nn::(pgC h t1++pgT h m z)).Nodup:=by
  have:=ZU.1 hnd
  refine ZU.2 ⟨fun e=> ?_,ZU.2 ⟨fun e=>(hnn nn e).1 rfl,this.2⟩⟩
  rcases QP.1 e with e|e
  ·exact hrn e
  ·exact this.1 e
 have htk':∀ q∈root::nn::(pgC h t1++pgT h m z),1≤q∧q<np∧D3 T1 nn true q=true:=fun q hq=>by
  rcases QP.1 hq with rfl|hq
  ·exact⟨hro.1,hro.2.1,hmono _ hro.2.2⟩
  ·rcases QP.1 hq with rfl|hq
   ·exact⟨hn1,hn2,by simp[D3]⟩
   ·obtain⟨a1,a2,a3⟩:=htk q (by simp only[QP];exact .inr hq)
    exact⟨a1,a2,hmono q a3⟩
 refine⟨⟨⟨hN3,fun y hy=> ?_⟩,by rw[hps];exact hnd',by rw[hps];exact htk',?_⟩,⟨hnd',htk',fun q hq=> ?_,hmono,fun q hq hT hq0=> ?_,hT0',?_⟩,fun q hq=> ?_⟩
 ·have hy:y∈([(C4,nn,t1),(xm,m,z)]:NL h):=hy
  simp only[QP,not_mem_nil,or_false]at hy
  rcases hy with rfl|rfl
  ·exact ht1.move hN1 fun q hq=>hv q (by simp[hq])
  ·exact hm.1.congr fun q hq=>hv q (by simp[hq])
 ·exact⟨by simp,Oc _,hlt,trivial,hok1,hok2⟩
 ·rcases QP.1 hq with rfl|hq
  ·exact .inl (by simp)
  ·rcases QP.1 hq with rfl|hq
   ·exact .inr hTn
   ·exact .inl (by simp only[QP];exact .inr hq)
 ·have g1:q≠nn:=fun e=>by rw[e,hTn]at hT;cases hT
  have g2:q≠root:=fun e=>hq (by simp[e])
  rw[hv5];unfold upV;rw[if_neg g2,if_neg g1];exact hvo q g1 hq0
 ·rw[hv5];unfold upV;rw[if_neg (by omega),if_neg (by omega)];exact hTk
 ·unfold D3 at hq
  split at hq
  ·rename_i e;right;simp[e]
  ·exact .inl hq
theorem A11 (p s:Int)(σ:St)(h:0≤p∧p<65536∧0≤s∧s<65536):Aa Tryz.prog 130 [.agg [Ad .i64 p,Ad .i64 s]] σ fun r s'=>s'=σ∧r=Av true:=by
 refine Aa.pureF (R:=fun r=>r=Av true) ?_ rfl σ
 obtain⟨h1,h2,h3,h4⟩:=h
 have e1:decide (p≥0)=true:=by simpa using h1
 have e1':decide (0≤p)=true:=by simpa using h1
 have e2:decide (p<65536)=true:=by simpa using h2
 have e3:decide (s≥0)=true:=by simpa using h3
 have e3':decide (0≤s)=true:=by simpa using h3
 have e4:decide (s<65536)=true:=by simpa using h4
 refine Ab Am An Tryz.func130 (by kernel_rfl) rfl (nt:=20) (rs:=[.tmp 2]) rfl rfl ?_
 repeat' simp only[↓wBA,tYk,seval,e1,e2,e3,e4]
 all_goals refine Cc (a:=_) ?_ rfl rfl
 all_goals simp only[tYk,seval]
 all_goals simp_all [wS]
theorem A12 {σ:St}{b p dd l kh root h:Nat}{U:Nat→Prop}{P:Ak}{v:Nat→List UInt8}{T:Nat→Bool}{e:Ent}{t:BTr h}(hB:Bt σ b p dd l kh U P v)(hT:Tk (v 0) P.pages T)(hnp:P.pages≤3200)(hT0:T 0=true)(hb:Bud P 1)(hR:Lh v T P.pages root h t)(heo:e.ok):
 Aa Tryz.prog 83 [.mp b 2 0 0,Ad .i64 (root:Nat),.p (.sl 1 (Ax e.k)),.agg [Ad .i64 (e.p:Nat),Ad .i64 (e.s:Nat)]] σ fun r σ'=>Amh root h t e σ b p dd l kh U P v T r σ':=by
 have hlt:=hB.lt
 have hn:=hR.tk root (Fo _ _ _)
 have hkl:=Dk e.k
 have hk:=heo.1
 have e1:decide ((e.k.length:Int)>140)=false:=by simp;omega
 have e1':=dF (i:=140) (n:=e.k.length) (by omega)
 have hmy:=fun σ=>A11 (e.p:Nat) (e.s:Nat) σ ⟨by omega,by have:=heo.2.1;omega,by omega,by have:=heo.2.2;omega⟩
 refine Ab Am An Tryz.func83 (by kernel_rfl) rfl (nt:=76) (rs:=[.tmp 8]) rfl rfl ?_
 repeat' first|simp only[↓wBA,tYk,seval,wH,hkl,e1]|((with_reducible show Aa _ _ _ _ _);refine (hmy _).eq ?_)
 have a1:Ap σ (σ++[some (Ob.row 2 [[Ad .i64 (e.p:Nat),Ad .i64 (e.s:Nat)]])]++[some (Ob.row 1 [[AV.mp b 2 0 0]])]):=(Ap.app _ _).more _
 refine (Acs heo h (hB.ap a1) hT hnp hT0 hb hR.tr hR.nd hR.tk hR.ok (Oe e) trivial).mono ?_
 rintro r s1 hp
 obtain⟨rx,ry,rfl⟩:=hp.tup
 obtain⟨U1,P1,v1,T1,t1,more,f1,hB1,k1,ht1,hm,hW,hO⟩:=hp
 have q1:=f1.len
 simp only[QE,QF,QI]at q1
 have f01:=a1.fr.trans f1
 rcases hO with⟨hin,hex,hmo⟩|⟨hd1,rfl,rfl,hd4⟩|⟨hd1,rfl,hd4,hd2⟩
 ·rcases hmo with⟨rfl,hr⟩|⟨xm,m,z,tm,rfl,hr,htm,hle,hnU⟩
  ·simp only[AV.tup.injEq,YI,and_true]at hr
   obtain⟨rfl,rfl⟩:=hr
   repeat' simp only[↓wBA,tYk,seval,nilQ]
   all_goals refine rtS ?_
   all_goals simp only[wRe,tYk,seval]
   simp only[Ce,ZT]at hW hex
   exact⟨U1,P1,v1,T1,h,t1,f01,hB1,k1,⟨ht1,hW.nd,hW.tk,Acp hR.ok (Oe e) trivial hin⟩,hW,.inl ⟨rfl,.inl ⟨rfl,hin⟩,hex⟩⟩
  ·simp only[AV.tup.injEq,YI,and_true]at hr
   obtain⟨rfl,rfl⟩:=hr
   have b1:s1[σ.length+1]? =some (some (Ob.row 1 [[AV.mp b 2 0 0]])):=by
    rw[f1.keep _ (by simp) fun e=>by have:=hlt _ e;omega];simp
   have y1:=Ac b1
   have ytm:=Ac htm
   have hle2:σ.length+2≤tm:=by simpa using hle
   have hlt1:=hB1.lt
   have nU1:¬ U1 (σ.length+1):=fun e=>(f1.own _ e).elim (fun e=>by have:=hlt _ e;omega) fun e=>by simp at e
   have hN1:=ht1.node
   have hkd:kdT h=2∨kdT h=3:=by cases h<;>simp[kdT]
   repeat' simp only[↓wBA,tYk,seval,b1]
   refine (X5 hB1 (by rw[k1.pages];exact hn.2.1) hN1 (hb.kp k1 (by omega))).mono ?_
   rintro _ s2 ⟨U2,P2,a,rfl,f2,hB2,k2,ha,hta⟩
   have q2:=f2.len
   have hlt2:=hB2.lt
   have nU2:¬ U2 (σ.length+1):=fun e=>(f2.own _ e).elim nU1 fun e=>by omega
   have ntm:¬ U2 tm:=fun e=>(f2.own _ e).elim hnU fun e=>by omega
   have b2:=f2.get b1 nU1
   have tm2:=f2.get htm hnU
   have y2:=Ac b2
   have ytm2:=Ac tm2
   have hlf:=ha.x.leaf
   have hcc:=ha.x.cells
   repeat' simp only[↓wBA,tYk,seval,wH]
   have a3:=Ap.app s2 [some (Ob.row 2 [[Ad .i64 (kdT h:Nat),a]])]
   have k12:=k1.trans k2
   refine (Uk (kind:=(kdT h:Nat)) (T:=T1) (hB2.ap a3) (by rw[k12.pages];exact hW.tkk) (by rw[k12.pages];exact hnp) (by rw[k12.pages];omega) hW.t0 (hb.kp k12 (by omega))).mono ?_
   rintro r s3 ⟨U3,P3,v3,f3,hB3,k3,hc⟩
   have q3:=f3.len
   simp only[QE,QF,QI]at q3
   have f03:=((f01.trans f2).trans a3.fr).trans f3
   have k13:=k12.trans k3
   have hio:=Acp hR.ok (Oe e) trivial hin
   rcases hc with⟨nn,m1,m2,hTm,rfl,hvm,hvo,hTk⟩|⟨hall,rfl,rfl⟩
   ·rw[k12.pages]at m2 hTk
    have cN:s3[s2.length]? =some (some (Ob.row 2 [[Ad .i64 (kdT h:Nat),a]])):=by
     rw[f3.keep _ (by simp) fun e=>by have:=hlt2 _ e;omega];simp
    have c1:s3[σ.length+1]? =some (some (Ob.row 1 [[AV.mp b 2 0 0]])):=by
     rw[f3.keep _ (by simp;omega) nU2,QD y2];exact b2
    have ctm:s3[tm]? =some (some (Ob.row 4 [itC ⟨xm,m⟩])):=by
     rw[f3.keep _ (by simp;omega) ntm,QD ytm2];exact tm2
    have zN:=Ac cN
    have z1:=Ac c1
    have ztm:=Ac ctm
    have nN3:¬ U3 s2.length:=fun e=>(f3.own _ e).elim (fun e=>by have:=hlt2 _ e;omega) fun e=>by simp at e;omega
    have n13:¬ U3 (σ.length+1):=fun e=>(f3.own _ e).elim nU2 fun e=>by simp at e;omega
    have ntm3:¬ U3 tm:=fun e=>(f3.own _ e).elim ntm fun e=>by simp at e;omega
    have ha3:NdA s3 a (itsT h t1):=ha.same fun j hj=>by
     have:=ha.lt hj
     rw[f3.keep j (by simp;omega) (hta j hj).2,QD this]
    repeat' simp only[↓wBA,tYk,seval,cN,c1]
    refine (Mo hB3 m1 (by rw[k13.pages];exact m2) ha3.x hkd hN1.ok hN1.sz).mono ?_
    rintro _ s4 ⟨rfl,U4,f4,hB4⟩
    have q4:=f4.len
    have d1:=f4.get c1 n13
    have dtm:=f4.get ctm ntm3
    have w1:=Ac d1
    have wtm:=Ac dtm
    have a5:=Ap.app s4 [some (Ob.right 239 8)]
    have hi:∀ y∈([⟨C4,nn⟩,⟨xm,m⟩]:List Itm),y.ok:=fun y hy=>by
     simp only[QP,not_mem_nil,or_false]at hy
     rcases hy with rfl|rfl
     ·exact⟨⟨by simp[C4],by simp[C4],by simp[C4]⟩,by show nn<65536;omega⟩
     ·exact hm.2
    have hsz:szL ([⟨C4,nn⟩,⟨xm,m⟩]:List Itm)≤496:=by
     have:=I0 (hi ⟨xm,m⟩ (by simp))
     have:=I0 (hi ⟨C4,nn⟩ (by simp))
     rw[B8,B8,Dy];omega
    have hwr:=Mo (kd:=3) (n:=root) (hB4.ap a5) hn.1 (by rw[k13.pages];exact hn.2.1) (Aju _ s4.length nn m xm) (.inr rfl) hi hsz
    simp only[Ut,itP,c3y]at hwr
    have tx1:(tm=σ.length+1)=False:=eq_false (by omega)
    have tx2:(σ.length+1=tm)=False:=eq_false (by omega)
    repeat' first|simp only[↓wBA,tYk,seval,Yd,wH,d1,dtm,w1,wtm,itC,tx1]|(with_reducible refine dQ Yd 11 (some 70) ?_)
    refine hwr.mono ?_
    rintro _ s5 ⟨rfl,U5,f5,hB5⟩
    have q5:=f5.len
    simp only[QE,QF,QI]at q5
    repeat' simp only[↓wBA,tYk,seval]
    all_goals refine rtS ?_
    all_goals simp only[wRe,tYk,seval]
    obtain⟨r1,r2,r3⟩:=Ami ht1 hm hW.nd hW.tk hW.t0 hnp m1 m2 hTm hvo hTk rfl hio.1 hio.2.1 hio.2.2.1
    refine⟨U5,P3,_,D3 T1 nn true,h+1,_,((f03.trans f4).trans a5.fr).trans f5,hB5,k13,r1,hW.trans r2,.inl ⟨rfl,.inr ⟨rfl,t1,nn,m,xm,z,hin,rfl⟩,fun q hq=> ?_⟩⟩
    rcases r3 q hq with h1|h1
    ·rcases hex q h1 with h2|h2
     ·exact .inl h2
     ·refine .inr ?_
      rw[Bz]
      rw[Afc]at h2
      simp only[Ce,flP,YA,WQ,ZT,Afc h nn t1,QP,QS]at h2 ⊢
      rcases h2 with (h2|h2)|h2<;>simp[h2]
    ·exact .inr h1
   ·skip
    repeat' simp only[↓wBA,tYk,seval]
    all_goals refine rtS ?_
    all_goals simp only[wRe,tYk,seval]
    refine⟨U3,P3,_,T1,h,t1,f03,hB3,k13,⟨ht1,(hW.sub (WM _ _)).nd,(hW.sub (WM _ _)).tk,hio.1.hiMono trivial⟩,hW.sub (WM _ _),.inr (.inr ⟨rfl,fun q hq=>hall q (by rw[k12.pages];exact hq),Amg hR.nd (fun q hq=>(hR.tk q hq).2.2) hin hex⟩)⟩
 ·simp only[AV.tup.injEq,YI,and_true]at hd4
  obtain⟨rfl,rfl⟩:=hd4
  repeat' simp only[↓wBA,tYk,seval,nilQ]
  all_goals refine rtS ?_
  all_goals simp only[wRe,tYk,seval]
  simp only[Ce,ZT]at hW
  exact⟨U1,P1,v1,T1,h,_,f01,hB1,k1,⟨ht1,hW.nd,hW.tk,hR.ok⟩,hW,.inr (.inl ⟨rfl,hd1,rfl,rfl⟩)⟩
 ·simp only[AV.tup.injEq,YI,and_true]at hd4
  obtain⟨rfl,rfl⟩:=hd4
  repeat' simp only[↓wBA,tYk,seval,nilQ]
  all_goals refine rtS ?_
  all_goals simp only[wRe,tYk,seval]
  simp only[Ce,ZT]at hW
  exact⟨U1,P1,v1,T1,h,_,f01,hB1,k1,⟨ht1,hW.nd,hW.tk,Ajj hR.ok (Oe e) trivial hd1⟩,hW,.inr (.inr ⟨rfl,hd2.1,Ajt hd2.2⟩)⟩
