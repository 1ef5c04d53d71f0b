/- Trees: an entry is put in below an inner page, walked. Trees: Insert. -/
import Derived.Test.YtpoigihfeehehaaGreatDoorM39
set_option linter.all false
set_option maxRecDepth 100000
set_option maxHeartbeats 32000000
namespace Go.Proofs.YtpoigihfeehehaaGreatDoor
open Go.RowKit
open List (append_nil getElem?_append_left length_append length_cons length_nil mem_cons nodup_cons not_mem_nil)
def Sr:Cv:=(.det 0 (.det 1 (.det 2 (.det 3 (.det 4 (.det 5 (.det 6 (.det 7 (.fin 8 (.det 9 (.det 10 (.det 11 (.det 12 (.det 13 .done))))))))))))))
def Ss:Cv:=(.det 0 (.det 1 (.det 2 (.det 3 (.det 4 (.det 5 (.det 6 (.act 7 (.fin 8 (.det 9 (.fin 10 .done)))))))))))
def tYj:=aa wX <| aa wbu <| aa T3 <| aa T29 <| aa T192 <| aa T228 <| aa T229 <| aa T232 <| aa T234 <| aa T239 T269
theorem G8.tup {h n:Nat}{t:BTr h}{e:Ent}{σ:St}{b p dd l kh:Nat}{U:Nat→Prop}{P:Al}{v:Nat→List UInt8}{T:Nat→Bool}{r:AV}{σ':St}(hp:G8 h n t e σ b p dd l kh U P v T r σ'):∃ x y,r= .tup [x,y]:=by
 obtain⟨_,_,_,_,_,_,_,_,_,_,_,_,hO⟩:=hp
 rcases hO with⟨_,_,⟨_,rfl⟩|⟨_,_,_,_,_,rfl,_⟩⟩|⟨_,_,_,rfl⟩|⟨_,_,rfl,_⟩<;>exact⟨_,_,rfl⟩
theorem Ajf {σ:St}{b p dd l kh n h:Nat}{U:Nat→Prop}{P:Al}{v:Nat→List UInt8}{T:Nat→Bool}{e lo:Ent}{hi:Option Ent}{t0:NL h}(hB:Bt σ b p dd l kh U P v)(hT:Tk (v 0) P.pages T)(hnp:P.pages≤3200)(hT0:T 0=true)(hb:Bud P 1)(hTr:Hi v (h+1) n t0)(hnd:(pgT (h+1) n t0).Nodup)
 (htk:∀ q∈pgT (h+1) n t0,1≤q∧q<P.pages∧T q=true) (hOk:OkT true (h+1) lo hi t0) (h1:leE lo e) (h2:ltO e hi) (heo:e.ok)
 (ih:∀ {σ:St} {U:Nat→Prop} {P:Al} {v:Nat→List UInt8} {T:Nat→Bool} {n:Nat} {t:BTr h} {lo:Ent} {hi:Option Ent},Bt σ b p dd l kh U P v→Tk (v 0) P.pages T→P.pages≤3200→T 0=true→Bud P 1→Hi v h n t→(pgT h n t).Nodup→(∀ q∈pgT h n t,1≤q∧q<P.pages∧T q=true)→OkT true h lo hi t→leE lo e→ltO e hi→
  Aa Tryz.prog 131 [.agg [.mp b 2 0 0],Ad .i64 (n:Nat),Ju e] σ fun r σ'=>G8 h n t e σ b p dd l kh U P v T r σ'):
 Aa Tryz.prog 131 [.agg [.mp b 2 0 0],Ad .i64 (n:Nat),Ju e] σ fun r σ'=>G8 (h+1) n t0 e σ b p dd l kh U P v T r σ':=by
 have hn:=htk n (Ft _ _ _)
 have hlt:=hB.lt
 obtain⟨hne,hhd,hoc⟩:=hOk
 obtain⟨l1,x,l2,rfl,hpl,g1,g2⟩:=Uv hne hhd hoc h1 h2
 obtain⟨t,ht⟩:∃ t:NL h,t=l1++x::l2:=⟨_,rfl⟩
 rw[← ht]at hhd hoc hpl
 have hN:D4 (v n) 3 (Bc t):=by rw[ht];exact hTr.1
 have hl49:=hN.n
 have hcut:=Qi (l:=Bc t) (e:=e) (by rw[Aon];exact Ai4 hhd hoc)
 obtain⟨i,hi'⟩:∃ i,i=belF (Bc t) e (Iu (Bc t) e):=⟨_,rfl⟩
 have hpl1:l1.length=i:=by rw[hi'];exact hpl
 have hil:i<(Bc t).length:=by rw[Ex,ht,←hpl1];simp
 have hne':Bc t≠[]:=fun e=>by rw[e]at hil;simp at hil
 have hgi:((Bc t).map itC)[i]? =some (itC ⟨x.1,x.2.1⟩):=by
  rw[← hpl1,ht,Dz,Dn,List.map_append,List.getElem?_append_right (by simp[Bc])]
  simp[Bc]
 have htake:(Bc t).take (i+1)=Bc l1++[⟨x.1,x.2.1⟩]:=by
  rw[ht,Dz,Dn,←hpl1,←Ex l1,List.take_append]
  simp
  exact List.take_of_length_le (Nat.le_succ _)
 have hdrop:(Bc t).drop (i+1)=Bc l2:=by
  rw[ht,Dz,Dn,←hpl1,←Ex l1,List.drop_append]
  simp
 have hif:((i:Int)<((Bc t).length:Int))=True:=eq_true (by omega)
 have hi0:=nnI i
 have hiw:=wI i (by omega)
 refine Ab Am Ao Tryz.func131 (by kernel_rfl) rfl (nt:=81) (rs:=[.tmp 6,.tmp 7]) rfl rfl ?_
 simp only[Ju]
 repeat' simp only[↓wBA,tYj,seval,wH]
 have a1:Ap σ (σ++[some (Ob.row 1 [[AV.mp b 2 0 0]])]++[some (Ob.row 3 [[.p (.sl 1 (Ay e.k)),Ad .i64 (e.p:Nat),Ad .i64 (e.s:Nat)]])]):=(Ap.app _ _).more _
 refine (X3 (hB.ap a1) hn.2.1 hN hb).mono ?_
 rintro _ s1 ⟨U1,P1,a,rfl,f1,hB1,k1,ha,hta⟩
 rcases ha with⟨h0,_⟩|⟨_,tn,rfl,htn⟩
 ·exact absurd h0 hne'
 have q1:=f1.len
 simp only[length_append,length_cons,length_nil]at q1
 have b0:s1[σ.length]? =some (some (Ob.row 1 [[AV.mp b 2 0 0]])):=by
  rw[f1.keep _ (by simp) fun e=>by have:=hlt _ e;omega];simp[Ad]
 have b1:s1[σ.length+1]? =some (some (Ob.row 3 [[.p (.sl 1 (Ay e.k)),Ad .i64 (e.p:Nat),Ad .i64 (e.s:Nat)]])):=by
  rw[f1.keep _ (by simp) fun e=>by have:=hlt _ e;omega];simp[Ad]
 have y0:=Ac b0
 have y1:=Ac b1
 have hlt1:=hB1.lt
 obtain⟨htn1,htnU⟩:=hta tn rfl
 simp only[length_append,length_cons,length_nil]at htn1
 have yn:=Ac htn
 have nU0:∀ j,σ.length≤j→j<σ.length+2→¬ U1 j:=fun j hj hj2 e=>(f1.own j e).elim (fun e=>by have:=hlt j e;omega) fun e=>by simp at e;omega
 obtain⟨S1,hS1⟩:∃ S1,S1=s1++[some (Ob.row 2 [[AV.p (.v (.int .i64 3)),AV.ms tn 4 0 (Bc t).length]])]:=⟨_,rfl⟩
 have aS:Ap s1 S1:=⟨_,hS1⟩
 have hS1l:S1.length=s1.length+1:=by rw[hS1];simp
 have bN:S1[s1.length]? =some (some (Ob.row 2 [[AV.p (.v (.int .i64 3)),AV.ms tn 4 0 (Bc t).length]])):=by rw[hS1];simp
 have b0:=aS.get b0
 have b1:=aS.get b1
 have hBS:=hB1.ap aS
 have htS:=aS.get htn
 have hM:ItM S1 tn 0 (Bc t):=⟨_,htS,by simp,fun j x hj=>by simp[hj]⟩
 have hbl:=Awd 3 hM.a (by omega) e _ hcut
 rw[← hi']at hbl
 have y0S:=Ac b0
 have y1S:=Ac b1
 have yNS:=Ac bN
 have ynS:=Ac htS
 simp only[Ju]at hbl
 repeat' first|simp only[↓wBA,tYj,seval,Sr,wH,c3y,hS1.symm,b0,b1,bN,htS,hgi,hif,hi0,itC]|((with_reducible show Aa _ _ _ _ _);refine hbl.eq ?_)|(with_reducible refine dQ Sr 14 (some 52) ?_)
 have hxm:∀ q,q∈pgT h x.2.1 x.2.2→q∈pgT (h+1) n (l1++x::l2:NL h):=fun q hq=>by
  rw[B6];exact List.mem_cons_of_mem _ (List.mem_flatMap.2 ⟨x,by simp,hq⟩)
 have hxs:(pgT h x.2.1 x.2.2).Sublist (pgT (h+1) n (l1++x::l2:NL h)):=by
  rw[B6,Du,Da]
  exact List.Sublist.cons _ ((List.sublist_append_left _ _).trans (List.sublist_append_right _ _))
 refine (ih hBS (by rw[k1.pages];exact hT) (by rw[k1.pages];exact hnp) hT0 (hb.kp k1 (by omega)) (hTr.2 x (by simp)) (hnd.sublist hxs) (fun q hq=>by rw[k1.pages];exact htk q (hxm q hq)) (Lj (by rw[← ht];exact hoc)) g1 g2).mono ?_
 rintro r s2 hp
 obtain⟨rx,ry,rfl⟩:=hp.tup
 obtain⟨U2,P2,v2,T2,s',more',f2,hB2,k2,hs,hm,hW,hO⟩:=hp
 have q2:=f2.len
 have fS:Fr σ S1 U U1:=(a1.fr.trans f1).trans aS.fr
 have n0:¬ U1 σ.length:=nU0 _ (Nat.le_refl _) (by omega)
 have n1:¬ U1 (σ.length+1):=nU0 _ (by omega) (by omega)
 have nN:¬ U1 s1.length:=fun e=>by have:=hlt1 _ e;omega
 have c0:=f2.get b0 n0
 have c1:=f2.get b1 n1
 have cN:=f2.get bN nN
 have cn:=f2.get htS htnU
 have z0:=Ac c0
 have z1:=Ac c1
 have zN:=Ac cN
 have zn:=Ac cn
 rw[k1.pages]at hW hO
 have f02:=fS.trans f2
 have k02:=k1.trans k2
 have ntn:¬ U2 tn:=fun e=>(f2.own tn e).elim htnU fun e=>by omega
 have nN2:¬ U2 s1.length:=fun e=>(f2.own _ e).elim nN fun e=>by omega
 rcases hO with⟨hin,hex,hmo⟩|⟨hd1,hd2,hd3,hd4⟩|⟨hd1,hd3,hd4,hd2⟩
 ·rcases hmo with⟨rfl,hr⟩|⟨xm,m,z,tm,rfl,hr,htm,hle,hnU⟩
  ·simp only[AV.tup.injEq,List.cons.injEq,and_true]at hr
   obtain⟨rfl,rfl⟩:=hr
   have hsp:=Z7 (n:=n) (t:=tn) (kd:=3) hB2 (by rw[k02.pages];exact hW.tkk) (by rw[k02.pages];exact hnp) hW.t0 (hb.kp k02 (by omega)) hn.1 (by rw[k02.pages];exact hn.2.1) (hW.mono n hn.2.2) cn ntn (.inr rfl) hN.ok (by have:=hN.sz;omega)
   simp only[c3y]at hsp
   repeat' simp only[↓wBA,tYj,seval,Z6,c0,cN]
   refine hsp.mono ?_
   rintro r s3 ⟨U3,P3,v3,f3,h3,k3,hR⟩
   obtain⟨rx,ry,rfl⟩:=hR.tup
   repeat' simp only[↓wBA,tYj,seval]
   have l3:=f3.len
   all_goals refine rtS ?_
   all_goals simp only[A1.eq_1,Ak.eq_1,Ak.eq_2,Ax.eq_1,tYj,seval]
   have e1:Bc (l1++(x.1,x.2.1,s')::((none:Option (Ent×Nat×BTr h)).toList++l2):NL h)=Bc t:=by rw[ht];simp[Bc]
   rw[k02.pages,←e1]at hR
   rw[ht]at hpl
   exact Ya (len0:=s2.length) (more':=none) (f02.trans f3) h3 (k02.trans k3) (by omega) hnp hn hTr hnd htk hs trivial hW hex hin hpl (by rw[e1];have:=hN.sz;omega) hR
  ·simp only[AV.tup.injEq,List.cons.injEq,and_true]at hr
   obtain⟨rfl,rfl⟩:=hr
   have wtm:=Ac htm
   have e1:Bc (l1++(x.1,x.2.1,s')::((some (xm,m,z):Option (Ent×Nat×BTr h)).toList++l2):NL h)=(Bc t).take (i+1)++⟨xm,m⟩::(Bc t).drop (i+1):=by
    rw[htake,hdrop];simp[Bc]
   obtain⟨L2,hL2⟩:∃ L2,L2=Bc (l1++(x.1,x.2.1,s')::((some (xm,m,z):Option (Ent×Nat×BTr h)).toList++l2):NL h):=⟨_,rfl⟩
   rw[← hL2]at e1
   have hlen2:L2.length=(Bc t).length+1:=by rw[e1];simp;omega
   have hok2:∀ y∈L2,y.ok:=fun y hy=>by
    rw[e1]at hy
    rcases List.mem_append.1 hy with hy|hy
    ·exact hN.ok y (List.mem_of_mem_take hy)
    ·rcases mem_cons.1 hy with rfl|hy
     ·exact hm.2
     ·exact hN.ok y (List.mem_of_mem_drop hy)
   have hsz2:szL L2≤646:=by
    have g1:=hN.sz
    have g2:szL (Bc t)=szL ((Bc t).take (i+1))+szL ((Bc t).drop (i+1)):=by rw[← Dh,List.take_append_drop]
    have g3:=I4 (x:=⟨xm,m⟩) hm.2
    rw[e1,Dh,Cc];omega
   have hv1:(s2++[some (Ob.right 239 4)])[s2.length]? =some (some (Ob.right 239 4)):=by simp
   have hnd2:NdA (s2++[some (Ob.right 239 4)]) (.ms tn 4 0 (Bc t).length) (Bc t):=.inr ⟨hne',tn,rfl,by rw[getElem?_append_left zn];exact cn⟩
   have hai:=Ai9 (x:=⟨xm,m⟩) (k:=i+1) hnd2 (by omega) (by omega) hv1
   simp only[itP]at hai
   rw[← e1]at hai
   have tx1:(tm=s1.length)=False:=eq_false (by omega)
   have tx2:(s1.length=tm)=False:=eq_false (by omega)
   have tx3:(tm=tn)=False:=eq_false (by omega)
   have tx4:(tn=tm)=False:=eq_false (by omega)
   repeat' first|simp only[↓wBA,tYj,seval,Ss,wH,cN,zN,htm,wtm,itC,hiw,tx1]|(with_reducible refine dQ Ss 11 (some 68) ?_)
   refine hai.mono ?_
   rintro _ s3 ⟨rfl,σ0,hl0,hs0,rfl⟩
   simp only[length_append,length_cons,length_nil]at hl0
   have hms:∀ j,j≠tn→Jk (.ms tn 4 0 (Bc t).length)≠some j:=fun j hj e=>hj (by simp only[Jk,Option.some.injEq]at e;exact e.symm)
   have hs0':∀ j,j<s2.length→j≠tn→σ0[j]? =s2[j]? :=fun j hj hn=>by rw[hs0 j (hms j hn),getElem?_append_left hj]
   have d0:=(hs0' σ.length z0 (by omega)).trans c0
   have d1:=(hs0' (σ.length+1) z1 (by omega)).trans c1
   have dN:=(hs0' s1.length zN (by omega)).trans cN
   have w0:σ.length<σ0.length:=by omega
   have w1:σ.length+1<σ0.length:=by omega
   have wN:s1.length<σ0.length:=by omega
   have w2:s2.length+1=σ0.length:=by omega
   obtain⟨X,hX⟩:∃ X,X=σ0.set s1.length (some (Ob.row 2 [[AV.p (PV.v (Value.int IntKind.i64 3)),AV.ms σ0.length 4 0 ((Bc t).length+1)]]))++[some (Ob.row 4 (L2.map itC))]:=⟨_,rfl⟩
   have hXl:X.length=σ0.length+1:=by rw[hX];simp
   have hXr:X[σ0.length]? =some (some (Ob.row 4 (L2.map itC))):=by rw[hX,List.getElem?_append_right (by simp)];simp
   have hX0:∀ j,j<s2.length→j≠tn→j≠s1.length→X[j]? =s2[j]? :=fun j hj hn hn2=>by
    rw[hX,getElem?_append_left (by simp;omega),List.getElem?_set_ne (by omega)];exact hs0' j hj hn
   have hlt2:=hB2.lt
   have hBX:Bt X b p dd l kh U2 P2 v2:=hB2.same fun j hj=>hX0 j (hlt2 j hj) (fun e=>ntn (e▸hj)) (fun e=>nN2 (e▸hj))
   have fX:Fr σ X U U2:=by
    refine⟨by omega,fun j hj hn=> ?_,f02.own⟩
    rw[hX0 j (by omega) (by omega) (by omega)]
    exact f02.keep j hj hn
   have hsp:=Z7 (n:=n) (t:=σ0.length) (kd:=3) hBX (by rw[k02.pages];exact hW.tkk) (by rw[k02.pages];exact hnp) hW.t0 (hb.kp k02 (by omega)) hn.1 (by rw[k02.pages];exact hn.2.1) (hW.mono n hn.2.2) hXr (fun e=>by have:=hlt2 _ e;omega) (.inr rfl) hok2 hsz2
   rw[hlen2]at hsp
   simp only[c3y]at hsp
   rw[hX]at hsp
   repeat' simp only[↓wBA,tYj,seval,wH,d0,dN,w0,wN,w2,y0]
   refine hsp.mono ?_
   rintro r s3 ⟨U3,P3,v3,f3,h3,k3,hR⟩
   obtain⟨rx,ry,rfl⟩:=hR.tup
   repeat' simp only[↓wBA,tYj,seval]
   have l3:=f3.len
   rw[← hX]at f3 l3
   all_goals refine rtS ?_
   all_goals simp only[A1.eq_1,Ak.eq_1,Ak.eq_2,Ax.eq_1,tYj,seval]
   rw[k02.pages,←hX,hL2]at hR
   rw[ht]at hpl
   exact Ya (len0:=X.length) (more':=some (xm,m,z)) (fX.trans f3) h3 (k02.trans k3) (by omega) hnp hn hTr hnd htk hs hm hW hex hin hpl (by rw[← hL2];exact hsz2) hR
 ·simp only[AV.tup.injEq,List.cons.injEq,and_true]at hd4
  obtain⟨rfl,rfl⟩:=hd4
  repeat' simp only[↓wBA,tYj,seval,Z6]
  all_goals refine rtS ?_
  all_goals simp only[A1.eq_1,Ak.eq_1,Ak.eq_2,Ax.eq_1,tYj,seval]
  subst hd3
  rw[ht]at hpl
  exact Acj f02 hB2 k02 hTr hnd htk hs hW hpl (.inl ⟨hd1,hd2,rfl⟩)
 ·simp only[AV.tup.injEq,List.cons.injEq,and_true]at hd4
  obtain⟨rfl,rfl⟩:=hd4
  repeat' simp only[↓wBA,tYj,seval,Z6]
  all_goals refine rtS ?_
  all_goals simp only[A1.eq_1,Ak.eq_1,Ak.eq_2,Ax.eq_1,tYj,seval]
  subst hd3
  rw[ht]at hpl
  exact Acj f02 hB2 k02 hTr hnd htk hs hW hpl (.inr ⟨hd1,rfl,hd2⟩)
def Yb:Cv:=(.det 0 (.det 1 (.det 2 (.det 3 (.det 4 (.det 5 (.det 6 (.act 7 (.det 8 (.fin 9 (.det 10 .done)))))))))))
def tYk:=aa wX <| aa wbu <| aa T3 <| aa T4 <| aa T29 <| aa T38 <| aa T51 <| aa T70 <| aa T192 <| aa T228 <| aa T229 <| aa T232 <| aa T234 T239
theorem Ack {b p dd l kh:Nat}{e:Ent}(heo:e.ok):∀ (h:Nat) {σ:St} {U:Nat→Prop} {P:Al} {v:Nat→List UInt8} {T:Nat→Bool} {n:Nat} {t:BTr h} {lo:Ent} {hi:Option Ent},Bt σ b p dd l kh U P v→Tk (v 0) P.pages T→P.pages≤3200→T 0=true→Bud P 1→Hi v h n t→(pgT h n t).Nodup→(∀ q∈pgT h n t,1≤q∧q<P.pages∧T q=true)→OkT true h lo hi t→leE lo e→ltO e hi→
 Aa Tryz.prog 131 [.agg [.mp b 2 0 0],Ad .i64 (n:Nat),Ju e] σ fun r σ'=>G8 h n t e σ b p dd l kh U P v T r σ'
 |0,σ,U,P,v,T,n,t,lo,hi,hB,hT,hnp,hT0,hb,hTr,hnd,htk,hOk,h1,h2=>Aja (lo:=lo) (hi:=hi) hB hT hnp hT0 hb hTr (htk n (Ft 0 n t)) hOk.1 heo
 |h+1,σ,U,P,v,T,n,t,lo,hi,hB,hT,hnp,hT0,hb,hTr,hnd,htk,hOk,h1,h2=>Ajf hB hT hnp hT0 hb hTr hnd htk hOk h1 h2 heo fun a1 a2 a3 a4 a5 a6 a7 a8 a9 a10 a11=>Ack heo h a1 a2 a3 a4 a5 a6 a7 a8 a9 a10 a11
def C8:Ent:=⟨[],0,0⟩
theorem Oe (e:Ent):leE C8 e:=fun h=>by
 rcases Jm.1 h with h|⟨_,h⟩
 ·have:Lib.compareBytes e.k []=0∨Lib.compareBytes e.k []=1:=by
   cases e.k with
   |nil=>exact .inl rfl
   |cons a b=>exact .inr rfl
  simp only[C8]at h
  omega
 ·simp only[C8]at h;omega
def kdT:Nat→Nat
 |0=>2
 |_+1=>3
def itsT:(h:Nat)→BTr h→List Itm
 |0,t=>B7 t
 |h+1,t=>Bc (show NL h from t)
def pgC:(h:Nat)→BTr h→List Nat
 |0,_=>[]
 |h+1,t=>flP (show NL h from t)
theorem Aez (h n:Nat)(t:BTr h):pgT h n t=n::pgC h t:=by cases h<;>rfl
theorem Hi.node {v:Nat→List UInt8}{h n:Nat}{t:BTr h}(ht:Hi v h n t):D4 (v n) (kdT h) (itsT h t):=by
 cases h with
 |zero=>exact ht
 |succ h=>exact ht.1
theorem Hi.move {v v':Nat→List UInt8}{h n m:Nat}{t:BTr h}(ht:Hi v h n t)(hN:D4 (v' m) (kdT h) (itsT h t))(hv:∀ q∈pgC h t,v' q=v q):Hi v' h m t:=by
 cases h with
 |zero=>exact hN
 |succ h=>exact⟨hN,fun x hx=>(ht.2 x hx).congr fun q hq=>hv q (List.mem_flatMap.2 ⟨x,hx,hq⟩)⟩
structure Ll (v:Nat→List UInt8)(T:Nat→Bool)(np root h:Nat)(t:BTr h):Prop where
 tr:Hi v h root t
 nd:(pgT h root t).Nodup
 tk:∀ q∈pgT h root t,1≤q∧q<np∧T q=true
 ok:OkT true h C8 none t
def Z9 (h:Nat)(t:BTr h)(e:Ent)(h':Nat)(t':BTr h'):Prop:=
 (∃ q:h'=h,Uu h t e (q▸t') none)∨∃ (q:h'=h+1) (t1:BTr h) (n m:Nat) (x:Ent) (s:BTr h),Uu h t e t1 (some (x,m,s))∧(q▸t':BTr (h+1))=([(C8,n,t1),(x,m,s)]:NL h)
def Lm (h:Nat)(t:BTr h)(e:Ent)(T T':Nat→Bool):Prop:=∃ (L:List Nat) (h2:Nat) (t2:BTr h2),(∀ q,T' q=true→T q=true∨q∈L)∧Z9 h t e h2 t2∧L.length+(pgT h 0 t).length+1≤(pgT h2 0 t2).length
theorem Aaa {h n m root:Nat}{x y:Ent}{t s:BTr h}:pgT (h+1) root ([(x,n,t),(y,m,s)]:NL h)=root::(pgT h n t++pgT h m s):=by
 rw[B6];simp[flP]
theorem Ajg {h:Nat}{t:BTr h}{e:Ent}{T T':Nat→Bool}(hl:Ai7 h t e T T'):Lm h t e T T':=by
 obtain⟨L,t2,more2,u1,u2,u3,u4⟩:=hl
 cases more2 with
 |none=>exact⟨L,h,t2,u1,.inl ⟨rfl,u2⟩,by simpa [Cf]using u4⟩
 |some z=>
  obtain⟨x,m,s⟩:=z
  refine⟨L,h+1,([(C8,0,t2),(x,m,s)]:NL h),u1,.inr ⟨rfl,t2,0,m,x,s,u2,rfl⟩,?_⟩
  rw[Aaa]
  simp only[Cf]at u4
  simp only[length_cons,length_append];omega
theorem Al8 {h root m:Nat}{t t1 s:BTr h}{e x:Ent}{T T':Nat→Bool}(hn:(pgT h root t).Nodup)(hT:∀ q∈pgT h root t,T q=true)(hi:Uu h t e t1 (some (x,m,s)))(hx:∀ q,T' q=true→T q=true∨q∈pgT h root t1++pgT h m s):Lm h t e T T':=by
 have hnl:=Aje (T:=T) hn hT (X7 (n:=root) hi)
 rw[length_append,Mm h root 0 t,Mm h root 0 t1]at hnl
 refine⟨(pgT h root t1++pgT h m s).filter fun q=> !T q,h+1,([(C8,0,t1),(x,m,s)]:NL h),fun q hq=> ?_,.inr ⟨rfl,t1,0,m,x,s,hi,rfl⟩,?_⟩
 ·cases hTq:T q with
  |true=>exact .inl rfl
  |false=>
   rcases hx q hq with h|h
   ·rw[hTq]at h;cases h
   ·exact .inr (List.mem_filter.2 ⟨h,by simp[hTq]⟩)
 ·rw[Aaa]
  simp only[Cf]at hnl
  simp only[length_cons,length_append];omega
theorem Aqq {h root h':Nat}{t:BTr h}{e:Ent}{t':BTr h'}(hr:Z9 h t e h' t'):∀ q∈pgT h root t,q∈pgT h' root t':=by
 rcases hr with⟨rfl,hi⟩|⟨rfl,t1,n,m,x,s,hi,ht⟩
 ·intro q hq
  have:=X7 (n:=root) hi q hq
  simpa [Cf]using this
 ·have ht:t'=([(C8,n,t1),(x,m,s)]:NL h):=ht
  subst ht
  intro q hq
  rw[Aaa]
  rw[Aez]at hq
  rcases mem_cons.1 hq with rfl|hq
  ·simp
  ·exact List.mem_cons_of_mem _ (X7 (n:=n) hi q (by rw[Aez];exact List.mem_cons_of_mem _ hq))
theorem cntL:∀ (L:List Nat) {T T':Nat→Bool},(∀ q,T' q=true→T q=true∨q∈L)→∀ np,cnt T' np≤cnt T np+L.length
 |[],T,T',h,np=>by
  induction np with
  |zero=>exact Nat.le_refl _
  |succ k ih=>
   simp only[cnt]
   have:T' k=true→T k=true:=fun h1=>(h k h1).elim id fun e=>by simp at e
   simp only[length_nil,Nat.add_zero]at ih ⊢
   cases h1:T' k with
   |true=>rw[this h1];simp;omega
   |false=>simp;split<;>omega
 |a::L,T,T',h,np=>by
  have h1:=cntL L (T:=D3 T a true) (T':=T') (fun q hq=>by
   unfold D3
   by_cases e:q=a
   ·rw[if_pos e];exact .inl rfl
   ·rw[if_neg e]
    rcases h q hq with h|h
    ·exact .inl h
    ·rcases mem_cons.1 h with h|h
     ·exact absurd h e
     ·exact .inr h) np
  have h2:cnt (D3 T a true) np≤cnt T np+1:=by
   clear h1 h
   induction np with
   |zero=>exact Nat.zero_le _
   |succ k ih=>
    simp only[cnt]
    by_cases e:k=a
    ·subst e
     have:cnt (D3 T k true) k=cnt T k:=Xq k fun m hm=>by unfold D3;rw[if_neg (by omega)]
     rw[this]
     split<;>split<;>omega
    ·have:D3 T a true k=T k:=by unfold D3;rw[if_neg e]
     rw[this];omega
  simp only[length_cons];omega
theorem Lm.cnt {h:Nat}{t:BTr h}{e:Ent}{T T':Nat→Bool}{np:Nat}(hl:Lm h t e T T')(ha:∀ q,q<np→T' q=true):∃ h2 t2,Z9 h t e h2 t2∧np+(pgT h 0 t).length+1≤Proofs.YtpoigihfeehehaaGreatDoor.cnt T np+(pgT h2 0 t2).length:=by
 obtain⟨L,h2,t2,u1,u2,u3⟩:=hl
 have:=cntL L u1 np
 rw[Qa np ha]at this
 exact⟨h2,t2,u2,by omega⟩
def Al9 (root h:Nat)(t:BTr h)(e:Ent)(σ:St)(b p dd l kh:Nat)(U:Nat→Prop)(P:Al)(v:Nat→List UInt8)(T:Nat→Bool)(r:AV)(σ':St):Prop:=
 ∃ U' P' v' T' h' t',Fr σ σ' U U'∧Bt σ' b p dd l kh U' P' v'∧Kp P P' 0∧Ll v' T' P.pages root h' t'∧Od v v' T T' P.pages (pgT h root t) (pgT h' root t')∧
   ((r=Ad .i64 0∧Z9 h t e h' t'∧∀ q,T' q=true→T q=true∨q∈pgT h' root t')
   ∨(r=Ad .i64 1∧e∈Bp h t∧∃ q:h'=h,(q▸t':BTr h)=t)
   ∨(r=Ad .i64 20∧(∀ q,q<P.pages→T' q=true)∧Lm h t e T T'))
def Uw (n m:Nat)(x:Ent):List (List PV):=[[.v (.slice none 0 0),.v (.int .i64 0),.v (.int .i64 0),.v (.int .i64 (n:Nat))],itP ⟨x,m⟩]
theorem Ajh (σ:St)(tv n m:Nat)(x:Ent):ItX σ (.own tv 4 (Uw n m x)) [⟨C8,n⟩,⟨x,m⟩]:=by
 refine .inr ⟨rfl,rfl,fun s M u hM hu=> ?_⟩
 have h:=Alz hu
 simp only[Ag]at h
 have h2:Ce M.w (allJ M.w) (.sl 4 (Uw n m x)) u:=Ce.later (fun b o h=>hM.imm b o h) (fun _ _ _=>rfl) _ _ h
 simp only[Ce,Uw,By,Dr]at h2
 simp only[Ce,encI,List.map_cons,List.map_nil,By,itP,Dr]at h2 ⊢
 rcases h2 with⟨h0,_⟩|⟨bb,off,cap,e1,e2,e3,⟨⟨u0,c1,c2,c3⟩,c4⟩,e5⟩
 ·simp at h0
 ·refine .inr ⟨bb,off,cap,e1,e2,rfl,⟨⟨u0,c1,c2,?_⟩,c4⟩,e5⟩
  have:=c3.2;subst this
  exact .inl ⟨by simp[C8,Ay],none,0,rfl,fun _=>rfl⟩
theorem Ama {h root nn np m:Nat}{t1 z:BTr h}{xm:Ent}{v1 v3 v5:Nat→List UInt8}{T1:Nat→Bool}(ht1:Hi v1 h root t1)(hm:X5 v1 h (some (xm,m,z)))(hnd:(pgT h root t1++pgT h m z).Nodup)(htk:∀ q∈pgT h root t1++pgT h m z,1≤q∧q<np∧T1 q=true)(h0:T1 0=true)(hnp:np≤3200)
 (hn1:1≤nn) (hn2:nn<np) (hTn:T1 nn=false) (hvo:∀ q,q≠nn→q≠0→v3 q=v1 q) (hTk:Tk (v3 0) np (D3 T1 nn true)) (hv5:v5=upV (upV v3 nn (Hy (kdT h) (itsT h t1)).1) root (Hy 3 [⟨C8,nn⟩,⟨xm,m⟩]).1) (hok1:OkT true h C8 (some xm) t1) (hok2:OkT true h xm none z) (hlt:ltE C8 xm):
 Ll v5 (D3 T1 nn true) np root (h+1) ([(C8,nn,t1),(xm,m,z)]:NL h)∧Od v1 v5 T1 (D3 T1 nn true) np (pgT h root t1++pgT h m z) (pgT (h+1) root ([(C8,nn,t1),(xm,m,z)]:NL h))∧∀ q,D3 T1 nn true q=true→T1 q=true∨q∈pgT (h+1) root ([(C8,nn,t1),(xm,m,z)]:NL h):=by
 have hps:pgT (h+1) root ([(C8,nn,t1),(xm,m,z)]:NL h)=root::nn::(pgC h t1++pgT h m z):=by
  rw[B6];simp[flP,Aez h nn t1]
 rw[hps]
 rw[Aez h root t1]at hnd htk ⊢
 simp only[List.cons_append]at hnd htk ⊢
 have hro:=htk root (by simp)
 have hrn:root≠nn:=fun e=>by rw[e]at hro;rw[hTn]at hro;simp at hro
 have hnn:∀ q∈pgC h t1++pgT h m z,q≠nn∧q≠root∧q≠0:=fun q hq=>by
  have:=htk q (by simp only[mem_cons];exact .inr hq)
  exact⟨fun e=>by rw[e,hTn]at this;simp at this,fun e=>(nodup_cons.1 hnd).1 (e▸hq),by omega⟩
 have hv:∀ q∈pgC h t1++pgT h m z,v5 q=v1 q:=fun q hq=>by
  obtain⟨g1,g2,g3⟩:=hnn q hq
  rw[hv5];unfold upV;rw[if_neg g2,if_neg g1];exact hvo q g1 g3
 have hvn:v5 nn=(Hy (kdT h) (itsT h t1)).1:=by rw[hv5];unfold upV;rw[if_neg (fun e=>hrn e.symm),if_pos rfl]
 have hvr:v5 root=(Hy 3 [⟨C8,nn⟩,⟨xm,m⟩]).1:=by rw[hv5];unfold upV;rw[if_pos rfl]
 have hkd:kdT h=2∨kdT h=3:=by cases h<;>simp[kdT]
 have hN1:=(Fa hkd ht1.node.ok ht1.node.sz).2
 have hi:∀ y∈([⟨C8,nn⟩,⟨xm,m⟩]:List Itm),y.ok:=fun y hy=>by
  simp only[mem_cons,not_mem_nil,or_false]at hy
  rcases hy with rfl|rfl
  ·exact⟨⟨by simp[C8],by simp[C8],by simp[C8]⟩,by show nn<65536;omega⟩
  ·exact hm.2
 have hsz:szL ([⟨C8,nn⟩,⟨xm,m⟩]:List Itm)≤496:=by
  have:=I4 (hi ⟨xm,m⟩ (by simp))
  have:=I4 (hi ⟨C8,nn⟩ (by simp))
  rw[Cc,Cc,Dy];omega
 have hN3:=(Fa (.inr rfl) hi hsz).2
 rw[← hvr]at hN3
 rw[← hvn]at hN1
 have hT0':D3 T1 nn true 0=true:=by unfold D3;split<;>simp_all
 have hmono:∀ q,T1 q=true→D3 T1 nn true q=true:=fun q h=>by unfold D3;split<;>simp_all
 have hnd':(root::nn::(pgC h t1++pgT h m z)).Nodup:=by
  have:=nodup_cons.1 hnd
  refine nodup_cons.2 ⟨fun e=> ?_,nodup_cons.2 ⟨fun e=>(hnn nn e).1 rfl,this.2⟩⟩
  rcases mem_cons.1 e with e|e
  ·exact hrn e
  ·exact this.1 e
 have htk':∀ q∈root::nn::(pgC h t1++pgT h m z),1≤q∧q<np∧D3 T1 nn true q=true:=fun q hq=>by
  rcases mem_cons.1 hq with rfl|hq
  ·exact⟨hro.1,hro.2.1,hmono _ hro.2.2⟩
  ·rcases mem_cons.1 hq with rfl|hq
   ·exact⟨hn1,hn2,by simp[D3]⟩
   ·obtain⟨a1,a2,a3⟩:=htk q (by simp only[mem_cons];exact .inr hq)
    exact⟨a1,a2,hmono q a3⟩
 refine⟨⟨⟨hN3,fun y hy=> ?_⟩,by rw[hps];exact hnd',by rw[hps];exact htk',?_⟩,⟨hnd',htk',fun q hq=> ?_,hmono,fun q hq hT hq0=> ?_,hT0',?_⟩,fun q hq=> ?_⟩
 ·have hy:y∈([(C8,nn,t1),(xm,m,z)]:NL h):=hy
  simp only[mem_cons,not_mem_nil,or_false]at hy
  rcases hy with rfl|rfl
  ·exact ht1.move hN1 fun q hq=>hv q (by simp[hq])
  ·exact hm.1.congr fun q hq=>hv q (by simp[hq])
 ·exact⟨by simp,Oc _,hlt,trivial,hok1,hok2⟩
 ·rcases mem_cons.1 hq with rfl|hq
  ·exact .inl (by simp)
  ·rcases mem_cons.1 hq with rfl|hq
   ·exact .inr hTn
   ·exact .inl (by simp only[mem_cons];exact .inr hq)
 ·have g1:q≠nn:=fun e=>by rw[e,hTn]at hT;cases hT
  have g2:q≠root:=fun e=>hq (by simp[e])
  rw[hv5];unfold upV;rw[if_neg g2,if_neg g1];exact hvo q g1 hq0
 ·rw[hv5];unfold upV;rw[if_neg (by omega),if_neg (by omega)];exact hTk
 ·unfold D3 at hq
  split at hq
  ·rename_i e;right;simp[e]
  ·exact .inl hq
theorem A1h (p s:Int)(σ:St)(h:0≤p∧p<65536∧0≤s∧s<65536):Aa Tryz.prog 130 [.agg [Ad .i64 p,Ad .i64 s]] σ fun r s'=>s'=σ∧r=Az true:=by
 refine Aa.pureF (R:=fun r=>r=Az true) ?_ rfl σ
 obtain⟨h1,h2,h3,h4⟩:=h
 have e1:decide (p≥0)=true:=by simpa using h1
 have e1':decide (0≤p)=true:=by simpa using h1
 have e2:decide (p<65536)=true:=by simpa using h2
 have e3:decide (s≥0)=true:=by simpa using h3
 have e3':decide (0≤s)=true:=by simpa using h3
 have e4:decide (s<65536)=true:=by simpa using h4
 refine Ab Am Ao Tryz.func130 (by kernel_rfl) rfl (nt:=20) (rs:=[.tmp 2]) rfl rfl ?_
 repeat' simp only[↓wBA,tYk,seval,e1,e2,e3,e4]
 all_goals refine Co (a:=_) ?_ rfl rfl
 all_goals simp only[tYk,seval]
 all_goals simp_all [wS]
theorem A1i {σ:St}{b p dd l kh root h:Nat}{U:Nat→Prop}{P:Al}{v:Nat→List UInt8}{T:Nat→Bool}{e:Ent}{t:BTr h}(hB:Bt σ b p dd l kh U P v)(hT:Tk (v 0) P.pages T)(hnp:P.pages≤3200)(hT0:T 0=true)(hb:Bud P 1)(hR:Ll v T P.pages root h t)(heo:e.ok):
 Aa Tryz.prog 83 [.mp b 2 0 0,Ad .i64 (root:Nat),.p (.sl 1 (Ay e.k)),.agg [Ad .i64 (e.p:Nat),Ad .i64 (e.s:Nat)]] σ fun r σ'=>Al9 root h t e σ b p dd l kh U P v T r σ':=by
 have hlt:=hB.lt
 have hn:=hR.tk root (Ft _ _ _)
 have hkl:=Dm e.k
 have hk:=heo.1
 have e1:decide ((e.k.length:Int)>140)=false:=by simp;omega
 have e1':=dF (i:=140) (n:=e.k.length) (by omega)
 have hmy:=fun σ=>A1h (e.p:Nat) (e.s:Nat) σ ⟨by omega,by have:=heo.2.1;omega,by omega,by have:=heo.2.2;omega⟩
 refine Ab Am Ao Tryz.func83 (by kernel_rfl) rfl (nt:=76) (rs:=[.tmp 8]) rfl rfl ?_
 repeat' first|simp only[↓wBA,tYk,seval,wH,hkl,e1]|((with_reducible show Aa _ _ _ _ _);refine (hmy _).eq ?_)
 have a1:Ap σ (σ++[some (Ob.row 2 [[Ad .i64 (e.p:Nat),Ad .i64 (e.s:Nat)]])]++[some (Ob.row 1 [[AV.mp b 2 0 0]])]):=(Ap.app _ _).more _
 refine (Ack heo h (hB.ap a1) hT hnp hT0 hb hR.tr hR.nd hR.tk hR.ok (Oe e) trivial).mono ?_
 rintro r s1 hp
 obtain⟨rx,ry,rfl⟩:=hp.tup
 obtain⟨U1,P1,v1,T1,t1,more,f1,hB1,k1,ht1,hm,hW,hO⟩:=hp
 have q1:=f1.len
 simp only[length_append,length_cons,length_nil]at q1
 have f01:=a1.fr.trans f1
 rcases hO with⟨hin,hex,hmo⟩|⟨hd1,rfl,rfl,hd4⟩|⟨hd1,rfl,hd4,hd2⟩
 ·rcases hmo with⟨rfl,hr⟩|⟨xm,m,z,tm,rfl,hr,htm,hle,hnU⟩
  ·simp only[AV.tup.injEq,List.cons.injEq,and_true]at hr
   obtain⟨rfl,rfl⟩:=hr
   repeat' simp only[↓wBA,tYk,seval,Z6]
   all_goals refine rtS ?_
   all_goals simp only[A1.eq_1,Ak.eq_1,Ak.eq_2,Ax.eq_1,tYk,seval]
   simp only[Cf,append_nil]at hW hex
   exact⟨U1,P1,v1,T1,h,t1,f01,hB1,k1,⟨ht1,hW.nd,hW.tk,Aci hR.ok (Oe e) trivial hin⟩,hW,.inl ⟨rfl,.inl ⟨rfl,hin⟩,hex⟩⟩
  ·simp only[AV.tup.injEq,List.cons.injEq,and_true]at hr
   obtain⟨rfl,rfl⟩:=hr
   have b1:s1[σ.length+1]? =some (some (Ob.row 1 [[AV.mp b 2 0 0]])):=by
    rw[f1.keep _ (by simp) fun e=>by have:=hlt _ e;omega];simp
   have y1:=Ac b1
   have ytm:=Ac htm
   have hle2:σ.length+2≤tm:=by simpa using hle
   have hlt1:=hB1.lt
   have nU1:¬ U1 (σ.length+1):=fun e=>(f1.own _ e).elim (fun e=>by have:=hlt _ e;omega) fun e=>by simp at e
   have hN1:=ht1.node
   have hkd:kdT h=2∨kdT h=3:=by cases h<;>simp[kdT]
   repeat' simp only[↓wBA,tYk,seval,b1]
   refine (X3 hB1 (by rw[k1.pages];exact hn.2.1) hN1 (hb.kp k1 (by omega))).mono ?_
   rintro _ s2 ⟨U2,P2,a,rfl,f2,hB2,k2,ha,hta⟩
   have q2:=f2.len
   have hlt2:=hB2.lt
   have nU2:¬ U2 (σ.length+1):=fun e=>(f2.own _ e).elim nU1 fun e=>by omega
   have ntm:¬ U2 tm:=fun e=>(f2.own _ e).elim hnU fun e=>by omega
   have b2:=f2.get b1 nU1
   have tm2:=f2.get htm hnU
   have y2:=Ac b2
   have ytm2:=Ac tm2
   have hlf:=ha.x.leaf
   have hcc:=ha.x.cells
   repeat' simp only[↓wBA,tYk,seval,wH]
   have a3:=Ap.app s2 [some (Ob.row 2 [[Ad .i64 (kdT h:Nat),a]])]
   have k12:=k1.trans k2
   refine (Un (kind:=(kdT h:Nat)) (T:=T1) (hB2.ap a3) (by rw[k12.pages];exact hW.tkk) (by rw[k12.pages];exact hnp) (by rw[k12.pages];omega) hW.t0 (hb.kp k12 (by omega))).mono ?_
   rintro r s3 ⟨U3,P3,v3,f3,hB3,k3,hc⟩
   have q3:=f3.len
   simp only[length_append,length_cons,length_nil]at q3
   have f03:=((f01.trans f2).trans a3.fr).trans f3
   have k13:=k12.trans k3
   have hio:=Aci hR.ok (Oe e) trivial hin
   rcases hc with⟨nn,m1,m2,hTm,rfl,hvm,hvo,hTk⟩|⟨hall,rfl,rfl⟩
   ·rw[k12.pages]at m2 hTk
    have cN:s3[s2.length]? =some (some (Ob.row 2 [[Ad .i64 (kdT h:Nat),a]])):=by
     rw[f3.keep _ (by simp) fun e=>by have:=hlt2 _ e;omega];simp
    have c1:s3[σ.length+1]? =some (some (Ob.row 1 [[AV.mp b 2 0 0]])):=by
     rw[f3.keep _ (by simp;omega) nU2,getElem?_append_left y2];exact b2
    have ctm:s3[tm]? =some (some (Ob.row 4 [itC ⟨xm,m⟩])):=by
     rw[f3.keep _ (by simp;omega) ntm,getElem?_append_left ytm2];exact tm2
    have zN:=Ac cN
    have z1:=Ac c1
    have ztm:=Ac ctm
    have nN3:¬ U3 s2.length:=fun e=>(f3.own _ e).elim (fun e=>by have:=hlt2 _ e;omega) fun e=>by simp at e;omega
    have n13:¬ U3 (σ.length+1):=fun e=>(f3.own _ e).elim nU2 fun e=>by simp at e;omega
    have ntm3:¬ U3 tm:=fun e=>(f3.own _ e).elim ntm fun e=>by simp at e;omega
    have ha3:NdA s3 a (itsT h t1):=ha.same fun j hj=>by
     have:=ha.lt hj
     rw[f3.keep j (by simp;omega) (hta j hj).2,getElem?_append_left this]
    repeat' simp only[↓wBA,tYk,seval,cN,c1]
    refine (Mk hB3 m1 (by rw[k13.pages];exact m2) ha3.x hkd hN1.ok hN1.sz).mono ?_
    rintro _ s4 ⟨rfl,U4,f4,hB4⟩
    have q4:=f4.len
    have d1:=f4.get c1 n13
    have dtm:=f4.get ctm ntm3
    have w1:=Ac d1
    have wtm:=Ac dtm
    have a5:=Ap.app s4 [some (Ob.right 239 8)]
    have hi:∀ y∈([⟨C8,nn⟩,⟨xm,m⟩]:List Itm),y.ok:=fun y hy=>by
     simp only[mem_cons,not_mem_nil,or_false]at hy
     rcases hy with rfl|rfl
     ·exact⟨⟨by simp[C8],by simp[C8],by simp[C8]⟩,by show nn<65536;omega⟩
     ·exact hm.2
    have hsz:szL ([⟨C8,nn⟩,⟨xm,m⟩]:List Itm)≤496:=by
     have:=I4 (hi ⟨xm,m⟩ (by simp))
     have:=I4 (hi ⟨C8,nn⟩ (by simp))
     rw[Cc,Cc,Dy];omega
    have hwr:=Mk (kd:=3) (n:=root) (hB4.ap a5) hn.1 (by rw[k13.pages];exact hn.2.1) (Ajh _ s4.length nn m xm) (.inr rfl) hi hsz
    simp only[Uw,itP,c3y]at hwr
    have tx1:(tm=σ.length+1)=False:=eq_false (by omega)
    have tx2:(σ.length+1=tm)=False:=eq_false (by omega)
    repeat' first|simp only[↓wBA,tYk,seval,Yb,wH,d1,dtm,w1,wtm,itC,tx1]|(with_reducible refine dQ Yb 11 (some 70) ?_)
    refine hwr.mono ?_
    rintro _ s5 ⟨rfl,U5,f5,hB5⟩
    have q5:=f5.len
    simp only[length_append,length_cons,length_nil]at q5
    repeat' simp only[↓wBA,tYk,seval]
    all_goals refine rtS ?_
    all_goals simp only[A1.eq_1,Ak.eq_1,Ak.eq_2,Ax.eq_1,tYk,seval]
    obtain⟨r1,r2,r3⟩:=Ama ht1 hm hW.nd hW.tk hW.t0 hnp m1 m2 hTm hvo hTk rfl hio.1 hio.2.1 hio.2.2.1
    refine⟨U5,P3,_,D3 T1 nn true,h+1,_,((f03.trans f4).trans a5.fr).trans f5,hB5,k13,r1,hW.trans r2,.inl ⟨rfl,.inr ⟨rfl,t1,nn,m,xm,z,hin,rfl⟩,fun q hq=> ?_⟩⟩
    rcases r3 q hq with h1|h1
    ·rcases hex q h1 with h2|h2
     ·exact .inl h2
     ·refine .inr ?_
      rw[B6]
      rw[Aez]at h2
      simp only[Cf,flP,List.flatMap_cons,List.flatMap_nil,append_nil,Aez h nn t1,mem_cons,List.mem_append]at h2 ⊢
      rcases h2 with (h2|h2)|h2<;>simp[h2]
    ·exact .inr h1
   ·skip
    repeat' simp only[↓wBA,tYk,seval]
    all_goals refine rtS ?_
    all_goals simp only[A1.eq_1,Ak.eq_1,Ak.eq_2,Ax.eq_1,tYk,seval]
    refine⟨U3,P3,_,T1,h,t1,f03,hB3,k13,⟨ht1,(hW.sub (List.sublist_append_left _ _)).nd,(hW.sub (List.sublist_append_left _ _)).tk,hio.1.hiMono trivial⟩,hW.sub (List.sublist_append_left _ _),.inr (.inr ⟨rfl,fun q hq=>hall q (by rw[k12.pages];exact hq),Al8 hR.nd (fun q hq=>(hR.tk q hq).2.2) hin hex⟩)⟩
 ·simp only[AV.tup.injEq,List.cons.injEq,and_true]at hd4
  obtain⟨rfl,rfl⟩:=hd4
  repeat' simp only[↓wBA,tYk,seval,Z6]
  all_goals refine rtS ?_
  all_goals simp only[A1.eq_1,Ak.eq_1,Ak.eq_2,Ax.eq_1,tYk,seval]
  simp only[Cf,append_nil]at hW
  exact⟨U1,P1,v1,T1,h,_,f01,hB1,k1,⟨ht1,hW.nd,hW.tk,hR.ok⟩,hW,.inr (.inl ⟨rfl,hd1,rfl,rfl⟩)⟩
 ·simp only[AV.tup.injEq,List.cons.injEq,and_true]at hd4
  obtain⟨rfl,rfl⟩:=hd4
  repeat' simp only[↓wBA,tYk,seval,Z6]
  all_goals refine rtS ?_
  all_goals simp only[A1.eq_1,Ak.eq_1,Ak.eq_2,Ax.eq_1,tYk,seval]
  simp only[Cf,append_nil]at hW
  exact⟨U1,P1,v1,T1,h,_,f01,hB1,k1,⟨ht1,hW.nd,hW.tk,Ai6 hR.ok (Oe e) trivial hd1⟩,hW,.inr (.inr ⟨rfl,hd2.1,Ajg hd2.2⟩)⟩
end Go.Proofs.YtpoigihfeehehaaGreatDoor
