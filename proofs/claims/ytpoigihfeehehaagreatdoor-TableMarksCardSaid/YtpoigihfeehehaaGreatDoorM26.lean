/- Pools: load. -/
import Derived.Test.YtpoigihfeehehaaGreatDoorM25
set_option linter.all false
set_option maxRecDepth 100000
set_option maxHeartbeats 32000000
namespace Go.Proofs.YtpoigihfeehehaaGreatDoor
open Go.RowKit
def Kz:Cq:=(.det 0 (.det 1 (.det 2 (.det 3 (.det 4 (.det 5 (.det 6 (.det 7 (.det 8 (.det 9 .done))))))))))
def Sc:Cq:=(.det 0 (.det 1 (.det 2 (.det 3 (.det 4 (.det 5 (.det 6 (.det 7 (.fin 8 .done)))))))))
def Ig:Cq:=(.det 0 (.det 1 (.det 2 (.det 3 (.det 4 (.det 5 (.det 6 (.fin 7 (.det 8 .done)))))))))
def tPle:=aa wX <| aa wbu <| aa T3 <| aa T28 <| aa T29 <| aa T84 <| aa T86 <| aa T88 <| aa Y1 <| aa T154 <| aa T158 T208
theorem Kp.mono {P P':Ak}{k k':Nat}(h:Kp P P' k)(hk:k≤k'):Kp P P' k':=⟨h.size,h.most,h.ls,h.ld,h.str,h.wait,by have:=h.ctr;omega,by have:=h.dw;omega,h.view,h.kept⟩
theorem Avt {σ:St}{p dd l kh f:Nat}{G:Nat→Prop}{P:Ak}(h:Bg σ p dd l kh G P)(hf:f∈P.fs)(hc:P.ct+1<18446744073709551616)(hw:P.dq+8≤1000000000000):
 Aa Tryz.prog 66 [.mp p 6 0 0,.mp f 516 0 0] σ fun r σ'=>r=Ad .i64 0∧∃ G' P',Fr σ σ' G G'∧Bg σ' p dd l kh G' P'∧Kp P P' 0∧P'.fs=P.fs∧P'.hm=P.hm∧(P'.V f).dirty=false∧(∀ g,(P'.V g).n=(P.V g).n∧(P'.V g).pg=(P.V g).pg∧((P.V g).dirty=false→(P'.V g).dirty=false)):=by
 cases hd:(P.V f).dirty with
 |false=>
  refine (Aqa h hf hd).mono ?_
  rintro _ _ ⟨rfl,rfl⟩
  exact⟨rfl,G,P,Fr.refl _ _,h,Kp.refl P 0,rfl,rfl,hd,fun g=>⟨rfl,rfl,id⟩⟩
 |true=>
  refine (Aqb h hf hd hc hw).mono ?_
  rintro _ s ⟨rfl,G',P',h1,h2,h3,h4,h5,h6⟩
  refine⟨rfl,G',P',h1,h2,h3,h4,h5,by rw[h6];simp[Dj],fun g=> ?_⟩
  rw[h6]
  unfold Dj
  split
  ·rename_i e;subst e;exact⟨rfl,rfl,fun _=>rfl⟩
  ·exact⟨rfl,rfl,id⟩
theorem Ain (l:List UInt8):pgz (pgz l)=pgz l:=by
 unfold pgz
 by_cases h:l=C3
 ·rw[if_pos h];split<;>rfl
 ·rw[if_neg h,if_neg h]
theorem Kp.tick {P P':Ak}{k:Nat}(h:Kp P P' k)(tk:Int):Kp P { P' with tick:=tk } k:=⟨h.size,h.most,h.ls,h.ld,h.str,h.wait,h.ctr,h.dw,h.view,h.kept⟩
theorem A1k {σ:St}{p dd l kh n:Nat}{G:Nat→Prop}{P:Ak}(h:Bg σ p dd l kh G P)(hn:n<P.pages)(hc:P.ct+1<18446744073709551616)(hw:P.dq+8≤1000000000000):
 Aa Tryz.prog 64 [.mp p 6 0 0,Ad .i64 (n:Nat)] σ fun r σ'=>∃ f G' P',r= .tup [.mp f 516 0 0,Ad .i64 0]∧Fr σ σ' G G'∧Bg σ' p dd l kh G' P'∧Kp P P' 0∧lkM P'.hm n=some f:=by
 have hP:=h
 obtain⟨hk,Fd,Gl,w,a,h,hG⟩:=h
 have h0:=h.o
 have l0:=Ac h0
 have h1:=h.has
 have l1:=Ac h1
 cases hlk:lkM P.hm n with
 |some f=>
  have hf:=((hk.keys n f).1 hlk).1
  have e1:=Ua (fun f=>AV.mp f 516 0 0) P.hm n (.pointer none) true
  simp only[hlk,if_true]at e1
  refine Ab Am An Tryz.func64 (by kernel_rfl) rfl (nt:=98) (rs:=[.tmp 4,.tmp 5]) rfl rfl ?_
  repeat' first|simp only[↓wBA,tPle,seval,h0,h1,e1]|((with_reducible show Aa _ _ _ _ _);refine (Avq hP hf).mono ?_;rintro _ s ⟨rfl,G',P',hF,h2,h3,h4⟩)
  have hlen:=hF.len
  all_goals refine rtS ?_
  all_goals simp only[wRe,tPle,seval]
  exact⟨f,G',P',rfl,hF,h2,h3,by rw[h4];exact hlk⟩
 |none=>
  have e1:=Ua (fun f=>AV.mp f 516 0 0) P.hm n (.pointer none) true
  simp only[hlk,if_true]at e1
  have e2:zAV (.pointer none)=some (.p (.v (.pointer none))):=rfl
  rw[e2]at e1
  simp only[XR]at e1
  have hpl:(pgz (Bq P.data.now n)).length=512:=Aik (Mj hk.secs n)
  have hvn:P.view n=pgz (Bq P.data.now n):=by unfold Ak.view;rw[hlk]
  have hzz:pgz (pgz (Bq P.data.now n))=pgz (Bq P.data.now n):=Ain _
  have htail:∀ (q:St) (tk:Int) (G2:Nat→Prop) (P2:Ak) (f:Nat),Bg q p dd l kh G2 P2→q[f]? =some (some (.row 516 [frR n (pgz (Bq P.data.now n)) false tk 0]))→Fr σ q G G2→σ.length≤f→¬ G2 f→lkM P2.hm n=none→P2.fs.length<P2.most→Kp P P2 0→Aa Tryz.prog 111 [.dyn 208 (.mp p 6 0 3),.dyn 154 (.mp f 516 0 0)] q fun r q'=>r= .tup []∧(∃ a,q'[p]? =some (some (.row 6 [[.mp dd 6 0 0,.mp l 5 0 0,Ad .i64 (P2.most:Nat),a,.mmap kh,Ad .i64 P2.tick]])))∧q'[kh]? =some (some (.map (Nj (fun f=>.mp f 516 0 0) P2.hm)))∧∃ G' P',Bg (q'.set kh (mapP (Dq P2.hm n f))) p dd l kh G' P'∧Fr σ (q'.set kh (mapP (Dq P2.hm n f))) G G'∧Kp P P' 0∧lkM P'.hm n=some f:=fun q tk G2 P2 f t1 t2 t3 t4 t5 t6 t7 t8=>by
   have hv2:=t8.view n
   rw[hvn]at hv2
   have hv3:P2.view n=pgz (Bq P2.data.now n):=by unfold Ak.view;rw[t6]
   rw[hv3]at hv2
   refine (Avs t1 ⟨n,pgz (Bq P.data.now n),false,tk⟩ 0 t2 hpl rfl hzz hv2 (by rw[t8.pages];exact hn) t5 t6 t7 rfl).mono ?_
   rintro _ q' ⟨rfl,u1,u2,G',P',u3,u4,u5,u6⟩
   refine⟨rfl,u1,u2,G',P',u3,⟨ZO t3.len u4.len,fun t ht hn=> ?_,fun t ht=> ?_⟩,t8.trans u6,by rw[u5,I9,if_pos rfl]⟩
   ·rw[u4.keep t (ZE ht t3.len) ?_,t3.keep t ht hn]
    rintro (rfl|e)
    ·omega
    ·exact (t3.own t e).elim hn fun e=>by omega
   ·rcases u4.own t ht with (rfl|e)|e
    ·exact .inr t4
    ·exact t3.own t e
    ·exact .inr (ZO t3.len e)
  generalize hpg:pgz (Bq P.data.now n)=pg at*
  have hcA:Cu (A6 pg)=some (Aq pg):=rfl
  have hpC:=Ao hpl
  have hmb:=hk.mb
  have zl:(zB 512).length=512:=by simp[zB]
  have hm1:=hk.m1
  refine Ab Am An Tryz.func64 (by kernel_rfl) rfl (nt:=98) (rs:=[.tmp 4,.tmp 5]) rfl rfl ?_
  repeat' first|simp only[↓wBA,tPle,seval,wH,h0,h1,e1]|((with_reducible show Aa _ _ _ _ _);refine (Avr hP hn).mono ?_;rintro _ s ⟨ha,rfl⟩)
  rw[hpg]
  have k0:=ha.get h0
  have q0:=Ac k0
  have hG0:=hP.lt
  by_cases hfull:P.fs.length=P.most
  ·have hord:=h.ord
   generalize hfs:P.fs=fs at*
   cases hord with
   |nil=>simp at hfull;omega
   |hp hh=>
    rename_i o
    have b1:((fs.length:Int)==(P.most:Int))=true:=by simp[hfull]
    obtain⟨ls,g1,g2,g3⟩:=hh.o
    obtain⟨f0,gf0⟩:∃ f0,fs[0]? =some f0:=⟨fs[0]'(by omega),by simp⟩
    have g4:=Jb g2 gf0
    have g5:=ha.get g1
    have g6:=Ac g5
    have b2:((0:Int)<(fs.length:Int))=True:=eq_true (by omega)
    repeat' first|simp only[↓wBA,tPle,seval,Kz,wH,k0,q0,hcA,hpC,b1,b2,g4,g5,g6,zl]|(with_reducible refine dQ Kz 10 (some 36) ?_)
    have hP1:=hP.ap (ha.more [some (.row 512 [Aq pg])])
    refine (Avt hP1 (f:=f0) (by rw[hfs];exact QG gf0) hc hw).mono ?_
    rintro _ s2 ⟨rfl,G1,P1,hF1,hA1,hK1,hf1,hm1',hd1,hV1⟩
    have c1:(s++[some (.row 512 [Aq pg])])[s.length]? =some (some (.row 512 [Aq pg])):=by simp
    have ls':=ha.len
    have c2:=hF1.get c1 (fun e=>by have:=hG0 _ e;omega)
    have hAA:=hA1
    obtain⟨hk1,Fd1,Gl1,w1,a1,H1,hG1⟩:=hA1
    have hord1:=H1.ord
    rw[hf1,hfs]at hord1
    cases hord1 with
    |nil=>simp at hfull;omega
    |hp hh1=>
     rename_i o1
     have hf2:P1.fs=fs:=hf1.trans hfs
     subst hf2
     have j0:=H1.o
     have p0:=Ac j0
     have pf0:=hh1.pg f0 (QG gf0)
     repeat' simp only[↓wBA,tPle,seval]
     refine (A1j hk1 H1 hh1 hG1 gf0 hd1).mono ?_
     rintro _ s3 ⟨rfl,⟨jj,i1⟩,⟨a3,i2⟩,i3,G2,P2,i4,i5,i6,i7,i8,i9,i10⟩
     simp only[rowP,mapP,Gc]at i1 i2 i3
     have r1:=Ac i1
     have r2:=Ac i2
     have r3:=Ac i3
     have e4:=Ap6 (fun f=>AV.mp f 516 0 0) P1.hm (P1.V f0).n
     have n0:(p=kh)=False:=nf H1.pk
     have n1:(kh=p)=False:=nf (Ne.symm H1.pk)
     have i5':=i5.len
     simp only[ZW]at i5'
     have hf1':=hF1.len
     simp only[QE,QF,QI]at hf1'
     have c3:=i5.get c2 (fun e=>by
      rcases hF1.own _ e with e|e
      ·have:=hG0 _ e;omega
      ·simp at e;omega)
     have n2:s.length≠kh:=fun e=>by
      have:=hG0 kh ((hG kh).2 (.inr (.inl rfl)));omega
     rw[QO (Ne.symm n2)]at c3
     have r4:=Ac c3
     have n3:(p=s.length)=False:=nf fun e=>by omega
     have n4:(kh=s.length)=False:=nf fun e=>n2 e.symm
     repeat' first|simp only[↓wBA,tPle,seval,Sc,Ig,wH,i1,i2,i3,r2,wFr,Ly,e4,n1,n3,n4,c3,hpC,wZt,hpl]|(with_reducible first|refine dQ Sc 9 (some 63) ?_|refine dQ Ig 9 (some 78) ?_)
     generalize IntKind.i64.wrap (P1.tick+1)=tk
     have hM2:P2.most=P1.most:=i9.most
     have hT:Bg ((s3.set kh (mapP (Q4 P1.hm (P1.V f0).n))).set p (some (.row 6 [[.mp dd 6 0 0,.mp l 5 0 0,Ad .i64 (P1.most:Nat),a3,.mmap kh,Ad .i64 tk]]))) p dd l kh G2 { P2 with tick:=tk }:=by
      rw[← hM2]
      exact i4.tick (a:=a3) (by rw[QO (Ne.symm H1.pk),i2];simp[rowP,hM2,i8]) tk
     have hlt:=i4.lt
     simp only[ZW]at hlt
     refine (htail _ tk G2 { P2 with tick:=tk } s3.length (hT.ap (Ap.app _ _)) (by simp) (((((Ap.more ha _).fr.trans hF1).trans i5).set _ ((hG p).2 (.inl rfl))).app _) (by omega) (fun e=>ZJ _ (hlt _ e)) ?_ ?_ ((hK1.trans i9).tick tk)).mono ?_
     ·show lkM P2.hm n=none
      rw[i6,Ue _ _ _ hk1.kn,hm1',hlk]
      split<;>rfl
     ·show P2.fs.length<P2.most
      rw[hM2,hK1.most,←hfull];exact i7
     ·rintro _ q' ⟨rfl,⟨a4,z1⟩,z2,G5,P5,z3,z4,z5,z6⟩
      have y1:=Ac z1
      have y2:=Ac z2
      have e5:=T8 (fun f=>AV.mp f 516 0 0) P2.hm n s3.length
      have hlen:=z4.len
      simp only[ZW]at hlen
      repeat' simp only[↓wBA,tPle,seval,z1,z2,e5]
      all_goals refine rtS ?_
      all_goals simp only[wRe,tPle,seval]
      exact⟨s3.length,G5,P5,rfl,z4,z3,z5,z6⟩
  ·have la:Ba cx 86 a=some P.fs.length:=by
    have:=h.ord
    generalize P.fs=fs at*
    cases this with
    |nil=>rfl
    |hp _=>exact Asi
   have b1:((P.fs.length:Int)==(P.most:Int))=false:=by simp;omega
   have n3:(p=s.length)=False:=nf fun e=>by omega
   have n4:(s.length=p)=False:=nf fun e=>by omega
   repeat' first|simp only[↓wBA,tPle,seval,Kz,Ig,wH,k0,q0,hcA,hpC,b1,la,zl,wFr,wZt,hpl]|(with_reducible first|refine dQ Kz 10 (some 36) ?_|refine dQ Ig 9 (some 78) ?_)
   generalize IntKind.i64.wrap (P.tick+1)=tk
   have hT:=(hP.ap ha).tick (a:=a) k0 tk
   have hlt:=hP.lt
   have ls':=ha.len
   refine (htail _ tk G { P with tick:=tk } (s.length+1) ((hT.ap (Ap.app _ _)).ap (Ap.app _ _)) (by simp) (((ha.fr.set _ ((hG p).2 (.inl rfl))).app _).app _) (by omega) (fun e=>by have:=hlt _ e;omega) hlk ?_ ((Kp.refl P 0).tick tk)).mono ?_
   ·show P.fs.length<P.most
    have:=hk.len;omega
   ·rintro _ q' ⟨rfl,⟨a4,z1⟩,z2,G5,P5,z3,z4,z5,z6⟩
    have y1:=Ac z1
    have y2:=Ac z2
    have e5:=T8 (fun f=>AV.mp f 516 0 0) P.hm n (s.length+1)
    have hlen:=z4.len
    simp only[ZW]at hlen
    repeat' simp only[↓wBA,tPle,seval,z1,z2,e5]
    all_goals refine rtS ?_
    all_goals simp only[wRe,tPle,seval]
    exact⟨s.length+1,G5,P5,rfl,z4,z3,z5,z6⟩
