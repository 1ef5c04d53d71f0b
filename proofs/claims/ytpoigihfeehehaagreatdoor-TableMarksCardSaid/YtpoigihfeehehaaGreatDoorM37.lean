/- Trees: the middle, splits. Trees: a node is written, in two pages if it must. -/
import Derived.Test.YtpoigihfeehehaaGreatDoorM36
set_option linter.all false
set_option maxRecDepth 100000
set_option maxHeartbeats 32000000
namespace Go.Proofs.YtpoigihfeehehaaGreatDoor
open Go.RowKit
def tYe:=aa wX <| aa wbu <| aa T3 <| aa T70 <| aa T192 <| aa T232 T239
theorem Sg (l:List Itm)(i:Nat)(x:Itm)(h:l[i]? =some x)(all:Nat):Xw all (l.drop i) (szL (l.take i)) i=if 2*szL (l.take i)<all then Xw all (l.drop (i+1)) (szL (l.take (i+1))) (i+1)else i:=by
 have hd:l.drop i=x::l.drop (i+1):=by
  rw[YB (QC.1 h).1]
  rw[(QC.1 h).2]
 rw[hd]
 rw[Xw,Afa l i x h,De,B8,Dy]
 simp only[XD]
theorem Awt (l:List Itm)(hl:l.length≤1000000)(hok:∀ x∈l,x.ok):Aa Tryz.prog 192 [.p (.sl 4 (encI l))] [] fun r _=>r=Ad .i64 (C2 l:Nat):=by
 have hszt:∀ i,szL (l.take i)≤150*i:=fun i=>by
  have:∀ m:List Itm,(∀ x∈m,x.ok)→szL m≤150*m.length:=by
   intro m
   induction m with
   |nil=>intro _;exact QH _
   |cons x m ih=>intro h;have h1:=ih fun y hy=>h y (by simp[hy]);have h2:=I0 (h x (by simp));rw[B8];simp only[QF];omega
  have h1:=this (l.take i) fun x hx=>hok x (ZM hx)
  have h2:(l.take i).length≤i:=by rw[QZ];omega
  have:=Nat.mul_le_mul_left 150 h2
  omega
 refine Ab Am An Tryz.func192 (by kernel_rfl) rfl (nt:=38) (rs:=[.tmp 2]) rfl rfl ?_
 repeat' simp only[↓wBA,tYe,seval,La]
 refine Ar (X:={ i:Nat // i≤l.length }) (fun i=>l.length - i.1) (fun i=>[(3,Ad .i64 (szL (l.take i.1):Nat)),(10,Ad .i64 (i.1:Nat))]) [7,11,12,13,14,15,16,17,18,19,20,21] (fun i s=>True) (⟨0,by omega⟩) ?_ ?_ ?_ ?_
 ·simp only[wHl,wHf,XH,Dy]
 ·trivial
 ·intro _ _ _;simp
 ·intro y J s hI
  simp only[wHl]
  obtain⟨i,hi⟩:=y
  dsimp only at*
  have hi0:=nnI i
  by_cases hlt:i<l.length
  ·have hdec:=dT (i:=i) (n:=l.length) hlt
   have hw:=wI i (by omega)
   obtain⟨x,hx⟩:∃ x,l[i]? =some x:=⟨l[i],by simp⟩
   have hg:=Lb l i x hx
   have hxo:=(hok x (QG hx)).1.1
   have hz:=hszt i
   have hek:=Dk x.e.k
   have hw2:IntKind.i64.wrap ((x.e.k.length:Int)+10)=((x.e.k.length+10:Nat):Int):=by rw[wrap_i64 (by omega) (by omega)];simp
   have hw3:IntKind.i64.wrap ((szL (l.take i):Int)+((x.e.k.length+10:Nat):Int))=((szL (l.take (i+1)):Nat):Int):=by
    rw[Afa l i x hx,De,B8,Dy,wrap_i64 (by omega) (by omega)]
    unfold szI;omega
   repeat' simp only[↓wBA,tYe,seval,wH,wHl,hdec,hi0,hg,itP,hw,hek,hw2,hw3]
   refine⟨⟨i+1,by omega⟩,by show l.length - (i+1)<l.length - i;omega,by simp only[]⟩
  ·obtain rfl:i=l.length:=by omega
   have hdec:=dF (i:=l.length) (n:=l.length) hlt
   have hall:szL (l.take l.length)=szL l:=by rw[ZS]
   have hall2:=hszt l.length
   rw[hall]at hall2
   repeat' simp only[↓wBA,tYe,seval,wHl,hdec,hall]
   refine Ar (X:={ i:Nat // i≤l.length∧Xw (szL l) (l.drop i) (szL (l.take i)) i=C2 l }) (fun i=>l.length - i.1) (fun i=>[(4,Ad .i64 (szL (l.take i.1):Nat)),(5,Ad .i64 (i.1:Nat))]) [22,23,24,25,26,27,28,29,30,31,32,33,34,35,36,37] (fun i q=>List.length s≤List.length q) (⟨0,by omega,rfl⟩) ?_ ?_ ?_ ?_
   ·simp only[wHl,wHf,XH,Dy]
   ·exact QH _
   ·intro _ _ h;exact h
   ·intro y J2 s2 hI2
    simp only[wHl]
    obtain⟨i,hi,hmid⟩:=y
    dsimp only at*
    have hi0:=nnI i
    have hz:=hszt i
    have hzz:szL (l.take i)≤szL l:=by
     have:=De (l.take i) (l.drop i)
     rw[ZI]at this;omega
    have hm:IntKind.i64.wrap (2*(szL (l.take i):Int))=((2*szL (l.take i):Nat):Int):=by rw[wrap_i64 (by omega) (by omega)];simp
    by_cases hc:2*szL (l.take i)<szL l
    ·have hlt2:i<l.length:=by
      rcases YW i l.length with h|h
      ·exact h
      ·rw[ZF h]at hc;omega
     have hdec2:=dT (i:=2*szL (l.take i)) (n:=szL l) hc
     have hw:=wI i (by omega)
     obtain⟨x,hx⟩:∃ x,l[i]? =some x:=⟨l[i],by simp⟩
     have hg:=Lb l i x hx
     have hxo:=(hok x (QG hx)).1.1
     have hek:=Dk x.e.k
     have hw2:IntKind.i64.wrap ((x.e.k.length:Int)+10)=((x.e.k.length+10:Nat):Int):=by rw[wrap_i64 (by omega) (by omega)];simp
     have hw3:IntKind.i64.wrap ((szL (l.take i):Int)+((x.e.k.length+10:Nat):Int))=((szL (l.take (i+1)):Nat):Int):=by
      rw[Afa l i x hx,De,B8,Dy,wrap_i64 (by omega) (by omega)]
      unfold szI;omega
     have hst:=Sg l i x hx (szL l)
     rw[if_pos hc,hmid]at hst
     repeat' simp only[↓wBA,tYe,seval,wHl,hm,hdec2,hi0,hg,itP,hw,hek,hw2,hw3]
     refine⟨⟨i+1,by omega,hst.symm⟩,by show l.length - (i+1)<l.length - i;omega,hI2,by simp only[]⟩
    ·have hdec2:=dF (i:=2*szL (l.take i)) (n:=szL l) hc
     have hfi:C2 l=i:=by
      rcases YW i l.length with h|h
      ·obtain⟨x,hx⟩:∃ x,l[i]? =some x:=⟨l[i],by simp⟩
       have hst:=Sg l i x hx (szL l)
       rw[if_neg hc,hmid]at hst
       exact hst
      ·rw[YE h]at hmid
       rw[← hmid];rfl
     repeat' simp only[↓wBA,tYe,seval,wHl,hm,hdec2]
     all_goals refine rtS ?_
     all_goals simp only[wRe,tYe,seval,hfi]
theorem A10 {σ:St}{a:AV}{l:List Itm}(ha:ItA σ a l)(hl:l.length≤1000000)(hok:∀ x∈l,x.ok):Aa Tryz.prog 192 [a] σ fun r s=>s=σ∧r=Ad .i64 (C2 l:Nat):=by
 refine Aa.borrowS (Awt l hl hok) (fun r hr M M' u h=> ?_) fun M vs hM hv=> ?_
 ·subst hr;exact Awj M M' u h
 ·simp only[Af]at hv ⊢
  obtain⟨u1,us1,rfl,h1,rfl⟩:=hv
  exact⟨u1,_,rfl,by simp only[Ag];exact ha M u1 hM h1,rfl⟩
def X7:Cq:=(.det 0 (.det 1 (.det 2 (.det 3 (.det 4 (.det 5 (.det 6 (.det 7 (.det 8 (.fin 9 (.det 10 .done)))))))))))
def Sj:Cq:=(.det 0 (.det 1 (.det 2 (.det 3 (.det 4 (.det 6 (.det 9 (.det 10 (.det 11 (.det 12 (.det 13 (.det 14 (.det 15 (.det 16 (.det 17 (.two 5 (.det 7 (.two 8 (.act 18 (.det 19 (.det 20 .done))) 18 (.act 8 (.det 19 (.det 20 .done))))) 18 (.act 5 (.det 7 (.act 8 (.det 19 (.det 20 .done)))))))))))))))))))))
def tYf:=aa wX <| aa wbu <| aa T3 <| aa T29 <| aa T38 <| aa Y1 <| aa T192 <| aa T228 <| aa T232 <| aa T234 T239
def nilQ:AV:=.p (.v (.pointer none))
def SplR (T:Nat→Bool)(np n kd len0:Nat)(its:List Itm)(v v':Nat→List UInt8)(r:AV)(s:St)(U':Nat→Prop):Prop:=
 (szL its≤496∧r= .tup [nilQ,Ad .i64 0]∧v'=upV v n (Hx kd its).1)
 ∨(496<szL its∧(∀ m,m<np→T m=true)∧r= .tup [nilQ,Ad .i64 20]∧v'=v)
 ∨(496<szL its∧∃ m tm x,1≤m∧m<np∧T m=false∧its[C2 its]? =some x∧r= .tup [.mp tm 4 0 0,Ad .i64 0]∧s[tm]? =some (some (.row 4 [itC ⟨x.e,m⟩]))∧len0≤tm∧¬ U' tm∧
  v' m=(Hx kd (its.drop (C2 its))).1∧v' n=(Hx kd (its.take (C2 its))).1∧(∀ q,q≠m→q≠n→q≠0→v' q=v q)∧Tk (v' 0) np (D3 T m true))
theorem Amb (l:List Itm)(x:Itm)(k:Nat)(h:l[k]? =some x):szL (l.take (k+1))=szL (l.take k)+szI x:=by rw[Afa l k x h,De,B8,Dy];omega
theorem Acm (l:List Itm)(hok:∀ x∈l,x.ok)(h1:496<szL l)(h2:szL l≤646):1≤C2 l∧C2 l<l.length∧szL (l.take (C2 l))≤473∧szL (l.drop (C2 l))≤323:=by
 obtain⟨m1,m2,m3⟩:=Al4 l
 have hsum:szL (l.take (C2 l))+szL (l.drop (C2 l))=szL l:=by rw[← De,ZI]
 have hm0:C2 l≠0:=fun e=>by rw[e]at m2;simp[Dy]at m2;omega
 have hm3:2*szL (l.take (C2 l - 1))<szL l:=m3.resolve_left hm0
 obtain⟨k,hk⟩:∃ k,C2 l=k+1:=⟨C2 l - 1,by omega⟩
 rw[hk]at m1 m2 hsum hm3 ⊢
 simp only[Nat.add_sub_cancel]at hm3
 obtain⟨x,hx⟩:∃ x,l[k]? =some x:=⟨l[k],by simp⟩
 have hxo:=I0 (hok x (QG hx))
 have hl:=Amb l x k hx
 refine⟨by omega,?_,by omega,by omega⟩
 rcases YW (k+1) l.length with h|h
 ·exact h
 ·rw[ZF h]at hl;omega
theorem Amc {v v1:Nat→List UInt8}{m n:Nat}{A B:List UInt8}(hmn:m≠n)(hn:n≠0)(hm:m≠0)(hvo:∀ q,q≠m→q≠0→v1 q=v q):
 upV (upV v1 m A) n B m=A∧upV (upV v1 m A) n B n=B∧(∀ q,q≠m→q≠n→q≠0→upV (upV v1 m A) n B q=v q)∧upV (upV v1 m A) n B 0=v1 0:=by
 unfold upV
 refine⟨?_,?_,fun q h1 h2 h3=> ?_,?_⟩
 ·rw[if_neg hmn,if_pos rfl]
 ·rw[if_pos rfl]
 ·rw[if_neg h2,if_neg h1];exact hvo q h1 h3
 ·rw[if_neg (fun e=>hn e.symm),if_neg (fun e=>hm e.symm)]
theorem Aaf {σ:St}{b p dd l kh n kd t:Nat}{U:Nat→Prop}{P:Ak}{v:Nat→List UInt8}{T:Nat→Bool}{its:List Itm}(h:Bt σ b p dd l kh U P v)(hT:Tk (v 0) P.pages T)(hnp:P.pages≤3200)(hT0:T 0=true)(hb:Bud P 1)(hn0:1≤n)(hn:n<P.pages)(hTn:T n=true)
 (ht:σ[t]? =some (some (.row 4 (its.map itC)))) (htU:¬ U t) (hkd:kd=2∨kd=3) (hok:∀ x∈its,x.ok) (hsz:szL its≤646):
 Aa Tryz.prog 164 [.agg [.mp b 2 0 0],Ad .i64 (n:Nat),.agg [Ad .i64 (kd:Nat),.ms t 4 0 its.length]] σ fun r σ'=>∃ U' P' v',Fr σ σ' U U'∧Bt σ' b p dd l kh U' P' v'∧Kp P P' 0∧SplR T P.pages n kd σ.length its v v' r σ' U':=by
 have hlen:=Un its
 have yt:=Ac ht
 have hlt:=h.lt
 have hnp1:1≤P.pages:=by omega
 have hItM:∀ s:St,s[t]? =σ[t]? →ItM s t 0 its:=fun s hs=>⟨its.map itC,hs.trans ht,by simp,fun j x hj=>by simp[hj]⟩
 have hpl:=Uo kd its
 have hpc:=Ao hpl
 have z5:=Ao A7
 refine Ab Am An Tryz.func164 (by kernel_rfl) rfl (nt:=67) (rs:=[.tmp 6,.tmp 7]) rfl rfl ?_
 repeat' first|simp only[↓wBA,tYf,seval,wH]|with_reducible refine And.intro ?_ ?_
 have a1:Ap σ (σ++[some (Ob.row 1 [[AV.mp b 2 0 0]])]++[some (Ob.row 2 [[Ad .i64 (kd:Nat),AV.ms t 4 0 its.length]])]):=(Ap.app _ _).more _
 refine (Aor kd (hItM _ ((a1.get ht).trans ht.symm)).a hok (by omega)).eq ?_
 obtain⟨S0,hS0⟩:∃ S0,S0=σ++[some (Ob.row 1 [[AV.mp b 2 0 0]])]++[some (Ob.row 2 [[Ad .i64 (kd:Nat),AV.ms t 4 0 its.length]])]++[some (Ob.row 512 [Aq (Hx kd its).1])]:=⟨_,rfl⟩
 have aS:Ap σ S0:=by rw[hS0];exact a1.more _
 have hl0:S0.length=σ.length+3:=by rw[hS0];simp
 have b0:S0[σ.length]? =some (some (Ob.row 1 [[AV.mp b 2 0 0]])):=by rw[hS0];simp
 have b1:S0[σ.length+1]? =some (some (Ob.row 2 [[Ad .i64 (kd:Nat),AV.ms t 4 0 its.length]])):=by rw[hS0];simp
 have t0:=aS.get ht
 have y0:=Ac b0
 have y1:=Ac b1
 have y2:=Ac t0
 have h0:=h.ap aS
 have hS1:σ++[some (Ob.row 1 [[AV.mp b 2 0 0]])]++[some (Ob.row 2 [[AV.p (PV.v (Value.int IntKind.i64 (kd:Nat))),AV.ms t 4 0 its.length]])]++[some (Ob.row 512 [Aq (Hx kd its).1])]=S0:=hS0.symm
 by_cases hs:szL its≤496
 ·obtain⟨hf2,hfn⟩:=E6 hkd hok hs
  repeat' first|simp only[↓wBA,tYf,seval,wH,A6,hpc,C6,z5,hf2,hS1,b0,b1]|with_reducible refine And.intro ?_ ?_
  refine (Mo h0 hn0 hn (.inl ⟨t,0,rfl,hItM _ (t0.trans ht.symm)⟩) hkd hok hs).mono ?_
  rintro _ s ⟨rfl,U1,f1,h1⟩
  repeat' first|simp only[↓wBA,tYf,seval]|with_reducible refine And.intro ?_ ?_
  have l1:=f1.len
  all_goals refine rtS ?_
  all_goals simp only[wRe,tYf,seval]
  exact⟨U1,P,_,aS.fr.trans f1,h1,Kp.refl P _,.inl ⟨hs,rfl,rfl⟩⟩
 ·have hf2:=Awf hkd hok hs
  obtain⟨q1,q2,q3,q4⟩:=Acm its hok (by omega) hsz
  repeat' first|simp only[↓wBA,tYf,seval,wH,A6,hpc,C6,z5,hf2,hS1,b0,b1]|((with_reducible show Aa _ _ _ _ _);refine (A10 (hItM _ (t0.trans ht.symm)).a (by omega) hok).eq ?_)|with_reducible refine And.intro ?_ ?_
  refine (Uk (kind:=kd) h0 hT hnp hnp1 hT0 hb).mono ?_
  rintro r s1 ⟨U1,P1,v1,f1,h1,k1,hc⟩
  have l1:=f1.len
  have hlt1:=h1.lt
  have nU:∀ j,j<S0.length→¬ U j→¬ U1 j:=fun j hj hn e=>(f1.own j e).elim hn fun e=>by omega
  have g0:=f1.get b0 fun e=>by have:=hlt _ e;omega
  have g1:=f1.get b1 fun e=>by have:=hlt _ e;omega
  have g2:=f1.get t0 htU
  have z0:=Ac g0
  have z1:=Ac g1
  have z2:=Ac g2
  rcases hc with⟨m,m1,m2,hTm,rfl,hvm,hvo,hTk⟩|⟨hall,rfl,rfl⟩
  ·have hsl:=Aws t 0 its.length (C2 its) (by omega) q2
   have hst:=slTo t 0 its.length (C2 its) (by omega)
   have hi0:=nnI (C2 its)
   have hif:(((C2 its:Nat):Int)<(its.length:Int))=True:=eq_true (by omega)
   obtain⟨x,hx⟩:∃ x,its[C2 its]? =some x:=⟨its[C2 its],by simp⟩
   have hgx:(its.map itC)[C2 its]? =some (itC x):=by simp[hx]
   repeat' first|simp only[↓wBA,tYf,seval,X7,wH,g0,g1,hsl]|(with_reducible refine dQ X7 11 (some 38) ?_)|with_reducible refine And.intro ?_ ?_
   have hM1:=hItM s1 (g2.trans ht.symm)
   have hD:ItX s1 (.ms t 4 (C2 its) (its.length - C2 its)) (its.drop (C2 its)):=.inl ⟨t,C2 its,by rw[WJ],by have:=hM1.drop (C2 its) (by omega);rwa [ZC]at this⟩
   refine (Mo h1 m1 (by rw[k1.pages];exact m2) hD hkd (fun y hy=>hok y (ZX hy)) (by omega)).mono ?_
   rintro _ s2 ⟨rfl,U2,f2,h2⟩
   have l2:=f2.len
   have nU2:∀ j,j<S0.length→¬ U j→¬ U2 j:=fun j hj hn e=>(f2.own j e).elim (nU j hj hn) fun e=>by omega
   have e0:=f2.get g0 (nU _ y0 fun e=>by have:=hlt _ e;omega)
   have e1:=f2.get g1 (nU _ y1 fun e=>by have:=hlt _ e;omega)
   have e2:=f2.get g2 (nU _ y2 htU)
   have w0:=Ac e0
   have w1:=Ac e1
   have w2:=Ac e2
   have hlt2:=h2.lt
   have hM2:=(hItM s2 (e2.trans ht.symm)).take (C2 its)
   have htl:(its.take (C2 its)).length=C2 its:=by rw[QZ];omega
   have nb0:¬ U2 σ.length:=nU2 _ y0 fun e=>by have:=hlt _ e;omega
   have nb1:¬ U2 (σ.length+1):=nU2 _ y1 fun e=>by have:=hlt _ e;omega
   have hX:∀ s:St,s[t]? =s2[t]? →ItX s (.ms t 4 0 (C2 its)) (its.take (C2 its)):=fun s hs=>.inl ⟨t,0,by rw[htl],hM2.same hs⟩
   have hok2:∀ y∈its.take (C2 its),y.ok:=fun y hy=>hok y (ZM hy)
   obtain⟨Sm,hSm⟩:∃ Sm,Sm=(s2.set (σ.length+1) none).set σ.length none:=⟨_,rfl⟩
   have hSl:Sm.length=s2.length:=by rw[hSm];simp
   have hSt:∀ j,j≠σ.length→j≠σ.length+1→Sm[j]? =s2[j]? :=fun j hj hj2=>by rw[hSm,QO (by omega),QO (by omega)]
   have hmB:Bt Sm b p dd l kh U2 P1 (upV v1 m (Hx kd (its.drop (C2 its))).1):=by rw[hSm];exact (h2.set nb1 _).set nb0 _
   have hW0:=Mo hmB hn0 (by rw[k1.pages];exact hn) (hX Sm (hSt t (by omega) (by omega))) hkd hok2 (by omega)
   have hW1:=fun (x:Option Ob)=>Mo (hmB.ap (Ap.app Sm [x])) hn0 (by rw[k1.pages];exact hn) (hX (Sm++[x]) (by rw[QD (by omega)];exact hSt t (by omega) (by omega))) hkd hok2 (by omega)
   have hfin:∀ {s3:St} {U3:Nat→Prop} {σ3:St},Ap Sm σ3→Fr σ3 s3 U2 U3→∀ a b c:Option Ob,Fr σ (((s3.set (σ.length+1) a).set σ.length b).set (σ.length+1) c) U U3:=fun {s3 U3 σ3} hA f3 a b c=>by
    have l3:=f3.len
    have lA:=hA.len
    refine (Fr.setY (Fr.setY (Fr.setY ?_ (by omega) _) (QH _) _) (by omega) _)
    have f02:Fr σ s2 U U2:=(aS.fr.trans f1).trans f2
    refine⟨by omega,fun j hj hn=> ?_,fun j hj=>(f3.own j hj).elim (f02.own j) fun e=>.inr (by omega)⟩
    rw[f3.keep j (by omega) fun e=>(f02.own j e).elim hn fun e=>by omega]
    obtain⟨τ,rfl⟩:=hA
    rw[QD (by omega),hSt j (by omega) (by omega)]
    exact f02.keep j hj hn
   obtain⟨u1,u2,u3,u4⟩:=Amc (v:=v) (v1:=v1) (A:=(Hx kd (its.drop (C2 its))).1) (B:=(Hx kd (its.take (C2 its))).1) (m:=m) (n:=n) (fun e=>by rw[e,hTn]at hTm;cases hTm) (by omega) (by omega) hvo
   rw[← u4]at hTk
   have hAm:Ap Sm Sm:=⟨[],by simp⟩
   have hAx:∀ x:Option Ob,Ap Sm (Sm++[x]):=fun x=>Ap.app _ _
   rw[hSm]at hW0 hW1 hAm hAx hfin
   repeat' first|simp only[↓wBA,tYf,seval,Sj,wH,e0,e1,e2,w0,w1,yt,hst,hi0,hif,hgx,itC]|(with_reducible refine dQ Sj 21 (some 51) ?_)|with_reducible refine And.intro ?_ ?_
   ·refine (hW1 _).mono ?_
    rintro _ s3 ⟨rfl,U3,f3,h3⟩
    have l3:=f3.len
    simp only[QE,QF,QI,ZW]at l3
    have v0:σ.length<s3.length:=by omega
    have v1:σ.length+1<s3.length:=by omega
    repeat' first|simp only[↓wBA,tYf,seval,wH,e0,e1,w0,w1,v1]|with_reducible refine And.intro ?_ ?_
    all_goals refine rtS ?_
    all_goals simp only[wRe,tYf,seval]
    have n30:¬ U3 σ.length:=fun e=>(f3.own _ e).elim nb0 fun e=>by simp at e;omega
    have n31:¬ U3 (σ.length+1):=fun e=>(f3.own _ e).elim nb1 fun e=>by simp at e;omega
    refine⟨U3,P1,_,hfin (hAx _) f3 _ _ _,((h3.set n31 _).set n30 _).set n31 _,k1,.inr (.inr ⟨by omega,m,s2.length,x,m1,m2,hTm,hx,rfl,?_,by omega,fun e=>(f3.own _ e).elim (fun e=>by have:=hlt2 _ e;omega) fun e=>by simp at e;omega,u1,u2,u3,hTk⟩)⟩
    rw[QO (by omega),QO (by omega),QO (by omega),f3.keep s2.length (by simp) fun e=>by have:=hlt2 _ e;omega]
    simp[itC,Ad]
   ·refine hW0.mono ?_
    rintro _ s3 ⟨rfl,U3,f3,h3⟩
    have l3:=f3.len
    simp only[ZW]at l3
    have v0:σ.length<s3.length:=by omega
    have v1:σ.length+1<s3.length:=by omega
    repeat' first|simp only[↓wBA,tYf,seval,wH,e0,e1,w1,v0,v1]|with_reducible refine And.intro ?_ ?_
    all_goals refine rtS ?_
    all_goals simp only[wRe,tYf,seval]
    have n30:¬ U3 σ.length:=fun e=>(f3.own _ e).elim nb0 fun e=>by simp at e;omega
    have n31:¬ U3 (σ.length+1):=fun e=>(f3.own _ e).elim nb1 fun e=>by simp at e;omega
    have hlt3:=h3.lt
    refine⟨U3,P1,_,(hfin hAm f3 _ _ _).app _,(((h3.set n31 _).set n30 _).set n31 _).ap (Ap.app _ _),k1,.inr (.inr ⟨by omega,m,s3.length,x,m1,m2,hTm,hx,rfl,?_,by omega,fun e=>by have:=hlt3 _ e;omega,u1,u2,u3,hTk⟩)⟩
    rw[QY (by simp)]
    simp[itC,Ad]
   ·refine hW0.mono ?_
    rintro _ s3 ⟨rfl,U3,f3,h3⟩
    have l3:=f3.len
    simp only[ZW]at l3
    have v0:σ.length<s3.length:=by omega
    have v1:σ.length+1<s3.length:=by omega
    have t3:s3[t]? =some (some (.row 4 (its.map itC))):=by
     rw[f3.keep t (by simp;omega) (nU2 _ y2 htU),←hSm,hSt t (by omega) (by omega)];exact e2
    have v2:=Ac t3
    repeat' first|simp only[↓wBA,tYf,seval,wH,e0,e1,w1,v0,v1,t3,yt,hgx,itC]|with_reducible refine And.intro ?_ ?_
    all_goals refine rtS ?_
    all_goals simp only[wRe,tYf,seval]
    have n30:¬ U3 σ.length:=fun e=>(f3.own _ e).elim nb0 fun e=>by simp at e;omega
    have n31:¬ U3 (σ.length+1):=fun e=>(f3.own _ e).elim nb1 fun e=>by simp at e;omega
    have hlt3:=h3.lt
    refine⟨U3,P1,_,(hfin hAm f3 _ _ _).app _,(((h3.set n31 _).set n30 _).set n31 _).ap (Ap.app _ _),k1,.inr (.inr ⟨by omega,m,s3.length,x,m1,m2,hTm,hx,rfl,?_,by omega,fun e=>by have:=hlt3 _ e;omega,u1,u2,u3,hTk⟩)⟩
    rw[QY (by simp)]
    simp[itC,Ad]
  ·skip
   repeat' first|simp only[↓wBA,tYf,seval]|with_reducible refine And.intro ?_ ?_
   all_goals refine rtS ?_
   all_goals simp only[wRe,tYf,seval]
   exact⟨U1,P1,_,aS.fr.trans f1,h1,k1,.inr (.inl ⟨by omega,hall,rfl,rfl⟩)⟩
