/- An index is added to a table. table.Make. -/
import Derived.Test.YtpoigihfeehehaaGreatDoorM46
import Derived.Test.YtpoigihfeehehaaGreatDoorM47
set_option linter.all false
set_option maxRecDepth 100000
set_option maxHeartbeats 32000000
namespace Go.Proofs.YtpoigihfeehehaaGreatDoor
open Go.RowKit
def Adk:Cq:=(.det 0 (.det 3 (.det 4 (.det 5 (.det 6 (.det 7 (.det 8 (.det 9 (.det 10 (.det 12 (.det 13 (.act 1 (.det 2 (.act 11 (.fin 14 (.det 15 .done))))))))))))))))
def Lo:Cq:=(.det 0 (.det 1 (.det 2 (.det 3 (.det 4 (.det 5 (.two 6 (.det 7 (.act 8 (.fin 9 .done))) 8 (.act 6 (.det 7 (.fin 9 .done))))))))))
def Lp:Cq:=(.det 0 (.det 1 (.det 2 (.det 4 (.det 7 (.det 8 (.det 9 (.det 10 (.det 12 (.three 3 (.two 5 (.two 6 (.two 11 (.act 13 (.act 14 (.det 15 (.fin 16 (.det 17 .done))))) 13 (.act 11 (.act 14 (.det 15 (.fin 16 (.det 17 .done)))))) 13 (.act 6 (.act 11 (.act 14 (.det 15 (.fin 16 (.det 17 .done))))))) 13 (.act 5 (.act 6 (.act 11 (.act 14 (.det 15 (.fin 16 (.det 17 .done)))))))) 5 (.two 3 (.two 6 (.two 11 (.act 13 (.act 14 (.det 15 (.fin 16 (.det 17 .done))))) 13 (.act 11 (.act 14 (.det 15 (.fin 16 (.det 17 .done)))))) 13 (.act 6 (.act 11 (.act 14 (.det 15 (.fin 16 (.det 17 .done))))))) 13 (.act 3 (.act 6 (.act 11 (.act 14 (.det 15 (.fin 16 (.det 17 .done)))))))) 13 (.two 3 (.act 5 (.act 6 (.act 11 (.act 14 (.det 15 (.fin 16 (.det 17 .done))))))) 5 (.act 3 (.act 6 (.act 11 (.act 14 (.det 15 (.fin 16 (.det 17 .done))))))))))))))))))
def tTn:=aa wX <| aa wbu <| aa T3 <| aa T9 <| aa T24 <| aa T29 <| aa T37 <| aa T38 <| aa T40 <| aa T42 <| aa T43 <| aa T44 <| aa T46 <| aa T51 <| aa T54 <| aa T56 <| aa T62 <| aa T70 T111
theorem Mv.trans {v v1 v2:Nat→List UInt8}{T T1 T2:Nat→Bool}{np:Nat}{ps ps1 ps2:List Nat}(h:Mv v v1 T T1 np ps ps1)(k:Mv v1 v2 T1 T2 np ps1 ps2):Mv v v2 T T2 np ps ps2:=
 ⟨h.w.trans k.w,fun q hq=>k.sub q (h.sub q hq),fun q hq=>(k.tt q hq).elim (fun e=>(h.tt q e).imp id (k.sub q)) .inr⟩
theorem Mm.lenT {q:St}{av:AV}{E T:TypeId}{e es eb:Nat}{ez:List Value}{ls:List (List AV)}(hk:cx.kind T=some (.slice E es eb ez))(h:Mm q av e ls):Ba cx T av=some ls.length:=by
 unfold Ba
 rw[hk]
 rcases h with⟨rfl,rfl⟩|⟨t,rfl,_,_⟩<;>rfl
theorem Apb (e:Nat){ls:List (List PV)}(h:ls≠[]):lsP e ls= .sl e ls∧True:=⟨by unfold lsP;rw[if_neg h],trivial⟩
theorem Am6 (X:List Ixx)(y:Ixx)(n:Nat):Mw (X++[y]) n=Mw X n+y.kd.B n:=by simp[Mw]
theorem Arl {x y:Ver}(h:ltV x y):¬ x.1=y.1:=fun e=>by unfold ltV at h;rw[e]at h;omega
section
variable {σ:St} {b p dd l kh first w:Nat} {U:Nat→Prop} {P:Ak} {v:Nat→List UInt8} {T:Nat→Bool} {ns:List Nat} {E:List Ver} {X:List Ixx}
theorem A2o {k:Kd}{x:Idx}(h:Bt σ b p dd l kh U P v)(hT:Tk (v 0) P.pages T)(hnp:P.pages≤3200)(hT0:T 0=true)(ht:Tab v T P.pages first ns E X w)(hb:Bud P 1)(hE:E.length≤60)(hk:KdOk k)(hof:∀ σ,Aa Tryz.prog 43 [idxA x] σ fun r s=>s=σ∧r=k.tool)(hx:x.2.2.1<w)(hroom:2+E.length+Mw X E.length+2*k.B E.length≤P.pages)(nm:ByteArray){cols:List (List PV)}(hc0:cols≠[])(hcl:cols.length≤1000000)(hXl:X.length≤1000):
 Aa Tryz.prog 15 [.mp b 2 0 0,Of nm cols X first,idxA x] σ fun r σ'=>∃ (root:Nat) (ps:List Nat) (L:List Ent) (U':Nat→Prop) (P':Ak) (v':Nat→List UInt8) (T':Nat→Bool),r= .tup [Of nm cols (X++[⟨x,root,ps,k,L⟩]) first,Ad .i64 0]∧Fr σ σ' U U'∧Bt σ' b p dd l kh U' P' v'∧Kp P P' 0∧Tk (v' 0) P.pages T'∧T' 0=true∧Tab v' T' P.pages first ns E (X++[⟨x,root,ps,k,L⟩]) w:=by
 refine Aa.frz ?_
 have hlt:=h.lt
 have hcc:=Axb hc0 hcl
 have hnl:=ht.nl
 obtain⟨d,hd⟩:=hk.tl
 rw[hd]at hof
 have hxw:=hx
 obtain⟨xx,hxx⟩:∃ xx,xx=x:=⟨_,rfl⟩
 obtain⟨xn,xt,xc,xh⟩:=x
 simp only at hxw
 simp only[idxA,Fv,QK,ZB]at hof ⊢
 unfold Of
 obtain⟨z2,hz2⟩:∃ z,z=lsP 4 (X.map fun x=>Fv x.x):=⟨_,rfl⟩
 obtain⟨z4,hz4⟩:∃ z,z=lsP 1 (X.map fun x=>[PV.v (.int .i64 (x.root:Nat))]):=⟨_,rfl⟩
 rw[← hz2,←hz4]
 refine Ab Am An Tryz.func15 (by kernel_rfl) rfl (nt:=81) (rs:=[.cell 6 46,.tmp 7]) rfl rfl ?_
 repeat' first|simp only[↓wBA,tTn,seval,wH]|with_reducible refine And.intro ?_ ?_
 obtain⟨S0,hS0⟩:∃ S0,S0=σ++[some (Ob.row 5 [[AV.p (.v (.string nm)),AV.p (.sl 4 cols),AV.p z2,AV.p (.v (.int .i64 (first:Nat))),AV.p z4]])]++[some (Ob.row 4 [[AV.p (.v (.string xn)),AV.p (.v (.string xt)),AV.p (.v (.int .i64 (xc:Nat))),AV.p (.v (.bool xh))]])]++[some (Ob.row 5 [[AV.p (.v (.string { data:= #[] })),AV.p (.v (.slice none 0 0)),AV.p (.v (.slice none 0 0)),AV.p (.v (.int .i64 0)),AV.p (.v (.slice none 0 0))]])]:=⟨_,rfl⟩
 have a0:Ap σ S0:=by rw[hS0];exact ((Ap.app _ _).more _).more _
 have l0:S0.length=σ.length+3:=by rw[hS0];simp
 have x00:S0[σ.length]? =some (some (Ob.row 5 [[AV.p (.v (.string nm)),AV.p (.sl 4 cols),AV.p z2,AV.p (.v (.int .i64 (first:Nat))),AV.p z4]])):=by rw[hS0];simp
 have x01:S0[σ.length+1]? =some (some (Ob.row 4 [[AV.p (.v (.string xn)),AV.p (.v (.string xt)),AV.p (.v (.int .i64 (xc:Nat))),AV.p (.v (.bool xh))]])):=by rw[hS0];simp
 have x02:S0[σ.length+2]? =some (some (Ob.row 5 [[AV.p (.v (.string { data:= #[] })),AV.p (.v (.slice none 0 0)),AV.p (.v (.slice none 0 0)),AV.p (.v (.int .i64 0)),AV.p (.v (.slice none 0 0))]])):=by rw[hS0];simp
 rw[← hS0]
 refine (Aj7 (h.ap a0) ht.th ht.f hb (by omega) _ _ _ _).mono ?_
 rintro _ s1 ⟨av,U1,P1,rfl,hm1,f1,h1,k1,hms1⟩
 have hpg1:=k1.pages
 have l1:=f1.len
 have hU0:∀ t,σ.length≤t→¬ U t:=fun t h1 h2=>by have:=hlt t h2;omega
 have x10:=f1.get x00 (hU0 _ (by omega))
 have x11:=f1.get x01 (hU0 _ (by omega))
 have x12:=f1.get x02 (hU0 _ (by omega))
 have hla:Ba cx 56 av=some E.length:=by rw[hm1.lenT Mf,QL]
 have y10:=Ac x10
 have y11:=Ac x11
 have y12:=Ac x12
 repeat' first|simp only[↓wBA,tTn,seval,x11]|((with_reducible show Aa _ _ _ _ _);refine (hof _).eq ?_)|with_reducible refine And.intro ?_ ?_
 have hc0':Go.Proofs.YtpoigihfeehehaaGreatDoor.cnt T P1.pages+k.B 0≤P1.pages:=by
  rw[hpg1]
  have:=ht.cnt
  have:=hk.mono 0 E.length (by omega)
  omega
 refine (hk.mkC h1 (by rw[hpg1];exact hT) (by rw[hpg1];exact hnp) hT0 (hb.kp k1 (by omega)) hc0').mono ?_
 rintro _ s3 ⟨root,ps3,U3,P3,v3,T3,rfl,f3,h3,k3,g3,hI3⟩
 rw[hpg1]at g3 hI3
 have hpg3:=k3.pages.trans hpg1
 have l3:=f3.len
 have hb3:=hb.kp (k1.trans k3) (k:=1) (by omega)
 have hU1:∀ t,σ.length≤t→t<S0.length→¬ U1 t:=fun t h1 h2 h3=>(f1.own t h3).elim (hU0 t h1) fun e=>by omega
 have x30:=f3.get x10 (hU1 _ (by omega) (by omega))
 have x31:=f3.get x11 (hU1 _ (by omega) (by omega))
 have x32:=f3.get x12 (hU1 _ (by omega) (by omega))
 have hU3:∀ t,σ.length≤t→t<s1.length→¬ U1 t→¬ U3 t:=fun t h1 h2 h3 h4=>(f3.own t h4).elim h3 fun e=>by omega
 have hrow:∀ t,N8 av=some t→s3[t]? =some (some (.row 5 (E.map Dt)))∧S0.length≤t∧t<s1.length∧¬ U3 t:=fun t hav=>by
  obtain⟨h1,h2⟩:=hms1 t hav
  have h3:=hm1.lt hav
  rcases hm1 with⟨rfl,_⟩|⟨t',rfl,_,hr⟩
  ·cases hav
  ·simp only[N8,QB]at hav;subst hav
   exact⟨f3.get hr h2,h1,h3,hU3 _ (by omega) h3 h2⟩
 have y30:=Ac x30
 have y31:=Ac x31
 have y32:=Ac x32
 repeat' first|simp only[↓wBA,tTn,seval,hla]|with_reducible refine And.intro ?_ ?_
 refine Ar (X:={ i:Nat // i≤E.length }) (fun i=>E.length - i.1) (fun i=>[(9,Ad .i64 0),(34,Ad .i64 (i.1:Nat))]) [12,35,36,37,38,39,40,41,42,43,44,45,46,47,48,49,50,51,52,53,54,55] (fun i s=>s3.length≤s.length∧∃ U' P' v' T' ps L,Fr s3 s U3 U'∧Bt s b p dd l kh U' P' v'∧Kp P P' 0∧Mv v v' T T' P.pages [] ps∧k.I v' T' P.pages root ps L∧L.Perm ((E.take i.1).map (Qr xc))) (⟨0,by omega⟩) ?_ ?_ ?_ ?_
 ·simp only[wHl,wHf]
 ·exact⟨QH _,U3,P3,v3,T3,ps3,[],Fr.refl _ _,h3,k1.trans k3,g3,hI3,by simp⟩
 ·rintro _ _ ⟨h,_⟩;exact h
 ·intro y J s hI
  simp only[wHl]
  obtain⟨i,hi⟩:=y
  obtain⟨ls,U4,P4,v4,T4,ps4,L4,f4,h4,k4,g4,hI4,hp4⟩:=hI
  dsimp only at*
  have hi0:=nnI i
  have hwi:=wI i (by omega)
  have hpg4:=k4.pages
  have x40:=f4.get x30 (hU3 _ (by omega) (by omega) (hU1 _ (by omega) (by omega)))
  have x41:=f4.get x31 (hU3 _ (by omega) (by omega) (hU1 _ (by omega) (by omega)))
  have x42:=f4.get x32 (hU3 _ (by omega) (by omega) (hU1 _ (by omega) (by omega)))
  have y40:=Ac x40
  have y41:=Ac x41
  have y42:=Ac x42
  have hst4:=ht.st.add (x:=xx) g4 hk hI4
  by_cases hlt':i<E.length
  ·have e1:=dT (i:=i) (n:=E.length) hlt'
   obtain⟨e,he⟩:∃ e,E[i]? =some e:=⟨E[i],by simp⟩
   have hem:=QG he
   obtain⟨⟨o1,o2,o3,o4,o5⟩,o6⟩:=ht.ok e hem
   have htk:E.take (i+1)=E.take i++[e]:=by rw[YU,he];rfl
   obtain⟨n,k',hpl⟩:∃ n k',e.1=(n,k'):=⟨_,_,rfl⟩
   have hrec:Iz v ns n k'=some (rcB e.2.1.1 e.2.1.2 e.2.2):=(Ec ht.st.hp _ _ _).1 (ht.st.pm.mem_iff.2 (ZP.2 ⟨e,hem,by unfold Q5;rw[hpl]⟩))
   obtain⟨b1,b2⟩:=Akj ht.st.hp hrec
   obtain⟨va,hva⟩:∃ va,e.2.2[xc]? =some va:=⟨e.2.2[xc]'(by rw[o6];exact hxw),by simp⟩
   have hvo:=o3 va (QG hva)
   have hkey:=Aak hvo
   have hent:Qr xc e=⟨Gj va,n,k'⟩:=by unfold Qr;rw[hpl,QM,hva];rfl
   obtain⟨tl,rfl⟩:∃ tl,av= .ms tl 5 0 E.length:=by
    rcases hm1 with⟨_,h⟩|⟨t,h,_⟩
    ·have:=congrArg List.length h;rw[QL]at this;simp only[QI]at this;omega
    ·exact⟨t,by simpa using h⟩
   obtain⟨r3,r4,r5,r6⟩:=hrow tl rfl
   have x43:=f4.get r3 r6
   have y43:=Ac x43
   have hg:(E.map Dt)[i]? =some (Dt e):=by rw[QR,he];rfl
   have hxc:(enV e.2.2)[xc]? =some (vaC va):=by
    have h1:=Ji e.2.2 xc (by omega)
    rw[h1]
    congr 2
    exact (QC.1 hva).2
   have hif:((i:Int)<(E.length:Int))=True:=eq_true (by omega)
   have hx0:=nnI xc
   obtain⟨⟨en,ek⟩,⟨em,et⟩,evs⟩:=e
   simp only at o1 o2 o3 o4 o5 o6 hva hxc hpl
   simp only[QJ]at hpl
   obtain⟨rfl,rfl⟩:=hpl
   obtain⟨vk,vn,vx⟩:=va
   simp only[Dt,verC,QK,ZB]at hg
   simp only[vaA,vaC,QK,ZB]at hkey hxc
   repeat' first|simp only[↓wBA,tTn,seval,Adk,wH,wHl,hi0,hg,hif,hx0,hxc,x41,x43,y41]|((with_reducible show Aa _ _ _ _ _);first|refine (hof _).eq ?_|refine (hkey _).eq ?_)|(with_reducible refine dQ Adk 16 (some 40) ?_)|with_reducible refine And.intro ?_ ?_
   have hst5:Go.Proofs.YtpoigihfeehehaaGreatDoor.cnt T4 P.pages≤1+ns.length+Mw X E.length+k.B E.length:=by
    have q1:=hst4.cnt
    have q2:=Vd (n:=E.length) (X:=X++[⟨xx,root,ps4,k,L4⟩]) fun y hy=>⟨hst4.kd y hy,by
     rcases QS.1 hy with hy|hy
     ·rw[(ht.ent y hy).length_eq,QL];exact QH _
     ·simp only[ZR]at hy;subst hy
      rw[hp4.length_eq,QL,QZ];omega⟩
    rw[Am6]at q2
    dsimp only at q2
    omega
   have hL4:L4.length=i:=by rw[hp4.length_eq,QL,QZ];omega
   have hmn:=hk.mono (i+1) E.length (by omega)
   have hke:=Uv hvo
   have hnot:(⟨Gj (vk,vn,vx),en,ek⟩:Ent)∉L4:=fun hm=>by
    obtain⟨x,hx,hxe⟩:=ZP.1 (hp4.mem_iff.1 hm)
    have hpw:(E.take (i+1)).Pairwise ltV:=ht.so.sublist (List.take_sublist _ _)
    rw[htk]at hpw
    have:=(XG.1 hpw).2.2 x hx _ (ZR.2 rfl)
    unfold Qr at hxe
    simp only[Ent.mk.injEq]at hxe
    exact Arl this (VK hxe.2.1 hxe.2.2)
   refine (hk.insC (e:=⟨Gj (vk,vn,vx),en,ek⟩) (h4.ap (Ap.app _ _)) (by rw[hpg4];exact g4.w.tkk) (by rw[hpg4];exact hnp) g4.w.t0 (hb.kp k4 (by omega)) (by rw[hpg4];exact hI4) ⟨by show (Gj _).length≤140;omega,by show en<65536;omega,by show ek<65536;omega⟩ hnot (by omega) (by rw[hpg4,hL4];omega)).mono ?_
   rintro _ s5 ⟨rfl,ps5,U5,P5,v5,T5,L5,f5,h5,k5,g5,hI5,hp5⟩
   rw[hpg4]at g5 hI5
   have l5:=f5.len
   simp only[QE,QF,QI]at l5
   repeat' first|simp only[↓wBA,tTn,seval,wHl,hwi]|with_reducible refine And.intro ?_ ?_
   refine⟨⟨i+1,by omega⟩,by show E.length - (i+1)<E.length - i;omega,⟨by omega,U5,P5,v5,T5,ps5,L5,f4.trans ((Ap.app _ _).fr.trans f5),h5,k4.trans k5,g4.trans g5,hI5,?_⟩,by simp only[]⟩
   dsimp only
   rw[htk,ZH,QK,ZB,hent]
   exact hp5.trans ((hp4.cons _).trans (List.perm_append_singleton _ _).symm)
  ·obtain rfl:i=E.length:=by omega
   have e1:=dF (i:=E.length) (n:=E.length) hlt'
   rw[ZS]at hp4
   have q1m:=lM (n:=1) (by omega)
   rw[hxx]at hst4
   have hUe:¬ U4 (σ.length+2):=fun e=>(f4.own _ e).elim (hU3 _ (by omega) (by omega) (hU1 _ (by omega) (by omega))) fun e=>by omega
   have hFr:=a0.fr.trans (f1.trans (f3.trans f4))
   have hfin:∀ (z:Option Ob) (τ:St),Fr σ (s.set (σ.length+2) z++τ) U U4∧Bt (s.set (σ.length+2) z++τ) b p dd l kh U4 P4 v4:=fun z τ=>⟨(hFr.setN (by omega) z).app τ,(h4.set hUe z).ap (Ap.app _ _)⟩
   have hrest:Kp P P4 0∧Tk (v4 0) P.pages T4∧T4 0=true∧Tab v4 T4 P.pages first ns E (X++[⟨(xn,xt,xc,xh),root,ps4,k,L4⟩]) w:=by
    refine⟨k4,g4.w.tkk,g4.w.t0,hst4,ht.f,ht.ok,ht.so,fun y hy=> ?_,fun y hy=> ?_,ht.nl⟩
    ·rcases QS.1 hy with hy|hy
     ·exact ht.col y hy
     ·simp only[ZR]at hy;subst hy;exact hxw
    ·rcases QS.1 hy with hy|hy
     ·exact ht.ent y hy
     ·simp only[ZR]at hy;subst hy;exact hp4
   by_cases hX:X=[]
   ·obtain rfl:z2= .v (.slice none 0 0):=by rw[hz2,hX];rfl
    obtain rfl:z4= .v (.slice none 0 0):=by rw[hz4,hX];rfl
    repeat' first|simp only[↓wBA,tTn,seval,Lo,Lp,wH,wHl,e1,x40,x41,x42,y40,y41,y42,A2,Lx,Ey,q1m]|((with_reducible show Aa _ _ _ _ _);first|refine (hcc _).eq ?_|refine (Axc _).eq ?_|refine (Axd _).eq ?_)|(with_reducible first|refine dQ Lo 10 (some 60) ?_|refine dQ Lp 18 (some 68) ?_)|with_reducible refine And.intro ?_ ?_
    all_goals refine rtS ?_
    all_goals simp only[wRe,tTn,seval,wH,y42]
    all_goals refine⟨root,ps4,L4,U4,P4,v4,T4,by simp[Tr,frzL,lsP,Fv,hX],?_⟩
    all_goals simp only[QX]
    all_goals exact⟨(hfin _ _).1,(hfin _ _).2,hrest⟩
   ·have hli:=Apb 4 (ls:=X.map fun x=>Fv x.x) (by simpa using hX)
    have hlr:=Apb 1 (ls:=X.map fun x=>[PV.v (.int .i64 (x.root:Nat))]) (by simpa using hX)
    obtain⟨li,hzl,hli'⟩:∃ li,z2= .sl 4 li∧li=X.map fun x=>Fv x.x:=⟨_,hz2.trans hli.1,rfl⟩
    obtain⟨lr,hzr,hlr'⟩:∃ lr,z4= .sl 1 lr∧lr=X.map fun x=>[PV.v (.int .i64 (x.root:Nat))]:=⟨_,hz4.trans hlr.1,rfl⟩
    subst hzl
    subst hzr
    clear hz2 hz4
    have hill:li.length=X.length:=by rw[hli',QL]
    have hrll:lr.length=X.length:=by rw[hlr',QL]
    have hn1:li≠[]:=fun e=>hX (YX.1 (by rw[← hill,e];rfl))
    have hn2:lr≠[]:=fun e=>hX (YX.1 (by rw[← hrll,e];rfl))
    have w1:=tL (n:=(X.length+1)*48) (by omega)
    have w2:=tL (n:=(X.length+1)*8) (by omega)
    have w3:=lM (n:=X.length+1) (by omega)
    repeat' first|simp only[↓wBA,tTn,seval,Lo,Lp,wH,wHl,e1,x40,x41,x42,y40,y41,y42,A2,Lx,Ey,hill,hrll,w1,w2,w3]|((with_reducible show Aa _ _ _ _ _);first|refine (hcc _).eq ?_|(refine (A2h hn1 (by omega) _).mono ?_;rintro _ _ ⟨rfl,rfl⟩)|(refine (A2i hn2 (by omega) _).mono ?_;rintro _ _ ⟨rfl,rfl⟩))|(with_reducible first|refine dQ Lo 10 (some 60) ?_|refine dQ Lp 18 (some 68) ?_)|with_reducible refine And.intro ?_ ?_
    all_goals refine rtS ?_
    all_goals simp only[wRe,tTn,seval,wH,y42]
    all_goals refine⟨root,ps4,L4,U4,P4,v4,T4,by simp[Tr,frzL,lsP,Fv,hli',hlr'],?_⟩
    all_goals simp only[QX]
    all_goals exact⟨(hfin _ _).1,(hfin _ _).2,hrest⟩
end
def Adl:Cq:=(.det 0 (.det 1 (.det 2 (.det 3 (.det 6 (.two 4 (.det 5 (.det 7 (.act 8 (.fin 9 .done)))) 8 (.act 4 (.det 5 (.det 7 (.fin 9 .done))))))))))
def tT5:=aa wX <| aa wbu <| aa T3 <| aa T9 <| aa T29 <| aa T37 <| aa T38 <| aa T40 <| aa T42 <| aa T43 T46
theorem Am7 {T E:TypeId}{e es eb:Nat}{ez:List Value}{ls:List (List PV)}(hk:cx.kind T=some (.slice E es eb ez)):Ba cx T (.p (lsP e ls))=some ls.length:=by
 unfold Ba lsP
 rw[hk]
 by_cases h:ls=[]
 ·rw[if_pos h,h];rfl
 ·rw[if_neg h];rfl
theorem Sto.tk0 {v:Nat→List UInt8}{m:Nat}{T:Nat→Bool}(h0:T 0=true):D3 T m true 0=true:=by unfold D3;split<;>simp_all
theorem Am8 {α:Type}(f:α→Nat)(l:List α)(i:Nat):((l.take i).map f).sum≤(l.map f).sum:=by
 have:=congrArg (fun m=>(m.map f).sum) (ZI i l)
 simp only[ZH,List.sum_append]at this
 omega
def kxT (x:Ixx):Idx×Kd:=(x.x,x.kd)
theorem Arm (X:List Ixx)(n:Nat):Mw X n=((X.map kxT).map fun q=>q.2.B n).sum:=by unfold Mw;rw[XV];rfl
theorem Arn {v:Nat→List UInt8}{T:Nat→Bool}{np m w:Nat}(h1:1≤m)(h2:m<np)(hT:∀ q,T q=true→q=0)(hp:HPg (v m) 0 []):Tab v (D3 T m true) np m [m] [] [] w:=by
 have hT1:D3 T m true m=true:=by simp[D3]
 refine⟨⟨⟨by simp,by simp,by simp;exact⟨h1,h2,hT1⟩,⟨[],by simpa using hp⟩,trivial⟩,?_,by simp,by simp,by simp[psX],fun q hq=> ?_⟩,rfl,by simp,List.Pairwise.nil,by simp,by simp,by simp⟩
 ·show ((Jn v [m])).Perm []
  have:Jn v [m]=[]:=by
   unfold Jn entP
   rw[YA,WQ,hp.pg.slots]
   rfl
  rw[this]
 ·unfold D3 at hq
  split at hq
  ·rename_i e;exact .inr (.inl (by simp[e]))
  ·exact .inl (hT q hq)
section
variable {σ:St} {b p dd l kh w:Nat} {U:Nat→Prop} {P:Ak} {v:Nat→List UInt8} {T:Nat→Bool}
theorem Apc {ks:List (Idx×Kd)}(h:Bt σ b p dd l kh U P v)(hT:Tk (v 0) P.pages T)(hnp:P.pages≤3200)(hnp2:2≤P.pages)(hT0:T 0=true)(hT1:∀ q,T q=true→q=0)(hb:Bud P 1)(hk:∀ q∈ks,KdOk q.2)(hof:∀ q∈ks,∀ σ,Aa Tryz.prog 43 [idxA q.1] σ fun r s=>s=σ∧r=q.2.tool)(hx:∀ q∈ks,q.1.2.2.1<w)(hroom:∀ q∈ks,2+(ks.map fun q=>q.2.B 0).sum+2*q.2.B 0≤P.pages)(nm:ByteArray){cols:List (List PV)}(hc0:cols≠[])(hcl:cols.length≤1000000)(hkl:ks.length≤900):
 Aa Tryz.prog 12 [.mp b 2 0 0,.agg [.p (.v (.string nm)),.p (.sl 4 cols)],.p (lsP 4 (ks.map fun q=>Fv q.1))] σ fun r σ'=>∃ (first:Nat) (X:List Ixx) (U':Nat→Prop) (P':Ak) (v':Nat→List UInt8) (T':Nat→Bool),r= .tup [Of nm cols X first,Ad .i64 0]∧Fr σ σ' U U'∧Bt σ' b p dd l kh U' P' v'∧Kp P P' 0∧Tk (v' 0) P.pages T'∧T' 0=true∧X.map kxT=ks∧Tab v' T' P.pages first [first] [] X w:=by
 have hlt:=h.lt
 have hcc:=Axb hc0 hcl
 have hcnt:cnt T P.pages≤1:=by
  have h0:cnt (fun _=>false) P.pages=0:=by
   generalize P.pages=np
   induction np with
   |zero=>rfl
   |succ k ih=>simp[cnt,ih]
  have h1:=cntL [0] (T:=fun _=>false) (T':=T) (fun q hq=>.inr (by simp[hT1 q hq])) P.pages
  rw[h0]at h1
  simpa using h1
 obtain⟨zk,hzk⟩:∃ z,z=lsP 4 (ks.map fun q=>Fv q.1):=⟨_,rfl⟩
 have hlaz:Ba cx 43 (.p zk)=some ks.length:=by rw[hzk,Am7 Ty,QL]
 rw[← hzk]
 refine Ab Am An Tryz.func12 (by kernel_rfl) rfl (nt:=46) (rs:=[.cell 6 46,.tmp 7]) rfl rfl ?_
 repeat' first|simp only[↓wBA,tT5,seval,wH]|with_reducible refine And.intro ?_ ?_
 refine (Awb (h.ap ((Ap.app _ _).more _)) hT hnp (by omega) hT0 hb).mono ?_
 rintro r s1 ⟨U1,P1,v1,f1,h1,k1,⟨first,m1,m2,hTm,rfl,hpm,hvo,hTk⟩|⟨hall,_,_⟩⟩
 rotate_left
 ·have:=Qc (T:=T) P.pages hall
  omega
 have hlt1:=h1.lt
 have l1:=f1.len
 simp only[QE,QF,QI]at l1
 have x10:=f1.get (t:=σ.length) (x:=some (Ob.row 2 [[AV.p (.v (.string nm)),AV.p (.sl 4 cols)]])) (by simp) (fun e=>by have:=hlt _ e;omega)
 have x11:=f1.get (t:=σ.length+1) (x:=some (Ob.row 5 [[AV.p (.v (.string { data:= #[] })),AV.p (.v (.slice none 0 0)),AV.p (.v (.slice none 0 0)),AV.p (.v (.int .i64 0)),AV.p (.v (.slice none 0 0))]])) (by simp) (fun e=>by have:=hlt _ e;omega)
 have y10:=Ac x10
 have y11:=Ac x11
 have hU1:∀ t,σ.length≤t→t<σ.length+2→¬ U1 t:=fun t h1 h2 h3=>(f1.own t h3).elim (fun e=>by have:=hlt _ e;omega) fun e=>by simp at e;omega
 refine' (fun key:(_:Prop)=> ?main) ?tail
 case main=>
  repeat' first|simp only[↓wBA,tT5,seval,Adl,wH,x10,y10,hlaz]|((with_reducible show Aa _ _ _ _ _);refine (hcc _).eq ?_)|(with_reducible refine dQ Adl 10 (some 22) ?_)|with_reducible refine And.intro ?_ ?_
  all_goals exact key
 case tail=>
  have ht0:Tab v1 (D3 T first true) P.pages first [first] [] [] w:=Arn m1 m2 hT1 hpm
  have hp1:=k1.pages
  obtain⟨S,hS⟩:∃ S,S=s1++[some (Ob.row 5 [[AV.p (.v (.string nm)),AV.p (.sl 4 cols),AV.p (.v (.slice none 0 0)),AV.p (.v (.int .i64 (first:Nat))),AV.p (.v (.slice none 0 0))]])]:=⟨_,rfl⟩
  have aS:Ap s1 S:=⟨_,hS⟩
  have xS:S[s1.length]? =some (some (Ob.row 5 [[AV.p (.v (.string nm)),AV.p (.sl 4 cols),AV.p (lsP 4 []),AV.p (.v (.int .i64 (first:Nat))),AV.p (lsP 1 [])]])):=by rw[hS];simp[lsP]
  have xS1:=aS.get x11
  have lS:S.length=s1.length+1:=by rw[hS];simp
  rw[← hS]
  refine Ar (X:={ i:Nat // i≤ks.length }) (fun i=>ks.length - i.1) (fun i=>[(9,Ad .i64 0),(32,Ad .i64 (i.1:Nat))]) [7,12,33,34,35,36,37,38,39,40,41,42,43,44,45,46,47] (fun i s=>S.length≤s.length∧∃ X U' P' v' T',Fr σ s U U'∧Bt s b p dd l kh U' P' v'∧Kp P P' 0∧Tk (v' 0) P.pages T'∧T' 0=true∧Tab v' T' P.pages first [first] [] X w∧X.map kxT=ks.take i.1∧s[s1.length]? =some (some (Ob.row 5 [[AV.p (.v (.string nm)),AV.p (.sl 4 cols),AV.p (lsP 4 (X.map fun x=>Fv x.x)),AV.p (.v (.int .i64 (first:Nat))),AV.p (lsP 1 (X.map fun x=>[.v (.int .i64 (x.root:Nat))]))]]))∧s[σ.length+1]? =some (some (Ob.row 5 [[AV.p (.v (.string { data:= #[] })),AV.p (.v (.slice none 0 0)),AV.p (.v (.slice none 0 0)),AV.p (.v (.int .i64 0)),AV.p (.v (.slice none 0 0))]]))∧¬ U' s1.length∧¬ U' (σ.length+1)) (⟨0,by omega⟩) ?_ ?_ ?_ ?_
  ·simp only[wHl,wHf]
  ·exact⟨QH _,[],U1,P1,v1,_,(((Ap.app σ [_]).more [_]).fr.trans f1).trans aS.fr,h1.ap aS,k1,hTk,Sto.tk0 (v:=v) hT0,ht0,rfl,xS,xS1,fun e=>ZJ _ (hlt1 _ e),hU1 _ (by omega) (by omega)⟩
  ·rintro _ _ ⟨h,_⟩;exact h
  ·intro y J s hI
   simp only[wHl]
   obtain⟨i,hi⟩:=y
   obtain⟨ls,X,U4,P4,v4,T4,f4,h4,k4,hT4,ht04,ht4,hX4,xs,xr,un,ur⟩:=hI
   dsimp only at*
   have hi0:=nnI i
   have hwi:=wI i (by omega)
   have ys:=Ac xs
   have yr:=Ac xr
   have nas:(s.length=s1.length)=False:=eq_false (by omega)
   have nas':(s1.length=s.length)=False:=eq_false (by omega)
   have nar:(s1.length=σ.length+1)=False:=eq_false (by omega)
   have nar':(σ.length+1=s1.length)=False:=eq_false (by omega)
   by_cases hlt':i<ks.length
   ·have e1:=dT (i:=i) (n:=ks.length) hlt'
    obtain⟨q,hq⟩:∃ q,ks[i]? =some q:=⟨ks[i],by simp⟩
    have hqm:=QG hq
    have hkn:ks≠[]:=fun e=>by rw[e]at hlt';simp at hlt'
    have ezk:zk= .sl 4 (ks.map fun q=>Fv q.1):=by rw[hzk];unfold lsP;rw[if_neg (by simpa using hkn)]
    clear hzk
    subst ezk
    have hg:(ks.map fun q=>Fv q.1)[i]? =some (Fv q.1):=by rw[QR,hq];rfl
    have hif:((i:Int)<(ks.length:Int))=True:=eq_true (by omega)
    obtain⟨LX,hLX⟩:∃ LX,LX=ks.map fun q=>Fv q.1:=⟨_,rfl⟩
    have hLXl:LX.length=ks.length:=by rw[hLX,QL]
    rw[← hLX]at hg hlaz ⊢
    have hXl:X.length≤1000:=by
     have:=congrArg List.length hX4
     rw[QL,QZ]at this
     omega
    have hsx:Mw X 0≤(ks.map fun q=>q.2.B 0).sum:=by
     rw[Arm,hX4]
     exact Am8 (fun q:Idx×Kd=>q.2.B 0) ks i
    have hrm:=hroom q hqm
    have hadd:∀ {s':St},Bt s' b p dd l kh U4 P4 v4→Aa Tryz.prog 15 [.mp b 2 0 0,Of nm cols X first,idxA q.1] s' fun r σ'=>∃ (root:Nat) (ps:List Nat) (L:List Ent) (U':Nat→Prop) (P':Ak) (v':Nat→List UInt8) (T':Nat→Bool),r= .tup [Of nm cols (X++[⟨q.1,root,ps,q.2,L⟩]) first,Ad .i64 0]∧Fr s' σ' U4 U'∧Bt σ' b p dd l kh U' P' v'∧Kp P4 P' 0∧Tk (v' 0) P4.pages T'∧T' 0=true∧Tab v' T' P4.pages first [first] [] (X++[⟨q.1,root,ps,q.2,L⟩]) w:=fun {s'} hB=>
     A2o hB (by rw[k4.pages];exact hT4) (by rw[k4.pages];exact hnp) ht04 (by rw[k4.pages];exact ht4) (hb.kp k4 (by omega)) (by simp) (hk q hqm) (hof q hqm) (hx q hqm) (by rw[k4.pages];simp only[QI];omega) nm hc0 hcl hXl
    have htk:ks.take (i+1)=ks.take i++[q]:=by rw[YU,hq];rfl
    obtain⟨⟨qn,qt,qc,qh⟩,qk⟩:=q
    dsimp only at*
    simp only[Fv,idxA,Of,QK,ZB]at hg hadd
    obtain⟨z2,hz2⟩:∃ z,z=lsP 4 (X.map fun x=>Fv x.x):=⟨_,rfl⟩
    obtain⟨z4,hz4⟩:∃ z,z=lsP 1 (X.map fun x=>[PV.v (.int .i64 (x.root:Nat))]):=⟨_,rfl⟩
    simp only[Fv]at hz2
    rw[← hz2,←hz4]at hadd
    have hz2':z2=lsP 4 (X.map fun x=>Fv x.x):=hz2
    rw[← hz2',←hz4]at xs
    repeat' first|simp only[↓wBA,tT5,seval,wH,wHl,hi0,hg,hif,xs,ys]|((with_reducible show Aa _ _ _ _ _);refine (hadd (h4.ap (Ap.app _ _))).mono ?_;rintro _ s5 ⟨root,ps,L,U5,P5,v5,T5,rfl,f5,h5,k5,hT5,ht05,ht5⟩)|with_reducible refine And.intro ?_ ?_
    have l5:=f5.len
    simp only[QE,QF,QI]at l5
    rw[k4.pages]at hT5 ht5
    have xs5:=f5.get ((Ap.app _ _).get xs) un
    have xr5:=f5.get ((Ap.app _ _).get xr) ur
    have ys5:=Ac xs5
    have yr5:=Ac xr5
    have un5:¬ U5 s1.length:=fun e=>(f5.own _ e).elim un fun e=>by simp only[QE,QF,QI]at e;omega
    have ur5:¬ U5 (σ.length+1):=fun e=>(f5.own _ e).elim ur fun e=>by simp only[QE,QF,QI]at e;omega
    repeat' first|simp only[↓wBA,tT5,seval,wH,wHl,hwi,xs5,ys5]|with_reducible refine And.intro ?_ ?_
    refine⟨⟨i+1,by omega⟩,by show ks.length - (i+1)<ks.length - i;omega,⟨by omega,X++[⟨(qn,qt,qc,qh),root,ps,qk,L⟩],U5,P5,v5,T5,(f4.trans ((Ap.app _ _).fr.trans f5)).setN (by omega) _,h5.set un5 _,k4.trans k5,hT5,ht05,ht5,?_,rfl,?_,un5,ur5⟩,by simp only[]⟩
    ·dsimp only
     rw[ZH,hX4,htk];rfl
    ·first|exact xr5|(rw[QO (by omega)];exact xr5)
   ·obtain rfl:i=ks.length:=by omega
    have e1:=dF (i:=ks.length) (n:=ks.length) hlt'
    rw[ZS]at hX4
    repeat' first|simp only[↓wBA,tT5,seval,wHl,e1,xs,xr]|with_reducible refine And.intro ?_ ?_
    all_goals refine rtS ?_
    all_goals simp only[wRe,tT5,seval,wH,yr]
    exact⟨first,X,U4,P4,v4,T4,rfl,f4.setN (by omega) _,h4.set ur _,k4,hT4,ht04,hX4,ht4⟩
end
