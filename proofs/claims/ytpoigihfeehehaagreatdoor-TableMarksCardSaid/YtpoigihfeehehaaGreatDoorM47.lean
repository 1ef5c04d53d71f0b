/- A version is put into a table, plain. table.Mark. table.Find. -/
import Derived.Test.YtpoigihfeehehaaGreatDoorM45
import Derived.Test.YtpoigihfeehehaaGreatDoorM46
set_option linter.all false
set_option maxRecDepth 100000
set_option maxHeartbeats 32000000
namespace Go.Proofs.YtpoigihfeehehaaGreatDoor
open Go.RowKit
structure TabI (v:Nat→List UInt8)(T:Nat→Bool)(np:Nat)(ns:List Nat)(E:List Ver)(e:Ver)(X Y:List Ixx)(i:Nat):Prop where
 st:Sto v T np ns (Q5 e::E.map Q5) Y
 key:Y.map Lm=X.map Lm
 ent:∀ (j:Nat) (y:Ixx),Y[j]? =some y→y.L.Perm (if j<i then (e::E).map (Qr y.x.2.2.1)else E.map (Qr y.x.2.2.1))
 tk:Tk (v 0) np T
 t0:T 0=true
section
variable {v v':Nat→List UInt8} {T T':Nat→Bool} {np first w i:Nat} {ns ns':List Nat} {E:List Ver} {X Y:List Ixx} {e:Ver}
theorem TabI.len (h:TabI v T np ns E e X Y i):Y.length=X.length:=by
 have:=congrArg List.length h.key
 simpa using this
theorem TabI.at (h:TabI v T np ns E e X Y i){x:Ixx}(hx:X[i]? =some x):∃ y,Y[i]? =some y∧y.x=x.x∧y.root=x.root∧y.kd=x.kd:=by
 have h1:(Y.map Lm)[i]? =some (Lm x):=by rw[h.key,QR,hx];rfl
 rw[QR]at h1
 cases hy:Y[i]? with
 |none=>rw[hy]at h1;simp at h1
 |some y=>
  rw[hy]at h1
  simp only[XR,QB,Lm,QJ]at h1
  exact⟨y,rfl,h1⟩
theorem TabI.cnt (h:TabI v T np ns E e X Y i)(hn:ns.length≤E.length+2):Go.Proofs.YtpoigihfeehehaaGreatDoor.cnt T np≤3+E.length+Mw X (E.length+1):=by
 have h1:=h.st.cnt
 have h2:=Vd (n:=E.length+1) (X:=Y) fun y hy=>⟨h.st.kd y hy,by
  obtain⟨j,hj⟩:=YH hy
  rw[(h.ent j y hj).length_eq]
  split<;>simp⟩
 rw[Amy h.key]at h2
 omega
theorem Aki {α:Type}{l:List α}{i:Nat}{x:α}(h:l[i]? =some x):l=l.take i++x::l.drop (i+1):=by
 obtain⟨hl,rfl⟩:=QC.1 h
 rw[← YB hl,ZI]
theorem Arj {α:Type}{l:List α}{i:Nat}{x y:α}(h:l[i]? =some x):l.set i y=l.take i++y::l.drop (i+1):=by
 obtain⟨hl,rfl⟩:=QC.1 h
 rw[List.set_eq_take_append_cons_drop,if_pos hl]
theorem TabI.step {y:Ixx}{ps':List Nat}{L':List Ent}(h:TabI v T np ns E e X Y i)(hy:Y[i]? =some y)(g:Mv v v' T T' np y.ps ps')(hI:y.kd.I v' T' np y.root ps' L')(hp:L'.Perm (Qr y.x.2.2.1 e::y.L)):
 TabI v' T' np ns E e X (Y.set i ⟨y.x,y.root,ps',y.kd,L'⟩) (i+1):=by
 have hil:=(QC.1 hy).1
 refine⟨?_,?_,fun j z hz=> ?_,g.w.tkk,g.w.t0⟩
 ·rw[Arj hy]
  have:=h.st
  rw[Aki hy]at this
  exact this.ins g hI
 ·rw[← h.key]
  apply XM
  intro j
  rw[QR,QR,QW]
  split
  ·rename_i hij;subst hij;rw[hy];rfl
  ·rfl
 ·rw[QW]at hz
  split at hz
  ·rename_i hij;subst hij
   simp only[QB]at hz;subst hz
   have h1:=h.ent i y hy
   rw[if_neg (by omega)]at h1
   rw[if_pos (by omega),QK]
   exact hp.trans (h1.cons _)
  ·rename_i hij
   have h1:=h.ent j z hz
   by_cases hj:j<i
   ·rw[if_pos hj]at h1;rw[if_pos (by omega)];exact h1
   ·rw[if_neg hj]at h1;rw[if_neg (by omega)];exact h1
theorem TabI.fresh {y:Ixx}(h:TabI v T np ns E e X Y i)(hy:Y[i]? =some y)(hn:∀ x∈E,¬ x.1=e.1):Qr y.x.2.2.1 e∉y.L:=fun hm=>by
 have h1:=h.ent i y hy
 rw[if_neg (by omega)]at h1
 obtain⟨x,hx,he⟩:=ZP.1 (h1.mem_iff.1 hm)
 unfold Qr at he
 simp only[Ent.mk.injEq]at he
 exact hn x hx (VK he.2.1 he.2.2)
theorem Tab.begin {n k:Nat}{made:Nat}{l:List Va}(h:Tab v T np first ns E X w)(g:InsR v v' T T' np ns ns' n k (rcB made 0 l)):TabI v' T' np ns' E ((n,k),(made,0),l) X X 0∧ns'.length≤E.length+2∧ns'[0]? =some first∧∀ x∈E,¬ x.1=(n,k):=by
 obtain⟨h1,h2⟩:=h.st.more g
 refine⟨⟨h1,rfl,fun j y hy=> ?_,g.tk,g.t0⟩,by have:=h.nl;omega,?_,fun x hx he=> ?_⟩
 ·rw[if_neg (by omega)]
  exact h.ent y (QG hy)
 ·have hf:=h.f
  rcases g.pages with⟨e,_⟩|⟨m,_,_,e,_⟩<;>rw[e]
  ·exact hf
  ·rw[QD (QC.1 hf).1];exact hf
 ·have hm:Q5 x∈Jn v ns:=h.st.pm.mem_iff.2 (ZP.2 ⟨x,hx,rfl⟩)
  obtain⟨⟨a,c⟩,r⟩:=x
  simp only[QJ]at he
  obtain⟨rfl,rfl⟩:=he
  have:=(Ec h.st.hp _ _ _).1 hm
  rw[g.old]at this;cases this
theorem TabI.done (h:TabI v T np ns E e X Y X.length)(h0:ns[0]? =some first)(hnl:ns.length≤E.length+2)(hok:∀ x∈E,x.Ok∧x.2.2.length=w)(hoe:e.Ok∧e.2.2.length=w)(hso:E.Pairwise ltV)(hn:∀ x∈E,¬ x.1=e.1)(hc:∀ x∈X,x.x.2.2.1<w):Tab v T np first ns (insV e E) Y w:=by
 have hp:=Ll e E
 refine⟨⟨h.st.hp,h.st.pm.trans (hp.map Q5).symm,h.st.kd,h.st.ix,h.st.nd,h.st.on⟩,h0,fun x hx=> ?_,Yn hso hn,fun y hy=> ?_,fun y hy=> ?_,by rw[hp.length_eq,QF];omega⟩
 ·rcases QP.1 (hp.mem_iff.1 hx)with rfl|hx
  ·exact hoe
  ·exact hok x hx
 ·have h1:Lm y∈X.map Lm:=by rw[← h.key];exact ZP.2 ⟨y,hy,rfl⟩
  obtain⟨x,hx,he⟩:=ZP.1 h1
  unfold Lm at he
  simp only[QJ]at he
  rw[← he.1];exact hc x hx
 ·obtain⟨j,hj⟩:=YH hy
  have h1:=h.ent j y hj
  have hjl:=(QC.1 hj).1
  rw[if_pos (by have:=h.len;omega)]at h1
  exact h1.trans (hp.map _).symm
theorem Akj (hh:Nn v T np ns){n k:Nat}{r:List UInt8}(h:Iz v ns n k=some r):n<np∧k<256:=by
 unfold Iz at h
 split at h
 ·rename_i hn
  refine⟨(hh.tk n hn).2.1,?_⟩
  obtain⟨nx,ss,hp⟩:=hh.ch.mem hn
  unfold recOf at h
  split at h
  ·omega
  ·unfold Ip at h
   have hs:=E2 (v n)
   rw[if_neg (by omega),QM]at h
   by_cases hk:k<(Au (v n)).length
   ·omega
   ·rw[ZG (by simpa using Nat.le_of_not_lt hk)]at h;simp at h
 ·cases h
end
def Adi:Cq:=(.det 0 (.det 1 (.det 2 (.det 4 (.det 6 (.det 7 (.act 3 (.act 5 (.act 8 (.act 9 (.fin 10 (.det 11 .done))))))))))))
def tT4:=aa wX <| aa wbu <| aa T3 <| aa T4 <| aa T29 <| aa T38 <| aa T46 <| aa T51 <| aa T70 T81
section
variable {v:Nat→List UInt8} {T:Nat→Bool} {np first w n k:Nat} {ns:List Nat} {r rr:List UInt8} {E:List Ver} {X:List Ixx}
theorem Og (h:Iz v ns n k=some r):n∈ns∧1≤k∧Ip (v n) (k:Nat)=some r:=by
 unfold Iz at h
 split at h
 ·rename_i hn
  unfold recOf at h
  split at h
  ·cases h
  ·exact⟨hn,by omega,h⟩
 ·cases h
theorem heap_set (hh:Nn v T np ns)(hr:Iz v ns n k=some r)(hl:rr.length≤r.length):
 Nn (upV v n (Ls (v n) (k:Nat) rr).1) T np ns∧∀ n' k',Iz (upV v n (Ls (v n) (k:Nat) rr).1) ns n' k'=if n'=n∧k'=k then some rr else Iz v ns n' k':=by
 obtain⟨hn,hk,hg⟩:=Og hr
 obtain⟨kq,rfl⟩:∃ kq,k=kq+1:=⟨k - 1,by omega⟩
 obtain⟨ii,hii⟩:=YH hn
 obtain⟨ss,hp⟩:=hh.ch.get hii
 have hgs:ss.getD kq none=some r:=by rw[← hp.at];exact hg
 have hkl:kq<ss.length:=by
  rcases YW kq ss.length with h|h
  ·exact h
  ·rw[QM,ZG h]at hgs;simp at hgs
 obtain⟨_,hp'⟩:=hp.set hgs rr hl
 exact hh.change hii hp rfl hp' (x:=some rr) (k:=kq) fun a=>by
  rw[QM,QW]
  by_cases e:kq=a
  ·subst e;simp[hkl]
  ·have:¬ a=kq:=fun h=>e h.symm
   rw[if_neg e,if_neg this,←QM]
theorem Ln {x y:Ver}(h:ltV x y):¬ x.1=y.1:=fun e=>by unfold ltV at h;rw[e]at h;omega
theorem Axh {E:List Ver}(h:E.Pairwise ltV):(E.map Q5).Nodup:=List.pairwise_map.2 (h.imp fun {x y} hl e=>by
 unfold Q5 at e
 simp only[QJ]at e
 exact Ln hl (VK e.1 e.2.1))
theorem Ark {A B:List Ver}{e e':Ver}(h:(A++e::B).Pairwise ltV)(he:e'.1=e.1):(A++e'::B).Pairwise ltV:=by
 obtain⟨h1,h2,h3⟩:=XG.1 h
 obtain⟨h4,h5⟩:=YJ.1 h2
 refine XG.2 ⟨h1,YJ.2 ⟨fun y hy=> ?_,h5⟩,fun x hx y hy=> ?_⟩
 ·have:=h4 y hy;unfold ltV at this ⊢;rw[he];exact this
 ·rcases QP.1 hy with rfl|hy
  ·have:=h3 x hx e (by simp);unfold ltV at this ⊢;rw[he];exact this
  ·exact h3 x hx y (by simp[hy])
theorem Tab.mark {A B:List Ver}{m0 t0 m t:Nat}{l:List Va}(h:Tab v T np first ns (A++((n,k),(m0,t0),l)::B) X w)(hm:m≤16777216)(ht:t≤16777216):
 Tab (upV v n (Ls (v n) (k:Nat) (rcB m t l)).1) T np first ns (A++((n,k),(m,t),l)::B) X w:=by
 obtain⟨e,he⟩:∃ e:Ver,e=((n,k),(m0,t0),l):=⟨_,rfl⟩
 obtain⟨e',he'⟩:∃ e':Ver,e'=((n,k),(m,t),l):=⟨_,rfl⟩
 have hee:e'.1=e.1:=by rw[he,he']
 have hre:Q5 e=(n,k,rcB m0 t0 l):=by rw[he];rfl
 have hre':Q5 e'=(n,k,rcB m t l):=by rw[he'];rfl
 rw[← he]at h
 rw[← he']
 have hr:Iz v ns n k=some (rcB m0 t0 l):=(Ec h.st.hp _ _ _).1 (h.st.pm.mem_iff.2 (ZP.2 ⟨e,by simp,hre⟩))
 obtain⟨hn,hk1,_⟩:=Og hr
 have hrl:(rcB m t l).length≤(rcB m0 t0 l).length:=by unfold rcB;simp[B0]
 obtain⟨hH,hG⟩:=heap_set h.st.hp hr hrl
 have hn0:=(h.st.hp.tk n hn).1
 have hso:=Ark (e':=e') h.so hee
 have hx:∀ x∈X,∀ q∈x.ps,q≠n:=fun x hx q hq e=>(ZD.1 h.st.nd).2.2 n hn q (Jm.2 ⟨x,hx,hq⟩) e.symm
 have hmem:∀ (y:Nat×Nat×List UInt8),y∈(A++e'::B).map Q5↔y=(n,k,rcB m t l)∨(¬ (y.1=n∧y.2.1=k)∧y∈(A++e::B).map Q5):=fun y=>by
  obtain⟨p1,p2,p3⟩:=XG.1 h.so
  obtain⟨p4,p5⟩:=YJ.1 p2
  have hA:∀ x∈A,¬ ((Q5 x).1=n∧(Q5 x).2.1=k):=fun x hx ⟨a,c⟩=>Ln (p3 x hx e (by simp)) (by rw[he];exact VK a c)
  have hB:∀ x∈B,¬ ((Q5 x).1=n∧(Q5 x).2.1=k):=fun x hx ⟨a,c⟩=>Ln (p4 x hx) (by rw[he];exact (VK a c).symm)
  simp only[ZH,QK,QS,QP,hre,hre']
  constructor
  ·rintro (hy|hy|hy)
   ·obtain⟨x,hx,rfl⟩:=ZP.1 hy
    exact .inr ⟨hA x hx,.inl hy⟩
   ·exact .inl hy
   ·obtain⟨x,hx,rfl⟩:=ZP.1 hy
    exact .inr ⟨hB x hx,.inr (.inr hy)⟩
  ·rintro (hy|⟨hne,hy|hy|hy⟩)
   ·exact .inr (.inl hy)
   ·exact .inl hy
   ·rw[hy]at hne;exact absurd ⟨rfl,rfl⟩ hne
   ·exact .inr (.inr hy)
 refine⟨⟨hH,?_,h.st.kd,fun x hx'=>(h.st.kd x hx').oth (h.st.ix x hx') (fun q hq=> ?_) (fun q hq=>(((h.st.kd x hx').pg (h.st.ix x hx')).2.1 q hq).2.2),h.st.nd,h.st.on⟩,h.f,fun x hx=> ?_,hso,h.col,fun x hx=> ?_,?_⟩
 ·refine (List.perm_ext_iff_of_nodup (Aal hH) (Axh hso)).2 fun ⟨a,c,y⟩=> ?_
  rw[Ec hH,hG,hmem,←h.st.pm.mem_iff,Ec h.st.hp]
  by_cases hac:a=n∧c=k
  ·rw[if_pos hac]
   obtain⟨rfl,rfl⟩:=hac
   simp[eq_comm]
  ·rw[if_neg hac]
   constructor
   ·exact fun hy=>.inr ⟨hac,hy⟩
   ·rintro (hy|hy)
    ·simp only[QJ]at hy;exact absurd ⟨hy.1,hy.2.1⟩ hac
    ·exact hy.2
 ·unfold upV;rw[if_neg (hx x hx' q hq)]
 ·rcases QS.1 hx with hx|hx
  ·exact h.ok x (by simp[hx])
  ·rcases QP.1 hx with rfl|hx
   ·obtain⟨⟨o1,o2,o3,o4,o5⟩,o6⟩:=h.ok e (by simp)
    rw[he]at o3 o4 o5 o6
    rw[he']
    exact⟨⟨hm,ht,o3,o4,o5⟩,o6⟩
   ·exact h.ok x (by simp[hx])
 ·have:=h.ent x hx
  refine this.trans (List.Perm.of_eq ?_)
  simp only[ZH,QK]
  congr 2
  unfold Qr
  rw[he,he']
 ·have:=h.nl;simpa using this
end
section
variable {σ:St} {b p dd l kh first w n k:Nat} {U:Nat→Prop} {P:Ak} {v:Nat→List UInt8} {T:Nat→Bool} {ns:List Nat} {A B:List Ver} {X:List Ixx} {s0:AV}
theorem Axi {m0 t0 m t:Nat}{vs:List Va}(h:Bt σ b p dd l kh U P v)(ht:Tab v T P.pages first ns (A++((n,k),(m0,t0),vs)::B) X w)(hb:Bud P 1)(hm:m≤16777216)(htk:t≤16777216)(x0 x1 x2 x3 x4:PV):
 Aa Tryz.prog 20 [.mp b 2 0 0,.agg [.p x0,.p x1,.p x2,.p x3,.p x4],.agg [Ad .i64 (n:Nat),Ad .i64 (k:Nat)],Ad .i64 (m:Nat),Ad .i64 (t:Nat)] σ fun r σ'=>r=Ad .i64 0∧∃ U' P' v',Fr σ σ' U U'∧Bt σ' b p dd l kh U' P' v'∧Kp P P' 0∧v' 0=v 0∧Tab v' T P.pages first ns (A++((n,k),(m,t),vs)::B) X w:=by
 obtain⟨⟨o1,o2,o3,o4,o5⟩,o6⟩:=ht.ok ((n,k),(m0,t0),vs) (by simp)
 simp only at o1 o2 o3 o4 o5 o6
 have hr:Iz v ns n k=some (rcB m0 t0 vs):=(Ec ht.st.hp _ _ _).1 (ht.st.pm.mem_iff.2 (ZP.2 ⟨((n,k),(m0,t0),vs),by simp,rfl⟩))
 obtain⟨hn,hk1,hg⟩:=Og hr
 obtain⟨nx,ss,hp⟩:=ht.st.hp.ch.mem hn
 obtain⟨n1,n2,n3⟩:=ht.st.hp.tk n hn
 have hnt:=ht.mark hm htk
 have hw1:=Jl (m:Nat)
 rw[show wiN (m:Nat)=true by unfold wiN;simp;omega]at hw1
 have hw2:=Jl (t:Nat)
 rw[show wiN (t:Nat)=true by unfold wiN;simp;omega]at hw2
 have hlen:(rcB m0 t0 vs).length=(rwB vs).length+8:=by unfold rcB;rw[QE,QE,B0,B0];omega
 have h8:Bl cx 70 (.p (.sl 1 (Ax (rcB m0 t0 vs)))) (some (.p (.v (.int .i64 8)))) none=some (.p (.sl 1 (Ax (rwB vs)))):=Amm (rcB m0 t0 vs) (n:=8) (by omega)
 have q1:=Amo (n:=m) (by omega)
 have q2:=Amo (n:=t) (by omega)
 have hle:=hp.le (rcB m0 t0 vs) (by
  obtain⟨kq,rfl⟩:∃ kq,k=kq+1:=⟨k - 1,by omega⟩
  exact D9 (by rw[← hp.at];exact hg))
 have hcat:=acat (xs:=[leB m 4,leB t 4,rwB vs]) (by simp[B0];omega) (by simp[B0];omega) (by simp)
 have hfl:[leB m 4,leB t 4,rwB vs].flatten=rcB m t vs:=by simp[rcB]
 rw[hfl]at hcat
 simp only[QK,ZB]at hcat
 have hrl:(rcB m t vs).length≤(rcB m0 t0 vs).length:=by unfold rcB;simp[B0]
 obtain⟨R0,hR0⟩:∃ R,R=Ax (rcB m0 t0 vs):=⟨_,rfl⟩
 have hlt:=h.lt
 refine Ab Am An Tryz.func20 (by kernel_rfl) rfl (nt:=40) (rs:=[.tmp 10]) rfl rfl ?_
 repeat' first|simp only[↓wBA,tT4,seval,wH]|((with_reducible show Aa _ _ _ _ _);first|refine (hw1 _).eq ?_|refine (hw2 _).eq ?_)
 refine (Awc (h.ap ((Ap.app _ _).more _)) n2 hp hb hg hk1).mono ?_
 rintro _ s1 ⟨rfl,U1,P1,f1,h1,k1⟩
 have l1:=f1.len
 simp only[QE,QF,QI]at l1
 have x1:=f1.get (t:=σ.length+1) (x:=some (.row 2 [[Ad .i64 (n:Nat),Ad .i64 (k:Nat)]])) (by simp[Ad]) (fun e=>by have:=hlt _ e;omega)
 have y1:=Ac x1
 have hset:∀ {s:St},Ap s1 s→Aa Tryz.prog 55 [.mp b 2 0 0,.agg [Ad .i64 (n:Nat),Ad .i64 (k:Nat)],.p (.sl 1 (Ax (rcB m t vs)))] s fun q σ'=>q=Ad .i64 0∧∃ U' P',Fr s σ' U1 U'∧Bt σ' b p dd l kh U' P' (upV v n (Ls (v n) (k:Nat) (rcB m t vs)).1)∧Kp P1 P' 0:=fun {s} ha=>A1q (k:=k) (h1.ap ha) n1 (by rw[k1.pages];exact n2) hp (hb.kp (k:=1) k1 (by omega)) hg hk1 (x:=.sl 1 (Ax (rcB m t vs))) (.inl rfl) hrl
 simp only[recP]
 rw[← hR0]at h8 ⊢
 repeat' first|simp only[↓wBA,tT4,seval,Adi,wH,x1,y1,h8]|((with_reducible show Aa _ _ _ _ _);first|refine (q1 _).eq ?_|refine (q2 _).eq ?_|(refine Aa.frzArgs ?_;refine (hcat _).eq ?_)|(refine (hset (Ap.app _ _)).mono ?_;rintro _ s3 ⟨rfl,U3,P3,f3,h3,k3⟩;have l3:=f3.len;simp only[QE]at l3)|(refine (hset (Ap.refl _)).mono ?_;rintro _ s3 ⟨rfl,U3,P3,f3,h3,k3⟩;have l3:=f3.len;simp only[QE]at l3))|(with_reducible refine dQ Adi 12 (some 34) ?_)
 all_goals refine rtS ?_
 all_goals simp only[wRe,tT4,seval]
 exact⟨U3,P3,_,((Ap.app σ [_]).more [_]).fr.trans (f1.trans ((Ap.app _ _).fr.trans f3)),h3,k1.trans k3,by unfold upV;rw[if_neg (by omega)],hnt⟩
end
def Adj:Cq:=(.det 0 (.det 1 (.det 2 (.det 3 (.det 4 (.det 5 (.det 6 (.det 7 (.det 8 (.det 9 (.det 10 (.det 11 (.det 12 (.det 13 (.det 14 (.det 15 (.det 16 (.det 17 (.det 18 (.det 19 (.det 20 (.det 21 (.det 22 (.det 23 (.det 24 (.det 25 (.det 26 (.det 27 (.det 28 (.det 29 (.det 30 (.det 31 (.det 32 (.det 33 (.det 34 .done)))))))))))))))))))))))))))))))))))
def tT9:=aa wX <| aa wbu <| aa T3 <| aa T4 <| aa T24 <| aa T26 <| aa T29 <| aa T37 <| aa T38 <| aa T43 <| aa T46 <| aa T51 <| aa T54 <| aa T56 <| aa T62 <| aa T120 <| aa T124 T129
def plcC (y:Ver):List PV:=[.v (.int .i64 (y.1.1:Nat)),.v (.int .i64 (y.1.2:Nat))]
def Am5 (c:Nat)(lo hi:Va)(O:List Ver)(y:Ver):List Ver:=if covV lo hi (y.2.2.getD c (0,0,emp))=true∧(O.any fun w=>decide (w.1=y.1))=false then O++[y]else O
def D6 (c:Nat)(lo hi:Va)(D:List Ver):List Ver:=D.foldl (Am5 c lo hi) []
theorem Sp (c:Nat)(lo hi:Va)(D:List Ver)(y:Ver):D6 c lo hi (D++[y])=Am5 c lo hi (D6 c lo hi D) y:=by
 unfold D6;rw[List.foldl_append];rfl
theorem Ys {α:Type}{p:List α→Prop}(h0:p [])(hs:∀ l a,p l→p (l++[a])):∀ n (l:List α),l.length=n→p l
 |0,l,h=>by rw[YX.1 h];exact h0
 |n+1,l,h=>by
  have hne:l≠[]:=fun e=>by rw[e]at h;simp at h
  have:=List.dropLast_concat_getLast hne
  rw[← this]
  exact hs _ _ (Ys h0 hs n _ (by rw[List.length_dropLast];omega))
theorem Akk (c:Nat)(lo hi:Va){E:List Ver}(hE:E.Pairwise ltV)(D:List Ver)(hD:∀ y∈D,y∈E):(∀ y,y∈D6 c lo hi D↔y∈D∧covV lo hi (y.2.2.getD c (0,0,emp))=true)∧(D6 c lo hi D).Pairwise (fun x y=>¬ x.1=y.1)∧(D6 c lo hi D).length≤D.length:=by
 have one:∀ x∈E,∀ y∈E,x.1=y.1→x=y:=fun x hx y hy e=>by
  obtain⟨i,hi⟩:=YH hx
  obtain⟨j,hj⟩:=YH hy
  obtain⟨hil,rfl⟩:=QC.1 hi
  obtain⟨hjl,rfl⟩:=QC.1 hj
  have hp:=WH.1 hE
  rcases WC i j with h|h|h
  ·exact absurd e (Ln (hp i j hil hjl h))
  ·subst h;rfl
  ·exact absurd e.symm (Ln (hp j i hjl hil h))
 revert hD
 refine Ys (p:=fun D=>(∀ y∈D,y∈E)→(∀ y,y∈D6 c lo hi D↔y∈D∧covV lo hi (y.2.2.getD c (0,0,emp))=true)∧(D6 c lo hi D).Pairwise (fun x y=>¬ x.1=y.1)∧(D6 c lo hi D).length≤D.length) (fun _=>⟨by simp[D6],by simp[D6],by simp[D6]⟩) (fun D a ih hD=> ?_) _ D rfl
 obtain⟨h1,h2,h3⟩:=ih fun y hy=>hD y (by simp[hy])
 rw[Sp]
 unfold Am5
 split
 ·rename_i hc
  obtain⟨c1,c2⟩:=hc
  rw[List.any_eq_false]at c2
  refine⟨fun y=> ?_,XG.2 ⟨h2,by simp,fun x hx y hy=> ?_⟩,by simp;omega⟩
  ·simp only[QS,ZR,h1]
   constructor
   ·rintro (⟨h,h'⟩|rfl)
    ·exact⟨.inl h,h'⟩
    ·exact⟨.inr rfl,c1⟩
   ·rintro⟨h|rfl,h'⟩
    ·exact .inl ⟨h,h'⟩
    ·exact .inr rfl
  ·simp only[ZR]at hy;subst hy
   simpa using c2 x hx
 ·rename_i hc
  refine⟨fun y=> ?_,h2,by simp;omega⟩
  simp only[QS,ZR,h1]
  constructor
  ·rintro⟨h,h'⟩;exact⟨.inl h,h'⟩
  ·rintro⟨h|rfl,h'⟩
   ·exact⟨h,h'⟩
   ·have:¬ (D6 c lo hi D).any (fun w=>decide (w.1=y.1))=false:=fun e=>hc ⟨h',e⟩
    rw[Bool.not_eq_false,List.any_eq_true]at this
    obtain⟨x,hx,he⟩:=this
    have hxE:=hD x (by simp[((h1 x).1 hx).1])
    have:=one x hxE y (hD y (by simp)) (by simpa using he)
    subst this
    exact (h1 x).1 hx
section
variable {σ:St} {b p dd l kh first w ix:Nat} {U:Nat→Prop} {P:Ak} {v:Nat→List UInt8} {T:Nat→Bool} {ns:List Nat} {E:List Ver} {X:List Ixx}
theorem Axj {x:Ixx}{lo hi:Va}{PD:List Ver→Prop}(h:Bt σ b p dd l kh U P v)(ht:Tab v T P.pages first ns E X w)(hb:Bud P 1)(hw:w≤255)(hx:X[ix]? =some x)(hxh:x.x.2.2.2=false∨(x.x.2.2.2=true∧lo=hi))(nm tn:ByteArray)(cols:List (List PV))
 (hpl:∀ {s:St},Ap σ s→Aa Tryz.prog 50 [.mp b 2 0 0,Of nm cols X first,Ad .i64 (ix:Nat),Yr tn (x.x.2.2.1:Nat) lo hi] s fun r σ'=>∃ (D:List Ver) (U':Nat→Prop) (P':Ak),PD D∧r= .tup [.p (lsP 2 (D.map plcC)),Ad .i64 0]∧Fr s σ' U U'∧Bt σ' b p dd l kh U' P' v∧Kp P P' 0) (hPD:∀ D,PD D→(∀ y∈D,y∈E)∧D.length≤200):
 Aa Tryz.prog 17 [.mp b 2 0 0,Of nm cols X first,Ad .i64 (ix:Nat),Yr tn (x.x.2.2.1:Nat) lo hi] σ fun r σ'=>∃ (av:AV) (L D:List Ver) (U':Nat→Prop) (P':Ak),PD D∧r= .tup [av,Ad .i64 0]∧Mm σ' av 5 (L.map Dt)∧(∀ y,y∈L↔y∈D∧covV lo hi (y.2.2.getD x.x.2.2.1 (0,0,emp))=true)∧L.Pairwise ltV∧Fr σ σ' U U'∧Bt σ' b p dd l kh U' P' v∧Kp P P' 0∧∀ t,N8 av=some t→σ.length≤t∧¬ U' t:=by
 have hlt:=h.lt
 have hxm:=QG hx
 have hcw:=ht.col x hxm
 have hXne:X≠[]:=fun e=>by rw[e]at hx;simp at hx
 have ez2:lsP 4 (X.map fun x=>Fv x.x)= .sl 4 (X.map fun x=>Fv x.x):=by unfold lsP;rw[if_neg (by simpa using hXne)]
 have hxl:=(QC.1 hx).1
 have hif:((ix:Int)<(X.length:Int))=True:=eq_true (by omega)
 have hge:decide ((ix:Int)≥(X.length:Int))=false:=decide_eq_false (by omega)
 have hlz:decide ((ix:Int)<0)=false:=decide_eq_false (by omega)
 have hi0:=nnI ix
 have hg:(X.map fun x=>Fv x.x)[ix]? =some (Fv x.x):=by rw[QR,hx];rfl
 obtain⟨LX,hLX⟩:∃ LX,LX=X.map fun x=>Fv x.x:=⟨_,rfl⟩
 have hLXl:LX.length=X.length:=by rw[hLX,QL]
 obtain⟨z4,hz4⟩:∃ z,z=lsP 1 (X.map fun x=>[PV.v (.int .i64 (x.root:Nat))]):=⟨_,rfl⟩
 unfold Of at hpl ⊢
 rw[ez2,←hz4]at hpl ⊢
 rw[← hLX]at hpl hg ⊢
 obtain⟨c,hc⟩:∃ c,c=x.x.2.2.1:=⟨_,rfl⟩
 rw[← hc]at hpl hcw ⊢
 have hcc:((c:Int)==(c:Int))=true:=by simp
 have hcov:=fun (y:Ver) (va:Va) (hva:y.2.2[c]? =some va) (hl:y.2.2.length≤1000000) (s:St)=>Ari tn lo hi hva hl s
 obtain⟨lo1,lo2,lo3⟩:=lo
 obtain⟨hi1,hi2,hi3⟩:=hi
 simp only[Yr,Akh,QK,ZB]at hpl hcov ⊢
 have heqs:x.x.2.2.2=false∨x.x.2.2.2=true∧(lo1==hi1&&((lo2==hi2)&&((lo3.toList==hi3.toList)&&true)))=true:=hxh.imp id fun ⟨a,e⟩=>⟨a,by
  simp only[QJ]at e
  obtain⟨rfl,rfl,rfl⟩:=e
  simp⟩
 clear hxh
 rcases heqs with hxh|⟨hxh,heq⟩
 have heq:=hcc
 all_goals
  refine Ab Aj6 Ao5 Tryz.func17 (by kernel_rfl) rfl (nt:=104) (rs:=[.tmp 8,.tmp 9]) rfl rfl ?_
  simp only[Fv,hxh,←hc]at hg
  repeat' first|simp only[↓wBA,tT9,seval,Adj,wH,Q6,tyD,eqsD,lenD,hge,hlz,hi0,hg,hLXl,heq]|(with_reducible refine dQ Adj 35 (some 20) ?_)
  refine (hpl ((Ap.app _ _).more _)).mono ?_
  rintro _ s1 ⟨D,U1,P1,hPDD,rfl,f1,h1,k1⟩
  obtain⟨hD,hDl⟩:=hPD D hPDD
  obtain⟨zD,hzD⟩:∃ z,z=lsP 2 (D.map plcC):=⟨_,rfl⟩
  rw[← hzD]
  have hlaD:Ba cx 124 (.p zD)=some D.length:=by
   rw[hzD]
   unfold Ba lsP
   rw[Ki]
   by_cases h:D.map plcC=[]
   ·rw[if_pos h];rw[YZ]at h;rw[h];rfl
   ·rw[if_neg h];simp[Bp]
  have l1:=f1.len
  simp only[QE,QF,QI]at l1
  have x1:=f1.get (t:=σ.length+1) (x:=some (Ob.row 8 [[AV.p (.v (.string tn)),AV.p (.v (.int .i64 (c:Nat))),AV.p (.v (.int .i64 lo1)),AV.p (.v (.int .i64 lo2)),AV.p (.v (.string lo3)),AV.p (.v (.int .i64 hi1)),AV.p (.v (.int .i64 hi2)),AV.p (.v (.string hi3))]])) (by simp) (fun e=>by have:=hlt _ e;omega)
  have hU1:∀ t,σ.length≤t→t<σ.length+2→¬ U1 t:=fun t h1 h2 h3=>(f1.own t h3).elim (fun e=>by have:=hlt _ e;omega) fun e=>by simp at e;omega
  have y1:=Ac x1
  repeat' simp only[↓wBA,tT9,seval,lenD,hlaD]
  refine Ar (X:={ q:Nat×AV // q.1≤D.length }) (fun q=>D.length - q.1.1) (fun q=>[(12,q.1.2),(68,Ad .i64 (q.1.1:Nat))]) [8,9,14,15,16,17,69,70,71,72,73,74,75,76,77,78,79,80,81,82,83,84,85,86,87,88,89,90,91,92,93,94,95,96,97,98,99,100,101,102,103,104,105] (fun q s=>s1.length≤s.length∧∃ U' P',Fr s1 s U1 U'∧Bt s b p dd l kh U' P' v∧Kp P P' 0∧Mm s q.1.2 5 ((D6 c (lo1,lo2,lo3) (hi1,hi2,hi3) (D.take q.1.1)).map Dt)∧∀ t,N8 q.1.2=some t→s1.length≤t∧¬ U' t) (⟨(0,.p (.v (.slice none 0 0))),by simp⟩) ?_ ?_ ?_ ?_
  ·simp only[wHl,wHf]
  ·exact⟨QH _,U1,P1,Fr.refl _ _,h1,k1,.inl ⟨rfl,rfl⟩,by simp[N8]⟩
  ·rintro _ _ ⟨h,_⟩;exact h
  ·intro y J s hI
   simp only[wHl]
   obtain⟨⟨i,av⟩,hi⟩:=y
   obtain⟨ls,U4,P4,f4,h4,k4,mu4,mo4⟩:=hI
   dsimp only at*
   have hi0':=nnI i
   have hwi:=wI i (by omega)
   have x4:=f4.get x1 (hU1 _ (by omega) (by omega))
   have y4:=Ac x4
   have u4:¬ U4 (σ.length+1):=fun e=>(f4.own _ e).elim (hU1 _ (by omega) (by omega)) fun e=>by omega
   have hlt4:=h4.lt
   obtain⟨fm1,fm2,fm3⟩:=Akk c (lo1,lo2,lo3) (hi1,hi2,hi3) ht.so (D.take i) fun y hy=>hD y (ZM hy)
   have fl:(D6 c (lo1,lo2,lo3) (hi1,hi2,hi3) (D.take i)).length≤200:=by rw[QZ]at fm3;omega
   by_cases hlt':i<D.length
   ·have e1:=dT (i:=i) (n:=D.length) hlt'
    obtain⟨y,hy⟩:∃ y,D[i]? =some y:=⟨D[i],by simp⟩
    have hyE:=hD y (QG hy)
    obtain⟨⟨o1,o2,o3,o4,o5⟩,o6⟩:=ht.ok y hyE
    have htk:D.take (i+1)=D.take i++[y]:=by rw[YU,hy];rfl
    have hfs:=Sp c (lo1,lo2,lo3) (hi1,hi2,hi3) (D.take i) y
    rw[← htk]at hfs
    unfold Am5 at hfs
    obtain⟨O,hO⟩:∃ O,O=D6 c (lo1,lo2,lo3) (hi1,hi2,hi3) (D.take i):=⟨_,rfl⟩
    rw[← hO]at mu4 hfs fl
    have hDne:D≠[]:=fun e=>by rw[e]at hlt';simp at hlt'
    have ezD:zD= .sl 2 (D.map plcC):=by rw[hzD];unfold lsP;rw[if_neg (by simpa using hDne)]
    clear hzD
    subst ezD
    have hgD:(D.map plcC)[i]? =some (plcC y):=by rw[QR,hy];rfl
    have hif':((i:Int)<(D.length:Int))=True:=eq_true (by omega)
    obtain⟨LD,hLD⟩:∃ LD,LD=D.map plcC:=⟨_,rfl⟩
    have hLDl:LD.length=D.length:=by rw[hLD,QL]
    rw[← hLD]at hgD hlaD ⊢
    have hrec:Iz v ns y.1.1 y.1.2=some (rcB y.2.1.1 y.2.1.2 y.2.2):=(Ec ht.st.hp _ _ _).1 (ht.st.pm.mem_iff.2 (ZP.2 ⟨y,hyE,rfl⟩))
    obtain⟨g1,g2,g3⟩:=Og hrec
    obtain⟨nx,ss,hp⟩:=ht.st.hp.ch.mem g1
    obtain⟨n1,n2,n3⟩:=ht.st.hp.tk _ g1
    obtain⟨va,hva⟩:∃ va,y.2.2[c]? =some va:=⟨y.2.2[c]'(by rw[o6];exact hcw),by simp⟩
    have hcv:=hcov y va hva (by omega)
    rw[show y.2.2.getD c (0,0,emp)=va by rw[QM,hva];rfl]at hfs
    have hver:=Ac2 (p:=y.1.1) (s:=y.1.2) (m:=y.2.1.1) (t:=y.2.1.2) (by omega) (by omega) o3 o4 o5
    have hget:=fun {s':St} (hB:Bt s' b p dd l kh U4 P4 v)=>Awc (k:=y.1.2) hB (by rw[k4.pages];exact n2) hp (hb.kp (k:=1) k4 (by omega)) g3 g2
    obtain⟨⟨yn,yk⟩,⟨ym,yt⟩,yv⟩:=y
    dsimp only at*
    simp only[plcC]at hgD
    have hav:leaf av=true∧Cu av=some [av]:=mu4.lfT
    repeat' simp only[↓wBA,tT9,seval,wH,wHl,Q6,tyD,hi0',hgD,hif']
    refine (hget (h4.ap (Ap.app _ _))).mono ?_
    rintro _ s5 ⟨rfl,U5,P5,f5,h5,k5⟩
    have l5:=f5.len
    simp only[QE,QF,QI]at l5
    have xr5:=f5.get (t:=s.length) (x:=some (Ob.row 2 [[AV.p (.v (.int .i64 (yn:Nat))),AV.p (.v (.int .i64 (yk:Nat)))]])) (by simp) (fun e=>ZJ _ (hlt4 _ e))
    have yr5:=Ac xr5
    have x5:=f5.get ((Ap.app _ _).get x4) u4
    have y5:=Ac x5
    have f45:=f4.trans ((Ap.app _ _).fr.trans f5)
    have k45:=k4.trans k5
    have hlt5:=h5.lt
    have mu5:Mm s5 av 5 (O.map Dt):=mu4.same fun t ht=>by
     rw[f5.keep t (by rw[QE];have:=mu4.lt ht;omega) (mo4 t ht).2,QD (mu4.lt ht)]
    have mo5:∀ t,N8 av=some t→s1.length≤t∧¬ U5 t∧t<s5.length:=fun t ht=>⟨(mo4 t ht).1,fun e=>(f5.own t e).elim (mo4 t ht).2 fun e=>by rw[QE]at e;have:=mu4.lt ht;omega,mu5.lt ht⟩
    simp only[recP]
    have next:∀ {s':St},Ap s5 s'→D6 c (lo1,lo2,lo3) (hi1,hi2,hi3) (D.take (i+1))=O→s1.length≤s'.length∧∃ U' P',Fr s1 s' U1 U'∧Bt s' b p dd l kh U' P' v∧Kp P P' 0∧Mm s' av 5 ((D6 c (lo1,lo2,lo3) (hi1,hi2,hi3) (D.take (i+1))).map Dt)∧∀ t,N8 av=some t→s1.length≤t∧¬ U' t:=fun {s'} a hf=>by
     rw[hf]
     have:=a.len
     exact⟨by omega,U5,P5,f45.trans a.fr,h5.ap a,k45,mu5.same fun t ht=>by obtain⟨τ,rfl⟩:=a;exact QD (mo5 t ht).2.2,fun t ht=>⟨(mo5 t ht).1,(mo5 t ht).2.1⟩⟩
    have a6:=Ap.app s5 [some (Ob.row 5 [[AV.p (.v (.int .i64 (yn:Nat))),AV.p (.v (.int .i64 (yk:Nat))),AV.p (.v (.int .i64 (ym:Nat))),AV.p (.v (.int .i64 (yt:Nat))),AV.p (.sl 3 (enV yv))]])]
    cases hq:covV (lo1,lo2,lo3) (hi1,hi2,hi3) va with
    |false=>
     rw[hq]at hcv
     rw[hq]at hfs
     repeat' first|simp only[↓wBA,tT9,seval,wH,wHl,Q6,tyD,x5,y5,xr5,hwi]|((with_reducible show Aa _ _ _ _ _);first|refine (hver _).eq ?_|refine (hcv _).eq ?_)
     exact⟨⟨(i+1,av),by show i+1≤D.length;omega⟩,by show D.length - (i+1)<D.length - i;omega,⟨by omega,(next a6 (by rw[hfs,if_neg (by simp)])).2⟩,by simp only[]⟩
    |true=>
     rw[hq]at hcv
     rw[hq]at hfs
     have mu6:Mm (s5++[some (Ob.row 5 [[AV.p (.v (.int .i64 (yn:Nat))),AV.p (.v (.int .i64 (yk:Nat))),AV.p (.v (.int .i64 (ym:Nat))),AV.p (.v (.int .i64 (yt:Nat))),AV.p (.sl 3 (enV yv))]])]) av 5 (O.map Dt):=mu5.same fun t ht=>QD (mo5 t ht).2.2
     have hcn:=Axe mu6 (by omega) (a6.get xr5)
     cases hany:O.any (fun w=>decide (w.1=(yn,yk)))with
     |true=>
      rw[hany]at hcn
      rw[hany]at hfs
      repeat' first|simp only[↓wBA,tT9,seval,wH,wHl,Q6,tyD,x5,y5,xr5,hwi]|((with_reducible show Aa _ _ _ _ _);first|refine (hver _).eq ?_|refine (hcv _).eq ?_|(refine hcn.mono ?_;rintro _ s7 ⟨a7,rfl⟩;have l7:=a7.len;simp only[QE,QF,QI]at l7))
      exact⟨⟨(i+1,av),by show i+1≤D.length;omega⟩,by show D.length - (i+1)<D.length - i;omega,⟨by omega,(next (a6.trans a7) (by rw[hfs,if_neg (by simp)])).2⟩,by simp only[]⟩
     |false=>
      rw[hany]at hcn
      rw[hany,if_pos ⟨rfl,rfl⟩]at hfs
      repeat' first|simp only[↓wBA,tT9,seval,wH,wHl,Q6,tyD,x5,y5,xr5]|((with_reducible show Aa _ _ _ _ _);first|refine (hver _).eq ?_|refine (hcv _).eq ?_)
      refine hcn.mono ?_
      rintro _ s7 ⟨a7,rfl⟩
      have l7:=a7.len
      simp only[QE,QF,QI]at l7
      have x7:=a7.get (t:=s5.length) (x:=some (Ob.row 5 [[AV.p (.v (.int .i64 (yn:Nat))),AV.p (.v (.int .i64 (yk:Nat))),AV.p (.v (.int .i64 (ym:Nat))),AV.p (.v (.int .i64 (yt:Nat))),AV.p (.sl 3 (enV yv))]])) (by simp)
      have y7:=Ac x7
      have mu7:Mm s7 av 5 (O.map Dt):=mu5.same fun t ht=>by
       obtain⟨τ,hτ⟩:=a6.trans a7
       rw[hτ,QD (mo5 t ht).2.2]
      obtain⟨Z,hZ⟩:∃ Z,Z=s7++[some (Ob.right 62 5)]:=⟨_,rfl⟩
      have aZ:Ap s5 Z:=by rw[hZ];exact (a6.trans a7).more _
      have lZ:Z.length=s7.length+1:=by rw[hZ];simp
      have hOl:(O.map Dt).length=O.length:=QL ..
      obtain⟨q',hq',r1,r2,r3⟩:=Ai5 (C:=cxD) (q:=Z) (y:=.own s7.length 5 [verC ((yn,yk),(ym,yt),yv)]) (m:=[Dt ((yn,yk),(ym,yt),yv)]) ((Q6 _).trans Mf) (mu7.same fun t ht=>by rw[hZ];exact QD (mu7.lt ht)) rfl (by simp) (by rw[hOl];simp only[QF,QI];omega) (by rw[hOl];simp only[QF,QI];omega)
      rw[lZ,hOl]at hq'
      rw[lZ]at r1 r2 r3
      rw[hZ]at hq'
      simp only[verC]at hq'
      repeat' simp only[↓wBA,tT9,seval,wH,wHl,Q6,tyD,Aw3,hwi,x7,hq']
      have hZk:∀ t,t<s5.length→Z[t]? =s5[t]? :=fun t ht=>by obtain⟨τ,hτ⟩:=aZ;rw[hτ,QD ht]
      have hqk:∀ t,t<s5.length→N8 av≠some t→q'[t]? =s5[t]? :=fun t h1 h2=>(r3 t (by omega) h2).trans (hZk t h1)
      have lf:=f45.len
      refine⟨⟨(i+1,.ms (s7.length+1) 5 0 (O.length+1)),by show i+1≤D.length;omega⟩,by show D.length - (i+1)<D.length - i;omega,⟨by omega,U5,P5,⟨by omega,fun t ht hn=> ?_,f45.own⟩,h5.same fun t ht=>hqk t (hlt5 t ht) fun e=>(mo5 t e).2.1 ht,k45,.inr ⟨s7.length+1,by rw[hfs];simp,by rw[hfs];simp,by rw[hfs,ZH];exact r1⟩,fun t ht=> ?_⟩,by simp only[]⟩
      ·rw[hqk t (by omega) (fun e=>by have:=(mo5 t e).1;omega)];exact f45.keep t ht hn
      ·simp only[N8,QB]at ht
       exact⟨by omega,fun hu=>by have:=hlt5 t hu;omega⟩
   ·obtain rfl:i=D.length:=by omega
    have e1:=dF (i:=D.length) (n:=D.length) hlt'
    rw[ZS]at mu4 fm1 fm2 fl
    repeat' simp only[↓wBA,tT9,seval,wHl,e1]
    refine (Aj5 (by omega) mu4).mono ?_
    rintro av s5 ⟨rfl,L',hp,hs,hm5,l5,hk5⟩
    repeat' simp only[↓wBA,tT9,seval,wHl]
    all_goals refine rtS ?_
    all_goals simp only[wRe,tT9,seval]
    have hdis:L'.Pairwise (fun x y=>¬ x.1=y.1):=(hp.pairwise_iff (fun h e=>h e.symm)).2 fm2
    have fr0:=(((Ap.app σ [_]).more [_]).fr.trans f1).trans f4
    have lf0:=fr0.len
    refine⟨_,L',D,U4,P4,hPDD,rfl,hm5,fun y=>by rw[hp.mem_iff,fm1],(hs.and hdis).imp fun {x y} ⟨h1,h2⟩=> ?_,⟨by omega,fun t ht hn=>(hk5 t fun e=>by have:=(mo4 t e).1;omega).trans (fr0.keep t ht hn),fr0.own⟩,h4.same fun t ht=>hk5 t fun e=>(mo4 t e).2 ht,k4,fun t ht=>⟨by have:=(mo4 t ht).1;omega,(mo4 t ht).2⟩⟩
    have h3:¬ (x.1.1=y.1.1∧x.1.2=y.1.2):=fun ⟨a,c⟩=>h2 (VK a c)
    unfold leV at h1
    unfold ltV
    omega
end
