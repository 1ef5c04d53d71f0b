/- More of the page's contracts on the machine: Set, Drop, Kind, a record that may be written. Heaps, told by their pages: the plain part. Heaps: chains of pages. Heaps: number, Make, read. Heaps: Insert. Heaps: at, Get, Set, Drop. -/
import Derived.Test.YtpoigihfeehehaaGreatDoorM20
import Derived.Test.YtpoigihfeehehaaGreatDoorM32
set_option linter.all false
set_option maxRecDepth 100000
set_option maxHeartbeats 32000000
namespace Go.Proofs.YtpoigihfeehehaaGreatDoor
open Go.RowKit
def bRow (r:List UInt8):List (List AV):=r.map fun b=>[.p (Bo b)]
theorem Av8 (l r:List UInt8)(k:Int)(x:PV)(hl:l.length=512)(hx:BX x r)(hrl:r.length≤140737488351232)(σ:St):Aa Tryz.prog 77 [A6 l,Ad .i64 k,.p x] σ fun r' σ'=>σ'=σ∧r'= .tup [A6 (Ls l k r).1,Av (Ls l k r).2]:=
 Aa.of_calls (en _ (by kernel_rfl)) fun M vs hM hv=>by
  obtain⟨u,v,z,rfl,h1,h2,h3⟩:=rep3 hv
  rw[Ib h1,Bi h2]
  exact (Apn l k r z _ hl (hx.bytes h3) hrl).mono fun e w' ⟨h1,h2⟩=>⟨_,_,fun _ _=>False,h1,h2,fun _ _ h=>h.elim,tup2 (Pq _) (Bb rfl),rfl⟩
theorem Av9 (l:List UInt8)(hl:l.length=512)(σ:St):Aa Tryz.prog 121 [A6 l] σ fun r σ'=>σ'=σ∧r=Ad .i64 (Eo l):=
 Aa.of_calls (en _ (by kernel_rfl)) fun M vs hM hv=>by
  obtain⟨u,rfl,h1⟩:=rep1 hv
  rw[Ib h1]
  exact (Ak5 l _ hl).mono fun e w' ⟨h1,h2⟩=>⟨_,_,fun _ _=>False,h1,h2,fun _ _ h=>h.elim,Bb rfl,rfl⟩
def Es (k:Nat):List UInt8:=[UInt8.ofNat k,UInt8.ofNat (k / 256)]
theorem Aly (k:Nat):(Es k).length=2:=rfl
theorem Alz {k:Nat}(h:k<65536):(UInt8.ofNat k).toNat+256*(UInt8.ofNat (k / 256)).toNat=k:=by
 rw[YQ,YQ];omega
theorem Xt (ss:List (Option (List UInt8)))(k:Nat)(hk:k≤ss.length)(r:List UInt8)(j:Nat):(Gi ss k r).getD j none=if j=k then some r else ss.getD j none:=by
 unfold Gi
 by_cases h:k=ss.length
 ·rw[if_pos h]
  subst h
  by_cases e:j=ss.length
  ·subst e;simp
  ·rw[if_neg e]
   by_cases hlt:j<ss.length
   ·have:¬ ss.length=j:=fun e'=>e e'.symm
    simp[QM,QD hlt]
   ·have:¬ ss.length=j:=fun e'=>e e'.symm
    simp only[QM,QW,if_neg this]
    rw[ZG (by simp;omega),ZG (by omega)]
 ·rw[if_neg h]
  by_cases e:j=k
  ·subst e
   have:j<ss.length:=by omega
   simp[QM,this]
  ·have:¬ k=j:=fun e'=>e e'.symm
   simp[QM,this,e]
theorem Ml (x:List UInt8)(ss:List (Option (List UInt8))):C8 (some x::ss)=C8 ss+1:=by
 unfold C8
 rw[List.findIdx_cons]
 rfl
theorem Qd (x:Option (List UInt8))(ss:List (Option (List UInt8)))(k:Nat)(r:List UInt8):Gi (x::ss) (k+1) r=x::Gi ss k r:=by
 unfold Gi
 by_cases h:k=ss.length
 ·subst h;simp
 ·have:¬ k+1=(x::ss).length:=fun e=>h (by simpa using e)
  rw[if_neg this,if_neg h];rfl
theorem Ai3 (ss:List (Option (List UInt8))):ss.getD (C8 ss) none=none:=by
 unfold C8
 by_cases h:ss.findIdx (·.isNone)<ss.length
 ·have h1:=List.findIdx_getElem (p:=fun x:Option (List UInt8)=>x.isNone) (w:=h)
  rw[QM,QN h]
  simpa using h1
 ·rw[QM,ZG (by omega)];rfl
theorem K4:∀ (ss:List (Option (List UInt8))) (k:Nat),lens (ss.set k none)≤lens ss
 |[],k=>by simp
 |x::ss,0=>by simp[lens,Cs]
 |x::ss,k+1=>by
  have:=K4 ss k
  simp only[lens,YF,QK,XI]at this ⊢
  omega
theorem Nm:∀ (ss:List (Option (List UInt8))) (k:Nat) (o r:List UInt8),ss.getD k none=some o→r.length≤o.length→lens (ss.set k (some r))≤lens ss
 |[],k,o,r,h,_=>by simp at h
 |x::ss,0,o,r,h,hl=>by
  simp at h;subst h
  simp[lens,Cs];omega
 |x::ss,k+1,o,r,h,hl=>by
  have:=Nm ss k o r (by simpa using h) hl
  simp only[lens,YF,QK,XI]at this ⊢
  omega
theorem G4:∀ (ss:List (Option (List UInt8))) (i:Nat),(A4 ss).getD i none=ss.getD i none
 |[],i=>rfl
 |none::r,i=>by
  rw[show A4 (none::r)=if A4 r=[]then []else none::A4 r from rfl]
  split
  ·rename_i h
   cases i with
   |zero=>rfl
   |succ i=>
    have:=G4 r i
    rw[h]at this
    simpa using this
  ·cases i with
   |zero=>rfl
   |succ i=>simpa using G4 r i
 |some x::r,i=>by
  cases i with
  |zero=>rfl
  |succ i=>simpa [A4]using G4 r i
structure HPg (l:List UInt8)(nx:Nat)(ss:List (Option (List UInt8))):Prop where
 pg:Pg l 1 (some (Es nx)::ss)
 le:∀ r,some r∈ss→r.length≤400
 nx:nx<65536
theorem HPg.at {l:List UInt8}{nx:Nat}{ss:List (Option (List UInt8))}(h:HPg l nx ss)(k:Nat):Ip l ((k+1:Nat):Int)=ss.getD k none:=by
 rw[h.pg.get,if_neg (by omega)]
 simp
theorem HPg.zero {l:List UInt8}{nx:Nat}{ss:List (Option (List UInt8))}(h:HPg l nx ss):Ip l 0=some (Es nx):=by
 rw[h.pg.get,if_neg (by omega)];rfl
theorem D9 {ss:List (Option (List UInt8))}{k:Nat}{r:List UInt8}(h:ss.getD k none=some r):some r∈ss:=by
 rw[QM]at h
 cases hk:ss[k]? with
 |none=>rw[hk]at h;simp at h
 |some x=>rw[hk]at h;simp at h;subst h;exact QG hk
theorem Ul {ss:List (Option (List UInt8))}{r:List UInt8}(h:some r∈ss):∃ k,ss.getD k none=some r:=by
 obtain⟨k,hk⟩:=YH h
 exact⟨k,by rw[QM,hk];rfl⟩
theorem HPg.add {l:List UInt8}{nx:Nat}{ss:List (Option (List UInt8))}(h:HPg l nx ss)(r:List UInt8)(hr:r.length≤400):
 (He l r=(Ah,0,false))∨((He l r).2=(((C8 ss+1:Nat):Int),true)∧HPg (He l r).1 nx (Gi ss (C8 ss) r)):=by
 by_cases hc:B9 (Gi (some (Es nx)::ss) (C8 (some (Es nx)::ss)) r)≤496
 ·obtain⟨h1,h2,h3⟩:=h.pg.add r hr hc
  rw[Ml]at h1
  rw[Ml,Qd]at h3
  refine .inr ⟨VK h1 h2,⟨h3,fun x hx=> ?_,h.nx⟩⟩
  obtain⟨k,hk⟩:=Ul hx
  rw[Xt _ _ (N3 ss)]at hk
  split at hk
  ·simp only[QB]at hk;subst hk;exact hr
  ·exact h.le x (D9 hk)
 ·exact .inl (h.pg.add_not r (.inr (by omega)))
theorem HPg.room {l:List UInt8}{nx:Nat}(h:HPg l nx [])(r:List UInt8)(hr:r.length≤400):He l r≠(Ah,0,false):=fun e=>by
 have hc:B9 (Gi (some (Es nx)::[]) (C8 (some (Es nx)::[])) r)≤496:=by
  rw[Ml,Qd]
  simp[C8,Gi,B9,lens,Cs,Es];omega
 have:=(h.pg.add r hr hc).2.1
 rw[e]at this;cases this
theorem HPg.set {l:List UInt8}{nx:Nat}{ss:List (Option (List UInt8))}(h:HPg l nx ss){k:Nat}{o:List UInt8}(hk:ss.getD k none=some o)(r:List UInt8)(hr:r.length≤o.length):
 (Ls l ((k+1:Nat):Int) r).2=true∧HPg (Ls l ((k+1:Nat):Int) r).1 nx (ss.set k (some r)):=by
 have ho:=h.le o (D9 hk)
 have hkl:k<ss.length:=by
  rcases YW k ss.length with h|h
  ·exact h
  ·rw[QM,ZG h]at hk;simp at hk
 have hp:Gi (some (Es nx)::ss) (k+1) r=some (Es nx)::ss.set k (some r):=by
  rw[Qd];unfold Gi;rw[if_neg (by omega)]
 have hc:B9 (Gi (some (Es nx)::ss) (k+1) r)≤496:=by
  rw[hp]
  have h1:=Nm ss k o r hk hr
  have h2:=h.pg.cost
  simp only[B9,QF,ZW,lens,QK,XI]at h1 h2 ⊢
  omega
 have hpp:=h.pg.put (k+1) (by simp;omega) r (by omega) hc
 rw[hp]at hpp
 have he:Ls l ((k+1:Nat):Int) r=Di (Eo l) (Au l) (k+1) r:=by
  unfold Ls
  rw[if_neg (by rw[h.at k,hk];simp),ZZ]
 rw[he]
 refine⟨hpp.1,hpp.2,fun x hx=> ?_,h.nx⟩
 obtain⟨j,hj⟩:=Ul hx
 by_cases e:k=j
 ·subst e
  rw[QM,QW,if_pos rfl,if_pos hkl]at hj
  simp at hj;subst hj;omega
 ·rw[QM,QW,if_neg e,←QM]at hj
  exact h.le x (D9 hj)
theorem HPg.link {l:List UInt8}{nx:Nat}{ss:List (Option (List UInt8))}(h:HPg l nx ss){m:Nat}(hm:m<65536):HPg (Ls l 0 (Es m)).1 m ss:=by
 have hp:Gi (some (Es nx)::ss) 0 (Es m)=some (Es m)::ss:=by
  unfold Gi;rw[if_neg (by simp)];rfl
 have hc:B9 (Gi (some (Es nx)::ss) 0 (Es m))≤496:=by
  rw[hp]
  have h2:=h.pg.cost
  simp only[B9,QF,lens,QK,XI,Cs,Aly]at h2 ⊢
  omega
 have hpp:=h.pg.put 0 (by simp) (Es m) (by simp[Es]) hc
 rw[hp]at hpp
 have he:Ls l 0 (Es m)=Di (Eo l) (Au l) 0 (Es m):=by
  unfold Ls
  rw[if_neg (by rw[h.zero];simp)];rfl
 rw[he]
 exact⟨hpp.2,h.le,hm⟩
theorem HPg.made {m:Nat}:HPg (He (Fg 1) (Es 0)).1 0 []:=by
 have hc:B9 (Gi [] (C8 []) (Es 0))≤496:=by simp[C8,Gi,B9,lens,Cs,Es]
 obtain⟨_,_,h3⟩:=(Pg.new 1).add (Es 0) (by simp[Es]) hc
 exact⟨h3,by simp,by omega⟩
theorem HPg.drop {l:List UInt8}{nx:Nat}{ss:List (Option (List UInt8))}(h:HPg l nx ss){k:Nat}{o:List UInt8}(hk:ss.getD k none=some o):
 (Ak8 l ((k+1:Nat):Int)).2=true∧HPg (Ak8 l ((k+1:Nat):Int)).1 nx (A4 (ss.set k none)):=by
 have hc:B9 ((some (Es nx)::ss).set (k+1) none)≤496:=by
  have h1:=K4 ss k
  have h2:=h.pg.cost
  simp only[B9,QF,ZW,lens,QK,XI,YF]at h1 h2 ⊢
  omega
 have he:Ak8 l ((k+1:Nat):Int)=(Ek 1 ((some (Es nx)::ss).set (k+1) none),true):=by
  unfold Ak8
  rw[h.pg.slots,h.pg.kind,ZZ,if_neg]
  rw[h.at k,hk];simp;simpa using hc
 rw[he]
 have hp:=Pg.made 1 (by omega) (by omega) ((some (Es nx)::ss).set (k+1) none) hc
 have ht:A4 ((some (Es nx)::ss).set (k+1) none)=some (Es nx)::A4 (ss.set k none):=rfl
 rw[ht]at hp
 refine⟨rfl,hp,fun x hx=> ?_,h.nx⟩
 obtain⟨j,hj⟩:=Ul hx
 rw[G4]at hj
 by_cases e:k=j
 ·subst e
  rw[QM,QW,if_pos rfl]at hj
  split at hj<;>simp at hj
 ·rw[QM,QW,if_neg e,←QM]at hj
  exact h.le x (D9 hj)
theorem HPg.len {l:List UInt8}{nx:Nat}{ss:List (Option (List UInt8))}(h:HPg l nx ss):l.length=512∧pgz l=l:=⟨h.pg.len,Als (by rw[h.pg.slots];simp)⟩
def E5 (v:Nat→List UInt8):List Nat→Prop
 |[]=>True
 |n::ns=>(∃ ss,HPg (v n) ((ns[0]?).getD 0) ss)∧E5 v ns
theorem E5.get {v:Nat→List UInt8}:∀ {ns:List Nat} {i n:Nat},E5 v ns→ns[i]? =some n→∃ ss,HPg (v n) ((ns[i+1]?).getD 0) ss
 |[],i,n,_,h=>by simp at h
 |m::ns,0,n,hc,h=>by
  simp at h;subst h
  obtain⟨ss,h⟩:=hc.1
  exact⟨ss,by simpa using h⟩
 |m::ns,i+1,n,hc,h=>by
  have:=E5.get (i:=i) hc.2 (by simpa using h)
  simpa using this
theorem E5.congr {v v':Nat→List UInt8}:∀ {ns:List Nat},(∀ n∈ns,v' n=v n)→E5 v ns→E5 v' ns
 |[],_,_=>trivial
 |m::ns,h,hc=>⟨by rw[h m (by simp)];exact hc.1,E5.congr (fun n hn=>h n (by simp[hn])) hc.2⟩
theorem E5.up {v:Nat→List UInt8}{pg:List UInt8}{ss:List (Option (List UInt8))}:∀ {ns:List Nat} {i n:Nat},ns.Nodup→E5 v ns→ns[i]? =some n→HPg pg ((ns[i+1]?).getD 0) ss→E5 (upV v n pg) ns
 |[],i,n,_,_,h,_=>by simp at h
 |m::ns,0,n,hd,hc,h,hp=>by
  simp at h;subst h
  have hm:=(ZU.1 hd).1
  refine⟨⟨ss,by unfold upV;rw[if_pos rfl];simpa using hp⟩,E5.congr (fun q hq=> ?_) hc.2⟩
  unfold upV;rw[if_neg (fun e=>hm (by subst e;exact hq))]
 |m::ns,i+1,n,hd,hc,h,hp=>by
  have hm:=ZU.1 hd
  have hn:n∈ns:=QG (by simpa using h:ns[i]? =some n)
  refine⟨?_,E5.up hm.2 hc.2 (i:=i) (by simpa using h) (by simpa using hp)⟩
  have:¬ m=n:=fun e=>hm.1 (by subst e;exact hn)
  unfold upV;rw[if_neg this];exact hc.1
theorem E5.snoc {v v':Nat→List UInt8}{m:Nat}{ss':List (Option (List UInt8))}:∀ {ns:List Nat} {n:Nat} {ss:List (Option (List UInt8))},ns.Nodup→E5 v ns→ns[ns.length - 1]? =some n→(∀ q∈ns,q≠n→v' q=v q)→HPg (v' n) m ss→HPg (v' m) 0 ss'→E5 v' (ns++[m])
 |[],n,ss,_,_,h,_,_,_=>by simp at h
 |[a],n,ss,_,_,h,_,h1,h2=>by
  simp at h;subst h
  exact⟨⟨ss,h1⟩,⟨ss',h2⟩,trivial⟩
 |a::b::ns,n,ss,hd,hc,h,hv,h1,h2=>by
  have hm:=ZU.1 hd
  have hl:(b::ns)[(b::ns).length - 1]? =some n:=by simpa using h
  have hn:n∈b::ns:=QG hl
  have ha:a≠n:=fun e=>hm.1 (by subst e;exact hn)
  refine⟨?_,E5.snoc hm.2 hc.2 hl (fun q hq=>hv q (by simp at hq ⊢;right;exact hq)) h1 h2⟩
  rw[hv a (by simp) ha]
  exact hc.1
structure Nn (v:Nat→List UInt8)(T:Nat→Bool)(np:Nat)(ns:List Nat):Prop where
 ne:ns≠[]
 nd:ns.Nodup
 tk:∀ n∈ns,1≤n∧n<np∧T n=true
 ch:E5 v ns
def recOf (v:Nat→List UInt8)(n k:Nat):Option (List UInt8):=if k=0 then none else Ip (v n) (k:Int)
def Iz (v:Nat→List UInt8)(ns:List Nat)(n k:Nat):Option (List UInt8):=if n∈ns then recOf v n k else none
theorem HPg.recOf {v:Nat→List UInt8}{n nx:Nat}{ss:List (Option (List UInt8))}(h:HPg (v n) nx ss)(k:Nat):recOf v n (k+1)=ss.getD k none:=by
 unfold Go.Proofs.YtpoigihfeehehaaGreatDoor.recOf
 rw[if_neg (by omega)]
 exact h.at k
theorem Ex (v:Nat→List UInt8)(n:Nat):recOf v n 0=none:=by unfold recOf;rw[if_pos rfl]
theorem Nn.len {v:Nat→List UInt8}{T:Nat→Bool}{np:Nat}{ns:List Nat}(h:Nn v T np ns):ns.length≤np:=Fj np ns h.nd fun x hx=>(h.tk x hx).2.1
theorem Nn.change {v:Nat→List UInt8}{T:Nat→Bool}{np i n k nx:Nat}{ns:List Nat}{pg:List UInt8}{ss ss':List (Option (List UInt8))}{x:Option (List UInt8)}(h:Nn v T np ns)(hi:ns[i]? =some n)(hp:HPg (v n) nx ss)(hnx:nx=(ns[i+1]?).getD 0)(hp':HPg pg nx ss')(hs:∀ j,ss'.getD j none=if j=k then x else ss.getD j none):
 Nn (upV v n pg) T np ns∧∀ n' k',Iz (upV v n pg) ns n' k'=if n'=n∧k'=k+1 then x else Iz v ns n' k':=by
 subst hnx
 refine⟨⟨h.ne,h.nd,h.tk,E5.up h.nd h.ch hi hp'⟩,fun n' k'=> ?_⟩
 have hn:n∈ns:=QG hi
 unfold Iz
 by_cases e:n'=n
 ·subst e
  rw[if_pos hn,if_pos hn]
  cases k' with
  |zero=>rw[Ex,Ex,if_neg (by omega)]
  |succ k'=>
   have hq:HPg (upV v n' pg n') ((ns[i+1]?).getD 0) ss':=by unfold upV;rw[if_pos rfl];exact hp'
   rw[hq.recOf,hp.recOf,hs]
   by_cases e2:k'=k
   ·subst e2;simp
   ·have:¬ (k'+1=k+1):=by omega
    simp[e2]
 ·have h1:¬ (n'=n∧k'=k+1):=fun h=>e h.1
  rw[if_neg h1]
  have:recOf (upV v n pg) n' k'=recOf v n' k':=by unfold recOf upV;rw[if_neg e]
  rw[this]
theorem Nn.grow {v v':Nat→List UInt8}{T:Nat→Bool}{np n m:Nat}{ns:List Nat}{ss:List (Option (List UInt8))}(h:Nn v T np ns)(hl:ns[ns.length - 1]? =some n)(hm:T m=false)(hm1:1≤m)(hm2:m<np)(hp:HPg (v n) 0 ss)(hn':HPg (v' n) m ss)(hm':HPg (v' m) 0 [])(hv:∀ q,q≠m→q≠n→q≠0→v' q=v q):
 Nn v' (D3 T m true) np (ns++[m])∧∀ n' k',Iz v' (ns++[m]) n' k'=Iz v ns n' k':=by
 have hmn:∀ q∈ns,q≠m:=fun q hq e=>by have:=(h.tk q hq).2.2;rw[e,hm]at this;cases this
 have hq:∀ q∈ns,q≠n→v' q=v q:=fun q hq hqn=>hv q (hmn q hq) hqn (by have:=(h.tk q hq).1;omega)
 refine⟨⟨by simp,ZD.2 ⟨h.nd,by simp,fun a ha b hb=>by simp at hb;subst hb;exact hmn a ha⟩,fun q hq'=> ?_,E5.snoc h.nd h.ch hl hq hn' hm'⟩,fun n' k'=> ?_⟩
 ·rcases QS.1 hq' with hq'|hq'
  ·obtain⟨h1,h2,h3⟩:=h.tk q hq'
   exact⟨h1,h2,by unfold D3;split<;>simp_all⟩
  ·simp at hq';subst hq';exact⟨hm1,hm2,by simp[D3]⟩
 ·unfold Iz
  by_cases e:n'∈ns
  ·rw[if_pos (by simp[e]),if_pos e]
   by_cases e2:n'=n
   ·subst e2
    cases k' with
    |zero=>rw[Ex,Ex]
    |succ k'=>rw[hn'.recOf,hp.recOf]
   ·unfold recOf;rw[hq n' e e2]
  ·rw[if_neg e]
   by_cases e2:n'=m
   ·subst e2
    rw[if_pos (by simp)]
    cases k' with
    |zero=>rw[Ex]
    |succ k'=>rw[hm'.recOf];simp
   ·rw[if_neg (by simp[e,e2])]
theorem Nn.other {v v':Nat→List UInt8}{T T':Nat→Bool}{np:Nat}{ns:List Nat}(h:Nn v T np ns)(hv:∀ n∈ns,v' n=v n)(hT:∀ n∈ns,T' n=T n):Nn v' T' np ns∧∀ n k,Iz v' ns n k=Iz v ns n k:=by
 refine⟨⟨h.ne,h.nd,fun n hn=>by rw[hT n hn];exact h.tk n hn,E5.congr hv h.ch⟩,fun n k=> ?_⟩
 unfold Iz
 split
 ·rename_i hn;unfold recOf;rw[hv n hn]
 ·rfl
def Acc:Cq:=(.det 0 (.det 1 (.det 2 (.det 3 (.det 4 (.det 5 (.det 6 (.det 7 (.det 8 (.det 9 (.det 10 (.act 11 (.det 12 (.det 13 .done))))))))))))))
def tHg:=aa wX <| aa wbu <| aa T3 <| aa T4 <| aa T5 <| aa T29 <| aa T38 <| aa T70 Y1
theorem Fr.setN {σ σ':St}{F F':Nat→Prop}(h:Fr σ σ' F F'){t:Nat}(ht:σ.length≤t)(x:Option Ob):Fr σ (σ'.set t x) F F':=
 ⟨by simpa using h.len,fun s hs hn=>by rw[QO (by omega)];exact h.keep s hs hn,h.own⟩
theorem Aa.ans {P:Program}{f:FuncId}{args:List AV}{σ:St}{R R':AV→St→Prop}(h:Aa P f args σ R)(hk:∀ r s,R r s→∃ r',R' r' s∧∀ (M:Az) (v:Value),Ag M r v→Ag M r' v):Aa P f args σ R':=
 ⟨h.1,fun M vs hM hv=>(h.2 M vs hM hv).mono fun e w' ⟨v,r,s,M',h1,h2,h3,h4,h5,h6,h7⟩=>by
  obtain⟨r',h8,h9⟩:=hk r s h7
  exact⟨v,r',s,M',h1,h2,h3,h4,h9 _ _ h5,h6,h8⟩⟩
theorem Acd {M:Az}{t e:Nat}{ls:List (List PV)}{u:Value}(h:Ag M (.own t e ls) u):Ag M (.p (.sl e ls)) u:=by
 simp only[Ag,Ca]at h ⊢
 obtain⟨b,cap,n,h1,h2,h3,h4,_⟩:=h
 exact .inr ⟨b,0,cap,h1,h2,h4⟩
theorem or2 {k:Nat}(h:k<65536):IntKind.i64.wrap ((BitVec.ofInt IntKind.i64.bits (IntKind.i64.wrap ((UInt8.ofNat k).toNat:Int)) ||| BitVec.ofInt IntKind.i64.bits (IntKind.i64.wrap (IntKind.i64.wrap ((UInt8.ofNat (k / 256)).toNat:Int)*2 ^ min 8 IntKind.i64.bits))).toNat:Int)=(k:Int):=by
 have h1:=(UInt8.ofNat k).toNat_lt
 have h2:=(UInt8.ofNat (k / 256)).toNat_lt
 have h3:(2:Int) ^ min 8 IntKind.i64.bits=256:=by decide
 rw[h3,wrap_i64 (n:=((UInt8.ofNat k).toNat:Int)) (by omega) (by omega),wrap_i64 (n:=((UInt8.ofNat (k / 256)).toNat:Int)) (by omega) (by omega),wrap_i64 (n:=((UInt8.ofNat (k / 256)).toNat:Int)*256) (by omega) (by omega)]
 have h4:=N4 (UInt8.ofNat k) (UInt8.ofNat (k / 256))
 rw[Alz h]at h4
 exact h4
theorem Awa (k:Nat)(hk:k<65536)(σ:St):Aa Tryz.prog 72 [Ad .i64 (k:Nat)] σ fun r σ'=>Ap σ σ'∧r= .p (.sl 1 (Ax (Es k))):=by
 have e1:IntKind.u8.wrap (k:Int)=((UInt8.ofNat k).toNat:Int):=by rw[IntKind.wrap_u8,YQ];omega
 have e2:IntKind.u8.wrap ((k:Int).fdiv (2 ^ min 8 IntKind.i64.bits))=((UInt8.ofNat (k / 256)).toNat:Int):=by
  have:(2:Int) ^ min 8 IntKind.i64.bits=256:=by decide
  rw[this,XP _ (by omega),IntKind.wrap_u8,YQ];omega
 have h:Aa Tryz.prog 72 [Ad .i64 (k:Nat)] σ fun r σ'=>Ap σ σ'∧r= .own σ.length 1 (Ax (Es k)):=by
  refine Ab Am An Tryz.func72 (by kernel_rfl) rfl (nt:=8) (rs:=[.tmp 2]) rfl rfl ?_
  repeat' simp only[↓wBA,tHg,Cv,seval,e1,e2]
  all_goals refine rtS ?_
  all_goals simp only[wRe,tHg,seval]
  exact⟨Ap.app _ _,by simp only[Ax,Es,QK,ZB,Bo]⟩
 refine h.ans ?_
 rintro _ s ⟨ha,rfl⟩
 exact⟨_,⟨ha,rfl⟩,fun M v=>Acd⟩
section
variable {σ:St} {b p dd l kh n nx:Nat} {U:Nat→Prop} {P:Ak} {v:Nat→List UInt8} {ss:List (Option (List UInt8))} {T:Nat→Bool}
theorem Ai4 (h:Bt σ b p dd l kh U P v)(hn:n<P.pages)(hp:HPg (v n) nx ss)(hb:Bud P 1):
 Aa Tryz.prog 76 [.mp b 2 0 0,Ad .i64 (n:Nat)] σ fun r σ'=>r= .tup [A6 (v n),Ad .i64 (nx:Nat),Ad .i64 0]∧∃ U' P',Fr σ σ' U U'∧Bt σ' b p dd l kh U' P' v∧Kp P P' 0:=by
 have hl:=hp.len.1
 have hpc:=Ao hl
 have z5:=Ao A7
 have hgt:=hp.zero
 have hkd:=hp.pg.kind
 refine Ab Am An Tryz.func76 (by kernel_rfl) rfl (nt:=48) (rs:=[.cell 4 151,.tmp 5,.tmp 6]) rfl rfl ?_
 repeat' simp only[↓wBA,tHg,seval,C6]
 refine (Aop (h.ap (Ap.app _ _)) hn hb).mono ?_
 rintro _ s ⟨rfl,U1,P1,f1,h1,k1⟩
 have hlt:=h.lt
 have x1:=f1.get (t:=σ.length) (x:=some (.row 512 [Aq C3])) (by simp) (fun e=>ZJ _ (hlt _ e))
 have y1:=Ac x1
 have hgt':Ip (v n) 0=some (Es nx):=hgt
 repeat' first|simp only[↓wBA,tHg,Cv,seval,Acc,wH,A6,hpc,C6,z5,x1,y1,hkd,hgt',recP,Ax,Es,Bo,WX]|((with_reducible show Aa _ _ _ _ _);first|refine (aget (v n) 0 hl _).eq ?_|refine (Av9 (v n) hl _).eq ?_)|(with_reducible refine dQ Acc 14 (some 39) ?_)
 have hor:=or2 hp.nx
 have l1:=f1.len
 simp only[QE,QF,QI]at l1
 have hsl:¬ U1 σ.length:=fun e=>(f1.own _ e).elim (fun e=>ZJ _ (hlt _ e)) fun e=>by simp at e;omega
 all_goals refine rtS ?_
 all_goals simp only[wRe,tHg,seval,wH,hpc,y1,hor]
 refine⟨U1,P1,?_,?_,k1⟩
 ·exact (((Fr.ofApp (F':=U) fun t ht=>.inl ht).trans f1).setN (QH _) _).app _
 ·exact (h1.set hsl _).ap (Ap.app _ _)
theorem Awb (h:Bt σ b p dd l kh U P v)(hT:Tk (v 0) P.pages T)(hnp:P.pages≤3200)(hnp1:1≤P.pages)(hT0:T 0=true)(hb:Bud P 1):
 Aa Tryz.prog 33 [.mp b 2 0 0] σ fun r σ'=>∃ U' P' v',Fr σ σ' U U'∧Bt σ' b p dd l kh U' P' v'∧Kp P P' 0∧((∃ m,1≤m∧m<P.pages∧T m=false∧r= .tup [Ad .i64 (m:Nat),Ad .i64 0]∧HPg (v' m) 0 []∧(∀ q,q≠m→q≠0→v' q=v q)∧Tk (v' 0) P.pages (D3 T m true))∨((∀ n,n<P.pages→T n=true)∧r= .tup [Ad .i64 0,Ad .i64 20]∧v'=v)):=by
 refine Ab Am An Tryz.func33 (by kernel_rfl) rfl (nt:=30) (rs:=[.tmp 2,.tmp 3]) rfl rfl ?_
 repeat' simp only[↓wBA,tHg,seval]
 refine (Uk (kind:=1) h hT hnp hnp1 hT0 hb).mono ?_
 rintro r s ⟨U1,P1,v1,f1,h1,k1,hc⟩
 have l1:=f1.len
 rcases hc with⟨m,m1,m2,hTm,rfl,hvm,hvo,hTk⟩|⟨hall,rfl,rfl⟩
 ·have hQl:(He (Fg 1) (Es 0)).1.length=512:=D8 _ _
  have hQp:=Ao hQl
  have z5:=Ao A7
  repeat' first|simp only[↓wBA,tHg,seval,wH,A6,hQp,C6,z5]|((with_reducible show Aa _ _ _ _ _);first|refine (anew _ _).eq ?_|(refine (Awa 0 (by omega) _).mono ?_;rintro _ s2 ⟨a2,rfl⟩)|refine (Apt (Fg 1) (Es 0) _ (Dc _) (.inl rfl) (by simp[Es]) _).eq ?_)
  have hmd:=HPg.made (m:=0)
  have l2:=a2.len
  refine (Ai1 ((h1.ap a2).ap (Ap.app _ _)) m1 (by rw[k1.pages];exact m2) _ hQl hmd.len.2).mono ?_
  rintro _ s3 ⟨rfl,U3,f3,h3⟩
  have l3:=f3.len
  simp only[QE,QF,QI]at l3
  repeat' simp only[↓wBA,tHg,seval]
  all_goals refine rtS ?_
  all_goals simp only[wRe,tHg,seval]
  refine⟨U3,P1,_,((f1.trans a2.fr).trans (Ap.app s2 _).fr).trans f3,h3,k1,.inl ⟨m,m1,m2,hTm,rfl,?_,fun q hq hq0=> ?_,?_⟩⟩
  ·unfold upV;rw[if_pos rfl];exact hmd
  ·unfold upV;rw[if_neg hq];exact hvo q hq hq0
  ·unfold upV;rw[if_neg (by omega)];exact hTk
 ·skip
  repeat' simp only[↓wBA,tHg,seval]
  all_goals refine rtS ?_
  all_goals simp only[wRe,tHg,seval]
  exact⟨U1,P1,_,f1,h1,k1,.inr ⟨hall,rfl⟩⟩
end
def Xu:Cq:=(.det 0 (.det 1 (.act 2 (.fin 3 (.det 4 (.det 5 (.det 6 (.fin 7 .done))))))))
def tHi:=aa wX <| aa wbu <| aa T3 <| aa T29 <| aa T38 <| aa T51 <| aa T70 Y1
def RecA (σ:St)(a:AV)(r:List UInt8):Prop:=(∃ x,a= .p x∧BX x r)∨∃ t,a= .ms t 1 0 r.length∧σ[t]? =some (some (.row 1 (bRow r)))
def N8:AV→Option Nat
 | .ms t _ _ _=>some t
 |_=>none
theorem RecA.same {σ s:St}{a:AV}{r:List UInt8}(h:RecA σ a r)(hs:∀ t,N8 a=some t→s[t]? =σ[t]?):RecA s a r:=by
 rcases h with h|⟨t,rfl,h⟩
 ·exact .inl h
 ·exact .inr ⟨t,rfl,by rw[hs t rfl];exact h⟩
theorem RecA.lt {σ:St}{a:AV}{r:List UInt8}(h:RecA σ a r){t:Nat}(ht:N8 a=some t):t<σ.length:=by
 rcases h with⟨x,rfl,_⟩|⟨t',rfl,h⟩
 ·cases ht
 ·simp only[N8,QB]at ht;subst ht;exact Ac h
theorem RecA.ap {σ s:St}{a:AV}{r:List UInt8}(h:RecA σ a r)(ha:Ap σ s):RecA s a r:=h.same fun t ht=>by
 have:=h.lt ht
 obtain⟨τ,rfl⟩:=ha
 exact QD this
theorem RecA.len {σ:St}{a:AV}{r:List UInt8}(h:RecA σ a r):Ba cx 70 a=some r.length:=by
 rcases h with⟨x,rfl,rfl|⟨rfl,rfl⟩⟩|⟨t,rfl,_⟩
 ·show (match cx.kind 70 with|some (.slice ..)=>some (Ax r).length|_=>none)=_
  rw[E3];simp[Ax]
 ·rfl
 ·exact Ash
theorem Aqq {σ:St}{a:AV}(l r:List UInt8)(hl:l.length=512)(ha:RecA σ a r)(hrl:r.length≤140737488351232):Aa Tryz.prog 70 [A6 l,a] σ fun r' σ'=>σ'=σ∧r'= .tup [A6 (He l r).1,Ad .i64 (He l r).2.1,Av (He l r).2.2]:=by
 rcases ha with⟨x,rfl,hx⟩|⟨t,rfl,ht⟩
 ·exact Apt l r x hl hx hrl σ
 ·exact aadd l r t hl hrl σ ht
theorem Ap.unmask {σ s:St}{t:Nat}{x:Option Ob}(h:Ap (σ.set t none) s)(hx:σ[t]? =some x):Ap σ (s.set t x):=by
 obtain⟨τ,rfl⟩:=h
 have hl:=Ac hx
 refine⟨τ,?_⟩
 rw[List.set_append_left _ _ (by simpa using hl),VH,Tz hx]
structure InsR (v v':Nat→List UInt8)(T T':Nat→Bool)(np:Nat)(ns ns':List Nat)(n k:Nat)(r:List UInt8):Prop where
 heap:Nn v' T' np ns'
 old:Iz v ns n k=none
 get:∀ n' k',Iz v' ns' n' k'=if n'=n∧k'=k then some r else Iz v ns n' k'
 tk:Tk (v' 0) np T'
 t0:T' 0=true
 mem:n∈ns'
 k1:1≤k
 pages:(ns'=ns∧T'=T∧v' 0=v 0)∨∃ m,T m=false∧m<np∧ns'=ns++[m]∧T'=D3 T m true
 oth:∀ m,m∉ns'→m≠0→v' m=v m
theorem Al0 {σ:St}{b p dd l kh first:Nat}{U:Nat→Prop}{P:Ak}{v:Nat→List UInt8}{T:Nat→Bool}{ns:List Nat}{a:AV}{r:List UInt8}(h:Bt σ b p dd l kh U P v)(hT:Tk (v 0) P.pages T)(hnp:P.pages≤3200)(hT0:T 0=true)(hh:Nn v T P.pages ns)(hf:ns[0]? =some first)(ha:RecA σ a r)(hr:r.length≤400)(hm:∀ t,N8 a=some t→¬ U t)(hb:Bud P 1):
 Aa Tryz.prog 40 [.mp b 2 0 0,Ad .i64 (first:Nat),a] σ fun q σ'=>∃ U' P' v',Fr σ σ' U U'∧Bt σ' b p dd l kh U' P' v'∧Kp P P' 0∧((∃ n k T' ns',q= .tup [.agg [Ad .i64 (n:Nat),Ad .i64 (k:Nat)],Ad .i64 0]∧InsR v v' T T' P.pages ns ns' n k r)∨((∀ n,n<P.pages→T n=true)∧q= .tup [.agg [Ad .i64 0,Ad .i64 0],Ad .i64 20]∧v'=v)):=by
 have hlt:=h.lt
 have hla:=ha.len
 have e1:decide ((r.length:Int)>400)=false:=by simp;omega
 have hnl:=hh.len
 have hnp1:1≤P.pages:=by have:=(hh.tk first (QG hf)).2.1;omega
 refine Ab Am An Tryz.func40 (by kernel_rfl) rfl (nt:=76) (rs:=[.cell 6 51,.tmp 7]) rfl rfl ?_
 repeat' simp only[↓wBA,tHi,seval,wH,hla,e1]
 obtain⟨S0,hS0⟩:∃ S0,S0=σ++[some (Ob.row 2 [[Ad .i64 0,Ad .i64 0]])]:=⟨_,rfl⟩
 have hb0:S0[σ.length]? =some (some (.row 2 [[Ad .i64 0,Ad .i64 0]])):=by rw[hS0];simp
 have hl0:S0.length=σ.length+1:=by rw[hS0];simp
 have ha0:=ha.ap (s:=S0) ⟨_,hS0⟩
 have h0:=h.ap (s:=S0) ⟨_,hS0⟩
 have f0:Fr σ S0 U U:=Ap.fr ⟨_,hS0⟩
 have hS1:σ++[some (Ob.row 2 [[AV.p (PV.v (Value.int IntKind.i64 0)),AV.p (PV.v (Value.int IntKind.i64 0))]])]=S0:=hS0.symm
 rw[hS1]
 refine Ar (X:={ q:Nat×Nat // q.1≤ns.length }) (fun q=>ns.length+1 - q.1.1) (fun q=>[(8,Ad .i64 (q.1.2:Nat))]) [7,9,10,11,12,13,14,15,26,27,28,29,30,31,32,33,34,35,36,37,38,39,40,41,42,43,44,45,46,47,48,49,50,51,52,53,54,55,56,57,58,59,60,61,62,63,64,65,66,67,68,69,70,71,72,73,74,75,76,77,78] (fun q s=>∃ U' P' v' T' ns',Fr S0 s U U'∧Bt s b p dd l kh U' P' v'∧Kp P P' 0∧Nn v' T' P.pages ns'∧(∀ n k,Iz v' ns' n k=Iz v ns n k)∧Tk (v' 0) P.pages T'∧T' 0=true∧ns'[q.1.1]? =some q.1.2∧((q.1.1<ns.length∧v'=v∧T'=T∧ns'=ns∧Kp P P' 0)∨(q.1.1=ns.length∧T q.1.2=false∧ns'=ns++[q.1.2]∧T'=D3 T q.1.2 true∧HPg (v' q.1.2) 0 []∧∀ m,m∉ns'→m≠0→v' m=v m))) (⟨(0,first),by omega⟩) ?_ ?_ ?_ ?_
 ·simp only[wHl,wHf]
 ·have hl0:0<ns.length:=by have:=(QC.1 hf).1;omega
  exact⟨U,P,v,T,ns,Fr.refl _ _,h0,Kp.refl P _,hh,fun _ _=>rfl,hT,hT0,hf,.inl ⟨hl0,rfl,rfl,rfl,Kp.refl P _⟩⟩
 ·rintro _ _ ⟨_,_,_,_,_,h,_⟩;exact h.len
 ·intro y J s hI
  simp only[wHl]
  obtain⟨⟨i,n⟩,hi⟩:=y
  obtain⟨U1,P1,v1,T1,ns1,f1,h1,k1,hh1,hrec,hT1,hT10,hni,hph⟩:=hI
  dsimp only at*
  obtain⟨ss,hp⟩:=hh1.ch.get hni
  have hpg:=k1.pages
  obtain⟨n1,n2,n3⟩:=hh1.tk n (QG hni)
  have hmU:∀ {s':St} {U':Nat→Prop},Fr S0 s' U U'→∀ t,N8 a=some t→¬ U' t:=fun f t ht e=>(f.own t e).elim (hm t ht) fun e=>by have:=ha.lt ht;omega
  have hbU:∀ {s':St} {U':Nat→Prop},Fr S0 s' U U'→¬ U' σ.length:=fun f e=>(f.own _ e).elim (fun e=>ZJ _ (hlt _ e)) fun e=>by omega
  have hget:∀ {s':St} {U':Nat→Prop},Fr S0 s' U U'→s'[σ.length]? =some (some (.row 2 [[Ad .i64 0,Ad .i64 0]])):=fun f=>f.get hb0 fun e=>ZJ _ (hlt _ e)
  have hrecA:∀ {s':St} {U':Nat→Prop},Fr S0 s' U U'→RecA s' a r:=fun f=>ha0.same fun t ht=>f.keep t (ha0.lt ht) (hm t ht)
  have hpl:=hp.len
  have hpc:=Ao hpl.1
  have z5:=Ao A7
  repeat' simp only[↓wBA,tHi,seval,wHl]
  refine (Ai4 h1 (by rw[hpg];exact n2) hp (hb.kp k1 (by omega))).mono ?_
  rintro _ s2 ⟨rfl,U2,P2,f2,h2,k2⟩
  have f12:=f1.trans f2
  have hQl:(He (v1 n) r).1.length=512:=D8 _ _
  have hQp:=Ao hQl
  have x2:=hget f12
  have y2:=Ac x2
  have hra:=(hrecA f12).ap (Ap.app s2 [some (.row 512 [Aq (v1 n)])])
  rcases hp.add r hr with hno|⟨hyes,hp'⟩
  ·have zP:=Ao Ai
   have hph1:i<ns.length∧v1=v∧T1=T∧ns1=ns∧Kp P P1 0:=by
    rcases hph with h|⟨hi1,_,hns,_,hp0,_⟩
    ·exact h
    ·exfalso
     have hnx:(ns1[i+1]?).getD 0=0:=by rw[hns,ZG (by simp;omega)];rfl
     rw[hnx]at hp
     exact hp0.room r hr hno
   obtain⟨hil,rfl,rfl,rfl,kk1⟩:=hph1
   have ha2:Ap s2 (s2++[some (.row 512 [Aq (v1 n)])]++[some (.row 512 [Aq Ah])]):=(Ap.app _ _).more _
   by_cases hnx:i+1<ns1.length
   ·obtain⟨n',hn'⟩:∃ n',ns1[i+1]? =some n':=⟨ns1[i+1],by simp⟩
    have hn1':=(hh1.tk n' (QG hn')).1
    rw[hn']at hp
    have hgd:(ns1[i+1]?).getD 0=n':=by rw[hn'];rfl
    have hnz:((n':Int)==0)=false:=by simp;omega
    repeat' first|simp only[↓wBA,tHi,seval,wH,wHl,A6,hpc,C6,z5,zP,hno,hgd,hnz]|((with_reducible show Aa _ _ _ _ _);refine (Aqq (v1 n) r hpl.1 hra (by omega)).eq ?_)
    refine⟨⟨(i+1,n'),by show i+1≤ns1.length;omega⟩,by show ns1.length+1 - (i+1)<ns1.length+1 - i;omega,⟨U2,P2,v1,T1,ns1,f12.trans ha2.fr,h2.ap ha2,k1.trans k2,hh1,fun _ _=>rfl,hT1,hT10,hn',.inl ⟨hnx,rfl,rfl,rfl,kk1.trans k2⟩⟩,by simp only[]⟩
   ·have hgd:(ns1[i+1]?).getD 0=0:=by rw[ZG (by omega)];rfl
    have hpp:=hp
    rw[hgd]at hpp
    have hil1:i=ns1.length - 1:=by omega
    repeat' first|simp only[↓wBA,tHi,seval,wH,wHl,A6,hpc,C6,z5,zP,hno,hgd]|((with_reducible show Aa _ _ _ _ _);refine (Aqq (v1 n) r hpl.1 hra (by omega)).eq ?_)
    have kk2:=kk1.trans k2
    refine (Awb (T:=T1) (h2.ap ha2) (by rw[k2.pages,hpg];exact hT1) (by rw[k2.pages,hpg];exact hnp) (by rw[k2.pages,hpg];exact hnp1) hT10 (hb.kp kk2 (by omega))).mono ?_
    rintro q s3 ⟨U3,P3,v3,f3,h3,k3,hc⟩
    have f13:=(f12.trans ha2.fr).trans f3
    have kk3:=kk2.trans k3
    have x3:=hget f13
    have y3:=Ac x3
    have l3:=f13.len
    rcases hc with⟨m,m1,m2,hTm,rfl,hpm,hvo,hTk⟩|⟨hall,rfl,rfl⟩
    ·rw[k2.pages,hpg]at m2 hTk
     have hlt2:=h2.lt
     have p3:=f3.get (t:=s2.length) (x:=some (.row 512 [Aq (v1 n)])) (by simp) (fun e=>ZJ _ (hlt2 _ e))
     have o3:=Ac p3
     have hSl:(Ls (v1 n) 0 (Es m)).1.length=512:=Pj _ _ _
     have hSp:=Ao hSl
     have hlk:=hpp.link (m:=m) (by omega)
     repeat' first|simp only[↓wBA,tHi,seval,Xu,wHl,hpc,p3]|(with_reducible refine dQ Xu 8 (some 64) ?_)
     refine (Awa m (by omega) _).mono ?_
     rintro _ s4 ⟨a4,rfl⟩
     have a4':=a4.unmask p3
     have l4:=a4.len
     simp only[ZW]at l4
     have o4:s2.length<s4.length:=by omega
     have h4:=h3.ap a4'
     repeat' first|simp only[↓wBA,tHi,seval,wH,wHl,A6,hpc,p3,o4,hSp]|((with_reducible show Aa _ _ _ _ _);refine (Av8 (v1 n) (Es m) 0 _ hpl.1 (.inl rfl) (by simp[Es]) _).eq ?_)
     have hU3:¬ U3 s2.length:=fun e=>(f3.own _ e).elim (fun e=>ZJ _ (hlt2 _ e)) fun e=>by simp at e;omega
     have h5:=h4.set hU3 (some (.row 512 [Aq (Ls (v1 n) 0 (Es m)).1]))
     rw[VH]at h5
     refine (Ai1 h5 n1 (by rw[k3.pages,k2.pages,hpg];exact n2) _ hSl hlk.len.2).mono ?_
     rintro _ s5 ⟨rfl,U5,f5,h5'⟩
     have f14:=(f13.trans a4'.fr).setN (t:=s2.length) (by have:=f12.len;omega) (some (.row 512 [Aq (Ls (v1 n) 0 (Es m)).1]))
     rw[VH]at f14
     have f15:=f14.trans f5
     repeat' simp only[↓wBA,tHi,seval,wHl]
     have hmn:m≠n:=fun e=>by rw[e,n3]at hTm;cases hTm
     have hvn:upV v3 n (Ls (v1 n) 0 (Es m)).1 n=(Ls (v1 n) 0 (Es m)).1:=by unfold upV;rw[if_pos rfl]
     have hvm:upV v3 n (Ls (v1 n) 0 (Es m)).1 m=v3 m:=by unfold upV;rw[if_neg hmn]
     have hv0:upV v3 n (Ls (v1 n) 0 (Es m)).1 0=v3 0:=by unfold upV;rw[if_neg (by omega)]
     obtain⟨hh2,hg2⟩:=hh1.grow (v':=upV v3 n (Ls (v1 n) 0 (Es m)).1) (by rw[← hil1];exact hni) hTm m1 m2 hpp (by rw[hvn];exact hlk) (by rw[hvm];exact hpm) fun q h1 h2 h3=>by unfold upV;rw[if_neg h2];exact hvo q h1 h3
     refine⟨⟨(i+1,m),by show i+1≤ns1.length;omega⟩,by show ns1.length+1 - (i+1)<ns1.length+1 - i;omega,⟨U5,P3,_,_,_,f15,h5',kk3,hh2,hg2,by rw[hv0];exact hTk,by unfold D3;rw[if_neg (by omega)];exact hT10,by show (ns1++[m])[i+1]? =some m;rw[QY (by omega)];simp[show i+1 - ns1.length=0 by omega],.inr ⟨by show i+1=ns1.length;omega,hTm,rfl,rfl,by rw[hvm];exact hpm,fun q hq hq0=> ?_⟩⟩,by simp only[]⟩
     have hq1:q≠m:=fun e=>hq (by subst e;simp)
     have hq2:q≠n:=fun e=>hq (by subst e;exact List.mem_append_left _ (QG hni))
     unfold upV;rw[if_neg hq2];exact hvo q hq1 hq0
    ·skip
     repeat' simp only[↓wBA,tHi,seval,wH,wHl,x3]
     all_goals refine rtS ?_
     all_goals simp only[wRe,tHi,seval,x3]
     exact⟨U3,P3,v3,f0.trans f13,h3,kk3,.inr ⟨fun q hq=>hall q (by rw[k2.pages,hpg];exact hq),rfl⟩⟩
  ·skip
   repeat' first|simp only[↓wBA,tHi,seval,wH,wHl,A6,hpc,C6,z5,hQp,hyes]|((with_reducible show Aa _ _ _ _ _);refine (Aqq (v1 n) r hpl.1 hra (by omega)).eq ?_)
   have ha2:Ap s2 (s2++[some (.row 512 [Aq (v1 n)])]++[some (.row 512 [Aq (He (v1 n) r).1])]):=(Ap.app _ _).more _
   refine (Ai1 (h2.ap ha2) n1 (by rw[k2.pages,hpg];exact n2) _ hQl hp'.len.2).mono ?_
   rintro _ s3 ⟨rfl,U3,f3,h3⟩
   have f13:=(f12.trans ha2.fr).trans f3
   have x3:=hget f13
   have y3:=Ac x3
   repeat' simp only[↓wBA,tHi,seval,wHl,x3]
   have l3:=f13.len
   all_goals refine rtS ?_
   all_goals simp only[wRe,tHi,seval,wH,y3]
   obtain⟨hh2,hget2⟩:=hh1.change hni hp rfl hp' (x:=some r) (Xt ss (C8 ss) (N3 ss) r)
   refine⟨U3,P2,_,(f0.trans f13).setN (QH _) _,h3.set (hbU f13) _,k1.trans k2,.inl ⟨n,C8 ss+1,T1,ns1,rfl,hh2,?_,fun n' k'=> ?_,?_,hT10,QG hni,by omega,?_,fun m hm1 hm0=> ?_⟩⟩
   ·rw[← hrec]
    unfold Iz
    rw[if_pos (QG hni),hp.recOf,Ai3]
   ·rw[hget2,hrec]
   ·unfold upV;rw[if_neg (by omega)];exact hT1
   ·rcases hph with⟨_,rfl,rfl,rfl,_⟩|⟨_,hTn,rfl,rfl,_,_⟩
    ·exact .inl ⟨rfl,rfl,by unfold upV;rw[if_neg (by omega)]⟩
    ·exact .inr ⟨n,hTn,n2,rfl,rfl⟩
   ·have hmn:m≠n:=fun e=>hm1 (by subst e;exact QG hni)
    unfold upV;rw[if_neg hmn]
    rcases hph with⟨_,rfl,_⟩|⟨_,_,_,_,_,ho⟩
    ·rfl
    ·exact ho m hm1 hm0
def tHj:=aa wX <| aa wbu <| aa T3 <| aa T4 <| aa T29 <| aa T38 <| aa T51 <| aa T70 Y1
section
variable {σ:St} {b p dd l kh n k nx:Nat} {U:Nat→Prop} {P:Ak} {v:Nat→List UInt8} {ss:List (Option (List UInt8))} {r:List UInt8}
theorem ahat (h:Bt σ b p dd l kh U P v)(hn:n<P.pages)(hp:HPg (v n) nx ss)(hb:Bud P 1)(hg:Ip (v n) (k:Nat)=some r)(hk1:1≤k):
 Aa Tryz.prog 98 [.mp b 2 0 0,.agg [Ad .i64 (n:Nat),Ad .i64 (k:Nat)]] σ fun q σ'=>q= .tup [A6 (v n),.p (recP (some r)),Ad .i64 0]∧∃ U' P',Fr σ σ' U U'∧Bt σ' b p dd l kh U' P' v∧Kp P P' 0:=by
 have hl:=hp.len.1
 have hpc:=Ao hl
 have z5:=Ao A7
 have hlt:=h.lt
 have hnz:((k:Int)==0)=false:=by simp;omega
 refine Ab Am An Tryz.func98 (by kernel_rfl) rfl (nt:=42) (rs:=[.cell 4 151,.tmp 5,.tmp 6]) rfl rfl ?_
 repeat' simp only[↓wBA,tHj,seval,wH,C6]
 obtain⟨S0,hS0⟩:∃ S0,S0=σ++[some (Ob.row 2 [[AV.p (.v (.int .i64 (n:Nat))),AV.p (.v (.int .i64 (k:Nat)))]])]++[some (Ob.row 512 [Aq C3])]:=⟨_,rfl⟩
 have aS:Ap σ S0:=by rw[hS0];exact (Ap.app _ _).more _
 have hb0:S0[σ.length]? =some (some (Ob.row 2 [[AV.p (.v (.int .i64 (n:Nat))),AV.p (.v (.int .i64 (k:Nat)))]])):=by rw[hS0];simp
 have hb1:S0[σ.length+1]? =some (some (Ob.row 512 [Aq C3])):=by rw[hS0];simp
 have hl0:S0.length=σ.length+2:=by rw[hS0];simp
 rw[← hS0]
 refine (Ai4 (h.ap aS) hn hp hb).mono ?_
 rintro _ s2 ⟨rfl,U2,P2,f2,h2,k2⟩
 have x2:=f2.get hb0 (fun e=>ZJ _ (hlt _ e))
 have x3:=f2.get hb1 (fun e=>by have:=hlt _ e;omega)
 have y2:=Ac x2
 have y3:=Ac x3
 have hU2:∀ t,t<S0.length→σ.length≤t→¬ U2 t:=fun t h1 h3 e=>(f2.own t e).elim (fun e=>by have:=hlt t e;omega) fun e=>by omega
 repeat' first|simp only[↓wBA,tHj,seval,wH,A6,hpc,C6,z5,x2,y2,x3,y3,hg,hnz,WX]|((with_reducible show Aa _ _ _ _ _);refine (aget (v n) (k:Nat) hl _).eq ?_)
 all_goals refine rtS ?_
 all_goals simp only[wRe,tHj,seval,wH,hpc,y3]
 refine⟨U2,P2,(((Ap.fr aS).trans f2).setN (by omega) _).app _,(h2.set (hU2 _ (by omega) (by omega)) _).ap (Ap.app _ _),k2⟩
theorem Awc (h:Bt σ b p dd l kh U P v)(hn:n<P.pages)(hp:HPg (v n) nx ss)(hb:Bud P 1)(hg:Ip (v n) (k:Nat)=some r)(hk1:1≤k):
 Aa Tryz.prog 51 [.mp b 2 0 0,.agg [Ad .i64 (n:Nat),Ad .i64 (k:Nat)]] σ fun q σ'=>q= .tup [.p (recP (some r)),Ad .i64 0]∧∃ U' P',Fr σ σ' U U'∧Bt σ' b p dd l kh U' P' v∧Kp P P' 0:=by
 have hl:=hp.len.1
 have hpc:=Ao hl
 have z5:=Ao A7
 refine Ab Am An Tryz.func51 (by kernel_rfl) rfl (nt:=16) (rs:=[.tmp 4,.tmp 5]) rfl rfl ?_
 repeat' simp only[↓wBA,tHj,seval,wH]
 have aS:=Ap.app σ [some (Ob.row 2 [[AV.p (.v (.int .i64 (n:Nat))),AV.p (.v (.int .i64 (k:Nat)))]])]
 refine (ahat (h.ap aS) hn hp hb hg hk1).mono ?_
 rintro _ s2 ⟨rfl,U2,P2,f2,h2,k2⟩
 have l2:=f2.len
 simp only[QE,QF,QI]at l2
 repeat' simp only[↓wBA,tHj,seval,wH,A6,hpc,C6,z5]
 all_goals refine rtS ?_
 all_goals simp only[wRe,tHj,seval]
 exact⟨U2,P2,((Ap.fr aS).trans f2).app _,h2.ap (Ap.app _ _),k2⟩
theorem A1q (h:Bt σ b p dd l kh U P v)(hn0:1≤n)(hn:n<P.pages)(hp:HPg (v n) nx ss)(hb:Bud P 1)(hg:Ip (v n) (k:Nat)=some r)(hk1:1≤k){x:PV}{r':List UInt8}(hx:BX x r')(hrl:r'.length≤r.length):
 Aa Tryz.prog 55 [.mp b 2 0 0,.agg [Ad .i64 (n:Nat),Ad .i64 (k:Nat)],.p x] σ fun q σ'=>q=Ad .i64 0∧∃ U' P',Fr σ σ' U U'∧Bt σ' b p dd l kh U' P' (upV v n (Ls (v n) (k:Nat) r').1)∧Kp P P' 0:=by
 have hl:=hp.len.1
 have hpc:=Ao hl
 have z5:=Ao A7
 have hlt:=h.lt
 obtain⟨j,rfl⟩:∃ j,k=j+1:=⟨k - 1,by omega⟩
 have hgs:ss.getD j none=some r:=by rw[← hp.at];exact hg
 have hp':=(hp.set hgs r' hrl).2
 have hr4:=hp.le r (D9 hgs)
 have hSl:=hp'.len.1
 have hSp:=Ao hSl
 have hla:Ba cx 70 (.p x)=some r'.length:=RecA.len (σ:=σ) (.inl ⟨x,rfl,hx⟩)
 have hlb:Ba cx 70 (.p (.sl 1 (Ax r)))=some r.length:=RecA.len (σ:=σ) (.inl ⟨_,rfl,.inl rfl⟩)
 have e1:decide ((r'.length:Int)>(r.length:Int))=false:=by simp;omega
 refine Ab Am An Tryz.func55 (by kernel_rfl) rfl (nt:=35) (rs:=[.tmp 6]) rfl rfl ?_
 repeat' simp only[↓wBA,tHj,seval,wH]
 have aS:=Ap.app σ [some (Ob.row 2 [[AV.p (.v (.int .i64 (n:Nat))),AV.p (.v (.int .i64 (j+1:Nat)))]])]
 refine (ahat (h.ap aS) hn hp hb hg hk1).mono ?_
 rintro _ s2 ⟨rfl,U2,P2,f2,h2,k2⟩
 have l2:=f2.len
 simp only[QE,QF,QI]at l2
 have x2:=f2.get (t:=σ.length) (x:=some (.row 2 [[AV.p (.v (.int .i64 (n:Nat))),AV.p (.v (.int .i64 (j+1:Nat)))]])) (by simp) (fun e=>ZJ _ (hlt _ e))
 have y2:=Ac x2
 repeat' first|simp only[↓wBA,tHj,seval,wH,A6,hpc,C6,z5,x2,y2,recP,hla,hlb,e1,hSp]|((with_reducible show Aa _ _ _ _ _);refine (Av8 (v n) r' (j+1:Nat) x hl hx (by omega) _).eq ?_)
 have a3:=Ap.app s2 [some (Ob.row 512 [Aq (Ls (v n) ((j+1:Nat):Int) r').1])]
 refine (Ai1 (h2.ap a3) hn0 (by rw[k2.pages];exact hn) _ hSl hp'.len.2).mono ?_
 rintro _ s5 ⟨rfl,U5,f5,h5⟩
 have l5:=f5.len
 simp only[QE,QF,QI]at l5
 repeat' simp only[↓wBA,tHj,seval]
 all_goals refine rtS ?_
 all_goals simp only[wRe,tHj,seval]
 exact⟨U5,P2,(((Ap.fr aS).trans f2).trans (Ap.fr a3)).trans f5,h5,k2⟩
end
