/- More of the page's contracts on the machine: Set, Drop, Kind, a record that may be written. Heaps, told by their pages: the plain part. Heaps: chains of pages. -/
import Derived.Test.YthhbnenaihkggaaGreatM19
import Derived.Test.YthhbnenaihkggaaGreatM20
import Derived.Test.YthhbnenaihkggaaGreatM33
set_option linter.unusedSimpArgs false
set_option linter.unusedVariables false
set_option linter.defProp false
set_option maxRecDepth 100000
set_option maxHeartbeats 32000000
namespace Go.Proofs.YthhbnenaihkggaaGreat
open Go.RowKit
open List (getD_eq_getElem?_getD getElem?_set length_cons map_cons mem_of_getElem? nodup_cons sum_cons)
def bRow (r:List UInt8):List (List AV):=r.map fun b=>[.p (byteP b)]
theorem asetP (l r:List UInt8)(k:Int)(x:PV)(hl:l.length=512)(hx:BX x r)(hrl:r.length≤140737488351232)(σ:St):ACalls Tryz.prog 78 [pageA l,intV .i64 k,.p x] σ fun r' σ'=>σ'=σ∧r'= .tup [pageA (setL l k r).1,boolV (setL l k r).2]:=
 ACalls.of_calls (en _ (by kernel_rfl)) fun M vs hM hv=>by
  obtain⟨u,v,z,rfl,h1,h2,h3⟩:=rep3 hv
  rw[page_rep h1,rep_int h2]
  exact (set_any l k r z _ hl (hx.bytes h3) hrl).mono fun e w' ⟨h1,h2⟩=>⟨_,_,fun _ _=>False,h1,h2,fun _ _ h=>h.elim,tup2 (page_mk _) (rep_mk rfl),rfl⟩
theorem adropP (l:List UInt8)(k:Int)(hl:l.length=512)(σ:St):ACalls Tryz.prog 81 [pageA l,intV .i64 k] σ fun r' σ'=>σ'=σ∧r'= .tup [pageA (dropL l k).1,boolV (dropL l k).2]:=
 ACalls.of_calls (en _ (by kernel_rfl)) fun M vs hM hv=>by
  obtain⟨u,v,rfl,h1,h2⟩:=rep2 hv
  rw[page_rep h1,rep_int h2]
  exact (drop_any l k _ hl).mono fun e w' ⟨h1,h2⟩=>⟨_,_,fun _ _=>False,h1,h2,fun _ _ h=>h.elim,tup2 (page_mk _) (rep_mk rfl),rfl⟩
theorem akind (l:List UInt8)(hl:l.length=512)(σ:St):ACalls Tryz.prog 112 [pageA l] σ fun r σ'=>σ'=σ∧r=intV .i64 (kindL l):=
 ACalls.of_calls (en _ (by kernel_rfl)) fun M vs hM hv=>by
  obtain⟨u,rfl,h1⟩:=rep1 hv
  rw[page_rep h1]
  exact (kind_any l _ hl).mono fun e w' ⟨h1,h2⟩=>⟨_,_,fun _ _=>False,h1,h2,fun _ _ h=>h.elim,rep_mk rfl,rfl⟩
def num2 (k:Nat):List UInt8:=[UInt8.ofNat k,UInt8.ofNat (k / 256)]
theorem num2_len (k:Nat):(num2 k).length=2:=rfl
theorem num2_dec {k:Nat}(h:k<65536):(UInt8.ofNat k).toNat+256*(UInt8.ofNat (k / 256)).toNat=k:=by
 rw[UInt8.toNat_ofNat',UInt8.toNat_ofNat'];omega
theorem putL_getD (ss:List (Option (List UInt8)))(k:Nat)(hk:k≤ss.length)(r:List UInt8)(j:Nat):(putL ss k r).getD j none=if j=k then some r else ss.getD j none:=by
 unfold putL
 by_cases h:k=ss.length
 ·rw[if_pos h]
  subst h
  by_cases e:j=ss.length
  ·subst e;simp
  ·rw[if_neg e]
   by_cases hlt:j<ss.length
   ·have:¬ ss.length=j:=fun e'=>e e'.symm
    simp[getD_eq_getElem?_getD,getElem?_set,this,List.getElem?_append_left hlt]
   ·have:¬ ss.length=j:=fun e'=>e e'.symm
    simp only[getD_eq_getElem?_getD,getElem?_set,if_neg this]
    rw[List.getElem?_eq_none (by simp;omega),List.getElem?_eq_none (by omega)]
 ·rw[if_neg h]
  by_cases e:j=k
  ·subst e
   have:j<ss.length:=by omega
   simp[getD_eq_getElem?_getD,getElem?_set,this]
  ·have:¬ k=j:=fun e'=>e e'.symm
   simp[getD_eq_getElem?_getD,getElem?_set,this,e]
theorem freeL_cons (x:List UInt8)(ss:List (Option (List UInt8))):freeL (some x::ss)=freeL ss+1:=by
 unfold freeL
 rw[List.findIdx_cons]
 rfl
theorem putL_cons (x:Option (List UInt8))(ss:List (Option (List UInt8)))(k:Nat)(r:List UInt8):putL (x::ss) (k+1) r=x::putL ss k r:=by
 unfold putL
 by_cases h:k=ss.length
 ·subst h;simp
 ·have:¬ k+1=(x::ss).length:=fun e=>h (by simpa using e)
  rw[if_neg this,if_neg h];rfl
theorem freeL_get (ss:List (Option (List UInt8))):ss.getD (freeL ss) none=none:=by
 unfold freeL
 by_cases h:ss.findIdx (·.isNone)<ss.length
 ·have h1:=List.findIdx_getElem (p:=fun x:Option (List UInt8)=>x.isNone) (w:=h)
  rw[getD_eq_getElem?_getD,List.getElem?_eq_getElem h]
  simpa using h1
 ·rw[getD_eq_getElem?_getD,List.getElem?_eq_none (by omega)];rfl
theorem lens_set_none:∀ (ss:List (Option (List UInt8))) (k:Nat),lens (ss.set k none)≤lens ss
 |[],k=>by simp
 |x::ss,0=>by simp[lens,recLen]
 |x::ss,k+1=>by
  have:=lens_set_none ss k
  simp only[lens,List.set_cons_succ,map_cons,sum_cons]at this ⊢
  omega
theorem lens_set_rec:∀ (ss:List (Option (List UInt8))) (k:Nat) (o r:List UInt8),ss.getD k none=some o→r.length≤o.length→lens (ss.set k (some r))≤lens ss
 |[],k,o,r,h,_=>by simp at h
 |x::ss,0,o,r,h,hl=>by
  simp at h;subst h
  simp[lens,recLen];omega
 |x::ss,k+1,o,r,h,hl=>by
  have:=lens_set_rec ss k o r (by simpa using h) hl
  simp only[lens,List.set_cons_succ,map_cons,sum_cons]at this ⊢
  omega
theorem trimL_getD':∀ (ss:List (Option (List UInt8))) (i:Nat),(trimL ss).getD i none=ss.getD i none
 |[],i=>rfl
 |none::r,i=>by
  rw[show trimL (none::r)=if trimL r=[]then []else none::trimL r from rfl]
  split
  ·rename_i h
   cases i with
   |zero=>rfl
   |succ i=>
    have:=trimL_getD' r i
    rw[h]at this
    simpa using this
  ·cases i with
   |zero=>rfl
   |succ i=>simpa using trimL_getD' r i
 |some x::r,i=>by
  cases i with
  |zero=>rfl
  |succ i=>simpa [trimL]using trimL_getD' r i
structure HPg (l:List UInt8)(nx:Nat)(ss:List (Option (List UInt8))):Prop where
 pg:Pg l 1 (some (num2 nx)::ss)
 le:∀ r,some r∈ss→r.length≤400
 nx:nx<65536
theorem HPg.at {l:List UInt8}{nx:Nat}{ss:List (Option (List UInt8))}(h:HPg l nx ss)(k:Nat):getL l ((k+1:Nat):Int)=ss.getD k none:=by
 rw[h.pg.get,if_neg (by omega)]
 simp
theorem HPg.zero {l:List UInt8}{nx:Nat}{ss:List (Option (List UInt8))}(h:HPg l nx ss):getL l 0=some (num2 nx):=by
 rw[h.pg.get,if_neg (by omega)];rfl
theorem mem_of_getD {ss:List (Option (List UInt8))}{k:Nat}{r:List UInt8}(h:ss.getD k none=some r):some r∈ss:=by
 rw[getD_eq_getElem?_getD]at h
 cases hk:ss[k]? with
 |none=>rw[hk]at h;simp at h
 |some x=>rw[hk]at h;simp at h;subst h;exact mem_of_getElem? hk
theorem mem_getD {ss:List (Option (List UInt8))}{r:List UInt8}(h:some r∈ss):∃ k,ss.getD k none=some r:=by
 obtain⟨k,hk⟩:=List.getElem?_of_mem h
 exact⟨k,by rw[getD_eq_getElem?_getD,hk];rfl⟩
theorem HPg.add {l:List UInt8}{nx:Nat}{ss:List (Option (List UInt8))}(h:HPg l nx ss)(r:List UInt8)(hr:r.length≤400):
 (addL l r=(zeroPage,0,false))∨((addL l r).2=(((freeL ss+1:Nat):Int),true)∧HPg (addL l r).1 nx (putL ss (freeL ss) r)):=by
 by_cases hc:costL (putL (some (num2 nx)::ss) (freeL (some (num2 nx)::ss)) r)≤496
 ·obtain⟨h1,h2,h3⟩:=h.pg.add r hr hc
  rw[freeL_cons]at h1
  rw[freeL_cons,putL_cons]at h3
  refine .inr ⟨Prod.ext h1 h2,⟨h3,fun x hx=> ?_,h.nx⟩⟩
  obtain⟨k,hk⟩:=mem_getD hx
  rw[putL_getD _ _ (freeL_le ss)]at hk
  split at hk
  ·simp only[Option.some.injEq]at hk;subst hk;exact hr
  ·exact h.le x (mem_of_getD hk)
 ·exact .inl (h.pg.add_not r (.inr (by omega)))
theorem HPg.room {l:List UInt8}{nx:Nat}(h:HPg l nx [])(r:List UInt8)(hr:r.length≤400):addL l r≠(zeroPage,0,false):=fun e=>by
 have hc:costL (putL (some (num2 nx)::[]) (freeL (some (num2 nx)::[])) r)≤496:=by
  rw[freeL_cons,putL_cons]
  simp[freeL,putL,costL,lens,recLen,num2];omega
 have:=(h.pg.add r hr hc).2.1
 rw[e]at this;cases this
theorem HPg.set {l:List UInt8}{nx:Nat}{ss:List (Option (List UInt8))}(h:HPg l nx ss){k:Nat}{o:List UInt8}(hk:ss.getD k none=some o)(r:List UInt8)(hr:r.length≤o.length):
 (setL l ((k+1:Nat):Int) r).2=true∧HPg (setL l ((k+1:Nat):Int) r).1 nx (ss.set k (some r)):=by
 have ho:=h.le o (mem_of_getD hk)
 have hkl:k<ss.length:=by
  rcases Nat.lt_or_ge k ss.length with h|h
  ·exact h
  ·rw[getD_eq_getElem?_getD,List.getElem?_eq_none h]at hk;simp at hk
 have hp:putL (some (num2 nx)::ss) (k+1) r=some (num2 nx)::ss.set k (some r):=by
  rw[putL_cons];unfold putL;rw[if_neg (by omega)]
 have hc:costL (putL (some (num2 nx)::ss) (k+1) r)≤496:=by
  rw[hp]
  have h1:=lens_set_rec ss k o r hk hr
  have h2:=h.pg.cost
  simp only[costL,length_cons,List.length_set,lens,map_cons,sum_cons]at h1 h2 ⊢
  omega
 have hpp:=h.pg.put (k+1) (by simp;omega) r (by omega) hc
 rw[hp]at hpp
 have he:setL l ((k+1:Nat):Int) r=putPage (kindL l) (slotsL l) (k+1) r:=by
  unfold setL
  rw[if_neg (by rw[h.at k,hk];simp),Int.toNat_natCast]
 rw[he]
 refine⟨hpp.1,hpp.2,fun x hx=> ?_,h.nx⟩
 obtain⟨j,hj⟩:=mem_getD hx
 by_cases e:k=j
 ·subst e
  rw[getD_eq_getElem?_getD,getElem?_set,if_pos rfl,if_pos hkl]at hj
  simp at hj;subst hj;omega
 ·rw[getD_eq_getElem?_getD,getElem?_set,if_neg e,←getD_eq_getElem?_getD]at hj
  exact h.le x (mem_of_getD hj)
theorem HPg.link {l:List UInt8}{nx:Nat}{ss:List (Option (List UInt8))}(h:HPg l nx ss){m:Nat}(hm:m<65536):HPg (setL l 0 (num2 m)).1 m ss:=by
 have hp:putL (some (num2 nx)::ss) 0 (num2 m)=some (num2 m)::ss:=by
  unfold putL;rw[if_neg (by simp)];rfl
 have hc:costL (putL (some (num2 nx)::ss) 0 (num2 m))≤496:=by
  rw[hp]
  have h2:=h.pg.cost
  simp only[costL,length_cons,lens,map_cons,sum_cons,recLen,num2_len]at h2 ⊢
  omega
 have hpp:=h.pg.put 0 (by simp) (num2 m) (by simp[num2]) hc
 rw[hp]at hpp
 have he:setL l 0 (num2 m)=putPage (kindL l) (slotsL l) 0 (num2 m):=by
  unfold setL
  rw[if_neg (by rw[h.zero];simp)];rfl
 rw[he]
 exact⟨hpp.2,h.le,hm⟩
theorem HPg.made {m:Nat}:HPg (addL (newL 1) (num2 0)).1 0 []:=by
 have hc:costL (putL [] (freeL []) (num2 0))≤496:=by simp[freeL,putL,costL,lens,recLen,num2]
 obtain⟨_,_,h3⟩:=(Pg.new 1).add (num2 0) (by simp[num2]) hc
 exact⟨h3,by simp,by omega⟩
theorem HPg.drop {l:List UInt8}{nx:Nat}{ss:List (Option (List UInt8))}(h:HPg l nx ss){k:Nat}{o:List UInt8}(hk:ss.getD k none=some o):
 (dropL l ((k+1:Nat):Int)).2=true∧HPg (dropL l ((k+1:Nat):Int)).1 nx (trimL (ss.set k none)):=by
 have hc:costL ((some (num2 nx)::ss).set (k+1) none)≤496:=by
  have h1:=lens_set_none ss k
  have h2:=h.pg.cost
  simp only[costL,length_cons,List.length_set,lens,map_cons,sum_cons,List.set_cons_succ]at h1 h2 ⊢
  omega
 have he:dropL l ((k+1:Nat):Int)=(madeL 1 ((some (num2 nx)::ss).set (k+1) none),true):=by
  unfold dropL
  rw[h.pg.slots,h.pg.kind,Int.toNat_natCast,if_neg]
  rw[h.at k,hk];simp;simpa using hc
 rw[he]
 have hp:=Pg.made 1 (by omega) (by omega) ((some (num2 nx)::ss).set (k+1) none) hc
 have ht:trimL ((some (num2 nx)::ss).set (k+1) none)=some (num2 nx)::trimL (ss.set k none):=rfl
 rw[ht]at hp
 refine⟨rfl,hp,fun x hx=> ?_,h.nx⟩
 obtain⟨j,hj⟩:=mem_getD hx
 rw[trimL_getD']at hj
 by_cases e:k=j
 ·subst e
  rw[getD_eq_getElem?_getD,getElem?_set,if_pos rfl]at hj
  split at hj<;>simp at hj
 ·rw[getD_eq_getElem?_getD,getElem?_set,if_neg e,←getD_eq_getElem?_getD]at hj
  exact h.le x (mem_of_getD hj)
theorem HPg.len {l:List UInt8}{nx:Nat}{ss:List (Option (List UInt8))}(h:HPg l nx ss):l.length=512∧pgz l=l:=⟨h.pg.len,slots_nz (by rw[h.pg.slots];simp)⟩
def Chain (v:Nat→List UInt8):List Nat→Prop
 |[]=>True
 |n::ns=>(∃ ss,HPg (v n) ((ns[0]?).getD 0) ss)∧Chain v ns
theorem Chain.get {v:Nat→List UInt8}:∀ {ns:List Nat} {i n:Nat},Chain v ns→ns[i]? =some n→∃ ss,HPg (v n) ((ns[i+1]?).getD 0) ss
 |[],i,n,_,h=>by simp at h
 |m::ns,0,n,hc,h=>by
  simp at h;subst h
  obtain⟨ss,h⟩:=hc.1
  exact⟨ss,by simpa using h⟩
 |m::ns,i+1,n,hc,h=>by
  have:=Chain.get (i:=i) hc.2 (by simpa using h)
  simpa using this
theorem Chain.congr {v v':Nat→List UInt8}:∀ {ns:List Nat},(∀ n∈ns,v' n=v n)→Chain v ns→Chain v' ns
 |[],_,_=>trivial
 |m::ns,h,hc=>⟨by rw[h m (by simp)];exact hc.1,Chain.congr (fun n hn=>h n (by simp[hn])) hc.2⟩
theorem Chain.up {v:Nat→List UInt8}{pg:List UInt8}{ss:List (Option (List UInt8))}:∀ {ns:List Nat} {i n:Nat},ns.Nodup→Chain v ns→ns[i]? =some n→HPg pg ((ns[i+1]?).getD 0) ss→Chain (upV v n pg) ns
 |[],i,n,_,_,h,_=>by simp at h
 |m::ns,0,n,hd,hc,h,hp=>by
  simp at h;subst h
  have hm:=(nodup_cons.1 hd).1
  refine⟨⟨ss,by unfold upV;rw[if_pos rfl];simpa using hp⟩,Chain.congr (fun q hq=> ?_) hc.2⟩
  unfold upV;rw[if_neg (fun e=>hm (by subst e;exact hq))]
 |m::ns,i+1,n,hd,hc,h,hp=>by
  have hm:=nodup_cons.1 hd
  have hn:n∈ns:=mem_of_getElem? (by simpa using h:ns[i]? =some n)
  refine⟨?_,Chain.up hm.2 hc.2 (i:=i) (by simpa using h) (by simpa using hp)⟩
  have:¬ m=n:=fun e=>hm.1 (by subst e;exact hn)
  unfold upV;rw[if_neg this];exact hc.1
theorem Chain.snoc {v v':Nat→List UInt8}{m:Nat}{ss':List (Option (List UInt8))}:∀ {ns:List Nat} {n:Nat} {ss:List (Option (List UInt8))},ns.Nodup→Chain v ns→ns[ns.length - 1]? =some n→(∀ q∈ns,q≠n→v' q=v q)→HPg (v' n) m ss→HPg (v' m) 0 ss'→Chain v' (ns++[m])
 |[],n,ss,_,_,h,_,_,_=>by simp at h
 |[a],n,ss,_,_,h,_,h1,h2=>by
  simp at h;subst h
  exact⟨⟨ss,h1⟩,⟨ss',h2⟩,trivial⟩
 |a::b::ns,n,ss,hd,hc,h,hv,h1,h2=>by
  have hm:=nodup_cons.1 hd
  have hl:(b::ns)[(b::ns).length - 1]? =some n:=by simpa using h
  have hn:n∈b::ns:=mem_of_getElem? hl
  have ha:a≠n:=fun e=>hm.1 (by subst e;exact hn)
  refine⟨?_,Chain.snoc hm.2 hc.2 hl (fun q hq=>hv q (by simp at hq ⊢;right;exact hq)) h1 h2⟩
  rw[hv a (by simp) ha]
  exact hc.1
structure Heap (v:Nat→List UInt8)(T:Nat→Bool)(np:Nat)(ns:List Nat):Prop where
 ne:ns≠[]
 nd:ns.Nodup
 tk:∀ n∈ns,1≤n∧n<np∧T n=true
 ch:Chain v ns
def recOf (v:Nat→List UInt8)(n k:Nat):Option (List UInt8):=if k=0 then none else getL (v n) (k:Int)
def HRec (v:Nat→List UInt8)(ns:List Nat)(n k:Nat):Option (List UInt8):=if n∈ns then recOf v n k else none
theorem HPg.recOf {v:Nat→List UInt8}{n nx:Nat}{ss:List (Option (List UInt8))}(h:HPg (v n) nx ss)(k:Nat):recOf v n (k+1)=ss.getD k none:=by
 unfold Go.Proofs.YthhbnenaihkggaaGreat.recOf
 rw[if_neg (by omega)]
 exact h.at k
theorem recOf_zero (v:Nat→List UInt8)(n:Nat):recOf v n 0=none:=by unfold recOf;rw[if_pos rfl]
theorem Heap.len {v:Nat→List UInt8}{T:Nat→Bool}{np:Nat}{ns:List Nat}(h:Heap v T np ns):ns.length≤np:=len_le_of_lt np ns h.nd fun x hx=>(h.tk x hx).2.1
theorem Heap.change {v:Nat→List UInt8}{T:Nat→Bool}{np i n k nx:Nat}{ns:List Nat}{pg:List UInt8}{ss ss':List (Option (List UInt8))}{x:Option (List UInt8)}(h:Heap v T np ns)(hi:ns[i]? =some n)(hp:HPg (v n) nx ss)(hnx:nx=(ns[i+1]?).getD 0)(hp':HPg pg nx ss')(hs:∀ j,ss'.getD j none=if j=k then x else ss.getD j none):
 Heap (upV v n pg) T np ns∧∀ n' k',HRec (upV v n pg) ns n' k'=if n'=n∧k'=k+1 then x else HRec v ns n' k':=by
 subst hnx
 refine⟨⟨h.ne,h.nd,h.tk,Chain.up h.nd h.ch hi hp'⟩,fun n' k'=> ?_⟩
 have hn:n∈ns:=mem_of_getElem? hi
 unfold HRec
 by_cases e:n'=n
 ·subst e
  rw[if_pos hn,if_pos hn]
  cases k' with
  |zero=>rw[recOf_zero,recOf_zero,if_neg (by omega)]
  |succ k'=>
   have hq:HPg (upV v n' pg n') ((ns[i+1]?).getD 0) ss':=by unfold upV;rw[if_pos rfl];exact hp'
   rw[hq.recOf,hp.recOf,hs]
   by_cases e2:k'=k
   ·subst e2;simp
   ·have:¬ (k'+1=k+1):=by omega
    simp[e2]
 ·have h1:¬ (n'=n∧k'=k+1):=fun h=>e h.1
  rw[if_neg h1]
  have:recOf (upV v n pg) n' k'=recOf v n' k':=by unfold recOf upV;rw[if_neg e]
  rw[this]
theorem Heap.grow {v v':Nat→List UInt8}{T:Nat→Bool}{np n m:Nat}{ns:List Nat}{ss:List (Option (List UInt8))}(h:Heap v T np ns)(hl:ns[ns.length - 1]? =some n)(hm:T m=false)(hm1:1≤m)(hm2:m<np)(hp:HPg (v n) 0 ss)(hn':HPg (v' n) m ss)(hm':HPg (v' m) 0 [])(hv:∀ q,q≠m→q≠n→q≠0→v' q=v q):
 Heap v' (updT T m true) np (ns++[m])∧∀ n' k',HRec v' (ns++[m]) n' k'=HRec v ns n' k':=by
 have hmn:∀ q∈ns,q≠m:=fun q hq e=>by have:=(h.tk q hq).2.2;rw[e,hm]at this;cases this
 have hq:∀ q∈ns,q≠n→v' q=v q:=fun q hq hqn=>hv q (hmn q hq) hqn (by have:=(h.tk q hq).1;omega)
 refine⟨⟨by simp,List.nodup_append.2 ⟨h.nd,by simp,fun a ha b hb=>by simp at hb;subst hb;exact hmn a ha⟩,fun q hq'=> ?_,Chain.snoc h.nd h.ch hl hq hn' hm'⟩,fun n' k'=> ?_⟩
 ·rcases List.mem_append.1 hq' with hq'|hq'
  ·obtain⟨h1,h2,h3⟩:=h.tk q hq'
   exact⟨h1,h2,by unfold updT;split<;>simp_all⟩
  ·simp at hq';subst hq';exact⟨hm1,hm2,by simp[updT]⟩
 ·unfold HRec
  by_cases e:n'∈ns
  ·rw[if_pos (by simp[e]),if_pos e]
   by_cases e2:n'=n
   ·subst e2
    cases k' with
    |zero=>rw[recOf_zero,recOf_zero]
    |succ k'=>rw[hn'.recOf,hp.recOf]
   ·unfold recOf;rw[hq n' e e2]
  ·rw[if_neg e]
   by_cases e2:n'=m
   ·subst e2
    rw[if_pos (by simp)]
    cases k' with
    |zero=>rw[recOf_zero]
    |succ k'=>rw[hm'.recOf];simp
   ·rw[if_neg (by simp[e,e2])]
theorem Heap.other {v v':Nat→List UInt8}{T T':Nat→Bool}{np:Nat}{ns:List Nat}(h:Heap v T np ns)(hv:∀ n∈ns,v' n=v n)(hT:∀ n∈ns,T' n=T n):Heap v' T' np ns∧∀ n k,HRec v' ns n k=HRec v ns n k:=by
 refine⟨⟨h.ne,h.nd,fun n hn=>by rw[hT n hn];exact h.tk n hn,Chain.congr hv h.ch⟩,fun n k=> ?_⟩
 unfold HRec
 split
 ·rename_i hn;unfold recOf;rw[hv n hn]
 ·rfl
end Go.Proofs.YthhbnenaihkggaaGreat
