/- A version is put into a table, plain. table.Mark. table.Find. An index is added to a table. -/
import Derived.Test.YtpoigihfeehehaaGreatDoorM45
import Derived.Test.YtpoigihfeehehaaGreatDoorM46
set_option linter.all false
set_option maxRecDepth 100000
set_option maxHeartbeats 32000000
namespace Go.Proofs.YtpoigihfeehehaaGreatDoor
open Go.RowKit
open List (getD_eq_getElem?_getD getElem?_append_left getElem?_map getElem?_of_mem length_append length_cons length_map length_nil length_take map_cons map_nil mem_append mem_map mem_of_getElem? mem_singleton)
structure TabI (v:Nat→List UInt8)(T:Nat→Bool)(np:Nat)(ns:List Nat)(E:List Ver)(e:Ver)(X Y:List Ixx)(i:Nat):Prop where
 st:Sto v T np ns (verR e::E.map verR) Y
 key:Y.map Rc=X.map Rc
 ent:∀ (j:Nat) (y:Ixx),Y[j]? =some y→y.L.Perm (if j<i then (e::E).map (Ra y.x.2.2.1)else E.map (Ra y.x.2.2.1))
 tk:Tk (v 0) np T
 t0:T 0=true
section
variable {v v':Nat→List UInt8} {T T':Nat→Bool} {np first w i:Nat} {ns ns':List Nat} {E:List Ver} {X Y:List Ixx} {e:Ver}
theorem TabI.len (h:TabI v T np ns E e X Y i):Y.length=X.length:=by
 have:=congrArg List.length h.key
 simpa using this
theorem TabI.at (h:TabI v T np ns E e X Y i){x:Ixx}(hx:X[i]? =some x):∃ y,Y[i]? =some y∧y.x=x.x∧y.root=x.root∧y.kd=x.kd:=by
 have h1:(Y.map Rc)[i]? =some (Rc x):=by rw[h.key,getElem?_map,hx];rfl
 rw[getElem?_map]at h1
 cases hy:Y[i]? with
 |none=>rw[hy]at h1;simp at h1
 |some y=>
  rw[hy]at h1
  simp only[Option.map_some,Option.some.injEq,Rc,Prod.mk.injEq]at h1
  exact⟨y,rfl,h1⟩
theorem TabI.cnt (h:TabI v T np ns E e X Y i)(hn:ns.length≤E.length+2):Go.Proofs.YtpoigihfeehehaaGreatDoor.cnt T np≤3+E.length+Mt X (E.length+1):=by
 have h1:=h.st.cnt
 have h2:=Vd (n:=E.length+1) (X:=Y) fun y hy=>⟨h.st.kd y hy,by
  obtain⟨j,hj⟩:=getElem?_of_mem hy
  rw[(h.ent j y hj).length_eq]
  split<;>simp⟩
 rw[Amn h.key]at h2
 omega
theorem Aj5 {α:Type}{l:List α}{i:Nat}{x:α}(h:l[i]? =some x):l=l.take i++x::l.drop (i+1):=by
 obtain⟨hl,rfl⟩:=List.getElem?_eq_some_iff.1 h
 rw[← List.drop_eq_getElem_cons hl,List.take_append_drop]
theorem Aq8 {α:Type}{l:List α}{i:Nat}{x y:α}(h:l[i]? =some x):l.set i y=l.take i++y::l.drop (i+1):=by
 obtain⟨hl,rfl⟩:=List.getElem?_eq_some_iff.1 h
 rw[List.set_eq_take_append_cons_drop,if_pos hl]
theorem TabI.step {y:Ixx}{ps':List Nat}{L':List Ent}(h:TabI v T np ns E e X Y i)(hy:Y[i]? =some y)(g:Mr v v' T T' np y.ps ps')(hI:y.kd.I v' T' np y.root ps' L')(hp:L'.Perm (Ra y.x.2.2.1 e::y.L)):
 TabI v' T' np ns E e X (Y.set i ⟨y.x,y.root,ps',y.kd,L'⟩) (i+1):=by
 have hil:=(List.getElem?_eq_some_iff.1 hy).1
 refine⟨?_,?_,fun j z hz=> ?_,g.w.tkk,g.w.t0⟩
 ·rw[Aq8 hy]
  have:=h.st
  rw[Aj5 hy]at this
  exact this.ins g hI
 ·rw[← h.key]
  apply List.ext_getElem?
  intro j
  rw[getElem?_map,getElem?_map,List.getElem?_set]
  split
  ·rename_i hij;subst hij;rw[hy];rfl
  ·rfl
 ·rw[List.getElem?_set]at hz
  split at hz
  ·rename_i hij;subst hij
   simp only[Option.some.injEq]at hz;subst hz
   have h1:=h.ent i y hy
   rw[if_neg (by omega)]at h1
   rw[if_pos (by omega),map_cons]
   exact hp.trans (h1.cons _)
  ·rename_i hij
   have h1:=h.ent j z hz
   by_cases hj:j<i
   ·rw[if_pos hj]at h1;rw[if_pos (by omega)];exact h1
   ·rw[if_neg hj]at h1;rw[if_neg (by omega)];exact h1
theorem TabI.fresh {y:Ixx}(h:TabI v T np ns E e X Y i)(hy:Y[i]? =some y)(hn:∀ x∈E,¬ x.1=e.1):Ra y.x.2.2.1 e∉y.L:=fun hm=>by
 have h1:=h.ent i y hy
 rw[if_neg (by omega)]at h1
 obtain⟨x,hx,he⟩:=mem_map.1 (h1.mem_iff.1 hm)
 unfold Ra at he
 simp only[Ent.mk.injEq]at he
 exact hn x hx (Prod.ext he.2.1 he.2.2)
theorem Tab.begin {n k:Nat}{made:Nat}{l:List Va}(h:Tab v T np first ns E X w)(g:InsR v v' T T' np ns ns' n k (rcB made 0 l)):TabI v' T' np ns' E ((n,k),(made,0),l) X X 0∧ns'.length≤E.length+2∧ns'[0]? =some first∧∀ x∈E,¬ x.1=(n,k):=by
 obtain⟨h1,h2⟩:=h.st.more g
 refine⟨⟨h1,rfl,fun j y hy=> ?_,g.tk,g.t0⟩,by have:=h.nl;omega,?_,fun x hx he=> ?_⟩
 ·rw[if_neg (by omega)]
  exact h.ent y (mem_of_getElem? hy)
 ·have hf:=h.f
  rcases g.pages with⟨e,_⟩|⟨m,_,_,e,_⟩<;>rw[e]
  ·exact hf
  ·rw[getElem?_append_left (List.getElem?_eq_some_iff.1 hf).1];exact hf
 ·have hm:verR x∈Jt v ns:=h.st.pm.mem_iff.2 (mem_map.2 ⟨x,hx,rfl⟩)
  obtain⟨⟨a,c⟩,r⟩:=x
  simp only[Prod.mk.injEq]at he
  obtain⟨rfl,rfl⟩:=he
  have:=(Ik h.st.hp _ _ _).1 hm
  rw[g.old]at this;cases this
theorem TabI.done (h:TabI v T np ns E e X Y X.length)(h0:ns[0]? =some first)(hnl:ns.length≤E.length+2)(hok:∀ x∈E,x.Ok∧x.2.2.length=w)(hoe:e.Ok∧e.2.2.length=w)(hso:E.Pairwise ltV)(hn:∀ x∈E,¬ x.1=e.1)(hc:∀ x∈X,x.x.2.2.1<w):Tab v T np first ns (insV e E) Y w:=by
 have hp:=Qr e E
 refine⟨⟨h.st.hp,h.st.pm.trans (hp.map verR).symm,h.st.kd,h.st.ix,h.st.nd,h.st.on⟩,h0,fun x hx=> ?_,Yl hso hn,fun y hy=> ?_,fun y hy=> ?_,by rw[hp.length_eq,length_cons];omega⟩
 ·rcases List.mem_cons.1 (hp.mem_iff.1 hx)with rfl|hx
  ·exact hoe
  ·exact hok x hx
 ·have h1:Rc y∈X.map Rc:=by rw[← h.key];exact mem_map.2 ⟨y,hy,rfl⟩
  obtain⟨x,hx,he⟩:=mem_map.1 h1
  unfold Rc at he
  simp only[Prod.mk.injEq]at he
  rw[← he.1];exact hc x hx
 ·obtain⟨j,hj⟩:=getElem?_of_mem hy
  have h1:=h.ent j y hj
  have hjl:=(List.getElem?_eq_some_iff.1 hj).1
  rw[if_pos (by have:=h.len;omega)]at h1
  exact h1.trans (hp.map _).symm
theorem Aj6 (hh:Nl v T np ns){n k:Nat}{r:List UInt8}(h:Jr v ns n k=some r):n<np∧k<256:=by
 unfold Jr at h
 split at h
 ·rename_i hn
  refine⟨(hh.tk n hn).2.1,?_⟩
  obtain⟨nx,ss,hp⟩:=hh.ch.mem hn
  unfold recOf at h
  split at h
  ·omega
  ·unfold I3 at h
   have hs:=E6 (v n)
   rw[if_neg (by omega),getD_eq_getElem?_getD]at h
   by_cases hk:k<(Av (v n)).length
   ·omega
   ·rw[List.getElem?_eq_none (by simpa using Nat.le_of_not_lt hk)]at h;simp at h
 ·cases h
end
section
variable {v:Nat→List UInt8} {T:Nat→Bool} {np first w n k:Nat} {ns:List Nat} {r rr:List UInt8} {E:List Ver} {X:List Ixx}
theorem Ac8 (h:Jr v ns n k=some r):n∈ns∧1≤k∧I3 (v n) (k:Nat)=some r:=by
 unfold Jr at h
 split at h
 ·rename_i hn
  unfold recOf at h
  split at h
  ·cases h
  ·exact⟨hn,by omega,h⟩
 ·cases h
theorem heap_set (hh:Nl v T np ns)(hr:Jr v ns n k=some r)(hl:rr.length≤r.length):
 Nl (upV v n (N4 (v n) (k:Nat) rr).1) T np ns∧∀ n' k',Jr (upV v n (N4 (v n) (k:Nat) rr).1) ns n' k'=if n'=n∧k'=k then some rr else Jr v ns n' k':=by
 obtain⟨hn,hk,hg⟩:=Ac8 hr
 obtain⟨kq,rfl⟩:∃ kq,k=kq+1:=⟨k - 1,by omega⟩
 obtain⟨ii,hii⟩:=getElem?_of_mem hn
 obtain⟨ss,hp⟩:=hh.ch.get hii
 have hgs:ss.getD kq none=some r:=by rw[← hp.at];exact hg
 have hkl:kq<ss.length:=by
  rcases Nat.lt_or_ge kq ss.length with h|h
  ·exact h
  ·rw[getD_eq_getElem?_getD,List.getElem?_eq_none h]at hgs;simp at hgs
 obtain⟨_,hp'⟩:=hp.set hgs rr hl
 exact hh.change hii hp rfl hp' (x:=some rr) (k:=kq) fun a=>by
  rw[getD_eq_getElem?_getD,List.getElem?_set]
  by_cases e:kq=a
  ·subst e;simp[hkl]
  ·have:¬ a=kq:=fun h=>e h.symm
   rw[if_neg e,if_neg this,←getD_eq_getElem?_getD]
theorem Aj7 {x y:Ver}(h:ltV x y):¬ x.1=y.1:=fun e=>by unfold ltV at h;rw[e]at h;omega
end
section
variable {σ:St} {b p dd l kh first w n k:Nat} {U:Nat→Prop} {P:Al} {v:Nat→List UInt8} {T:Nat→Bool} {ns:List Nat} {A B:List Ver} {X:List Ixx} {s0:AV}
end
def Ac9:Cv:=(.det 0 (.det 1 (.det 2 (.det 3 (.det 4 (.det 5 (.det 6 (.det 7 (.det 8 (.det 9 (.det 10 (.det 11 (.det 12 (.det 13 (.det 14 (.det 15 (.det 16 (.det 17 (.det 18 (.det 19 (.det 20 (.det 21 (.det 22 (.det 23 (.det 24 (.det 25 (.det 26 (.det 27 (.det 28 (.det 29 (.det 30 (.det 31 (.det 32 (.det 33 (.det 34 .done)))))))))))))))))))))))))))))))))))
def tT9:=aa wX <| aa wbu <| aa T3 <| aa T4 <| aa T24 <| aa T26 <| aa T29 <| aa T37 <| aa T38 <| aa T43 <| aa T46 <| aa T51 <| aa T54 <| aa T56 <| aa T62 <| aa T120 <| aa T124 T129
def plcC (y:Ver):List PV:=[.v (.int .i64 (y.1.1:Nat)),.v (.int .i64 (y.1.2:Nat))]
def Amv (c:Nat)(lo hi:Va)(O:List Ver)(y:Ver):List Ver:=if covV lo hi (y.2.2.getD c (0,0,emp))=true∧(O.any fun w=>decide (w.1=y.1))=false then O++[y]else O
def D9 (c:Nat)(lo hi:Va)(D:List Ver):List Ver:=D.foldl (Amv c lo hi) []
theorem Sv (c:Nat)(lo hi:Va)(D:List Ver)(y:Ver):D9 c lo hi (D++[y])=Amv c lo hi (D9 c lo hi D) y:=by
 unfold D9;rw[List.foldl_append];rfl
theorem Yp {α:Type}{p:List α→Prop}(h0:p [])(hs:∀ l a,p l→p (l++[a])):∀ n (l:List α),l.length=n→p l
 |0,l,h=>by rw[List.length_eq_zero_iff.1 h];exact h0
 |n+1,l,h=>by
  have hne:l≠[]:=fun e=>by rw[e]at h;simp at h
  have:=List.dropLast_concat_getLast hne
  rw[← this]
  exact hs _ _ (Yp h0 hs n _ (by rw[List.length_dropLast];omega))
theorem Aj8 (c:Nat)(lo hi:Va){E:List Ver}(hE:E.Pairwise ltV)(D:List Ver)(hD:∀ y∈D,y∈E):(∀ y,y∈D9 c lo hi D↔y∈D∧covV lo hi (y.2.2.getD c (0,0,emp))=true)∧(D9 c lo hi D).Pairwise (fun x y=>¬ x.1=y.1)∧(D9 c lo hi D).length≤D.length:=by
 have one:∀ x∈E,∀ y∈E,x.1=y.1→x=y:=fun x hx y hy e=>by
  obtain⟨i,hi⟩:=getElem?_of_mem hx
  obtain⟨j,hj⟩:=getElem?_of_mem hy
  obtain⟨hil,rfl⟩:=List.getElem?_eq_some_iff.1 hi
  obtain⟨hjl,rfl⟩:=List.getElem?_eq_some_iff.1 hj
  have hp:=List.pairwise_iff_getElem.1 hE
  rcases Nat.lt_trichotomy i j with h|h|h
  ·exact absurd e (Aj7 (hp i j hil hjl h))
  ·subst h;rfl
  ·exact absurd e.symm (Aj7 (hp j i hjl hil h))
 revert hD
 refine Yp (p:=fun D=>(∀ y∈D,y∈E)→(∀ y,y∈D9 c lo hi D↔y∈D∧covV lo hi (y.2.2.getD c (0,0,emp))=true)∧(D9 c lo hi D).Pairwise (fun x y=>¬ x.1=y.1)∧(D9 c lo hi D).length≤D.length) (fun _=>⟨by simp[D9],by simp[D9],by simp[D9]⟩) (fun D a ih hD=> ?_) _ D rfl
 obtain⟨h1,h2,h3⟩:=ih fun y hy=>hD y (by simp[hy])
 rw[Sv]
 unfold Amv
 split
 ·rename_i hc
  obtain⟨c1,c2⟩:=hc
  rw[List.any_eq_false]at c2
  refine⟨fun y=> ?_,List.pairwise_append.2 ⟨h2,by simp,fun x hx y hy=> ?_⟩,by simp;omega⟩
  ·simp only[mem_append,mem_singleton,h1]
   constructor
   ·rintro (⟨h,h'⟩|rfl)
    ·exact⟨.inl h,h'⟩
    ·exact⟨.inr rfl,c1⟩
   ·rintro⟨h|rfl,h'⟩
    ·exact .inl ⟨h,h'⟩
    ·exact .inr rfl
  ·simp only[mem_singleton]at hy;subst hy
   simpa using c2 x hx
 ·rename_i hc
  refine⟨fun y=> ?_,h2,by simp;omega⟩
  simp only[mem_append,mem_singleton,h1]
  constructor
  ·rintro⟨h,h'⟩;exact⟨.inl h,h'⟩
  ·rintro⟨h|rfl,h'⟩
   ·exact⟨h,h'⟩
   ·have:¬ (D9 c lo hi D).any (fun w=>decide (w.1=y.1))=false:=fun e=>hc ⟨h',e⟩
    rw[Bool.not_eq_false,List.any_eq_true]at this
    obtain⟨x,hx,he⟩:=this
    have hxE:=hD x (by simp[((h1 x).1 hx).1])
    have:=one x hxE y (hD y (by simp)) (by simpa using he)
    subst this
    exact (h1 x).1 hx
section
variable {σ:St} {b p dd l kh first w ix:Nat} {U:Nat→Prop} {P:Al} {v:Nat→List UInt8} {T:Nat→Bool} {ns:List Nat} {E:List Ver} {X:List Ixx}
theorem Aw9 {x:Ixx}{lo hi:Va}{D:List Ver}(h:Bt σ b p dd l kh U P v)(ht:Tab v T P.pages first ns E X w)(hb:Bud P 1)(hw:w≤255)(hx:X[ix]? =some x)(hxh:x.x.2.2.2=false)(nm tn:ByteArray)(cols:List (List PV))
 (hpl:∀ {s:St},Ap σ s→Aa Tryz.prog 50 [.mp b 2 0 0,Rb nm cols X first,Ad .i64 (ix:Nat),Aae tn (x.x.2.2.1:Nat) lo hi] s fun r σ'=>∃ (U':Nat→Prop) (P':Al),r= .tup [.p (lsP 2 (D.map plcC)),Ad .i64 0]∧Fr s σ' U U'∧Bt σ' b p dd l kh U' P' v∧Kp P P' 0) (hD:∀ y∈D,y∈E) (hDl:D.length≤200):
 Aa Tryz.prog 17 [.mp b 2 0 0,Rb nm cols X first,Ad .i64 (ix:Nat),Aae tn (x.x.2.2.1:Nat) lo hi] σ fun r σ'=>∃ (av:AV) (L:List Ver) (U':Nat→Prop) (P':Al),r= .tup [av,Ad .i64 0]∧Qc σ' av 5 (L.map E0)∧(∀ y,y∈L↔y∈D∧covV lo hi (y.2.2.getD x.x.2.2.1 (0,0,emp))=true)∧L.Pairwise ltV∧Fr σ σ' U U'∧Bt σ' b p dd l kh U' P' v∧Kp P P' 0∧∀ t,N8 av=some t→σ.length≤t∧¬ U' t:=by
 have hlt:=h.lt
 have hxm:=mem_of_getElem? hx
 have hcw:=ht.col x hxm
 have hXne:X≠[]:=fun e=>by rw[e]at hx;simp at hx
 have ez2:lsP 4 (X.map fun x=>Gm x.x)= .sl 4 (X.map fun x=>Gm x.x):=by unfold lsP;rw[if_neg (by simpa using hXne)]
 have hxl:=(List.getElem?_eq_some_iff.1 hx).1
 have hif:((ix:Int)<(X.length:Int))=True:=eq_true (by omega)
 have hge:decide ((ix:Int)≥(X.length:Int))=false:=decide_eq_false (by omega)
 have hlz:decide ((ix:Int)<0)=false:=decide_eq_false (by omega)
 have hi0:=nnI ix
 have hg:(X.map fun x=>Gm x.x)[ix]? =some (Gm x.x):=by rw[getElem?_map,hx];rfl
 obtain⟨LX,hLX⟩:∃ LX,LX=X.map fun x=>Gm x.x:=⟨_,rfl⟩
 have hLXl:LX.length=X.length:=by rw[hLX,length_map]
 obtain⟨z4,hz4⟩:∃ z,z=lsP 1 (X.map fun x=>[PV.v (.int .i64 (x.root:Nat))]):=⟨_,rfl⟩
 unfold Rb at hpl ⊢
 rw[ez2,←hz4]at hpl ⊢
 rw[← hLX]at hpl hg ⊢
 obtain⟨c,hc⟩:∃ c,c=x.x.2.2.1:=⟨_,rfl⟩
 simp only[Gm,hxh,←hc]at hg
 rw[← hc]at hpl hcw ⊢
 have hcc:((c:Int)==(c:Int))=true:=by simp
 have hcov:=fun (y:Ver) (va:Va) (hva:y.2.2[c]? =some va) (hl:y.2.2.length≤1000000) (s:St)=>Aq7 tn lo hi hva hl s
 obtain⟨lo1,lo2,lo3⟩:=lo
 obtain⟨hi1,hi2,hi3⟩:=hi
 obtain⟨zD,hzD⟩:∃ z,z=lsP 2 (D.map plcC):=⟨_,rfl⟩
 rw[← hzD]at hpl
 have hlaD:Bf cx 124 (.p zD)=some D.length:=by
  rw[hzD]
  unfold Bf lsP
  rw[Ko]
  by_cases h:D.map plcC=[]
  ·rw[if_pos h];rw[List.map_eq_nil_iff]at h;rw[h];rfl
  ·rw[if_neg h];simp[Br]
 simp only[Aae,Amu,map_cons,map_nil]at hpl hcov ⊢
 refine Ab Aju Aou Tryz.func17 (by kernel_rfl) rfl (nt:=104) (rs:=[.tmp 8,.tmp 9]) rfl rfl ?_
 repeat' first|simp only[↓wBA,tT9,seval,Ac9,wH,Q9,tyD,lenD,hge,hlz,hi0,hg,hLXl]|(with_reducible refine dQ Ac9 35 (some 20) ?_)
 refine (hpl ((Ap.app _ _).more _)).mono ?_
 rintro _ s1 ⟨U1,P1,rfl,f1,h1,k1⟩
 have l1:=f1.len
 simp only[length_append,length_cons,length_nil]at l1
 have x1:=f1.get (t:=σ.length+1) (x:=some (Ob.row 8 [[AV.p (.v (.string tn)),AV.p (.v (.int .i64 (c:Nat))),AV.p (.v (.int .i64 lo1)),AV.p (.v (.int .i64 lo2)),AV.p (.v (.string lo3)),AV.p (.v (.int .i64 hi1)),AV.p (.v (.int .i64 hi2)),AV.p (.v (.string hi3))]])) (by simp) (fun e=>by have:=hlt _ e;omega)
 have hU1:∀ t,σ.length≤t→t<σ.length+2→¬ U1 t:=fun t h1 h2 h3=>(f1.own t h3).elim (fun e=>by have:=hlt _ e;omega) fun e=>by simp at e;omega
 have y1:=Ac x1
 repeat' simp only[↓wBA,tT9,seval,lenD,hlaD]
 refine As (X:={ q:Nat×AV // q.1≤D.length }) (fun q=>D.length - q.1.1) (fun q=>[(12,q.1.2),(68,Ad .i64 (q.1.1:Nat))]) [8,9,14,15,16,17,69,70,71,72,73,74,75,76,77,78,79,80,81,82,83,84,85,86,87,88,89,90,91,92,93,94,95,96,97,98,99,100,101,102,103,104,105] (fun q s=>s1.length≤s.length∧∃ U' P',Fr s1 s U1 U'∧Bt s b p dd l kh U' P' v∧Kp P P' 0∧Qc s q.1.2 5 ((D9 c (lo1,lo2,lo3) (hi1,hi2,hi3) (D.take q.1.1)).map E0)∧∀ t,N8 q.1.2=some t→s1.length≤t∧¬ U' t) (⟨(0,.p (.v (.slice none 0 0))),by simp⟩) ?_ ?_ ?_ ?_
 ·simp only[wHl,wHf]
 ·exact⟨Nat.le_refl _,U1,P1,Fr.refl _ _,h1,k1,.inl ⟨rfl,rfl⟩,by simp[N8]⟩
 ·rintro _ _ ⟨h,_⟩;exact h
 ·intro y J s hI
  simp only[wHl]
  obtain⟨⟨i,av⟩,hi⟩:=y
  obtain⟨ls,U4,P4,f4,h4,k4,mu4,mo4⟩:=hI
  dsimp only at*
  have hi0':=nnI i
  have hwi:=wI i (by omega)
  have x4:=f4.get x1 (hU1 _ (by omega) (by omega))
  have y4:=Ac x4
  have u4:¬ U4 (σ.length+1):=fun e=>(f4.own _ e).elim (hU1 _ (by omega) (by omega)) fun e=>by omega
  have hlt4:=h4.lt
  obtain⟨fm1,fm2,fm3⟩:=Aj8 c (lo1,lo2,lo3) (hi1,hi2,hi3) ht.so (D.take i) fun y hy=>hD y (List.mem_of_mem_take hy)
  have fl:(D9 c (lo1,lo2,lo3) (hi1,hi2,hi3) (D.take i)).length≤200:=by rw[length_take]at fm3;omega
  by_cases hlt':i<D.length
  ·have e1:=dT (i:=i) (n:=D.length) hlt'
   obtain⟨y,hy⟩:∃ y,D[i]? =some y:=⟨D[i],by simp⟩
   have hyE:=hD y (mem_of_getElem? hy)
   obtain⟨⟨o1,o2,o3,o4,o5⟩,o6⟩:=ht.ok y hyE
   have htk:D.take (i+1)=D.take i++[y]:=by rw[List.take_add_one,hy];rfl
   have hfs:=Sv c (lo1,lo2,lo3) (hi1,hi2,hi3) (D.take i) y
   rw[← htk]at hfs
   unfold Amv at hfs
   obtain⟨O,hO⟩:∃ O,O=D9 c (lo1,lo2,lo3) (hi1,hi2,hi3) (D.take i):=⟨_,rfl⟩
   rw[← hO]at mu4 hfs fl
   have hDne:D≠[]:=fun e=>by rw[e]at hlt';simp at hlt'
   have ezD:zD= .sl 2 (D.map plcC):=by rw[hzD];unfold lsP;rw[if_neg (by simpa using hDne)]
   clear hzD
   subst ezD
   have hgD:(D.map plcC)[i]? =some (plcC y):=by rw[getElem?_map,hy];rfl
   have hif':((i:Int)<(D.length:Int))=True:=eq_true (by omega)
   obtain⟨LD,hLD⟩:∃ LD,LD=D.map plcC:=⟨_,rfl⟩
   have hLDl:LD.length=D.length:=by rw[hLD,length_map]
   rw[← hLD]at hgD hlaD ⊢
   have hrec:Jr v ns y.1.1 y.1.2=some (rcB y.2.1.1 y.2.1.2 y.2.2):=(Ik ht.st.hp _ _ _).1 (ht.st.pm.mem_iff.2 (mem_map.2 ⟨y,hyE,rfl⟩))
   obtain⟨g1,g2,g3⟩:=Ac8 hrec
   obtain⟨nx,ss,hp⟩:=ht.st.hp.ch.mem g1
   obtain⟨n1,n2,n3⟩:=ht.st.hp.tk _ g1
   obtain⟨va,hva⟩:∃ va,y.2.2[c]? =some va:=⟨y.2.2[c]'(by rw[o6];exact hcw),by simp⟩
   have hcv:=hcov y va hva (by omega)
   rw[show y.2.2.getD c (0,0,emp)=va by rw[getD_eq_getElem?_getD,hva];rfl]at hfs
   have hver:=Acs (p:=y.1.1) (s:=y.1.2) (m:=y.2.1.1) (t:=y.2.1.2) (by omega) (by omega) o3 o4 o5
   have hget:=fun {s':St} (hB:Bt s' b p dd l kh U4 P4 v)=>A06 (k:=y.1.2) hB (by rw[k4.pages];exact n2) hp (hb.kp (k:=1) k4 (by omega)) g3 g2
   obtain⟨⟨yn,yk⟩,⟨ym,yt⟩,yv⟩:=y
   dsimp only at*
   simp only[plcC]at hgD
   have hav:leaf av=true∧Ct av=some [av]:=mu4.lfT
   repeat' simp only[↓wBA,tT9,seval,wH,wHl,Q9,tyD,hi0',hgD,hif']
   refine (hget (h4.ap (Ap.app _ _))).mono ?_
   rintro _ s5 ⟨rfl,U5,P5,f5,h5,k5⟩
   have l5:=f5.len
   simp only[length_append,length_cons,length_nil]at l5
   have xr5:=f5.get (t:=s.length) (x:=some (Ob.row 2 [[AV.p (.v (.int .i64 (yn:Nat))),AV.p (.v (.int .i64 (yk:Nat)))]])) (by simp) (fun e=>Nat.lt_irrefl _ (hlt4 _ e))
   have yr5:=Ac xr5
   have x5:=f5.get ((Ap.app _ _).get x4) u4
   have y5:=Ac x5
   have f45:=f4.trans ((Ap.app _ _).fr.trans f5)
   have k45:=k4.trans k5
   have hlt5:=h5.lt
   have mu5:Qc s5 av 5 (O.map E0):=mu4.same fun t ht=>by
    rw[f5.keep t (by rw[length_append];have:=mu4.lt ht;omega) (mo4 t ht).2,getElem?_append_left (mu4.lt ht)]
   have mo5:∀ t,N8 av=some t→s1.length≤t∧¬ U5 t∧t<s5.length:=fun t ht=>⟨(mo4 t ht).1,fun e=>(f5.own t e).elim (mo4 t ht).2 fun e=>by rw[length_append]at e;have:=mu4.lt ht;omega,mu5.lt ht⟩
   simp only[recP]
   have next:∀ {s':St},Ap s5 s'→D9 c (lo1,lo2,lo3) (hi1,hi2,hi3) (D.take (i+1))=O→s1.length≤s'.length∧∃ U' P',Fr s1 s' U1 U'∧Bt s' b p dd l kh U' P' v∧Kp P P' 0∧Qc s' av 5 ((D9 c (lo1,lo2,lo3) (hi1,hi2,hi3) (D.take (i+1))).map E0)∧∀ t,N8 av=some t→s1.length≤t∧¬ U' t:=fun {s'} a hf=>by
    rw[hf]
    have:=a.len
    exact⟨by omega,U5,P5,f45.trans a.fr,h5.ap a,k45,mu5.same fun t ht=>by obtain⟨τ,rfl⟩:=a;exact getElem?_append_left (mo5 t ht).2.2,fun t ht=>⟨(mo5 t ht).1,(mo5 t ht).2.1⟩⟩
   have a6:=Ap.app s5 [some (Ob.row 5 [[AV.p (.v (.int .i64 (yn:Nat))),AV.p (.v (.int .i64 (yk:Nat))),AV.p (.v (.int .i64 (ym:Nat))),AV.p (.v (.int .i64 (yt:Nat))),AV.p (.sl 3 (enV yv))]])]
   cases hq:covV (lo1,lo2,lo3) (hi1,hi2,hi3) va with
   |false=>
    rw[hq]at hcv
    rw[hq]at hfs
    repeat' first|simp only[↓wBA,tT9,seval,wH,wHl,Q9,tyD,x5,y5,xr5,hwi]|((with_reducible show Aa _ _ _ _ _);first|refine (hver _).eq ?_|refine (hcv _).eq ?_)
    exact⟨⟨(i+1,av),by show i+1≤D.length;omega⟩,by show D.length - (i+1)<D.length - i;omega,⟨by omega,(next a6 (by rw[hfs,if_neg (by simp)])).2⟩,by simp only[]⟩
   |true=>
    rw[hq]at hcv
    rw[hq]at hfs
    have mu6:Qc (s5++[some (Ob.row 5 [[AV.p (.v (.int .i64 (yn:Nat))),AV.p (.v (.int .i64 (yk:Nat))),AV.p (.v (.int .i64 (ym:Nat))),AV.p (.v (.int .i64 (yt:Nat))),AV.p (.sl 3 (enV yv))]])]) av 5 (O.map E0):=mu5.same fun t ht=>getElem?_append_left (mo5 t ht).2.2
    have hcn:=Aw6 mu6 (by omega) (a6.get xr5)
    cases hany:O.any (fun w=>decide (w.1=(yn,yk)))with
    |true=>
     rw[hany]at hcn
     rw[hany]at hfs
     repeat' first|simp only[↓wBA,tT9,seval,wH,wHl,Q9,tyD,x5,y5,xr5,hwi]|((with_reducible show Aa _ _ _ _ _);first|refine (hver _).eq ?_|refine (hcv _).eq ?_|(refine hcn.mono ?_;rintro _ s7 ⟨a7,rfl⟩;have l7:=a7.len;simp only[length_append,length_cons,length_nil]at l7))
     exact⟨⟨(i+1,av),by show i+1≤D.length;omega⟩,by show D.length - (i+1)<D.length - i;omega,⟨by omega,(next (a6.trans a7) (by rw[hfs,if_neg (by simp)])).2⟩,by simp only[]⟩
    |false=>
     rw[hany]at hcn
     rw[hany,if_pos ⟨rfl,rfl⟩]at hfs
     repeat' first|simp only[↓wBA,tT9,seval,wH,wHl,Q9,tyD,x5,y5,xr5]|((with_reducible show Aa _ _ _ _ _);first|refine (hver _).eq ?_|refine (hcv _).eq ?_)
     refine hcn.mono ?_
     rintro _ s7 ⟨a7,rfl⟩
     have l7:=a7.len
     simp only[length_append,length_cons,length_nil]at l7
     have x7:=a7.get (t:=s5.length) (x:=some (Ob.row 5 [[AV.p (.v (.int .i64 (yn:Nat))),AV.p (.v (.int .i64 (yk:Nat))),AV.p (.v (.int .i64 (ym:Nat))),AV.p (.v (.int .i64 (yt:Nat))),AV.p (.sl 3 (enV yv))]])) (by simp)
     have y7:=Ac x7
     have mu7:Qc s7 av 5 (O.map E0):=mu5.same fun t ht=>by
      obtain⟨τ,hτ⟩:=a6.trans a7
      rw[hτ,getElem?_append_left (mo5 t ht).2.2]
     obtain⟨Z,hZ⟩:∃ Z,Z=s7++[some (Ob.right 62 5)]:=⟨_,rfl⟩
     have aZ:Ap s5 Z:=by rw[hZ];exact (a6.trans a7).more _
     have lZ:Z.length=s7.length+1:=by rw[hZ];simp
     have hOl:(O.map E0).length=O.length:=length_map ..
     obtain⟨q',hq',r1,r2,r3⟩:=Ais (C:=cxD) (q:=Z) (y:=.own s7.length 5 [verC ((yn,yk),(ym,yt),yv)]) (m:=[E0 ((yn,yk),(ym,yt),yv)]) ((Q9 _).trans Pm) (mu7.same fun t ht=>by rw[hZ];exact getElem?_append_left (mu7.lt ht)) rfl (by simp) (by rw[hOl];simp only[length_cons,length_nil];omega) (by rw[hOl];simp only[length_cons,length_nil];omega)
     rw[lZ,hOl]at hq'
     rw[lZ]at r1 r2 r3
     rw[hZ]at hq'
     simp only[verC]at hq'
     repeat' simp only[↓wBA,tT9,seval,wH,wHl,Q9,tyD,Awu,hwi,x7,hq']
     have hZk:∀ t,t<s5.length→Z[t]? =s5[t]? :=fun t ht=>by obtain⟨τ,hτ⟩:=aZ;rw[hτ,getElem?_append_left ht]
     have hqk:∀ t,t<s5.length→N8 av≠some t→q'[t]? =s5[t]? :=fun t h1 h2=>(r3 t (by omega) h2).trans (hZk t h1)
     have lf:=f45.len
     refine⟨⟨(i+1,.ms (s7.length+1) 5 0 (O.length+1)),by show i+1≤D.length;omega⟩,by show D.length - (i+1)<D.length - i;omega,⟨by omega,U5,P5,⟨by omega,fun t ht hn=> ?_,f45.own⟩,h5.same fun t ht=>hqk t (hlt5 t ht) fun e=>(mo5 t e).2.1 ht,k45,.inr ⟨s7.length+1,by rw[hfs];simp,by rw[hfs];simp,by rw[hfs,List.map_append];exact r1⟩,fun t ht=> ?_⟩,by simp only[]⟩
     ·rw[hqk t (by omega) (fun e=>by have:=(mo5 t e).1;omega)];exact f45.keep t ht hn
     ·simp only[N8,Option.some.injEq]at ht
      exact⟨by omega,fun hu=>by have:=hlt5 t hu;omega⟩
  ·obtain rfl:i=D.length:=by omega
   have e1:=dF (i:=D.length) (n:=D.length) hlt'
   rw[List.take_length]at mu4 fm1 fm2 fl
   repeat' simp only[↓wBA,tT9,seval,wHl,e1]
   refine (Ajt (by omega) mu4).mono ?_
   rintro av s5 ⟨rfl,L',hp,hs,hm5,l5,hk5⟩
   repeat' simp only[↓wBA,tT9,seval,wHl]
   all_goals refine rtS ?_
   all_goals simp only[A1.eq_1,Ak.eq_1,Ak.eq_2,Ax.eq_1,tT9,seval]
   have hdis:L'.Pairwise (fun x y=>¬ x.1=y.1):=(hp.pairwise_iff (fun h e=>h e.symm)).2 fm2
   have fr0:=(((Ap.app σ [_]).more [_]).fr.trans f1).trans f4
   have lf0:=fr0.len
   refine⟨_,L',U4,P4,rfl,hm5,fun y=>by rw[hp.mem_iff,fm1],(hs.and hdis).imp fun {x y} ⟨h1,h2⟩=> ?_,⟨by omega,fun t ht hn=>(hk5 t fun e=>by have:=(mo4 t e).1;omega).trans (fr0.keep t ht hn),fr0.own⟩,h4.same fun t ht=>hk5 t fun e=>(mo4 t e).2 ht,k4,fun t ht=>⟨by have:=(mo4 t ht).1;omega,(mo4 t ht).2⟩⟩
   have h3:¬ (x.1.1=y.1.1∧x.1.2=y.1.2):=fun ⟨a,c⟩=>h2 (Prod.ext a c)
   unfold leV at h1
   unfold ltV
   omega
end
def Ada:Cv:=(.det 0 (.det 3 (.det 4 (.det 5 (.det 6 (.det 7 (.det 8 (.det 9 (.det 10 (.det 12 (.det 13 (.act 1 (.det 2 (.act 11 (.fin 14 (.det 15 .done))))))))))))))))
def Lo:Cv:=(.det 0 (.det 1 (.det 2 (.det 3 (.det 4 (.det 5 (.two 6 (.det 7 (.act 8 (.fin 9 .done))) 8 (.act 6 (.det 7 (.fin 9 .done))))))))))
def Lp:Cv:=(.det 0 (.det 1 (.det 2 (.det 4 (.det 7 (.det 8 (.det 9 (.det 10 (.det 12 (.three 3 (.two 5 (.two 6 (.two 11 (.act 13 (.act 14 (.det 15 (.fin 16 (.det 17 .done))))) 13 (.act 11 (.act 14 (.det 15 (.fin 16 (.det 17 .done)))))) 13 (.act 6 (.act 11 (.act 14 (.det 15 (.fin 16 (.det 17 .done))))))) 13 (.act 5 (.act 6 (.act 11 (.act 14 (.det 15 (.fin 16 (.det 17 .done)))))))) 5 (.two 3 (.two 6 (.two 11 (.act 13 (.act 14 (.det 15 (.fin 16 (.det 17 .done))))) 13 (.act 11 (.act 14 (.det 15 (.fin 16 (.det 17 .done)))))) 13 (.act 6 (.act 11 (.act 14 (.det 15 (.fin 16 (.det 17 .done))))))) 13 (.act 3 (.act 6 (.act 11 (.act 14 (.det 15 (.fin 16 (.det 17 .done)))))))) 13 (.two 3 (.act 5 (.act 6 (.act 11 (.act 14 (.det 15 (.fin 16 (.det 17 .done))))))) 5 (.act 3 (.act 6 (.act 11 (.act 14 (.det 15 (.fin 16 (.det 17 .done))))))))))))))))))
def tTn:=aa wX <| aa wbu <| aa T3 <| aa T9 <| aa T24 <| aa T29 <| aa T37 <| aa T38 <| aa T40 <| aa T42 <| aa T43 <| aa T44 <| aa T46 <| aa T51 <| aa T54 <| aa T56 <| aa T62 <| aa T70 T111
theorem Mr.trans {v v1 v2:Nat→List UInt8}{T T1 T2:Nat→Bool}{np:Nat}{ps ps1 ps2:List Nat}(h:Mr v v1 T T1 np ps ps1)(k:Mr v1 v2 T1 T2 np ps1 ps2):Mr v v2 T T2 np ps ps2:=
 ⟨h.w.trans k.w,fun q hq=>k.sub q (h.sub q hq),fun q hq=>(k.tt q hq).elim (fun e=>(h.tt q e).imp id (k.sub q)) .inr⟩
theorem Qc.lenT {q:St}{av:AV}{E T:TypeId}{e es eb:Nat}{ez:List Value}{ls:List (List AV)}(hk:cx.kind T=some (.slice E es eb ez))(h:Qc q av e ls):Bf cx T av=some ls.length:=by
 unfold Bf
 rw[hk]
 rcases h with⟨rfl,rfl⟩|⟨t,rfl,_,_⟩<;>rfl
theorem Ao0 (e:Nat){ls:List (List PV)}(h:ls≠[]):lsP e ls= .sl e ls∧True:=⟨by unfold lsP;rw[if_neg h],trivial⟩
theorem Amw (X:List Ixx)(y:Ixx)(n:Nat):Mt (X++[y]) n=Mt X n+y.kd.B n:=by simp[Mt]
theorem Aq9 {x y:Ver}(h:ltV x y):¬ x.1=y.1:=fun e=>by unfold ltV at h;rw[e]at h;omega
section
variable {σ:St} {b p dd l kh first w:Nat} {U:Nat→Prop} {P:Al} {v:Nat→List UInt8} {T:Nat→Bool} {ns:List Nat} {E:List Ver} {X:List Ixx}
theorem A14 {k:Kd}{x:Idx}(h:Bt σ b p dd l kh U P v)(hT:Tk (v 0) P.pages T)(hnp:P.pages≤3200)(hT0:T 0=true)(ht:Tab v T P.pages first ns E X w)(hb:Bud P 1)(hE:E.length≤60)(hk:KdOk k)(hof:∀ σ,Aa Tryz.prog 43 [idxA x] σ fun r s=>s=σ∧r=k.tool)(hx:x.2.2.1<w)(hroom:2+E.length+Mt X E.length+2*k.B E.length≤P.pages)(nm:ByteArray){cols:List (List PV)}(hc0:cols≠[])(hcl:cols.length≤1000000)(hXl:X.length≤1000):
 Aa Tryz.prog 15 [.mp b 2 0 0,Rb nm cols X first,idxA x] σ fun r σ'=>∃ (root:Nat) (ps:List Nat) (L:List Ent) (U':Nat→Prop) (P':Al) (v':Nat→List UInt8) (T':Nat→Bool),r= .tup [Rb nm cols (X++[⟨x,root,ps,k,L⟩]) first,Ad .i64 0]∧Fr σ σ' U U'∧Bt σ' b p dd l kh U' P' v'∧Kp P P' 0∧Tk (v' 0) P.pages T'∧T' 0=true∧Tab v' T' P.pages first ns E (X++[⟨x,root,ps,k,L⟩]) w:=by
 refine Aa.frz ?_
 have hlt:=h.lt
 have hcc:=Aw3 hc0 hcl
 have hnl:=ht.nl
 obtain⟨d,hd⟩:=hk.tl
 rw[hd]at hof
 have hxw:=hx
 obtain⟨xx,hxx⟩:∃ xx,xx=x:=⟨_,rfl⟩
 obtain⟨xn,xt,xc,xh⟩:=x
 simp only at hxw
 simp only[idxA,Gm,map_cons,map_nil]at hof ⊢
 unfold Rb
 obtain⟨z2,hz2⟩:∃ z,z=lsP 4 (X.map fun x=>Gm x.x):=⟨_,rfl⟩
 obtain⟨z4,hz4⟩:∃ z,z=lsP 1 (X.map fun x=>[PV.v (.int .i64 (x.root:Nat))]):=⟨_,rfl⟩
 rw[← hz2,←hz4]
 refine Ab Am Ao Tryz.func15 (by kernel_rfl) rfl (nt:=81) (rs:=[.cell 6 46,.tmp 7]) rfl rfl ?_
 repeat' first|simp only[↓wBA,tTn,seval,wH]|with_reducible refine And.intro ?_ ?_
 obtain⟨S0,hS0⟩:∃ S0,S0=σ++[some (Ob.row 5 [[AV.p (.v (.string nm)),AV.p (.sl 4 cols),AV.p z2,AV.p (.v (.int .i64 (first:Nat))),AV.p z4]])]++[some (Ob.row 4 [[AV.p (.v (.string xn)),AV.p (.v (.string xt)),AV.p (.v (.int .i64 (xc:Nat))),AV.p (.v (.bool xh))]])]++[some (Ob.row 5 [[AV.p (.v (.string { data:= #[] })),AV.p (.v (.slice none 0 0)),AV.p (.v (.slice none 0 0)),AV.p (.v (.int .i64 0)),AV.p (.v (.slice none 0 0))]])]:=⟨_,rfl⟩
 have a0:Ap σ S0:=by rw[hS0];exact ((Ap.app _ _).more _).more _
 have l0:S0.length=σ.length+3:=by rw[hS0];simp
 have x00:S0[σ.length]? =some (some (Ob.row 5 [[AV.p (.v (.string nm)),AV.p (.sl 4 cols),AV.p z2,AV.p (.v (.int .i64 (first:Nat))),AV.p z4]])):=by rw[hS0];simp
 have x01:S0[σ.length+1]? =some (some (Ob.row 4 [[AV.p (.v (.string xn)),AV.p (.v (.string xt)),AV.p (.v (.int .i64 (xc:Nat))),AV.p (.v (.bool xh))]])):=by rw[hS0];simp
 have x02:S0[σ.length+2]? =some (some (Ob.row 5 [[AV.p (.v (.string { data:= #[] })),AV.p (.v (.slice none 0 0)),AV.p (.v (.slice none 0 0)),AV.p (.v (.int .i64 0)),AV.p (.v (.slice none 0 0))]])):=by rw[hS0];simp
 rw[← hS0]
 refine (Awx (h.ap a0) ht.th ht.f hb (by omega) _ _ _ _).mono ?_
 rintro _ s1 ⟨av,U1,P1,rfl,hm1,f1,h1,k1,hms1⟩
 have hpg1:=k1.pages
 have l1:=f1.len
 have hU0:∀ t,σ.length≤t→¬ U t:=fun t h1 h2=>by have:=hlt t h2;omega
 have x10:=f1.get x00 (hU0 _ (by omega))
 have x11:=f1.get x01 (hU0 _ (by omega))
 have x12:=f1.get x02 (hU0 _ (by omega))
 have hla:Bf cx 56 av=some E.length:=by rw[hm1.lenT Pm,length_map]
 have y10:=Ac x10
 have y11:=Ac x11
 have y12:=Ac x12
 repeat' first|simp only[↓wBA,tTn,seval,x11]|((with_reducible show Aa _ _ _ _ _);refine (hof _).eq ?_)|with_reducible refine And.intro ?_ ?_
 have hc0':Go.Proofs.YtpoigihfeehehaaGreatDoor.cnt T P1.pages+k.B 0≤P1.pages:=by
  rw[hpg1]
  have:=ht.cnt
  have:=hk.mono 0 E.length (by omega)
  omega
 refine (hk.mkC h1 (by rw[hpg1];exact hT) (by rw[hpg1];exact hnp) hT0 (hb.kp k1 (by omega)) hc0').mono ?_
 rintro _ s3 ⟨root,ps3,U3,P3,v3,T3,rfl,f3,h3,k3,g3,hI3⟩
 rw[hpg1]at g3 hI3
 have hpg3:=k3.pages.trans hpg1
 have l3:=f3.len
 have hb3:=hb.kp (k1.trans k3) (k:=1) (by omega)
 have hU1:∀ t,σ.length≤t→t<S0.length→¬ U1 t:=fun t h1 h2 h3=>(f1.own t h3).elim (hU0 t h1) fun e=>by omega
 have x30:=f3.get x10 (hU1 _ (by omega) (by omega))
 have x31:=f3.get x11 (hU1 _ (by omega) (by omega))
 have x32:=f3.get x12 (hU1 _ (by omega) (by omega))
 have hU3:∀ t,σ.length≤t→t<s1.length→¬ U1 t→¬ U3 t:=fun t h1 h2 h3 h4=>(f3.own t h4).elim h3 fun e=>by omega
 have hrow:∀ t,N8 av=some t→s3[t]? =some (some (.row 5 (E.map E0)))∧S0.length≤t∧t<s1.length∧¬ U3 t:=fun t hav=>by
  obtain⟨h1,h2⟩:=hms1 t hav
  have h3:=hm1.lt hav
  rcases hm1 with⟨rfl,_⟩|⟨t',rfl,_,hr⟩
  ·cases hav
  ·simp only[N8,Option.some.injEq]at hav;subst hav
   exact⟨f3.get hr h2,h1,h3,hU3 _ (by omega) h3 h2⟩
 have y30:=Ac x30
 have y31:=Ac x31
 have y32:=Ac x32
 repeat' first|simp only[↓wBA,tTn,seval,hla]|with_reducible refine And.intro ?_ ?_
 refine As (X:={ i:Nat // i≤E.length }) (fun i=>E.length - i.1) (fun i=>[(9,Ad .i64 0),(34,Ad .i64 (i.1:Nat))]) [12,35,36,37,38,39,40,41,42,43,44,45,46,47,48,49,50,51,52,53,54,55] (fun i s=>s3.length≤s.length∧∃ U' P' v' T' ps L,Fr s3 s U3 U'∧Bt s b p dd l kh U' P' v'∧Kp P P' 0∧Mr v v' T T' P.pages [] ps∧k.I v' T' P.pages root ps L∧L.Perm ((E.take i.1).map (Ra xc))) (⟨0,by omega⟩) ?_ ?_ ?_ ?_
 ·simp only[wHl,wHf]
 ·exact⟨Nat.le_refl _,U3,P3,v3,T3,ps3,[],Fr.refl _ _,h3,k1.trans k3,g3,hI3,by simp⟩
 ·rintro _ _ ⟨h,_⟩;exact h
 ·intro y J s hI
  simp only[wHl]
  obtain⟨i,hi⟩:=y
  obtain⟨ls,U4,P4,v4,T4,ps4,L4,f4,h4,k4,g4,hI4,hp4⟩:=hI
  dsimp only at*
  have hi0:=nnI i
  have hwi:=wI i (by omega)
  have hpg4:=k4.pages
  have x40:=f4.get x30 (hU3 _ (by omega) (by omega) (hU1 _ (by omega) (by omega)))
  have x41:=f4.get x31 (hU3 _ (by omega) (by omega) (hU1 _ (by omega) (by omega)))
  have x42:=f4.get x32 (hU3 _ (by omega) (by omega) (hU1 _ (by omega) (by omega)))
  have y40:=Ac x40
  have y41:=Ac x41
  have y42:=Ac x42
  have hst4:=ht.st.add (x:=xx) g4 hk hI4
  by_cases hlt':i<E.length
  ·have e1:=dT (i:=i) (n:=E.length) hlt'
   obtain⟨e,he⟩:∃ e,E[i]? =some e:=⟨E[i],by simp⟩
   have hem:=mem_of_getElem? he
   obtain⟨⟨o1,o2,o3,o4,o5⟩,o6⟩:=ht.ok e hem
   have htk:E.take (i+1)=E.take i++[e]:=by rw[List.take_add_one,he];rfl
   obtain⟨n,k',hpl⟩:∃ n k',e.1=(n,k'):=⟨_,_,rfl⟩
   have hrec:Jr v ns n k'=some (rcB e.2.1.1 e.2.1.2 e.2.2):=(Ik ht.st.hp _ _ _).1 (ht.st.pm.mem_iff.2 (mem_map.2 ⟨e,hem,by unfold verR;rw[hpl]⟩))
   obtain⟨b1,b2⟩:=Aj6 ht.st.hp hrec
   obtain⟨va,hva⟩:∃ va,e.2.2[xc]? =some va:=⟨e.2.2[xc]'(by rw[o6];exact hxw),by simp⟩
   have hvo:=o3 va (mem_of_getElem? hva)
   have hkey:=Aac hvo
   have hent:Ra xc e=⟨Gk va,n,k'⟩:=by unfold Ra;rw[hpl,getD_eq_getElem?_getD,hva];rfl
   obtain⟨tl,rfl⟩:∃ tl,av= .ms tl 5 0 E.length:=by
    rcases hm1 with⟨_,h⟩|⟨t,h,_⟩
    ·have:=congrArg List.length h;rw[length_map]at this;simp only[length_nil]at this;omega
    ·exact⟨t,by simpa using h⟩
   obtain⟨r3,r4,r5,r6⟩:=hrow tl rfl
   have x43:=f4.get r3 r6
   have y43:=Ac x43
   have hg:(E.map E0)[i]? =some (E0 e):=by rw[getElem?_map,he];rfl
   have hxc:(enV e.2.2)[xc]? =some (vaC va):=by
    have h1:=Qj e.2.2 xc (by omega)
    rw[h1]
    congr 2
    exact (List.getElem?_eq_some_iff.1 hva).2
   have hif:((i:Int)<(E.length:Int))=True:=eq_true (by omega)
   have hx0:=nnI xc
   obtain⟨⟨en,ek⟩,⟨em,et⟩,evs⟩:=e
   simp only at o1 o2 o3 o4 o5 o6 hva hxc hpl
   simp only[Prod.mk.injEq]at hpl
   obtain⟨rfl,rfl⟩:=hpl
   obtain⟨vk,vn,vx⟩:=va
   simp only[E0,verC,map_cons,map_nil]at hg
   simp only[vaA,vaC,map_cons,map_nil]at hkey hxc
   repeat' first|simp only[↓wBA,tTn,seval,Ada,wH,wHl,hi0,hg,hif,hx0,hxc,x41,x43,y41]|((with_reducible show Aa _ _ _ _ _);first|refine (hof _).eq ?_|refine (hkey _).eq ?_)|(with_reducible refine dQ Ada 16 (some 40) ?_)|with_reducible refine And.intro ?_ ?_
   have hst5:Go.Proofs.YtpoigihfeehehaaGreatDoor.cnt T4 P.pages≤1+ns.length+Mt X E.length+k.B E.length:=by
    have q1:=hst4.cnt
    have q2:=Vd (n:=E.length) (X:=X++[⟨xx,root,ps4,k,L4⟩]) fun y hy=>⟨hst4.kd y hy,by
     rcases mem_append.1 hy with hy|hy
     ·rw[(ht.ent y hy).length_eq,length_map];exact Nat.le_refl _
     ·simp only[mem_singleton]at hy;subst hy
      rw[hp4.length_eq,length_map,length_take];omega⟩
    rw[Amw]at q2
    dsimp only at q2
    omega
   have hL4:L4.length=i:=by rw[hp4.length_eq,length_map,length_take];omega
   have hmn:=hk.mono (i+1) E.length (by omega)
   have hke:=Uy hvo
   have hnot:(⟨Gk (vk,vn,vx),en,ek⟩:Ent)∉L4:=fun hm=>by
    obtain⟨x,hx,hxe⟩:=mem_map.1 (hp4.mem_iff.1 hm)
    have hpw:(E.take (i+1)).Pairwise ltV:=ht.so.sublist (List.take_sublist _ _)
    rw[htk]at hpw
    have:=(List.pairwise_append.1 hpw).2.2 x hx _ (mem_singleton.2 rfl)
    unfold Ra at hxe
    simp only[Ent.mk.injEq]at hxe
    exact Aq9 this (Prod.ext hxe.2.1 hxe.2.2)
   refine (hk.insC (e:=⟨Gk (vk,vn,vx),en,ek⟩) (h4.ap (Ap.app _ _)) (by rw[hpg4];exact g4.w.tkk) (by rw[hpg4];exact hnp) g4.w.t0 (hb.kp k4 (by omega)) (by rw[hpg4];exact hI4) ⟨by show (Gk _).length≤140;omega,by show en<65536;omega,by show ek<65536;omega⟩ hnot (by omega) (by rw[hpg4,hL4];omega)).mono ?_
   rintro _ s5 ⟨rfl,ps5,U5,P5,v5,T5,L5,f5,h5,k5,g5,hI5,hp5⟩
   rw[hpg4]at g5 hI5
   have l5:=f5.len
   simp only[length_append,length_cons,length_nil]at l5
   repeat' first|simp only[↓wBA,tTn,seval,wHl,hwi]|with_reducible refine And.intro ?_ ?_
   refine⟨⟨i+1,by omega⟩,by show E.length - (i+1)<E.length - i;omega,⟨by omega,U5,P5,v5,T5,ps5,L5,f4.trans ((Ap.app _ _).fr.trans f5),h5,k4.trans k5,g4.trans g5,hI5,?_⟩,by simp only[]⟩
   dsimp only
   rw[htk,List.map_append,map_cons,map_nil,hent]
   exact hp5.trans ((hp4.cons _).trans (List.perm_append_singleton _ _).symm)
  ·obtain rfl:i=E.length:=by omega
   have e1:=dF (i:=E.length) (n:=E.length) hlt'
   rw[List.take_length]at hp4
   have q1m:=lM (n:=1) (by omega)
   rw[hxx]at hst4
   have hUe:¬ U4 (σ.length+2):=fun e=>(f4.own _ e).elim (hU3 _ (by omega) (by omega) (hU1 _ (by omega) (by omega))) fun e=>by omega
   have hFr:=a0.fr.trans (f1.trans (f3.trans f4))
   have hfin:∀ (z:Option Ob) (τ:St),Fr σ (s.set (σ.length+2) z++τ) U U4∧Bt (s.set (σ.length+2) z++τ) b p dd l kh U4 P4 v4:=fun z τ=>⟨(hFr.setN (by omega) z).app τ,(h4.set hUe z).ap (Ap.app _ _)⟩
   have hrest:Kp P P4 0∧Tk (v4 0) P.pages T4∧T4 0=true∧Tab v4 T4 P.pages first ns E (X++[⟨(xn,xt,xc,xh),root,ps4,k,L4⟩]) w:=by
    refine⟨k4,g4.w.tkk,g4.w.t0,hst4,ht.f,ht.ok,ht.so,fun y hy=> ?_,fun y hy=> ?_,ht.nl⟩
    ·rcases mem_append.1 hy with hy|hy
     ·exact ht.col y hy
     ·simp only[mem_singleton]at hy;subst hy;exact hxw
    ·rcases mem_append.1 hy with hy|hy
     ·exact ht.ent y hy
     ·simp only[mem_singleton]at hy;subst hy;exact hp4
   by_cases hX:X=[]
   ·obtain rfl:z2= .v (.slice none 0 0):=by rw[hz2,hX];rfl
    obtain rfl:z4= .v (.slice none 0 0):=by rw[hz4,hX];rfl
    repeat' first|simp only[↓wBA,tTn,seval,Lo,Lp,wH,wHl,e1,x40,x41,x42,y40,y41,y42,A5,Lu,E1,q1m]|((with_reducible show Aa _ _ _ _ _);first|refine (hcc _).eq ?_|refine (Aw4 _).eq ?_|refine (Aw5 _).eq ?_)|(with_reducible first|refine dQ Lo 10 (some 60) ?_|refine dQ Lp 18 (some 68) ?_)|with_reducible refine And.intro ?_ ?_
    all_goals refine rtS ?_
    all_goals simp only[A1.eq_1,Ak.eq_1,Ak.eq_2,Ax.eq_1,Ax.eq_2,tTn,seval,wH,y42]
    all_goals refine⟨root,ps4,L4,U4,P4,v4,T4,by simp[Tv,frzL,lsP,Gm,hX],?_⟩
    all_goals simp only[List.append_assoc]
    all_goals exact⟨(hfin _ _).1,(hfin _ _).2,hrest⟩
   ·have hli:=Ao0 4 (ls:=X.map fun x=>Gm x.x) (by simpa using hX)
    have hlr:=Ao0 1 (ls:=X.map fun x=>[PV.v (.int .i64 (x.root:Nat))]) (by simpa using hX)
    obtain⟨li,hzl,hli'⟩:∃ li,z2= .sl 4 li∧li=X.map fun x=>Gm x.x:=⟨_,hz2.trans hli.1,rfl⟩
    obtain⟨lr,hzr,hlr'⟩:∃ lr,z4= .sl 1 lr∧lr=X.map fun x=>[PV.v (.int .i64 (x.root:Nat))]:=⟨_,hz4.trans hlr.1,rfl⟩
    subst hzl
    subst hzr
    clear hz2 hz4
    have hill:li.length=X.length:=by rw[hli',length_map]
    have hrll:lr.length=X.length:=by rw[hlr',length_map]
    have hn1:li≠[]:=fun e=>hX (List.length_eq_zero_iff.1 (by rw[← hill,e];rfl))
    have hn2:lr≠[]:=fun e=>hX (List.length_eq_zero_iff.1 (by rw[← hrll,e];rfl))
    have w1:=tL (n:=(X.length+1)*48) (by omega)
    have w2:=tL (n:=(X.length+1)*8) (by omega)
    have w3:=lM (n:=X.length+1) (by omega)
    repeat' first|simp only[↓wBA,tTn,seval,Lo,Lp,wH,wHl,e1,x40,x41,x42,y40,y41,y42,A5,Lu,E1,hill,hrll,w1,w2,w3]|((with_reducible show Aa _ _ _ _ _);first|refine (hcc _).eq ?_|(refine (A1x hn1 (by omega) _).mono ?_;rintro _ _ ⟨rfl,rfl⟩)|(refine (A1y hn2 (by omega) _).mono ?_;rintro _ _ ⟨rfl,rfl⟩))|(with_reducible first|refine dQ Lo 10 (some 60) ?_|refine dQ Lp 18 (some 68) ?_)|with_reducible refine And.intro ?_ ?_
    all_goals refine rtS ?_
    all_goals simp only[A1.eq_1,Ak.eq_1,Ak.eq_2,Ax.eq_1,Ax.eq_2,tTn,seval,wH,y42]
    all_goals refine⟨root,ps4,L4,U4,P4,v4,T4,by simp[Tv,frzL,lsP,Gm,hli',hlr'],?_⟩
    all_goals simp only[List.append_assoc]
    all_goals exact⟨(hfin _ _).1,(hfin _ _).2,hrest⟩
end
end Go.Proofs.YtpoigihfeehehaaGreatDoor
