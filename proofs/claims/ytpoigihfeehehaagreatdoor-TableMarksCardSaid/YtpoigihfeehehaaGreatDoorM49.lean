/- table.Insert. table.Insert: what is refused; calls on no batch. table.Find by a tree; a table's opening. Law 21: awake; the table that is tried. Calls on no batch. Loops: the ways out told together. -/
import Derived.Test.YtpoigihfeehehaaGreatDoorM47
import Derived.Test.YtpoigihfeehehaaGreatDoorM46
import Derived.Test.YtpoigihfeehehaaGreatDoorM48
import Derived.Test.YtpoigihfeehehaaGreatDoorM20
set_option linter.all false
set_option maxRecDepth 100000
set_option maxHeartbeats 32000000
namespace Go.Proofs.YtpoigihfeehehaaGreatDoor
open Go.RowKit
def Yt:Cq:=(.det 0 (.det 1 (.det 2 (.det 3 (.det 6 (.two 4 (.two 5 (.two 7 (.two 8 (.two 9 (.det 10 (.det 11 (.det 12 (.act 13 (.fin 14 (.det 15 .done)))))) 13 (.fin 9 (.det 10 (.det 11 (.det 12 (.fin 14 (.det 15 .done))))))) 13 (.act 8 (.fin 9 (.det 10 (.det 11 (.det 12 (.fin 14 (.det 15 .done)))))))) 13 (.act 7 (.act 8 (.fin 9 (.det 10 (.det 11 (.det 12 (.fin 14 (.det 15 .done))))))))) 13 (.act 5 (.act 7 (.act 8 (.fin 9 (.det 10 (.det 11 (.det 12 (.fin 14 (.det 15 .done)))))))))) 13 (.act 4 (.act 5 (.act 7 (.act 8 (.fin 9 (.det 10 (.det 11 (.det 12 (.fin 14 (.det 15 .done))))))))))))))))
def Yu:Cq:=(.det 0 (.det 3 (.det 4 (.det 5 (.det 6 (.det 7 (.det 8 (.det 9 (.det 10 (.det 11 (.det 12 (.det 13 (.det 15 (.act 1 (.det 2 (.act 14 (.fin 16 (.det 17 .done))))))))))))))))))
def tT3:=aa wX <| aa wbu <| aa T3 <| aa T4 <| aa T24 <| aa T29 <| aa T35 <| aa T37 <| aa T38 <| aa T40 <| aa T42 <| aa T43 <| aa T44 <| aa T46 <| aa T51 <| aa T54 <| aa T70 <| aa T81 T111
theorem Aro {T E:TypeId}{e es eb:Nat}{ez:List Value}{ls:List (List PV)}(hk:cx.kind T=some (.slice E es eb ez)):Ba cx T (.p (lsP e ls))=some ls.length:=by
 unfold Ba lsP
 rw[hk]
 by_cases h:ls=[]
 ·rw[if_pos h,h];rfl
 ·rw[if_neg h];rfl
theorem Akl (e:Nat){ls:List (List PV)}(h:ls≠[]):lsP e ls= .sl e ls∧True:=⟨by unfold lsP;rw[if_neg h],trivial⟩
def InsF (σ:St)(b p dd l kh:Nat)(U:Nat→Prop)(P:Ak)(v:Nat→List UInt8)(T:Nat→Bool)(ns:List Nat)(R0:List UInt8)(X0:Ob)(S:St)(na:Nat)(U1:Nat→Prop)(P1:Ak)(v1:Nat→List UInt8)(T1:Nat→Bool)(ns1:List Nat)(n k:Nat):Prop:=
 Fr σ S U U1∧Bt S b p dd l kh U1 P1 v1∧Kp P P1 0∧InsR v v1 T T1 P.pages ns ns1 n k R0∧S[σ.length]? =some (some X0)∧S[σ.length+1]? =some (some (.row 2 [[Ad .i64 0,Ad .i64 0]]))∧S[na]? =some (some (.row 2 [[Ad .i64 (n:Nat),Ad .i64 (k:Nat)]]))∧σ.length+2≤na∧¬ U1 σ.length∧¬ U1 (σ.length+1)∧¬ U1 na
section
variable {σ s s1:St} {b p dd l kh na n k:Nat} {U U1:Nat→Prop} {P P1:Ak} {v v1:Nat→List UInt8} {T T1:Nat→Bool} {ns ns1:List Nat} {R0:List UInt8} {X0:Ob} {z:Option Ob}
theorem Lq (hU:∀ t,U t→t<σ.length)(a:Ap σ s)(g0:s[σ.length]? =some (some X0))(g1:s[σ.length+1]? =some (some (.row 2 [[Ad .i64 0,Ad .i64 0]])))(gn:s[na]? =some z)(hna:σ.length+2≤na)(f:Fr s s1 U U1)(hB:Bt s1 b p dd l kh U1 P1 v1)(kp:Kp P P1 0)(i:InsR v v1 T T1 P.pages ns ns1 n k R0):
 InsF σ b p dd l kh U P v T ns R0 X0 (s1.set na (some (.row 2 [[Ad .i64 (n:Nat),Ad .i64 (k:Nat)]]))) na U1 P1 v1 T1 ns1 n k:=by
 have hU1:∀ t,σ.length≤t→t<s.length→¬ U1 t:=fun t h1 h2 h3=>(f.own t h3).elim (fun e=>by have:=hU t e;omega) fun e=>by omega
 have l0:=Ac g0
 have l1:=Ac g1
 have ln:=Ac gn
 have hl:=f.len
 refine⟨(a.fr.trans f).setN (by omega) _,hB.set (hU1 na (by omega) ln) _,kp,i,?_,?_,?_,hna,hU1 _ (by omega) l0,hU1 _ (by omega) l1,hU1 _ (by omega) ln⟩
 ·rw[QO (by omega)];exact f.get g0 (fun e=>by have:=hU _ e;omega)
 ·rw[QO (by omega)];exact f.get g1 (fun e=>by have:=hU _ e;omega)
 ·rw[XW (by omega)]
theorem Am9 (hU:∀ t,U t→t<σ.length)(a:Ap σ s)(g0:s[σ.length]? =some none)(g1:s[σ.length+1]? =some (some (.row 2 [[Ad .i64 0,Ad .i64 0]])))(f:Fr s s1 U U1)(hB:Bt s1 b p dd l kh U1 P1 v1)(kp:Kp P P1 0)(i:InsR v v1 T T1 P.pages ns ns1 n k R0):
 InsF σ b p dd l kh U P v T ns R0 X0 (s1.set σ.length (some X0)++[some (.row 2 [[Ad .i64 (n:Nat),Ad .i64 (k:Nat)]])]) s1.length U1 P1 v1 T1 ns1 n k:=by
 have hU1:∀ t,σ.length≤t→t<s.length→¬ U1 t:=fun t h1 h2 h3=>(f.own t h3).elim (fun e=>by have:=hU t e;omega) fun e=>by omega
 have l0:=Ac g0
 have l1:=Ac g1
 have hl:=f.len
 have hlt1:=hB.lt
 refine⟨((a.fr.trans f).setN (by omega) _).app _,(hB.set (hU1 _ (by omega) l0) _).ap (Ap.app _ _),kp,i,?_,?_,?_,by omega,hU1 _ (by omega) l0,hU1 _ (by omega) l1,fun e=>ZJ _ (hlt1 _ e)⟩
 ·rw[QD (by rw[ZW];omega),XW (by omega)]
 ·rw[QD (by rw[ZW];omega),QO (by omega)];exact f.get g1 (fun e=>by have:=hU _ e;omega)
 ·simp
end
section
variable {σ:St} {b p dd l kh first w:Nat} {U:Nat→Prop} {P:Ak} {v:Nat→List UInt8} {T:Nat→Bool} {ns:List Nat} {E:List Ver} {X:List Ixx}
theorem Axk {vs:List Va}{made:Nat}(h:Bt σ b p dd l kh U P v)(hT:Tk (v 0) P.pages T)(hnp:P.pages≤3200)(hT0:T 0=true)(ht:Tab v T P.pages first ns E X w)(hb:Bud P 1)(hE:E.length<60)(hl:vs.length=w)(hw:w≤255)(hw0:0<w)(hv:∀ v∈vs,okW v)(hfit:(rwB vs).length≤392)(hm:made≤16777216)(hof:∀ x∈X,∀ σ,Aa Tryz.prog 43 [idxA x.x] σ fun r s=>s=σ∧r=x.kd.tool)(hroom:4+E.length+2*Mw X (E.length+1)≤P.pages)(nm:ByteArray){cols:List (List PV)}(hcl:cols.length=w)(hXl:X.length≤1000):
 Aa Tryz.prog 14 [.mp b 2 0 0,Of nm cols X first,.p (.sl 3 (enV vs)),Ad .i64 (made:Nat)] σ fun r σ'=>∃ (n k:Nat) (ns':List Nat) (Y:List Ixx) (U':Nat→Prop) (P':Ak) (v':Nat→List UInt8) (T':Nat→Bool),r= .tup [.agg [Ad .i64 (n:Nat),Ad .i64 (k:Nat)],Ad .i64 0]∧Fr σ σ' U U'∧Bt σ' b p dd l kh U' P' v'∧Kp P P' 0∧Tk (v' 0) P.pages T'∧T' 0=true∧Y.map Lm=X.map Lm∧(∀ x∈E,¬ x.1=(n,k))∧Tab v' T' P.pages first ns' (insV ((n,k),(made,0),vs) E) Y w:=by
 have hlt:=h.lt
 have hct:=Aj8 vs (by omega)
 rw[okW.all hv]at hct
 have hwn:=Jl (made:Nat)
 rw[show wiN (made:Nat)=true by unfold wiN;simp;omega]at hwn
 have hft:=Awy vs
 rw[Acy hv (by omega),decide_eq_true hfit]at hft
 have hpt:=Awx vs
 rw[Ajz hv (by omega)]at hpt
 have hn1:=Amo (n:=made) (by omega)
 have hn0:=Amo (n:=0) (by omega)
 have hcat:=acat (xs:=[leB made 4,leB 0 4,rwB vs]) (by simp[B0];omega) (by simp[B0];omega) (by simp)
 have hln:=Ea vs
 unfold Of
 obtain⟨z2,hz2⟩:∃ z,z=lsP 4 (X.map fun x=>Fv x.x):=⟨_,rfl⟩
 obtain⟨z4,hz4⟩:∃ z,z=lsP 1 (X.map fun x=>[PV.v (.int .i64 (x.root:Nat))]):=⟨_,rfl⟩
 rw[← hz2,←hz4]
 have hfl:[leB made 4,leB 0 4,rwB vs].flatten=rcB made 0 vs:=by simp[rcB]
 rw[hfl]at hcat
 simp only[QK,ZB]at hcat
 have hrcl:(rcB made 0 vs).length=(rwB vs).length+8:=by unfold rcB;rw[QE,QE,B0,B0];omega
 obtain⟨R0,hR0⟩:∃ R,R=rcB made 0 vs:=⟨_,rfl⟩
 rw[← hR0]at hcat hrcl
 have hn0':∀ σ,Aa Tryz.prog 42 [.p (.v (.int .i64 0))] σ fun r s=>s=σ∧r= .p (.sl 1 (Ax (leB 0 4))):=hn0
 have hcn:=ht.cnt
 have hsm:=Yo (n:=E.length) (m:=E.length+1) (by omega) ht.st.kd
 have hhi:∀ {s:St},Ap σ s→Aa Tryz.prog 40 [.mp b 2 0 0,Ad .i64 (first:Nat),.p (.sl 1 (Ax R0))] s fun q σ'=>∃ U' P' v' n k T' ns',q= .tup [.agg [Ad .i64 (n:Nat),Ad .i64 (k:Nat)],Ad .i64 0]∧Fr s σ' U U'∧Bt σ' b p dd l kh U' P' v'∧Kp P P' 0∧InsR v v' T T' P.pages ns ns' n k R0:=fun {s} ha=>by
  refine (Al0 (r:=R0) (h.ap ha) hT hnp hT0 ht.st.hp ht.f (.inl ⟨_,rfl,.inl rfl⟩) (by omega) (by simp[N8]) hb).mono ?_
  rintro q s' ⟨U',P',v',f,hB,kp,⟨n,k,T',ns',rfl,hI⟩|⟨hall,_⟩⟩
  ·exact⟨U',P',v',n,k,T',ns',rfl,f,hB,kp,hI⟩
  ·have:=Qc (T:=T) P.pages hall
   omega
 refine Ab Am An Tryz.func14 (by kernel_rfl) rfl (nt:=88) (rs:=[.cell 8 51,.tmp 9]) rfl rfl ?_
 have hlaz:Ba cx 43 (.p z2)=some X.length:=by rw[hz2,Aro Ty,QL]
 refine' (fun key:(∀ (S:St) (na ta:Nat) (U1:Nat→Prop) (P1:Ak) (v1:Nat→List UInt8) (T1:Nat→Bool) (ns1:List Nat) (n k:Nat),InsF σ b p dd l kh U P v T ns R0 (Ob.row 5 [[AV.p (.v (.string nm)),AV.p (.sl 4 cols),AV.p z2,AV.p (.v (.int .i64 (first:Nat))),AV.p z4]]) S na U1 P1 v1 T1 ns1 n k→(_:St→Nat→Nat→Nat→Nat→Prop) S na ta n k)=> ?main) ?tail
 case main=>
  repeat' first|simp only[↓wBA,tT3,seval,Yt,wH,hln,hl,hcl]|((with_reducible show Aa _ _ _ _ _);first|refine (hct _).eq ?_|refine (hwn _).eq ?_|refine (hft _).eq ?_|refine (hpt _).eq ?_|refine (hn1 _).eq ?_|refine (hn0' _).eq ?_|(refine Aa.frzArgs ?_;refine (hcat _).eq ?_))|(with_reducible refine dQ Yt 16 (some 47) ?_)|with_reducible refine And.intro ?_ ?_
  ·skip
   refine (hhi (((Ap.app _ _).more _).more _)).mono ?_
   rintro q s1 ⟨U1,P1,v1,n,k,T1,ns1,rfl,f1,h1,k1,i1⟩
   have l1:=f1.len
   simp only[QE,QF,QI]at l1
   have y0:σ.length<s1.length:=by omega
   have hF:=Am9 (X0:=(Ob.row 5 [[AV.p (.v (.string nm)),AV.p (.sl 4 cols),AV.p z2,AV.p (.v (.int .i64 (first:Nat))),AV.p z4]])) hlt (((Ap.app _ _).more _).more _) (by simp) (by simp[Ad]) f1 h1 k1 i1
   repeat' first|simp only[↓wBA,tT3,seval,wH,y0,hlaz]|with_reducible refine And.intro ?_ ?_
   obtain⟨S3,hS3⟩:∃ S3,S3=s1.set σ.length (some (Ob.row 5 [[AV.p (.v (.string nm)),AV.p (.sl 4 cols),AV.p z2,AV.p (.v (.int .i64 (first:Nat))),AV.p z4]]))++[some (Ob.row 2 [[Ad .i64 (n:Nat),Ad .i64 (k:Nat)]])]:=⟨_,rfl⟩
   rw[← hS3]at hF
   simp only[Ad]at hS3
   simp only[hS3.symm]
   obtain⟨na,hna⟩:∃ na,na=s1.length:=⟨_,rfl⟩
   simp only[hna.symm]at hF ⊢
   obtain⟨ta,hta⟩:∃ ta,ta=σ.length+2:=⟨_,rfl⟩
   simp only[hta.symm]
   exact key S3 na ta U1 P1 v1 T1 ns1 n k hF
  ·skip
   refine (hhi ((((Ap.app _ _).more _).more _).more _)).mono ?_
   rintro q s1 ⟨U1,P1,v1,n,k,T1,ns1,rfl,f1,h1,k1,i1⟩
   have l1:=f1.len
   simp only[QE,QF,QI]at l1
   have gn:=f1.get (t:=σ.length+3) (x:=some (Ob.row 2 [[AV.p (.v (.int .i64 0)),AV.p (.v (.int .i64 0))]])) (by simp) (fun e=>by have:=hlt _ e;omega)
   have yn:=Ac gn
   have g0:=f1.get (t:=σ.length) (x:=some (Ob.row 5 [[AV.p (.v (.string nm)),AV.p (.sl 4 cols),AV.p z2,AV.p (.v (.int .i64 (first:Nat))),AV.p z4]])) (by simp) (fun e=>by have:=hlt _ e;omega)
   have y0:=Ac g0
   have hF:=Lq (na:=σ.length+3) (X0:=(Ob.row 5 [[AV.p (.v (.string nm)),AV.p (.sl 4 cols),AV.p z2,AV.p (.v (.int .i64 (first:Nat))),AV.p z4]])) hlt ((((Ap.app _ _).more _).more _).more _) (by simp) (by simp[Ad]) (z:=some (Ob.row 2 [[AV.p (.v (.int .i64 0)),AV.p (.v (.int .i64 0))]])) (by simp) (by omega) f1 h1 k1 i1
   repeat' first|simp only[↓wBA,tT3,seval,wH,gn,g0,hlaz]|with_reducible refine And.intro ?_ ?_
   obtain⟨S3,hS3⟩:∃ S3,S3=s1.set (σ.length+3) (some (Ob.row 2 [[Ad .i64 (n:Nat),Ad .i64 (k:Nat)]])):=⟨_,rfl⟩
   rw[← hS3]at hF
   simp only[Ad]at hS3
   simp only[hS3.symm]
   obtain⟨na,hna⟩:∃ na,na=σ.length+3:=⟨_,rfl⟩
   simp only[hna.symm]at hF ⊢
   obtain⟨ta,hta⟩:∃ ta,ta=σ.length+2:=⟨_,rfl⟩
   simp only[hta.symm]
   exact key S3 na ta U1 P1 v1 T1 ns1 n k hF
  ·skip
   refine (hhi ((((Ap.app _ _).more _).more _).more _)).mono ?_
   rintro q s1 ⟨U1,P1,v1,n,k,T1,ns1,rfl,f1,h1,k1,i1⟩
   have l1:=f1.len
   simp only[QE,QF,QI]at l1
   have gn:=f1.get (t:=σ.length+3) (x:=some (Ob.row 2 [[AV.p (.v (.int .i64 0)),AV.p (.v (.int .i64 0))]])) (by simp) (fun e=>by have:=hlt _ e;omega)
   have yn:=Ac gn
   have g0:=f1.get (t:=σ.length) (x:=some (Ob.row 5 [[AV.p (.v (.string nm)),AV.p (.sl 4 cols),AV.p z2,AV.p (.v (.int .i64 (first:Nat))),AV.p z4]])) (by simp) (fun e=>by have:=hlt _ e;omega)
   have y0:=Ac g0
   have hF:=Lq (na:=σ.length+3) (X0:=(Ob.row 5 [[AV.p (.v (.string nm)),AV.p (.sl 4 cols),AV.p z2,AV.p (.v (.int .i64 (first:Nat))),AV.p z4]])) hlt ((((Ap.app _ _).more _).more _).more _) (by simp) (by simp[Ad]) (z:=some (Ob.row 2 [[AV.p (.v (.int .i64 0)),AV.p (.v (.int .i64 0))]])) (by simp) (by omega) f1 h1 k1 i1
   repeat' first|simp only[↓wBA,tT3,seval,wH,gn,g0,hlaz]|with_reducible refine And.intro ?_ ?_
   obtain⟨S3,hS3⟩:∃ S3,S3=s1.set (σ.length+3) (some (Ob.row 2 [[Ad .i64 (n:Nat),Ad .i64 (k:Nat)]])):=⟨_,rfl⟩
   rw[← hS3]at hF
   simp only[Ad]at hS3
   simp only[hS3.symm]
   obtain⟨na,hna⟩:∃ na,na=σ.length+3:=⟨_,rfl⟩
   simp only[hna.symm]at hF ⊢
   obtain⟨ta,hta⟩:∃ ta,ta=σ.length+2:=⟨_,rfl⟩
   simp only[hta.symm]
   exact key S3 na ta U1 P1 v1 T1 ns1 n k hF
  ·skip
   refine (hhi ((((Ap.app _ _).more _).more _).more _)).mono ?_
   rintro q s1 ⟨U1,P1,v1,n,k,T1,ns1,rfl,f1,h1,k1,i1⟩
   have l1:=f1.len
   simp only[QE,QF,QI]at l1
   have gn:=f1.get (t:=σ.length+2) (x:=some (Ob.row 2 [[AV.p (.v (.int .i64 0)),AV.p (.v (.int .i64 0))]])) (by simp) (fun e=>by have:=hlt _ e;omega)
   have yn:=Ac gn
   have g0:=f1.get (t:=σ.length) (x:=some (Ob.row 5 [[AV.p (.v (.string nm)),AV.p (.sl 4 cols),AV.p z2,AV.p (.v (.int .i64 (first:Nat))),AV.p z4]])) (by simp) (fun e=>by have:=hlt _ e;omega)
   have y0:=Ac g0
   have hF:=Lq (na:=σ.length+2) (X0:=(Ob.row 5 [[AV.p (.v (.string nm)),AV.p (.sl 4 cols),AV.p z2,AV.p (.v (.int .i64 (first:Nat))),AV.p z4]])) hlt ((((Ap.app _ _).more _).more _).more _) (by simp) (by simp[Ad]) (z:=some (Ob.row 2 [[AV.p (.v (.int .i64 0)),AV.p (.v (.int .i64 0))]])) (by simp) (by omega) f1 h1 k1 i1
   repeat' first|simp only[↓wBA,tT3,seval,wH,gn,g0,hlaz]|with_reducible refine And.intro ?_ ?_
   obtain⟨S3,hS3⟩:∃ S3,S3=s1.set (σ.length+2) (some (Ob.row 2 [[Ad .i64 (n:Nat),Ad .i64 (k:Nat)]])):=⟨_,rfl⟩
   rw[← hS3]at hF
   simp only[Ad]at hS3
   simp only[hS3.symm]
   obtain⟨na,hna⟩:∃ na,na=σ.length+2:=⟨_,rfl⟩
   simp only[hna.symm]at hF ⊢
   obtain⟨ta,hta⟩:∃ ta,ta=σ.length+3:=⟨_,rfl⟩
   simp only[hta.symm]
   exact key S3 na ta U1 P1 v1 T1 ns1 n k hF
  ·skip
   refine (hhi ((((Ap.app _ _).more _).more _).more _)).mono ?_
   rintro q s1 ⟨U1,P1,v1,n,k,T1,ns1,rfl,f1,h1,k1,i1⟩
   have l1:=f1.len
   simp only[QE,QF,QI]at l1
   have gn:=f1.get (t:=σ.length+2) (x:=some (Ob.row 2 [[AV.p (.v (.int .i64 0)),AV.p (.v (.int .i64 0))]])) (by simp) (fun e=>by have:=hlt _ e;omega)
   have yn:=Ac gn
   have g0:=f1.get (t:=σ.length) (x:=some (Ob.row 5 [[AV.p (.v (.string nm)),AV.p (.sl 4 cols),AV.p z2,AV.p (.v (.int .i64 (first:Nat))),AV.p z4]])) (by simp) (fun e=>by have:=hlt _ e;omega)
   have y0:=Ac g0
   have hF:=Lq (na:=σ.length+2) (X0:=(Ob.row 5 [[AV.p (.v (.string nm)),AV.p (.sl 4 cols),AV.p z2,AV.p (.v (.int .i64 (first:Nat))),AV.p z4]])) hlt ((((Ap.app _ _).more _).more _).more _) (by simp) (by simp[Ad]) (z:=some (Ob.row 2 [[AV.p (.v (.int .i64 0)),AV.p (.v (.int .i64 0))]])) (by simp) (by omega) f1 h1 k1 i1
   repeat' first|simp only[↓wBA,tT3,seval,wH,gn,g0,hlaz]|with_reducible refine And.intro ?_ ?_
   obtain⟨S3,hS3⟩:∃ S3,S3=s1.set (σ.length+2) (some (Ob.row 2 [[Ad .i64 (n:Nat),Ad .i64 (k:Nat)]])):=⟨_,rfl⟩
   rw[← hS3]at hF
   simp only[Ad]at hS3
   simp only[hS3.symm]
   obtain⟨na,hna⟩:∃ na,na=σ.length+2:=⟨_,rfl⟩
   simp only[hna.symm]at hF ⊢
   obtain⟨ta,hta⟩:∃ ta,ta=σ.length+3:=⟨_,rfl⟩
   simp only[hta.symm]
   exact key S3 na ta U1 P1 v1 T1 ns1 n k hF
  ·skip
   refine (hhi ((((Ap.app _ _).more _).more _).more _)).mono ?_
   rintro q s1 ⟨U1,P1,v1,n,k,T1,ns1,rfl,f1,h1,k1,i1⟩
   have l1:=f1.len
   simp only[QE,QF,QI]at l1
   have gn:=f1.get (t:=σ.length+2) (x:=some (Ob.row 2 [[AV.p (.v (.int .i64 0)),AV.p (.v (.int .i64 0))]])) (by simp) (fun e=>by have:=hlt _ e;omega)
   have yn:=Ac gn
   have g0:=f1.get (t:=σ.length) (x:=some (Ob.row 5 [[AV.p (.v (.string nm)),AV.p (.sl 4 cols),AV.p z2,AV.p (.v (.int .i64 (first:Nat))),AV.p z4]])) (by simp) (fun e=>by have:=hlt _ e;omega)
   have y0:=Ac g0
   have hF:=Lq (na:=σ.length+2) (X0:=(Ob.row 5 [[AV.p (.v (.string nm)),AV.p (.sl 4 cols),AV.p z2,AV.p (.v (.int .i64 (first:Nat))),AV.p z4]])) hlt ((((Ap.app _ _).more _).more _).more _) (by simp) (by simp[Ad]) (z:=some (Ob.row 2 [[AV.p (.v (.int .i64 0)),AV.p (.v (.int .i64 0))]])) (by simp) (by omega) f1 h1 k1 i1
   repeat' first|simp only[↓wBA,tT3,seval,wH,gn,g0,hlaz]|with_reducible refine And.intro ?_ ?_
   obtain⟨S3,hS3⟩:∃ S3,S3=s1.set (σ.length+2) (some (Ob.row 2 [[Ad .i64 (n:Nat),Ad .i64 (k:Nat)]])):=⟨_,rfl⟩
   rw[← hS3]at hF
   simp only[Ad]at hS3
   simp only[hS3.symm]
   obtain⟨na,hna⟩:∃ na,na=σ.length+2:=⟨_,rfl⟩
   simp only[hna.symm]at hF ⊢
   obtain⟨ta,hta⟩:∃ ta,ta=σ.length+3:=⟨_,rfl⟩
   simp only[hta.symm]
   exact key S3 na ta U1 P1 v1 T1 ns1 n k hF
 case tail=>
  rintro S na ta U1 P1 v1 T1 ns1 n k ⟨f1,h1,k1,i1,x0,x1,xn,hna,u0,u1,un⟩
  have y0:=Ac x0
  have y1:=Ac x1
  have yn:=Ac xn
  rw[hR0]at i1
  obtain⟨tb,hnl1,hf1,hfr⟩:=ht.begin i1
  have hrec:Iz v1 ns1 n k=some (rcB made 0 vs):=by rw[i1.get,if_pos ⟨rfl,rfl⟩]
  obtain⟨b1,b2⟩:=Akj i1.heap hrec
  have hUS:∀ (t:Nat) (U':Nat→Prop),(∀ t,U' t→U1 t∨S.length≤t)→t<S.length→¬ U1 t→¬ U' t:=fun t U' h1 h2 h3 h4=>(h1 t h4).elim h3 fun e=>by omega
  obtain⟨e,he⟩:∃ e:Ver,e=((n,k),(made,0),vs):=⟨_,rfl⟩
  rw[← he]at tb
  refine Ar (X:={ i:Nat // i≤X.length }) (fun i=>X.length - i.1) (fun i=>[(14,Ad .i64 0),(62,Ad .i64 (i.1:Nat))]) [15,16,63,64,65,66,67,68,69,70,71,72,73,74,75,76,77,78,79,80,81,82,83,84,85,86] (fun i s=>S.length≤s.length∧∃ U' P' v' T' Y,Fr S s U1 U'∧Bt s b p dd l kh U' P' v'∧Kp P P' 0∧TabI v' T' P.pages ns1 E e X Y i.1) (⟨0,by omega⟩) ?_ ?_ ?_ ?_
  ·simp only[wHl,wHf]
  ·exact⟨QH _,U1,P1,v1,T1,X,Fr.refl _ _,h1,k1,tb⟩
  ·rintro _ _ ⟨h,_⟩;exact h
  ·intro y J s hI
   simp only[wHl]
   obtain⟨i,hi⟩:=y
   obtain⟨ls,U4,P4,v4,T4,Y,f4,h4,k4,tb4⟩:=hI
   dsimp only at*
   have hi0:=nnI i
   have hwi:=wI i (by omega)
   have hpg4:=k4.pages
   have n0:=hUS _ U4 f4.own y0 u0
   have n1:=hUS _ U4 f4.own y1 u1
   have nn:=hUS _ U4 f4.own yn un
   have x40:=f4.get x0 u0
   have x41:=f4.get x1 u1
   have x4n:=f4.get xn un
   have y40:=Ac x40
   have y41:=Ac x41
   have y4n:=Ac x4n
   have nan:(na=σ.length)=False:=eq_false (by omega)
   have nan':(σ.length=na)=False:=eq_false (by omega)
   have nan1:(na=σ.length+1)=False:=eq_false (by omega)
   have nas:(na=s.length)=False:=eq_false (by omega)
   have nas':(s.length=na)=False:=eq_false (by omega)
   have nan1':(σ.length+1=na)=False:=eq_false (by omega)
   by_cases hlt':i<X.length
   ·have e1:=dT (i:=i) (n:=X.length) hlt'
    obtain⟨x,hx⟩:∃ x,X[i]? =some x:=⟨X[i],by simp⟩
    have hxm:=QG hx
    obtain⟨y,hy,hyx,hyr,hyk⟩:=tb4.at hx
    have hym:=QG hy
    have hkd:=ht.st.kd x hxm
    obtain⟨d,hd⟩:=hkd.tl
    have hofx:=hof x hxm
    rw[hd]at hofx
    have hxc:=ht.col x hxm
    have hsk:=Ada (n:=E.length+1) hxm
    have hIy:=tb4.st.ix y hym
    have hyn:=tb4.fresh hy (by rw[he];exact hfr)
    have hyl:y.L.length=E.length:=by
     have:=(tb4.ent i y hy).length_eq
     rw[if_neg (by omega),QL]at this
     exact this
    have hcn4:=tb4.cnt hnl1
    rw[hyk,hyr]at hIy
    rw[hyx]at hyn
    have hXne:X≠[]:=fun e=>by rw[e]at hlt';simp at hlt'
    have ez2:z2= .sl 4 (X.map fun x=>Fv x.x):=hz2.trans (Akl 4 (by simpa using hXne)).1
    have ez4:z4= .sl 1 (X.map fun x=>[PV.v (.int .i64 (x.root:Nat))]):=hz4.trans (Akl 1 (by simpa using hXne)).1
    clear hz2 hz4
    subst ez2
    subst ez4
    have hif:((i:Int)<(X.length:Int))=True:=eq_true (by omega)
    have hg:(X.map fun x=>Fv x.x)[i]? =some (Fv x.x):=by rw[QR,hx];rfl
    have hg4:(X.map fun x=>[PV.v (.int .i64 (x.root:Nat))])[i]? =some [PV.v (.int .i64 (x.root:Nat))]:=by rw[QR,hx];rfl
    obtain⟨LX,hLX⟩:∃ LX,LX=X.map fun x=>Fv x.x:=⟨_,rfl⟩
    obtain⟨LR,hLR⟩:∃ LR,LR=X.map fun x=>[PV.v (.int .i64 (x.root:Nat))]:=⟨_,rfl⟩
    have hLXl:LX.length=X.length:=by rw[hLX,QL]
    have hLRl:LR.length=X.length:=by rw[hLR,QL]
    rw[← hLX]at hg x0 x40 hlaz ⊢
    rw[← hLR]at hg4 x0 x40 ⊢
    obtain⟨va,hva⟩:∃ va,vs[x.x.2.2.1]? =some va:=⟨vs[x.x.2.2.1]'(by omega),by simp⟩
    have hvo:=hv va (QG hva)
    have hkey:=Aak hvo
    have hke:=Uv hvo
    have hent:Qr x.x.2.2.1 e=⟨Gj va,n,k⟩:=by rw[he];unfold Qr;rw[QM,hva];rfl
    rw[hent]at hyn
    have hxcv:(enV vs)[x.x.2.2.1]? =some (vaC va):=by
     rw[Ji vs x.x.2.2.1 (by omega)]
     congr 2
     exact (QC.1 hva).2
    have hx0:=nnI x.x.2.2.1
    have hins:∀ {s':St},Ap s s'→Aa Tryz.prog x.kd.ins [.mp b 2 0 0,Ad .i64 (x.root:Nat),.p (.sl 1 (Ax (Gj va))),.agg [Ad .i64 (n:Nat),Ad .i64 (k:Nat)]] s' fun r σ'=>r=Ad .i64 0∧∃ (ps':List Nat) (U':Nat→Prop) (P':Ak) (v':Nat→List UInt8) (T':Nat→Bool) (L':List Ent),Fr s' σ' U4 U'∧Bt σ' b p dd l kh U' P' v'∧Kp P4 P' 0∧Mv v4 v' T4 T' P4.pages y.ps ps'∧x.kd.I v' T' P4.pages x.root ps' L'∧L'.Perm (⟨Gj va,n,k⟩::y.L):=fun {s'} ha=>
     hkd.insC (e:=⟨Gj va,n,k⟩) (h4.ap ha) (by rw[hpg4];exact tb4.tk) (by rw[hpg4];exact hnp) tb4.t0 (hb.kp k4 (by omega)) (by rw[hpg4];exact hIy) ⟨by show (Gj _).length≤140;omega,by show n<65536;omega,by show k<65536;omega⟩ hyn (by omega) (by rw[hpg4,hyl];omega)
    have hstep:=fun {v' T' ps' L'} (g:Mv v4 v' T4 T' P.pages y.ps ps') hI hp=>tb4.step (L':=L') hy g hI hp
    rw[hyx,hent,hyk,hyr]at hstep
    obtain⟨⟨qn,qt,qc,qh⟩,qr,qp,qk,qL⟩:=x
    obtain⟨vk,vn,vx⟩:=va
    dsimp only at*
    simp only[Fv,idxA,vaA,vaC,QK,ZB]at hg hg4 hofx hkey hxcv
    repeat' first|simp only[↓wBA,tT3,seval,Yu,wH,wHl,hi0,hg,hg4,hif,hx0,hxcv,x40,x4n,y40,y4n,nan]|((with_reducible show Aa _ _ _ _ _);first|refine (hofx _).eq ?_|refine (hkey _).eq ?_)|(with_reducible refine dQ Yu 18 (some 69) ?_)|with_reducible refine And.intro ?_ ?_
    refine (hins (Ap.app _ _)).mono ?_
    rintro _ s5 ⟨rfl,ps5,U5,P5,v5,T5,L5,f5,h5,k5,g5,hI5,hp5⟩
    rw[hpg4]at g5 hI5
    have l5:=f5.len
    simp only[QE,QF,QI]at l5
    repeat' first|simp only[↓wBA,tT3,seval,wHl,hwi]|with_reducible refine And.intro ?_ ?_
    refine⟨⟨i+1,by omega⟩,by show X.length - (i+1)<X.length - i;omega,⟨by omega,U5,P5,v5,T5,_,f4.trans ((Ap.app _ _).fr.trans f5),h5,k4.trans k5,hstep g5 hI5 hp5⟩,by simp only[]⟩
   ·obtain rfl:i=X.length:=by omega
    have e1:=dF (i:=X.length) (n:=X.length) hlt'
    have htd:=tb4.done hf1 hnl1 ht.ok (by rw[he];exact⟨⟨hm,by show 0≤16777216;omega,hv,by intro e0;have e0:vs=[]:=e0;rw[e0]at hl;simp at hl;omega,by show vs.length≤255;omega⟩,hl⟩) ht.so (by rw[he];exact hfr) ht.col
    repeat' first|simp only[↓wBA,tT3,seval,wHl,e1,x41,x4n]|with_reducible refine And.intro ?_ ?_
    all_goals refine rtS ?_
    all_goals simp only[wRe,tT3,seval,wH,y41]
    rw[he]at htd
    exact⟨n,k,ns1,Y,U4,P4,v4,T4,rfl,(f1.trans f4).setN (by omega) _,h4.set n1 _,k4,tb4.tk,tb4.t0,tb4.key,hfr,htd⟩
end
def tT6:=aa wX <| aa wbu <| aa T3 <| aa T4 <| aa T24 <| aa T29 <| aa T35 <| aa T37 <| aa T38 <| aa T40 <| aa T42 <| aa T43 <| aa T44 <| aa T46 <| aa T51 <| aa T54 <| aa T70 <| aa T81 T111
section
variable {σ:St} {b:Nat} {vs:List Va} {cols:List (List PV)} {made:Int}
theorem Arp (hvl:vs.length≤4398046511104)(hbad:¬ (vs.length=cols.length∧vs.all okV=true∧wiN made=true))(x0 x2 x3 x4:PV):
 Aa Tryz.prog 14 [.mp b 2 0 0,.agg [.p x0,.p (.sl 4 cols),.p x2,.p x3,.p x4],.p (.sl 3 (enV vs)),Ad .i64 made] σ fun r σ'=>r= .tup [.agg [Ad .i64 0,Ad .i64 0],Ad .i64 1]∧Ap σ σ':=by
 have hct:=Aj8 vs hvl
 have hwn:=Jl made
 have hln:=Ea vs
 have aS:=((Ap.app σ [some (Ob.row 5 [[AV.p x0,AV.p (.sl 4 cols),AV.p x2,AV.p x3,AV.p x4]])]).more [some (Ob.row 2 [[Ad .i64 0,Ad .i64 0]])])
 refine Ab Am An Tryz.func14 (by kernel_rfl) rfl (nt:=88) (rs:=[.cell 8 51,.tmp 9]) rfl rfl ?_
 by_cases hl:vs.length=cols.length
 ·have hq:((cols.length:Int)==(cols.length:Int))=true:=by simp
  cases hv:vs.all okV with
  |false=>
   rw[hv]at hct
   repeat' first|simp only[↓wBA,tT6,seval,wH,hln,hl]|((with_reducible show Aa _ _ _ _ _);refine (hct _).eq ?_)|with_reducible refine And.intro ?_ ?_
   all_goals refine rtS ?_
   all_goals simp only[wRe,tT6,seval,wH]
   exact aS
  |true=>
   rw[hv]at hct
   have hw:wiN made=false:=by
    cases hw:wiN made with
    |false=>rfl
    |true=>exact absurd ⟨hl,hv,hw⟩ hbad
   rw[hw]at hwn
   repeat' first|simp only[↓wBA,tT6,seval,wH,hln,hl]|((with_reducible show Aa _ _ _ _ _);first|refine (hct _).eq ?_|refine (hwn _).eq ?_)|with_reducible refine And.intro ?_ ?_
   all_goals refine rtS ?_
   all_goals simp only[wRe,tT6,seval,wH]
   exact aS
 ·have hq:((vs.length:Int)==(cols.length:Int))=false:=by simp;omega
  have hq2:((vs.length:Int) != (cols.length:Int))=true:=by simp;omega
  have hq3:decide ((vs.length:Int)≠(cols.length:Int))=true:=by simp;omega
  have hq4:decide ((vs.length:Int)=(cols.length:Int))=false:=by simp;omega
  have hq5:((vs.length:Int)=(cols.length:Int))=False:=by simp;omega
  repeat' first|simp only[↓wBA,tT6,seval,wH,hln,hq2]|((with_reducible show Aa _ _ _ _ _);refine (hct _).eq ?_)|with_reducible refine And.intro ?_ ?_
  all_goals refine rtS ?_
  all_goals simp only[wRe,tT6,seval,wH]
  exact aS
theorem Arq (hvl:vs.length=cols.length)(h255:vs.length≤255)(hv:∀ v∈vs,okW v)(hw:wiN made=true)(hfit:¬ (rwB vs).length≤392)(x0 x2 x3 x4:PV):
 Aa Tryz.prog 14 [.mp b 2 0 0,.agg [.p x0,.p (.sl 4 cols),.p x2,.p x3,.p x4],.p (.sl 3 (enV vs)),Ad .i64 made] σ fun r σ'=>r= .tup [.agg [Ad .i64 0,Ad .i64 0],Ad .i64 34]∧Ap σ σ':=by
 have hct:=Aj8 vs (by omega)
 rw[okW.all hv]at hct
 have hwn:=Jl made
 rw[hw]at hwn
 have hln:=Ea vs
 have hft:=Awy vs
 rw[Acy hv h255,decide_eq_false hfit]at hft
 have hq:((cols.length:Int)==(cols.length:Int))=true:=by simp
 have aS:=((Ap.app σ [some (Ob.row 5 [[AV.p x0,AV.p (.sl 4 cols),AV.p x2,AV.p x3,AV.p x4]])]).more [some (Ob.row 2 [[Ad .i64 0,Ad .i64 0]])])
 refine Ab Am An Tryz.func14 (by kernel_rfl) rfl (nt:=88) (rs:=[.cell 8 51,.tmp 9]) rfl rfl ?_
 repeat' first|simp only[↓wBA,tT6,seval,wH,hln,hvl]|((with_reducible show Aa _ _ _ _ _);first|refine (hct _).eq ?_|refine (hwn _).eq ?_|refine (hft _).eq ?_)|with_reducible refine And.intro ?_ ?_
 all_goals refine rtS ?_
 all_goals simp only[wRe,tT6,seval,wH]
 exact aS
end
section
variable {σ:St} {b p dd l kh first w ix:Nat} {U:Nat→Prop} {P:Ak} {v:Nat→List UInt8} {T:Nat→Bool} {ns:List Nat} {E:List Ver} {X:List Ixx}
theorem Yv {x:Ixx}{lo hi:Va}(h:Bt σ b p dd l kh U P v)(ht:Tab v T P.pages first ns E X w)(hb:Bud P 1)(hE:E.length≤60)(hw:w≤255)(hx:X[ix]? =some x)(hxk:x.kd=Gg)(hxh:x.x.2.2.2=false)(hlo:okW lo)(hhi:okW hi)(nm tn:ByteArray)(cols:List (List PV)):
 Aa Tryz.prog 17 [.mp b 2 0 0,Of nm cols X first,Ad .i64 (ix:Nat),Yr tn (x.x.2.2.1:Nat) lo hi] σ fun r σ'=>∃ (av:AV) (L:List Ver) (U':Nat→Prop) (P':Ak),r= .tup [av,Ad .i64 0]∧Mm σ' av 5 (L.map Dt)∧(∀ y,y∈L↔y∈E∧(inR [0] [0] (Qr x.x.2.2.1 y)=true∨inR (Gj lo) (Gj hi) (Qr x.x.2.2.1 y)=true)∧covV lo hi (y.2.2.getD x.x.2.2.1 (0,0,emp))=true)∧L.Pairwise ltV∧Fr σ σ' U U'∧Bt σ' b p dd l kh U' P' v∧Kp P P' 0∧∀ t,N8 av=some t→σ.length≤t∧¬ U' t:=by
 have hxm:=QG hx
 obtain⟨D,hDp,hDl⟩:=Ac3 (ht.ent x hxm) E rfl
 have hDE:∀ y,y∈D↔y∈E:=fun y=>hDp.mem_iff
 have hDlen:=hDp.length_eq
 obtain⟨G,hG⟩:∃ G,G=D.filter (fun y=>inR [0] [0] (Qr x.x.2.2.1 y))++D.filter (fun y=>inR (Gj lo) (Gj hi) (Qr x.x.2.2.1 y)):=⟨_,rfl⟩
 have hGm:∀ y,y∈G↔y∈E∧(inR [0] [0] (Qr x.x.2.2.1 y)=true∨inR (Gj lo) (Gj hi) (Qr x.x.2.2.1 y)=true):=fun y=>by
  rw[hG,QS,List.mem_filter,List.mem_filter,hDE]
  constructor
  ·rintro (⟨h1,h2⟩|⟨h1,h2⟩)
   ·exact⟨h1,.inl h2⟩
   ·exact⟨h1,.inr h2⟩
  ·rintro⟨h1,h2|h2⟩
   ·exact .inl ⟨h1,h2⟩
   ·exact .inr ⟨h1,h2⟩
 have hGl:G.length≤200:=by
  rw[hG,QE]
  have h1:=WS (fun y=>inR [0] [0] (Qr x.x.2.2.1 y)) D
  have h2:=WS (fun y=>inR (Gj lo) (Gj hi) (Qr x.x.2.2.1 y)) D
  omega
 have hmap:(x.L.filter (inR [0] [0])++x.L.filter (inR (Gj lo) (Gj hi))).map Yq=G.map plcC:=by
  rw[hDl,hG,List.filter_map,List.filter_map,ZH,ZH,XV,XV]
  rfl
 refine (Axj (PD:=fun D=>D=G) (x:=x) h ht hb hw hx (.inl hxh) nm tn cols (fun {s} a=> ?_) (fun D hD=>by subst hD;exact⟨fun y hy=>((hGm y).1 hy).1,hGl⟩)).mono ?_
 ·refine (A2j (h.ap a) ht hb hE hx hxk hxh hlo hhi nm tn (x.x.2.2.1:Nat) cols).mono ?_
  rintro r s' ⟨U',P',rfl,f,hB,kp⟩
  rw[hmap]
  exact⟨G,U',P',rfl,rfl,f,hB,kp⟩
 ·rintro r s' ⟨av,L,D',U',P',hD',rfl,hm,hL,hp,f,hB,kp,hms⟩
  subst hD'
  refine⟨av,L,U',P',rfl,hm,fun y=> ?_,hp,f,hB,kp,hms⟩
  rw[hL,hGm,and_assoc]
end
theorem Axl {L:List Ver}{e:Ver}(hp:L.Pairwise ltV)(hL:∀ y,y∈L↔y=e):L=[e]:=by
 cases L with
 |nil=>exact absurd ((hL e).2 rfl) (by simp)
 |cons a l=>
  have ha:=(hL a).1 (by simp)
  subst ha
  cases l with
  |nil=>rfl
  |cons c l=>
   have hc:=(hL c).1 (by simp)
   subst hc
   exact absurd rfl (Ln ((YJ.1 hp).1 _ (by simp)))
def Adm:Cq:=(.det 0 (.det 1 (.det 2 (.det 3 (.det 4 (.det 5 (.det 6 (.det 7 (.det 8 (.det 9 (.det 10 (.det 11 (.det 12 (.det 13 (.det 14 (.det 15 (.det 16 (.det 17 (.det 18 (.det 19 (.det 20 (.det 21 (.det 22 (.det 23 (.det 24 (.det 25 (.det 26 (.det 27 (.det 28 (.det 29 (.det 30 (.det 31 (.det 32 (.det 33 (.det 34 (.det 35 (.det 36 (.det 37 (.det 38 (.det 39 (.det 40 .done)))))))))))))))))))))))))))))))))))))))))
def tT11:=aa wX <| aa wbu <| aa T3 <| aa T24 <| aa T26 <| aa T28 <| aa T29 <| aa T32 <| aa T37 <| aa T38 <| aa T40 <| aa T42 <| aa T43 <| aa T46 <| aa T51 <| aa T54 <| aa T56 <| aa T62 T72
theorem Akm (σ:St):Aa Tryz.prog 13 [] σ fun r s=>s=σ∧∃ nm cols,r= .agg [.p (.v (.string nm)),.p (.sl 4 cols)]∧cols.length=3:=by
 refine Aa.pureF (R:=fun r=>∃ nm cols,r= .agg [.p (.v (.string nm)),.p (.sl 4 cols)]∧cols.length=3) ?_ rfl σ
 refine Ab Am An Tryz.func13 (by kernel_rfl) rfl (nt:=6) (rs:=[.cell 0 42]) rfl rfl ?_
 repeat' simp only[↓wBA,tT11,seval,wH]
 all_goals refine rtS ?_
 all_goals simp only[wRe,tT11,seval]
 exact⟨rfl,_,_,rfl,rfl⟩
def i0x:Idx:=(⟨#[105]⟩,⟨#[116]⟩,0,false)
theorem Axm {X:List Ixx}{q:Idx×Kd}(h:X.map kxT=[q]):∃ x,X=[x]∧x.x=q.1∧x.kd=q.2:=by
 match X,h with
 |[x],h=>
  simp only[QK,ZB,YI,and_true]at h
  exact⟨x,rfl,by rw[← h];rfl,by rw[← h];rfl⟩
theorem Axn {Y:List Ixx}{x:Ixx}(h:Y.map Lm=[x].map Lm):∃ y,Y=[y]∧Lm y=Lm x:=by
 cases Y with
 |nil=>simp at h
 |cons y Y=>cases Y with
  |nil=>exact⟨y,rfl,by simpa using h⟩
  |cons z Y=>simp at h
theorem Yw:∀ l:List UInt8,Op.bytesLess l l=false
 |[]=>by simp[Op.bytesLess]
 |a::l=>by simp[Op.bytesLess,Yw l]
theorem Adn (e:Ent):inR e.k e.k e=true:=by unfold inR;rw[Jf];rfl
theorem Yx (v:Va):covV v v v=true:=by
 have:cmpV v v=0:=by simp[cmpV,cmpI,cmpS,Yw]
 unfold covV
 rw[this];simp
theorem Apd (x:Idx):∀ q∈[(x,Gg)],KdOk q.2:=fun q hq=>by
 simp only[ZR]at hq;subst hq;exact Akg
theorem Ape {x:Idx}(h:x.2.2.2=false):∀ q∈[(x,Gg)],∀ σ,Aa Tryz.prog 43 [idxA q.1] σ fun r s=>s=σ∧r=q.2.tool:=fun q hq σ=>by
 simp only[ZR]at hq;subst hq;exact aof x h σ
theorem Ana (σ:St):Aa Tryz.prog 7 [] σ fun r σ'=>Ap σ σ'∧r=Av true:=by
 have hu8:=ck_5
 refine Ab Am An Tryz.func7 (by kernel_rfl) rfl (nt:=92) (rs:=[.tmp 0]) rfl rfl ?_
 repeat' simp only[↓wBA,tT11,seval]
 refine (Alf 800 (by omega) σ).mono ?_
 rintro _ s1 ⟨dd,Fd,rfl,a1,hd,hFd⟩
 repeat' simp only[↓wBA,tT11,seval]
 refine (Alf 4000 (by omega) s1).mono ?_
 rintro _ s2 ⟨dl,Fl,rfl,a2,hl,hFl⟩
 have hd2:=hd.ap a2
 have l1:=a1.len
 have l2:=a2.len
 repeat' simp only[↓wBA,tT11,seval]
 refine (Aix hd2 hl (fun t h1 h2=>by have:=hd.lt t h1;have:=hFl t h2;omega) (by omega) (by omega) 8 (by omega) (by omega)).mono ?_
 rintro _ s3 ⟨p,l,kh,G,P,rfl,a3,hP,p1,p2,p3,p4,p5,p6,p7,p8,p9⟩
 have l3:=a3.len
 have hGσ:∀ t,G t→σ.length≤t:=fun t ht=>by
  rcases p9 t ht with h|h|h
  ·exact hFd t h
  ·have:=hFl t h;omega
  ·omega
 have hpg:P.pages=100:=by rw[p1];rfl
 have hbud:Bud P 1000000:=⟨by omega,by rw[p7];simp,by omega⟩
 repeat' first|simp only[↓wBA,tT11,seval]|((with_reducible show Aa _ _ _ _ _);refine (Ai2 hP).mono ?_;rintro _ s4 ⟨rfl,a4,h4⟩)
 have l4:=a4.len
 refine (Akm _).mono ?_
 rintro _ s4' ⟨rfl,nm,cols,rfl,hcl⟩
 have hc0:cols≠[]:=fun e=>by rw[e]at hcl;simp at hcl
 repeat' simp only[↓wBA,tT11,seval,wH]
 refine Aa.frzArgs ?_
 refine (Apc (w:=3) (T:=fun n=>n==0) (ks:=[(i0x,Gg)]) (h4.ap (Ap.app _ _)) (by rw[p8];exact Aoo (by omega)) (by omega) (by omega) rfl (fun q hq=>by simpa using hq) (hbud.mono (by omega)) (Apd _) (Ape rfl) (by simp[i0x]) (by simp[Gg,Mx];omega) nm hc0 (by omega) (by simp)).mono ?_
 rintro _ s5 ⟨first,X,U5,P5,v5,T5,rfl,f5,h5,k5,hT5,ht05,hX5,ht5⟩
 obtain⟨x,rfl,hxx,hxk⟩:=Axm hX5
 have l5:=f5.len
 simp only[QE,QF,QI]at l5
 have hlt5:=h5.lt
 have hsk:Mw [x] 1=3:=by simp[Mw,hxk,Gg,Mx]
 have hI:=fun {s:St} (a:Ap s5 s)=>Axk (w:=3) (vs:=[(1,5,emp),(0,0,emp),(0,0,emp)]) (made:=1) (h5.ap a) (by rw[k5.pages];exact hT5) (by rw[k5.pages];omega) ht05 (by rw[k5.pages];exact ht5) (hbud.kp (k:=1) k5 (by omega)) (by simp) rfl (by omega) (by omega) (by simp[okW,okV]) (by decide) (by omega) (fun y hy σ=>by simp only[ZR]at hy;subst hy;rw[hxx,hxk];exact aof _ rfl σ) (by rw[k5.pages,hpg,QI,ZC,hsk];omega) nm hcl (by simp)
 obtain⟨z2,z4,hst⟩:∃ z2 z4,Of nm cols [x] first= .agg [.p (.v (.string nm)),.p (.sl 4 cols),.p z2,.p (.v (.int .i64 (first:Nat))),.p z4]:=⟨_,_,rfl⟩
 rw[hst]at hI ⊢
 repeat' simp only[↓wBA,tT11,seval,wH]
 refine Aa.frzArgs ?_
 refine (hI (((Ap.app _ _).more _).more _)).mono ?_
 rintro _ s6 ⟨n,k,ns6,Y,U6,P6,v6,T6,rfl,f6,h6,k6,hT6,ht06,hY,hfr,ht6⟩
 have l6:=f6.len
 simp only[QE,QF,QI]at l6
 rw[k5.pages]at ht6
 have x60:=f6.get (t:=s5.length) (x:=some (Ob.row 5 [[AV.p (.v (.string nm)),AV.p (.sl 4 cols),AV.p z2,AV.p (.v (.int .i64 (first:Nat))),AV.p z4]])) (by simp) (fun e=>ZJ _ (hlt5 _ e))
 have x61:=f6.get (t:=s5.length+1) (x:=some (Ob.row 3 [[AV.p (.v (.int .i64 1)),AV.p (.v (.int .i64 5)),AV.p (.v (.string { data:= #[] }))]])) (by simp) (fun e=>by have:=hlt5 _ e;omega)
 have y60:=Ac x60
 have y61:=Ac x61
 have hE6:insV ((n,k),(1,0),[(1,5,emp),(0,0,emp),(0,0,emp)]) []=[((n,k),(1,0),[(1,5,emp),(0,0,emp),(0,0,emp)])]:=rfl
 rw[hE6]at ht6
 obtain⟨y,rfl,hyx⟩:=Axn hY
 have hyx1:y.x=x.x:=congrArg Prod.fst hyx
 have hyx2:y.kd=x.kd:=congrArg (fun q=>q.2.2) hyx
 rw[hxx]at hyx1
 rw[hxk]at hyx2
 have k56:=k5.trans k6
 have hlt6:=h6.lt
 have hF:=fun {s:St} (a:Ap s6 s)=>Yv (ix:=0) (x:=y) (lo:=(1,5,emp)) (hi:=(1,5,emp)) (h6.ap a) (by rw[k56.pages];exact ht6) (hbud.kp (k:=1) k56 (by omega)) (by simp) (by omega) rfl hyx2 (by rw[hyx1];rfl) (by simp[okW,okV]) (by simp[okW,okV]) nm ⟨#[116]⟩ cols
 have hst2:Of nm cols [y] first= .agg [.p (.v (.string nm)),.p (.sl 4 cols),.p z2,.p (.v (.int .i64 (first:Nat))),.p z4]:=by rw[← hst];exact Amz (by simpa using hyx)
 rw[hst2]at hF
 rw[hyx1]at hF
 simp only[Yr,Akh,i0x,QK,ZB]at hF
 repeat' simp only[↓wBA,tT11,seval,wH,x60,x61,y60,y61]
 refine (hF (Ap.app _ _)).mono ?_
 rintro _ s7 ⟨av,L,U7,P7,rfl,hm7,hL7,hp7,f7,h7,k7,hms7⟩
 obtain⟨e,he⟩:∃ e:Ver,e=((n,k),(1,0),[(1,5,emp),(0,0,emp),(0,0,emp)]):=⟨_,rfl⟩
 obtain rfl:L=[e]:=Axl hp7 fun y=>by
  rw[hL7,ZR,←he]
  constructor
  ·exact fun h=>h.1
  ·rintro rfl
   rw[he]
   exact⟨rfl,.inr (Adn (Qr 0 ((n,k),(1,0),[(1,5,emp),(0,0,emp),(0,0,emp)]))),Yx (1,5,emp)⟩
 obtain⟨tl,rfl,hrow⟩:∃ tl,av= .ms tl 5 0 1∧s7[tl]? =some (some (.row 5 [Dt e])):=by
  rcases hm7 with⟨_,e0⟩|⟨t',e0,_,hr⟩
  ·simp at e0
  ·exact⟨t',by simpa using e0,hr⟩
 have yrow:=Ac hrow
 have l7:=f7.len
 simp only[QE,QF,QI]at l7
 have x70:=f7.get (t:=s6.length) (x:=some (Ob.row 2 [[AV.p (.v (.int .i64 (n:Nat))),AV.p (.v (.int .i64 (k:Nat)))]])) (by simp) (fun e=>ZJ _ (hlt6 _ e))
 have x71:=f7.get ((Ap.app _ _).get x61) (fun e=>by
  rcases f6.own _ e with e|e
  ·have:=hlt5 _ e;omega
  ·simp only[QE,QF,QI]at e;omega)
 have y70:=Ac x70
 have y71:=Ac x71
 subst he
 simp only[Dt,verC,QK,ZB]at hrow
 have hen:enV [(1,5,emp),(0,0,emp),(0,0,emp)]=[[PV.v (.int .i64 1),.v (.int .i64 5),.v (.string { data:= #[] })],[.v (.int .i64 0),.v (.int .i64 0),.v (.string { data:= #[] })],[.v (.int .i64 0),.v (.int .i64 0),.v (.string { data:= #[] })]]:=rfl
 rw[hen]at hrow
 repeat' first|simp only[↓wBA,tT11,seval,Adm,wH,hrow,x70,x71,Bool.and_self]|(with_reducible refine dQ Adm 41 (some 52) ?_)
 all_goals refine rtS ?_
 all_goals simp only[wRe,tT11,seval]
 exact Ap.of_fr (((((a1.trans a2).trans a3).trans a4).trans (Ap.app _ _)).fr (F:=fun t=>t=s3.length∨G t) |>.trans (f5.trans ((((Ap.app s5 _).more _).more _).fr.trans (f6.trans ((Ap.app _ _).fr.trans f7))))) fun t ht=>ht.elim (fun e=>by omega) (hGσ t)
def outS {X:Type}(fr:List AV)(D:X→List (Nat×AV))(Js:List Nat)(I:X→St→Prop)(id:Nat)(Q:Exit→List AV→St→Prop)(e:Exit)(f:List AV)(s:St):Prop:=match e with
 | .exit id'=>if id'=id then ∃ x,I x s∧f=fS fr (D x) Js fun t=>f.getD t .any else Q (.exit id') f s
 |e=>Q e f s
section
variable {P:Program} {C:Ctx} {fr f:List AV} {σ s:St} {Q:Exit→List AV→St→Prop} {c:Code} {X:Type} {D:X→List (Nat×AV)} {Js:List Nat} {I:X→St→Prop} {id:Nat}
theorem Qs {id':Nat}:outS fr D Js I id Q (.exit id') f s=if id'=id then ∃ x,I x s∧f=fS fr (D x) Js fun t=>f.getD t .any else Q (.exit id') f s:=nr rfl
theorem Ado:outS fr D Js I id Q .ret f s=Q .ret f s:=nr rfl
theorem Qt:outS fr D Js I id Q .normal f s=Q .normal f s:=nr rfl
theorem Anb (D:X→List (Nat×AV))(Js:List Nat)(I:X→St→Prop)(id:Nat){d:Array Oper→List AV→St→(List AV→St→Prop)→Prop}(hd:d=Dh P C)(h:AWp P C d c fr σ (outS fr D Js I id Q))(hk:∀ x J s,I x s→Q (.exit id) (fS fr (D x) Js J) s):AWp P C d c fr σ Q:=by
 subst hd
 refine En (fun e f s g=> ?_) h
 cases e with
 |exit id'=>
  rw[Qs]at g
  by_cases e:id'=id
  ·rw[if_pos e]at g
   obtain⟨x,g1,g2⟩:=g
   rw[e,g2];exact hk x _ s g1
  ·rw[if_neg e]at g;exact g
 |_=>exact g
end
theorem wOu:(type_of% @Qs)∧(type_of% @Ado)∧(type_of% @Qt):=⟨@Qs,@Ado,@Qt⟩
