/- table.Make. table.Insert. table.Insert: what is refused; calls on no batch. -/
import Derived.Test.YtpoigihfeehehaaGreatDoorM47
import Derived.Test.YtpoigihfeehehaaGreatDoorM46
set_option linter.all false
set_option maxRecDepth 100000
set_option maxHeartbeats 32000000
namespace Go.Proofs.YtpoigihfeehehaaGreatDoor
open Go.RowKit
open List (getElem?_set_ne length_append length_cons length_map length_nil map_cons map_nil mem_of_getElem?)
def Adb:Cv:=(.det 0 (.det 1 (.det 2 (.det 3 (.det 6 (.two 4 (.det 5 (.det 7 (.act 8 (.fin 9 .done)))) 8 (.act 4 (.det 5 (.det 7 (.fin 9 .done))))))))))
def tT5:=aa wX <| aa wbu <| aa T3 <| aa T9 <| aa T29 <| aa T37 <| aa T38 <| aa T40 <| aa T42 <| aa T43 T46
theorem Amx {T E:TypeId}{e es eb:Nat}{ez:List Value}{ls:List (List PV)}(hk:cx.kind T=some (.slice E es eb ez)):Bf cx T (.p (lsP e ls))=some ls.length:=by
 unfold Bf lsP
 rw[hk]
 by_cases h:ls=[]
 ·rw[if_pos h,h];rfl
 ·rw[if_neg h];rfl
theorem Sto.tk0 {v:Nat→List UInt8}{m:Nat}{T:Nat→Bool}(h0:T 0=true):D3 T m true 0=true:=by unfold D3;split<;>simp_all
theorem Amy {α:Type}(f:α→Nat)(l:List α)(i:Nat):((l.take i).map f).sum≤(l.map f).sum:=by
 have:=congrArg (fun m=>(m.map f).sum) (List.take_append_drop i l)
 simp only[List.map_append,List.sum_append]at this
 omega
def kxT (x:Ixx):Idx×Kd:=(x.x,x.kd)
theorem Ara (X:List Ixx)(n:Nat):Mt X n=((X.map kxT).map fun q=>q.2.B n).sum:=by unfold Mt;rw[List.map_map];rfl
theorem Arb {v:Nat→List UInt8}{T:Nat→Bool}{np m w:Nat}(h1:1≤m)(h2:m<np)(hT:∀ q,T q=true→q=0)(hp:HPg (v m) 0 []):Tab v (D3 T m true) np m [m] [] [] w:=by
 have hT1:D3 T m true m=true:=by simp[D3]
 refine⟨⟨⟨by simp,by simp,by simp;exact⟨h1,h2,hT1⟩,⟨[],by simpa using hp⟩,trivial⟩,?_,by simp,by simp,by simp[psX],fun q hq=> ?_⟩,rfl,by simp,List.Pairwise.nil,by simp,by simp,by simp⟩
 ·show ((Jt v [m])).Perm []
  have:Jt v [m]=[]:=by
   unfold Jt entP
   rw[List.flatMap_cons,List.flatMap_nil,hp.pg.slots]
   rfl
  rw[this]
 ·unfold D3 at hq
  split at hq
  ·rename_i e;exact .inr (.inl (by simp[e]))
  ·exact .inl (hT q hq)
section
variable {σ:St} {b p dd l kh w:Nat} {U:Nat→Prop} {P:Al} {v:Nat→List UInt8} {T:Nat→Bool}
theorem Ao1 {ks:List (Idx×Kd)}(h:Bt σ b p dd l kh U P v)(hT:Tk (v 0) P.pages T)(hnp:P.pages≤3200)(hnp2:2≤P.pages)(hT0:T 0=true)(hT1:∀ q,T q=true→q=0)(hb:Bud P 1)(hk:∀ q∈ks,KdOk q.2)(hof:∀ q∈ks,∀ σ,Aa Tryz.prog 43 [idxA q.1] σ fun r s=>s=σ∧r=q.2.tool)(hx:∀ q∈ks,q.1.2.2.1<w)(hroom:∀ q∈ks,2+(ks.map fun q=>q.2.B 0).sum+2*q.2.B 0≤P.pages)(nm:ByteArray){cols:List (List PV)}(hc0:cols≠[])(hcl:cols.length≤1000000)(hkl:ks.length≤900):
 Aa Tryz.prog 12 [.mp b 2 0 0,.agg [.p (.v (.string nm)),.p (.sl 4 cols)],.p (lsP 4 (ks.map fun q=>Gm q.1))] σ fun r σ'=>∃ (first:Nat) (X:List Ixx) (U':Nat→Prop) (P':Al) (v':Nat→List UInt8) (T':Nat→Bool),r= .tup [Rb nm cols X first,Ad .i64 0]∧Fr σ σ' U U'∧Bt σ' b p dd l kh U' P' v'∧Kp P P' 0∧Tk (v' 0) P.pages T'∧T' 0=true∧X.map kxT=ks∧Tab v' T' P.pages first [first] [] X w:=by
 have hlt:=h.lt
 have hcc:=Aw3 hc0 hcl
 have hcnt:cnt T P.pages≤1:=by
  have h0:cnt (fun _=>false) P.pages=0:=by
   generalize P.pages=np
   induction np with
   |zero=>rfl
   |succ k ih=>simp[cnt,ih]
  have h1:=cntL [0] (T:=fun _=>false) (T':=T) (fun q hq=>.inr (by simp[hT1 q hq])) P.pages
  rw[h0]at h1
  simpa using h1
 obtain⟨zk,hzk⟩:∃ z,z=lsP 4 (ks.map fun q=>Gm q.1):=⟨_,rfl⟩
 have hlaz:Bf cx 43 (.p zk)=some ks.length:=by rw[hzk,Amx Ua,length_map]
 rw[← hzk]
 refine Ab Am Ao Tryz.func12 (by kernel_rfl) rfl (nt:=46) (rs:=[.cell 6 46,.tmp 7]) rfl rfl ?_
 repeat' first|simp only[↓wBA,tT5,seval,wH]|with_reducible refine And.intro ?_ ?_
 refine (Av3 (h.ap ((Ap.app _ _).more _)) hT hnp (by omega) hT0 hb).mono ?_
 rintro r s1 ⟨U1,P1,v1,f1,h1,k1,⟨first,m1,m2,hTm,rfl,hpm,hvo,hTk⟩|⟨hall,_,_⟩⟩
 rotate_left
 ·have:=Qa (T:=T) P.pages hall
  omega
 have hlt1:=h1.lt
 have l1:=f1.len
 simp only[length_append,length_cons,length_nil]at l1
 have x10:=f1.get (t:=σ.length) (x:=some (Ob.row 2 [[AV.p (.v (.string nm)),AV.p (.sl 4 cols)]])) (by simp) (fun e=>by have:=hlt _ e;omega)
 have x11:=f1.get (t:=σ.length+1) (x:=some (Ob.row 5 [[AV.p (.v (.string { data:= #[] })),AV.p (.v (.slice none 0 0)),AV.p (.v (.slice none 0 0)),AV.p (.v (.int .i64 0)),AV.p (.v (.slice none 0 0))]])) (by simp) (fun e=>by have:=hlt _ e;omega)
 have y10:=Ac x10
 have y11:=Ac x11
 have hU1:∀ t,σ.length≤t→t<σ.length+2→¬ U1 t:=fun t h1 h2 h3=>(f1.own t h3).elim (fun e=>by have:=hlt _ e;omega) fun e=>by simp at e;omega
 refine' (fun key:(_:Prop)=> ?main) ?tail
 case main=>
  repeat' first|simp only[↓wBA,tT5,seval,Adb,wH,x10,y10,hlaz]|((with_reducible show Aa _ _ _ _ _);refine (hcc _).eq ?_)|(with_reducible refine dQ Adb 10 (some 22) ?_)|with_reducible refine And.intro ?_ ?_
  all_goals exact key
 case tail=>
  have ht0:Tab v1 (D3 T first true) P.pages first [first] [] [] w:=Arb m1 m2 hT1 hpm
  have hp1:=k1.pages
  obtain⟨S,hS⟩:∃ S,S=s1++[some (Ob.row 5 [[AV.p (.v (.string nm)),AV.p (.sl 4 cols),AV.p (.v (.slice none 0 0)),AV.p (.v (.int .i64 (first:Nat))),AV.p (.v (.slice none 0 0))]])]:=⟨_,rfl⟩
  have aS:Ap s1 S:=⟨_,hS⟩
  have xS:S[s1.length]? =some (some (Ob.row 5 [[AV.p (.v (.string nm)),AV.p (.sl 4 cols),AV.p (lsP 4 []),AV.p (.v (.int .i64 (first:Nat))),AV.p (lsP 1 [])]])):=by rw[hS];simp[lsP]
  have xS1:=aS.get x11
  have lS:S.length=s1.length+1:=by rw[hS];simp
  rw[← hS]
  refine As (X:={ i:Nat // i≤ks.length }) (fun i=>ks.length - i.1) (fun i=>[(9,Ad .i64 0),(32,Ad .i64 (i.1:Nat))]) [7,12,33,34,35,36,37,38,39,40,41,42,43,44,45,46,47] (fun i s=>S.length≤s.length∧∃ X U' P' v' T',Fr σ s U U'∧Bt s b p dd l kh U' P' v'∧Kp P P' 0∧Tk (v' 0) P.pages T'∧T' 0=true∧Tab v' T' P.pages first [first] [] X w∧X.map kxT=ks.take i.1∧s[s1.length]? =some (some (Ob.row 5 [[AV.p (.v (.string nm)),AV.p (.sl 4 cols),AV.p (lsP 4 (X.map fun x=>Gm x.x)),AV.p (.v (.int .i64 (first:Nat))),AV.p (lsP 1 (X.map fun x=>[.v (.int .i64 (x.root:Nat))]))]]))∧s[σ.length+1]? =some (some (Ob.row 5 [[AV.p (.v (.string { data:= #[] })),AV.p (.v (.slice none 0 0)),AV.p (.v (.slice none 0 0)),AV.p (.v (.int .i64 0)),AV.p (.v (.slice none 0 0))]]))∧¬ U' s1.length∧¬ U' (σ.length+1)) (⟨0,by omega⟩) ?_ ?_ ?_ ?_
  ·simp only[wHl,wHf]
  ·exact⟨Nat.le_refl _,[],U1,P1,v1,_,(((Ap.app σ [_]).more [_]).fr.trans f1).trans aS.fr,h1.ap aS,k1,hTk,Sto.tk0 (v:=v) hT0,ht0,rfl,xS,xS1,fun e=>Nat.lt_irrefl _ (hlt1 _ e),hU1 _ (by omega) (by omega)⟩
  ·rintro _ _ ⟨h,_⟩;exact h
  ·intro y J s hI
   simp only[wHl]
   obtain⟨i,hi⟩:=y
   obtain⟨ls,X,U4,P4,v4,T4,f4,h4,k4,hT4,ht04,ht4,hX4,xs,xr,un,ur⟩:=hI
   dsimp only at*
   have hi0:=nnI i
   have hwi:=wI i (by omega)
   have ys:=Ac xs
   have yr:=Ac xr
   have nas:(s.length=s1.length)=False:=eq_false (by omega)
   have nas':(s1.length=s.length)=False:=eq_false (by omega)
   have nar:(s1.length=σ.length+1)=False:=eq_false (by omega)
   have nar':(σ.length+1=s1.length)=False:=eq_false (by omega)
   by_cases hlt':i<ks.length
   ·have e1:=dT (i:=i) (n:=ks.length) hlt'
    obtain⟨q,hq⟩:∃ q,ks[i]? =some q:=⟨ks[i],by simp⟩
    have hqm:=mem_of_getElem? hq
    have hkn:ks≠[]:=fun e=>by rw[e]at hlt';simp at hlt'
    have ezk:zk= .sl 4 (ks.map fun q=>Gm q.1):=by rw[hzk];unfold lsP;rw[if_neg (by simpa using hkn)]
    clear hzk
    subst ezk
    have hg:(ks.map fun q=>Gm q.1)[i]? =some (Gm q.1):=by rw[List.getElem?_map,hq];rfl
    have hif:((i:Int)<(ks.length:Int))=True:=eq_true (by omega)
    obtain⟨LX,hLX⟩:∃ LX,LX=ks.map fun q=>Gm q.1:=⟨_,rfl⟩
    have hLXl:LX.length=ks.length:=by rw[hLX,length_map]
    rw[← hLX]at hg hlaz ⊢
    have hXl:X.length≤1000:=by
     have:=congrArg List.length hX4
     rw[length_map,List.length_take]at this
     omega
    have hsx:Mt X 0≤(ks.map fun q=>q.2.B 0).sum:=by
     rw[Ara,hX4]
     exact Amy (fun q:Idx×Kd=>q.2.B 0) ks i
    have hrm:=hroom q hqm
    have hadd:∀ {s':St},Bt s' b p dd l kh U4 P4 v4→Aa Tryz.prog 15 [.mp b 2 0 0,Rb nm cols X first,idxA q.1] s' fun r σ'=>∃ (root:Nat) (ps:List Nat) (L:List Ent) (U':Nat→Prop) (P':Al) (v':Nat→List UInt8) (T':Nat→Bool),r= .tup [Rb nm cols (X++[⟨q.1,root,ps,q.2,L⟩]) first,Ad .i64 0]∧Fr s' σ' U4 U'∧Bt σ' b p dd l kh U' P' v'∧Kp P4 P' 0∧Tk (v' 0) P4.pages T'∧T' 0=true∧Tab v' T' P4.pages first [first] [] (X++[⟨q.1,root,ps,q.2,L⟩]) w:=fun {s'} hB=>
     A14 hB (by rw[k4.pages];exact hT4) (by rw[k4.pages];exact hnp) ht04 (by rw[k4.pages];exact ht4) (hb.kp k4 (by omega)) (by simp) (hk q hqm) (hof q hqm) (hx q hqm) (by rw[k4.pages];simp only[length_nil];omega) nm hc0 hcl hXl
    have htk:ks.take (i+1)=ks.take i++[q]:=by rw[List.take_add_one,hq];rfl
    obtain⟨⟨qn,qt,qc,qh⟩,qk⟩:=q
    dsimp only at*
    simp only[Gm,idxA,Rb,map_cons,map_nil]at hg hadd
    obtain⟨z2,hz2⟩:∃ z,z=lsP 4 (X.map fun x=>Gm x.x):=⟨_,rfl⟩
    obtain⟨z4,hz4⟩:∃ z,z=lsP 1 (X.map fun x=>[PV.v (.int .i64 (x.root:Nat))]):=⟨_,rfl⟩
    simp only[Gm]at hz2
    rw[← hz2,←hz4]at hadd
    have hz2':z2=lsP 4 (X.map fun x=>Gm x.x):=hz2
    rw[← hz2',←hz4]at xs
    repeat' first|simp only[↓wBA,tT5,seval,wH,wHl,hi0,hg,hif,xs,ys]|((with_reducible show Aa _ _ _ _ _);refine (hadd (h4.ap (Ap.app _ _))).mono ?_;rintro _ s5 ⟨root,ps,L,U5,P5,v5,T5,rfl,f5,h5,k5,hT5,ht05,ht5⟩)|with_reducible refine And.intro ?_ ?_
    have l5:=f5.len
    simp only[length_append,length_cons,length_nil]at l5
    rw[k4.pages]at hT5 ht5
    have xs5:=f5.get ((Ap.app _ _).get xs) un
    have xr5:=f5.get ((Ap.app _ _).get xr) ur
    have ys5:=Ac xs5
    have yr5:=Ac xr5
    have un5:¬ U5 s1.length:=fun e=>(f5.own _ e).elim un fun e=>by simp only[length_append,length_cons,length_nil]at e;omega
    have ur5:¬ U5 (σ.length+1):=fun e=>(f5.own _ e).elim ur fun e=>by simp only[length_append,length_cons,length_nil]at e;omega
    repeat' first|simp only[↓wBA,tT5,seval,wH,wHl,hwi,xs5,ys5]|with_reducible refine And.intro ?_ ?_
    refine⟨⟨i+1,by omega⟩,by show ks.length - (i+1)<ks.length - i;omega,⟨by omega,X++[⟨(qn,qt,qc,qh),root,ps,qk,L⟩],U5,P5,v5,T5,(f4.trans ((Ap.app _ _).fr.trans f5)).setN (by omega) _,h5.set un5 _,k4.trans k5,hT5,ht05,ht5,?_,rfl,?_,un5,ur5⟩,by simp only[]⟩
    ·dsimp only
     rw[List.map_append,hX4,htk];rfl
    ·first|exact xr5|(rw[getElem?_set_ne (by omega)];exact xr5)
   ·obtain rfl:i=ks.length:=by omega
    have e1:=dF (i:=ks.length) (n:=ks.length) hlt'
    rw[List.take_length]at hX4
    repeat' first|simp only[↓wBA,tT5,seval,wHl,e1,xs,xr]|with_reducible refine And.intro ?_ ?_
    all_goals refine rtS ?_
    all_goals simp only[A1.eq_1,Ak.eq_1,Ak.eq_2,Ax.eq_1,Ax.eq_2,tT5,seval,wH,yr]
    exact⟨first,X,U4,P4,v4,T4,rfl,f4.setN (by omega) _,h4.set ur _,k4,hT4,ht04,hX4,ht4⟩
end
def Yq:Cv:=(.det 0 (.det 1 (.det 2 (.det 3 (.det 6 (.two 4 (.two 5 (.two 7 (.two 8 (.two 9 (.det 10 (.det 11 (.det 12 (.act 13 (.fin 14 (.det 15 .done)))))) 13 (.fin 9 (.det 10 (.det 11 (.det 12 (.fin 14 (.det 15 .done))))))) 13 (.act 8 (.fin 9 (.det 10 (.det 11 (.det 12 (.fin 14 (.det 15 .done)))))))) 13 (.act 7 (.act 8 (.fin 9 (.det 10 (.det 11 (.det 12 (.fin 14 (.det 15 .done))))))))) 13 (.act 5 (.act 7 (.act 8 (.fin 9 (.det 10 (.det 11 (.det 12 (.fin 14 (.det 15 .done)))))))))) 13 (.act 4 (.act 5 (.act 7 (.act 8 (.fin 9 (.det 10 (.det 11 (.det 12 (.fin 14 (.det 15 .done))))))))))))))))
def Yr:Cv:=(.det 0 (.det 3 (.det 4 (.det 5 (.det 6 (.det 7 (.det 8 (.det 9 (.det 10 (.det 11 (.det 12 (.det 13 (.det 15 (.act 1 (.det 2 (.act 14 (.fin 16 (.det 17 .done))))))))))))))))))
def tT3:=aa wX <| aa wbu <| aa T3 <| aa T4 <| aa T24 <| aa T29 <| aa T35 <| aa T37 <| aa T38 <| aa T40 <| aa T42 <| aa T43 <| aa T44 <| aa T46 <| aa T51 <| aa T54 <| aa T70 <| aa T81 T111
theorem Arc {T E:TypeId}{e es eb:Nat}{ez:List Value}{ls:List (List PV)}(hk:cx.kind T=some (.slice E es eb ez)):Bf cx T (.p (lsP e ls))=some ls.length:=by
 unfold Bf lsP
 rw[hk]
 by_cases h:ls=[]
 ·rw[if_pos h,h];rfl
 ·rw[if_neg h];rfl
theorem Aj9 (e:Nat){ls:List (List PV)}(h:ls≠[]):lsP e ls= .sl e ls∧True:=⟨by unfold lsP;rw[if_neg h],trivial⟩
def InsF (σ:St)(b p dd l kh:Nat)(U:Nat→Prop)(P:Al)(v:Nat→List UInt8)(T:Nat→Bool)(ns:List Nat)(R0:List UInt8)(X0:Ob)(S:St)(na:Nat)(U1:Nat→Prop)(P1:Al)(v1:Nat→List UInt8)(T1:Nat→Bool)(ns1:List Nat)(n k:Nat):Prop:=
 Fr σ S U U1∧Bt S b p dd l kh U1 P1 v1∧Kp P P1 0∧InsR v v1 T T1 P.pages ns ns1 n k R0∧S[σ.length]? =some (some X0)∧S[σ.length+1]? =some (some (.row 2 [[Ad .i64 0,Ad .i64 0]]))∧S[na]? =some (some (.row 2 [[Ad .i64 (n:Nat),Ad .i64 (k:Nat)]]))∧σ.length+2≤na∧¬ U1 σ.length∧¬ U1 (σ.length+1)∧¬ U1 na
section
variable {σ s s1:St} {b p dd l kh na n k:Nat} {U U1:Nat→Prop} {P P1:Al} {v v1:Nat→List UInt8} {T T1:Nat→Bool} {ns ns1:List Nat} {R0:List UInt8} {X0:Ob} {z:Option Ob}
theorem Lq (hU:∀ t,U t→t<σ.length)(a:Ap σ s)(g0:s[σ.length]? =some (some X0))(g1:s[σ.length+1]? =some (some (.row 2 [[Ad .i64 0,Ad .i64 0]])))(gn:s[na]? =some z)(hna:σ.length+2≤na)(f:Fr s s1 U U1)(hB:Bt s1 b p dd l kh U1 P1 v1)(kp:Kp P P1 0)(i:InsR v v1 T T1 P.pages ns ns1 n k R0):
 InsF σ b p dd l kh U P v T ns R0 X0 (s1.set na (some (.row 2 [[Ad .i64 (n:Nat),Ad .i64 (k:Nat)]]))) na U1 P1 v1 T1 ns1 n k:=by
 have hU1:∀ t,σ.length≤t→t<s.length→¬ U1 t:=fun t h1 h2 h3=>(f.own t h3).elim (fun e=>by have:=hU t e;omega) fun e=>by omega
 have l0:=Ac g0
 have l1:=Ac g1
 have ln:=Ac gn
 have hl:=f.len
 refine⟨(a.fr.trans f).setN (by omega) _,hB.set (hU1 na (by omega) ln) _,kp,i,?_,?_,?_,hna,hU1 _ (by omega) l0,hU1 _ (by omega) l1,hU1 _ (by omega) ln⟩
 ·rw[getElem?_set_ne (by omega)];exact f.get g0 (fun e=>by have:=hU _ e;omega)
 ·rw[getElem?_set_ne (by omega)];exact f.get g1 (fun e=>by have:=hU _ e;omega)
 ·rw[List.getElem?_set_self (by omega)]
theorem Amz (hU:∀ t,U t→t<σ.length)(a:Ap σ s)(g0:s[σ.length]? =some none)(g1:s[σ.length+1]? =some (some (.row 2 [[Ad .i64 0,Ad .i64 0]])))(f:Fr s s1 U U1)(hB:Bt s1 b p dd l kh U1 P1 v1)(kp:Kp P P1 0)(i:InsR v v1 T T1 P.pages ns ns1 n k R0):
 InsF σ b p dd l kh U P v T ns R0 X0 (s1.set σ.length (some X0)++[some (.row 2 [[Ad .i64 (n:Nat),Ad .i64 (k:Nat)]])]) s1.length U1 P1 v1 T1 ns1 n k:=by
 have hU1:∀ t,σ.length≤t→t<s.length→¬ U1 t:=fun t h1 h2 h3=>(f.own t h3).elim (fun e=>by have:=hU t e;omega) fun e=>by omega
 have l0:=Ac g0
 have l1:=Ac g1
 have hl:=f.len
 have hlt1:=hB.lt
 refine⟨((a.fr.trans f).setN (by omega) _).app _,(hB.set (hU1 _ (by omega) l0) _).ap (Ap.app _ _),kp,i,?_,?_,?_,by omega,hU1 _ (by omega) l0,hU1 _ (by omega) l1,fun e=>Nat.lt_irrefl _ (hlt1 _ e)⟩
 ·rw[List.getElem?_append_left (by rw[List.length_set];omega),List.getElem?_set_self (by omega)]
 ·rw[List.getElem?_append_left (by rw[List.length_set];omega),getElem?_set_ne (by omega)];exact f.get g1 (fun e=>by have:=hU _ e;omega)
 ·simp
end
section
variable {σ:St} {b p dd l kh first w:Nat} {U:Nat→Prop} {P:Al} {v:Nat→List UInt8} {T:Nat→Bool} {ns:List Nat} {E:List Ver} {X:List Ixx}
theorem Axa {vs:List Va}{made:Nat}(h:Bt σ b p dd l kh U P v)(hT:Tk (v 0) P.pages T)(hnp:P.pages≤3200)(hT0:T 0=true)(ht:Tab v T P.pages first ns E X w)(hb:Bud P 1)(hE:E.length<60)(hl:vs.length=w)(hw:w≤255)(hw0:0<w)(hv:∀ v∈vs,okW v)(hfit:(rwB vs).length≤392)(hm:made≤16777216)(hof:∀ x∈X,∀ σ,Aa Tryz.prog 43 [idxA x.x] σ fun r s=>s=σ∧r=x.kd.tool)(hroom:4+E.length+2*Mt X (E.length+1)≤P.pages)(nm:ByteArray){cols:List (List PV)}(hcl:cols.length=w)(hXl:X.length≤1000):
 Aa Tryz.prog 14 [.mp b 2 0 0,Rb nm cols X first,.p (.sl 3 (enV vs)),Ad .i64 (made:Nat)] σ fun r σ'=>∃ (n k:Nat) (ns':List Nat) (Y:List Ixx) (U':Nat→Prop) (P':Al) (v':Nat→List UInt8) (T':Nat→Bool),r= .tup [.agg [Ad .i64 (n:Nat),Ad .i64 (k:Nat)],Ad .i64 0]∧Fr σ σ' U U'∧Bt σ' b p dd l kh U' P' v'∧Kp P P' 0∧Tk (v' 0) P.pages T'∧T' 0=true∧Y.map Rc=X.map Rc∧(∀ x∈E,¬ x.1=(n,k))∧Tab v' T' P.pages first ns' (insV ((n,k),(made,0),vs) E) Y w:=by
 have hlt:=h.lt
 have hct:=Ajv vs (by omega)
 rw[okW.all hv]at hct
 have hwn:=Aad (made:Nat)
 rw[show wiN (made:Nat)=true by unfold wiN;simp;omega]at hwn
 have hft:=Aqr vs
 rw[Ux hv (by omega),decide_eq_true hfit]at hft
 have hpt:=Awo vs
 rw[Ajn hv (by omega)]at hpt
 have hn1:=Awp (n:=made) (by omega)
 have hn0:=Awp (n:=0) (by omega)
 have hcat:=acat (xs:=[leB made 4,leB 0 4,rwB vs]) (by simp[Cy];omega) (by simp[Cy];omega) (by simp)
 have hln:=Fb vs
 unfold Rb
 obtain⟨z2,hz2⟩:∃ z,z=lsP 4 (X.map fun x=>Gm x.x):=⟨_,rfl⟩
 obtain⟨z4,hz4⟩:∃ z,z=lsP 1 (X.map fun x=>[PV.v (.int .i64 (x.root:Nat))]):=⟨_,rfl⟩
 rw[← hz2,←hz4]
 have hfl:[leB made 4,leB 0 4,rwB vs].flatten=rcB made 0 vs:=by simp[rcB]
 rw[hfl]at hcat
 simp only[map_cons,map_nil]at hcat
 have hrcl:(rcB made 0 vs).length=(rwB vs).length+8:=by unfold rcB;rw[length_append,length_append,Cy,Cy];omega
 obtain⟨R0,hR0⟩:∃ R,R=rcB made 0 vs:=⟨_,rfl⟩
 rw[← hR0]at hcat hrcl
 have hn0':∀ σ,Aa Tryz.prog 42 [.p (.v (.int .i64 0))] σ fun r s=>s=σ∧r= .p (.sl 1 (Ay (leB 0 4))):=hn0
 have hcn:=ht.cnt
 have hsm:=Ym (n:=E.length) (m:=E.length+1) (by omega) ht.st.kd
 have hhi:∀ {s:St},Ap σ s→Aa Tryz.prog 40 [.mp b 2 0 0,Ad .i64 (first:Nat),.p (.sl 1 (Ay R0))] s fun q σ'=>∃ U' P' v' n k T' ns',q= .tup [.agg [Ad .i64 (n:Nat),Ad .i64 (k:Nat)],Ad .i64 0]∧Fr s σ' U U'∧Bt σ' b p dd l kh U' P' v'∧Kp P P' 0∧InsR v v' T T' P.pages ns ns' n k R0:=fun {s} ha=>by
  refine (Als (r:=R0) (h.ap ha) hT hnp hT0 ht.st.hp ht.f (.inl ⟨_,rfl,.inl rfl⟩) (by omega) (by simp[N8]) hb).mono ?_
  rintro q s' ⟨U',P',v',f,hB,kp,⟨n,k,T',ns',rfl,hI⟩|⟨hall,_⟩⟩
  ·exact⟨U',P',v',n,k,T',ns',rfl,f,hB,kp,hI⟩
  ·have:=Qa (T:=T) P.pages hall
   omega
 refine Ab Am Ao Tryz.func14 (by kernel_rfl) rfl (nt:=88) (rs:=[.cell 8 51,.tmp 9]) rfl rfl ?_
 have hlaz:Bf cx 43 (.p z2)=some X.length:=by rw[hz2,Arc Ua,length_map]
 refine' (fun key:(∀ (S:St) (na ta:Nat) (U1:Nat→Prop) (P1:Al) (v1:Nat→List UInt8) (T1:Nat→Bool) (ns1:List Nat) (n k:Nat),InsF σ b p dd l kh U P v T ns R0 (Ob.row 5 [[AV.p (.v (.string nm)),AV.p (.sl 4 cols),AV.p z2,AV.p (.v (.int .i64 (first:Nat))),AV.p z4]]) S na U1 P1 v1 T1 ns1 n k→(_:St→Nat→Nat→Nat→Nat→Prop) S na ta n k)=> ?main) ?tail
 case main=>
  repeat' first|simp only[↓wBA,tT3,seval,Yq,wH,hln,hl,hcl]|((with_reducible show Aa _ _ _ _ _);first|refine (hct _).eq ?_|refine (hwn _).eq ?_|refine (hft _).eq ?_|refine (hpt _).eq ?_|refine (hn1 _).eq ?_|refine (hn0' _).eq ?_|(refine Aa.frzArgs ?_;refine (hcat _).eq ?_))|(with_reducible refine dQ Yq 16 (some 47) ?_)|with_reducible refine And.intro ?_ ?_
  ·skip
   refine (hhi (((Ap.app _ _).more _).more _)).mono ?_
   rintro q s1 ⟨U1,P1,v1,n,k,T1,ns1,rfl,f1,h1,k1,i1⟩
   have l1:=f1.len
   simp only[length_append,length_cons,length_nil]at l1
   have y0:σ.length<s1.length:=by omega
   have hF:=Amz (X0:=(Ob.row 5 [[AV.p (.v (.string nm)),AV.p (.sl 4 cols),AV.p z2,AV.p (.v (.int .i64 (first:Nat))),AV.p z4]])) hlt (((Ap.app _ _).more _).more _) (by simp) (by simp[Ad]) f1 h1 k1 i1
   repeat' first|simp only[↓wBA,tT3,seval,wH,y0,hlaz]|with_reducible refine And.intro ?_ ?_
   obtain⟨S3,hS3⟩:∃ S3,S3=s1.set σ.length (some (Ob.row 5 [[AV.p (.v (.string nm)),AV.p (.sl 4 cols),AV.p z2,AV.p (.v (.int .i64 (first:Nat))),AV.p z4]]))++[some (Ob.row 2 [[Ad .i64 (n:Nat),Ad .i64 (k:Nat)]])]:=⟨_,rfl⟩
   rw[← hS3]at hF
   simp only[Ad]at hS3
   simp only[hS3.symm]
   obtain⟨na,hna⟩:∃ na,na=s1.length:=⟨_,rfl⟩
   simp only[hna.symm]at hF ⊢
   obtain⟨ta,hta⟩:∃ ta,ta=σ.length+2:=⟨_,rfl⟩
   simp only[hta.symm]
   exact key S3 na ta U1 P1 v1 T1 ns1 n k hF
  ·skip
   refine (hhi ((((Ap.app _ _).more _).more _).more _)).mono ?_
   rintro q s1 ⟨U1,P1,v1,n,k,T1,ns1,rfl,f1,h1,k1,i1⟩
   have l1:=f1.len
   simp only[length_append,length_cons,length_nil]at l1
   have gn:=f1.get (t:=σ.length+3) (x:=some (Ob.row 2 [[AV.p (.v (.int .i64 0)),AV.p (.v (.int .i64 0))]])) (by simp) (fun e=>by have:=hlt _ e;omega)
   have yn:=Ac gn
   have g0:=f1.get (t:=σ.length) (x:=some (Ob.row 5 [[AV.p (.v (.string nm)),AV.p (.sl 4 cols),AV.p z2,AV.p (.v (.int .i64 (first:Nat))),AV.p z4]])) (by simp) (fun e=>by have:=hlt _ e;omega)
   have y0:=Ac g0
   have hF:=Lq (na:=σ.length+3) (X0:=(Ob.row 5 [[AV.p (.v (.string nm)),AV.p (.sl 4 cols),AV.p z2,AV.p (.v (.int .i64 (first:Nat))),AV.p z4]])) hlt ((((Ap.app _ _).more _).more _).more _) (by simp) (by simp[Ad]) (z:=some (Ob.row 2 [[AV.p (.v (.int .i64 0)),AV.p (.v (.int .i64 0))]])) (by simp) (by omega) f1 h1 k1 i1
   repeat' first|simp only[↓wBA,tT3,seval,wH,gn,g0,hlaz]|with_reducible refine And.intro ?_ ?_
   obtain⟨S3,hS3⟩:∃ S3,S3=s1.set (σ.length+3) (some (Ob.row 2 [[Ad .i64 (n:Nat),Ad .i64 (k:Nat)]])):=⟨_,rfl⟩
   rw[← hS3]at hF
   simp only[Ad]at hS3
   simp only[hS3.symm]
   obtain⟨na,hna⟩:∃ na,na=σ.length+3:=⟨_,rfl⟩
   simp only[hna.symm]at hF ⊢
   obtain⟨ta,hta⟩:∃ ta,ta=σ.length+2:=⟨_,rfl⟩
   simp only[hta.symm]
   exact key S3 na ta U1 P1 v1 T1 ns1 n k hF
  ·skip
   refine (hhi ((((Ap.app _ _).more _).more _).more _)).mono ?_
   rintro q s1 ⟨U1,P1,v1,n,k,T1,ns1,rfl,f1,h1,k1,i1⟩
   have l1:=f1.len
   simp only[length_append,length_cons,length_nil]at l1
   have gn:=f1.get (t:=σ.length+3) (x:=some (Ob.row 2 [[AV.p (.v (.int .i64 0)),AV.p (.v (.int .i64 0))]])) (by simp) (fun e=>by have:=hlt _ e;omega)
   have yn:=Ac gn
   have g0:=f1.get (t:=σ.length) (x:=some (Ob.row 5 [[AV.p (.v (.string nm)),AV.p (.sl 4 cols),AV.p z2,AV.p (.v (.int .i64 (first:Nat))),AV.p z4]])) (by simp) (fun e=>by have:=hlt _ e;omega)
   have y0:=Ac g0
   have hF:=Lq (na:=σ.length+3) (X0:=(Ob.row 5 [[AV.p (.v (.string nm)),AV.p (.sl 4 cols),AV.p z2,AV.p (.v (.int .i64 (first:Nat))),AV.p z4]])) hlt ((((Ap.app _ _).more _).more _).more _) (by simp) (by simp[Ad]) (z:=some (Ob.row 2 [[AV.p (.v (.int .i64 0)),AV.p (.v (.int .i64 0))]])) (by simp) (by omega) f1 h1 k1 i1
   repeat' first|simp only[↓wBA,tT3,seval,wH,gn,g0,hlaz]|with_reducible refine And.intro ?_ ?_
   obtain⟨S3,hS3⟩:∃ S3,S3=s1.set (σ.length+3) (some (Ob.row 2 [[Ad .i64 (n:Nat),Ad .i64 (k:Nat)]])):=⟨_,rfl⟩
   rw[← hS3]at hF
   simp only[Ad]at hS3
   simp only[hS3.symm]
   obtain⟨na,hna⟩:∃ na,na=σ.length+3:=⟨_,rfl⟩
   simp only[hna.symm]at hF ⊢
   obtain⟨ta,hta⟩:∃ ta,ta=σ.length+2:=⟨_,rfl⟩
   simp only[hta.symm]
   exact key S3 na ta U1 P1 v1 T1 ns1 n k hF
  ·skip
   refine (hhi ((((Ap.app _ _).more _).more _).more _)).mono ?_
   rintro q s1 ⟨U1,P1,v1,n,k,T1,ns1,rfl,f1,h1,k1,i1⟩
   have l1:=f1.len
   simp only[length_append,length_cons,length_nil]at l1
   have gn:=f1.get (t:=σ.length+2) (x:=some (Ob.row 2 [[AV.p (.v (.int .i64 0)),AV.p (.v (.int .i64 0))]])) (by simp) (fun e=>by have:=hlt _ e;omega)
   have yn:=Ac gn
   have g0:=f1.get (t:=σ.length) (x:=some (Ob.row 5 [[AV.p (.v (.string nm)),AV.p (.sl 4 cols),AV.p z2,AV.p (.v (.int .i64 (first:Nat))),AV.p z4]])) (by simp) (fun e=>by have:=hlt _ e;omega)
   have y0:=Ac g0
   have hF:=Lq (na:=σ.length+2) (X0:=(Ob.row 5 [[AV.p (.v (.string nm)),AV.p (.sl 4 cols),AV.p z2,AV.p (.v (.int .i64 (first:Nat))),AV.p z4]])) hlt ((((Ap.app _ _).more _).more _).more _) (by simp) (by simp[Ad]) (z:=some (Ob.row 2 [[AV.p (.v (.int .i64 0)),AV.p (.v (.int .i64 0))]])) (by simp) (by omega) f1 h1 k1 i1
   repeat' first|simp only[↓wBA,tT3,seval,wH,gn,g0,hlaz]|with_reducible refine And.intro ?_ ?_
   obtain⟨S3,hS3⟩:∃ S3,S3=s1.set (σ.length+2) (some (Ob.row 2 [[Ad .i64 (n:Nat),Ad .i64 (k:Nat)]])):=⟨_,rfl⟩
   rw[← hS3]at hF
   simp only[Ad]at hS3
   simp only[hS3.symm]
   obtain⟨na,hna⟩:∃ na,na=σ.length+2:=⟨_,rfl⟩
   simp only[hna.symm]at hF ⊢
   obtain⟨ta,hta⟩:∃ ta,ta=σ.length+3:=⟨_,rfl⟩
   simp only[hta.symm]
   exact key S3 na ta U1 P1 v1 T1 ns1 n k hF
  ·skip
   refine (hhi ((((Ap.app _ _).more _).more _).more _)).mono ?_
   rintro q s1 ⟨U1,P1,v1,n,k,T1,ns1,rfl,f1,h1,k1,i1⟩
   have l1:=f1.len
   simp only[length_append,length_cons,length_nil]at l1
   have gn:=f1.get (t:=σ.length+2) (x:=some (Ob.row 2 [[AV.p (.v (.int .i64 0)),AV.p (.v (.int .i64 0))]])) (by simp) (fun e=>by have:=hlt _ e;omega)
   have yn:=Ac gn
   have g0:=f1.get (t:=σ.length) (x:=some (Ob.row 5 [[AV.p (.v (.string nm)),AV.p (.sl 4 cols),AV.p z2,AV.p (.v (.int .i64 (first:Nat))),AV.p z4]])) (by simp) (fun e=>by have:=hlt _ e;omega)
   have y0:=Ac g0
   have hF:=Lq (na:=σ.length+2) (X0:=(Ob.row 5 [[AV.p (.v (.string nm)),AV.p (.sl 4 cols),AV.p z2,AV.p (.v (.int .i64 (first:Nat))),AV.p z4]])) hlt ((((Ap.app _ _).more _).more _).more _) (by simp) (by simp[Ad]) (z:=some (Ob.row 2 [[AV.p (.v (.int .i64 0)),AV.p (.v (.int .i64 0))]])) (by simp) (by omega) f1 h1 k1 i1
   repeat' first|simp only[↓wBA,tT3,seval,wH,gn,g0,hlaz]|with_reducible refine And.intro ?_ ?_
   obtain⟨S3,hS3⟩:∃ S3,S3=s1.set (σ.length+2) (some (Ob.row 2 [[Ad .i64 (n:Nat),Ad .i64 (k:Nat)]])):=⟨_,rfl⟩
   rw[← hS3]at hF
   simp only[Ad]at hS3
   simp only[hS3.symm]
   obtain⟨na,hna⟩:∃ na,na=σ.length+2:=⟨_,rfl⟩
   simp only[hna.symm]at hF ⊢
   obtain⟨ta,hta⟩:∃ ta,ta=σ.length+3:=⟨_,rfl⟩
   simp only[hta.symm]
   exact key S3 na ta U1 P1 v1 T1 ns1 n k hF
  ·skip
   refine (hhi ((((Ap.app _ _).more _).more _).more _)).mono ?_
   rintro q s1 ⟨U1,P1,v1,n,k,T1,ns1,rfl,f1,h1,k1,i1⟩
   have l1:=f1.len
   simp only[length_append,length_cons,length_nil]at l1
   have gn:=f1.get (t:=σ.length+2) (x:=some (Ob.row 2 [[AV.p (.v (.int .i64 0)),AV.p (.v (.int .i64 0))]])) (by simp) (fun e=>by have:=hlt _ e;omega)
   have yn:=Ac gn
   have g0:=f1.get (t:=σ.length) (x:=some (Ob.row 5 [[AV.p (.v (.string nm)),AV.p (.sl 4 cols),AV.p z2,AV.p (.v (.int .i64 (first:Nat))),AV.p z4]])) (by simp) (fun e=>by have:=hlt _ e;omega)
   have y0:=Ac g0
   have hF:=Lq (na:=σ.length+2) (X0:=(Ob.row 5 [[AV.p (.v (.string nm)),AV.p (.sl 4 cols),AV.p z2,AV.p (.v (.int .i64 (first:Nat))),AV.p z4]])) hlt ((((Ap.app _ _).more _).more _).more _) (by simp) (by simp[Ad]) (z:=some (Ob.row 2 [[AV.p (.v (.int .i64 0)),AV.p (.v (.int .i64 0))]])) (by simp) (by omega) f1 h1 k1 i1
   repeat' first|simp only[↓wBA,tT3,seval,wH,gn,g0,hlaz]|with_reducible refine And.intro ?_ ?_
   obtain⟨S3,hS3⟩:∃ S3,S3=s1.set (σ.length+2) (some (Ob.row 2 [[Ad .i64 (n:Nat),Ad .i64 (k:Nat)]])):=⟨_,rfl⟩
   rw[← hS3]at hF
   simp only[Ad]at hS3
   simp only[hS3.symm]
   obtain⟨na,hna⟩:∃ na,na=σ.length+2:=⟨_,rfl⟩
   simp only[hna.symm]at hF ⊢
   obtain⟨ta,hta⟩:∃ ta,ta=σ.length+3:=⟨_,rfl⟩
   simp only[hta.symm]
   exact key S3 na ta U1 P1 v1 T1 ns1 n k hF
 case tail=>
  rintro S na ta U1 P1 v1 T1 ns1 n k ⟨f1,h1,k1,i1,x0,x1,xn,hna,u0,u1,un⟩
  have y0:=Ac x0
  have y1:=Ac x1
  have yn:=Ac xn
  rw[hR0]at i1
  obtain⟨tb,hnl1,hf1,hfr⟩:=ht.begin i1
  have hrec:Jr v1 ns1 n k=some (rcB made 0 vs):=by rw[i1.get,if_pos ⟨rfl,rfl⟩]
  obtain⟨b1,b2⟩:=Aj6 i1.heap hrec
  have hUS:∀ (t:Nat) (U':Nat→Prop),(∀ t,U' t→U1 t∨S.length≤t)→t<S.length→¬ U1 t→¬ U' t:=fun t U' h1 h2 h3 h4=>(h1 t h4).elim h3 fun e=>by omega
  obtain⟨e,he⟩:∃ e:Ver,e=((n,k),(made,0),vs):=⟨_,rfl⟩
  rw[← he]at tb
  refine As (X:={ i:Nat // i≤X.length }) (fun i=>X.length - i.1) (fun i=>[(14,Ad .i64 0),(62,Ad .i64 (i.1:Nat))]) [15,16,63,64,65,66,67,68,69,70,71,72,73,74,75,76,77,78,79,80,81,82,83,84,85,86] (fun i s=>S.length≤s.length∧∃ U' P' v' T' Y,Fr S s U1 U'∧Bt s b p dd l kh U' P' v'∧Kp P P' 0∧TabI v' T' P.pages ns1 E e X Y i.1) (⟨0,by omega⟩) ?_ ?_ ?_ ?_
  ·simp only[wHl,wHf]
  ·exact⟨Nat.le_refl _,U1,P1,v1,T1,X,Fr.refl _ _,h1,k1,tb⟩
  ·rintro _ _ ⟨h,_⟩;exact h
  ·intro y J s hI
   simp only[wHl]
   obtain⟨i,hi⟩:=y
   obtain⟨ls,U4,P4,v4,T4,Y,f4,h4,k4,tb4⟩:=hI
   dsimp only at*
   have hi0:=nnI i
   have hwi:=wI i (by omega)
   have hpg4:=k4.pages
   have n0:=hUS _ U4 f4.own y0 u0
   have n1:=hUS _ U4 f4.own y1 u1
   have nn:=hUS _ U4 f4.own yn un
   have x40:=f4.get x0 u0
   have x41:=f4.get x1 u1
   have x4n:=f4.get xn un
   have y40:=Ac x40
   have y41:=Ac x41
   have y4n:=Ac x4n
   have nan:(na=σ.length)=False:=eq_false (by omega)
   have nan':(σ.length=na)=False:=eq_false (by omega)
   have nan1:(na=σ.length+1)=False:=eq_false (by omega)
   have nas:(na=s.length)=False:=eq_false (by omega)
   have nas':(s.length=na)=False:=eq_false (by omega)
   have nan1':(σ.length+1=na)=False:=eq_false (by omega)
   by_cases hlt':i<X.length
   ·have e1:=dT (i:=i) (n:=X.length) hlt'
    obtain⟨x,hx⟩:∃ x,X[i]? =some x:=⟨X[i],by simp⟩
    have hxm:=mem_of_getElem? hx
    obtain⟨y,hy,hyx,hyr,hyk⟩:=tb4.at hx
    have hym:=mem_of_getElem? hy
    have hkd:=ht.st.kd x hxm
    obtain⟨d,hd⟩:=hkd.tl
    have hofx:=hof x hxm
    rw[hd]at hofx
    have hxc:=ht.col x hxm
    have hsk:=Ac1 (n:=E.length+1) hxm
    have hIy:=tb4.st.ix y hym
    have hyn:=tb4.fresh hy (by rw[he];exact hfr)
    have hyl:y.L.length=E.length:=by
     have:=(tb4.ent i y hy).length_eq
     rw[if_neg (by omega),length_map]at this
     exact this
    have hcn4:=tb4.cnt hnl1
    rw[hyk,hyr]at hIy
    rw[hyx]at hyn
    have hXne:X≠[]:=fun e=>by rw[e]at hlt';simp at hlt'
    have ez2:z2= .sl 4 (X.map fun x=>Gm x.x):=hz2.trans (Aj9 4 (by simpa using hXne)).1
    have ez4:z4= .sl 1 (X.map fun x=>[PV.v (.int .i64 (x.root:Nat))]):=hz4.trans (Aj9 1 (by simpa using hXne)).1
    clear hz2 hz4
    subst ez2
    subst ez4
    have hif:((i:Int)<(X.length:Int))=True:=eq_true (by omega)
    have hg:(X.map fun x=>Gm x.x)[i]? =some (Gm x.x):=by rw[List.getElem?_map,hx];rfl
    have hg4:(X.map fun x=>[PV.v (.int .i64 (x.root:Nat))])[i]? =some [PV.v (.int .i64 (x.root:Nat))]:=by rw[List.getElem?_map,hx];rfl
    obtain⟨LX,hLX⟩:∃ LX,LX=X.map fun x=>Gm x.x:=⟨_,rfl⟩
    obtain⟨LR,hLR⟩:∃ LR,LR=X.map fun x=>[PV.v (.int .i64 (x.root:Nat))]:=⟨_,rfl⟩
    have hLXl:LX.length=X.length:=by rw[hLX,length_map]
    have hLRl:LR.length=X.length:=by rw[hLR,length_map]
    rw[← hLX]at hg x0 x40 hlaz ⊢
    rw[← hLR]at hg4 x0 x40 ⊢
    obtain⟨va,hva⟩:∃ va,vs[x.x.2.2.1]? =some va:=⟨vs[x.x.2.2.1]'(by omega),by simp⟩
    have hvo:=hv va (mem_of_getElem? hva)
    have hkey:=Aac hvo
    have hke:=Uy hvo
    have hent:Ra x.x.2.2.1 e=⟨Gk va,n,k⟩:=by rw[he];unfold Ra;rw[List.getD_eq_getElem?_getD,hva];rfl
    rw[hent]at hyn
    have hxcv:(enV vs)[x.x.2.2.1]? =some (vaC va):=by
     rw[Qj vs x.x.2.2.1 (by omega)]
     congr 2
     exact (List.getElem?_eq_some_iff.1 hva).2
    have hx0:=nnI x.x.2.2.1
    have hins:∀ {s':St},Ap s s'→Aa Tryz.prog x.kd.ins [.mp b 2 0 0,Ad .i64 (x.root:Nat),.p (.sl 1 (Ay (Gk va))),.agg [Ad .i64 (n:Nat),Ad .i64 (k:Nat)]] s' fun r σ'=>r=Ad .i64 0∧∃ (ps':List Nat) (U':Nat→Prop) (P':Al) (v':Nat→List UInt8) (T':Nat→Bool) (L':List Ent),Fr s' σ' U4 U'∧Bt σ' b p dd l kh U' P' v'∧Kp P4 P' 0∧Mr v4 v' T4 T' P4.pages y.ps ps'∧x.kd.I v' T' P4.pages x.root ps' L'∧L'.Perm (⟨Gk va,n,k⟩::y.L):=fun {s'} ha=>
     hkd.insC (e:=⟨Gk va,n,k⟩) (h4.ap ha) (by rw[hpg4];exact tb4.tk) (by rw[hpg4];exact hnp) tb4.t0 (hb.kp k4 (by omega)) (by rw[hpg4];exact hIy) ⟨by show (Gk _).length≤140;omega,by show n<65536;omega,by show k<65536;omega⟩ hyn (by omega) (by rw[hpg4,hyl];omega)
    have hstep:=fun {v' T' ps' L'} (g:Mr v4 v' T4 T' P.pages y.ps ps') hI hp=>tb4.step (L':=L') hy g hI hp
    rw[hyx,hent,hyk,hyr]at hstep
    obtain⟨⟨qn,qt,qc,qh⟩,qr,qp,qk,qL⟩:=x
    obtain⟨vk,vn,vx⟩:=va
    dsimp only at*
    simp only[Gm,idxA,vaA,vaC,map_cons,map_nil]at hg hg4 hofx hkey hxcv
    repeat' first|simp only[↓wBA,tT3,seval,Yr,wH,wHl,hi0,hg,hg4,hif,hx0,hxcv,x40,x4n,y40,y4n,nan]|((with_reducible show Aa _ _ _ _ _);first|refine (hofx _).eq ?_|refine (hkey _).eq ?_)|(with_reducible refine dQ Yr 18 (some 69) ?_)|with_reducible refine And.intro ?_ ?_
    refine (hins (Ap.app _ _)).mono ?_
    rintro _ s5 ⟨rfl,ps5,U5,P5,v5,T5,L5,f5,h5,k5,g5,hI5,hp5⟩
    rw[hpg4]at g5 hI5
    have l5:=f5.len
    simp only[length_append,length_cons,length_nil]at l5
    repeat' first|simp only[↓wBA,tT3,seval,wHl,hwi]|with_reducible refine And.intro ?_ ?_
    refine⟨⟨i+1,by omega⟩,by show X.length - (i+1)<X.length - i;omega,⟨by omega,U5,P5,v5,T5,_,f4.trans ((Ap.app _ _).fr.trans f5),h5,k4.trans k5,hstep g5 hI5 hp5⟩,by simp only[]⟩
   ·obtain rfl:i=X.length:=by omega
    have e1:=dF (i:=X.length) (n:=X.length) hlt'
    have htd:=tb4.done hf1 hnl1 ht.ok (by rw[he];exact⟨⟨hm,by show 0≤16777216;omega,hv,by intro e0;have e0:vs=[]:=e0;rw[e0]at hl;simp at hl;omega,by show vs.length≤255;omega⟩,hl⟩) ht.so (by rw[he];exact hfr) ht.col
    repeat' first|simp only[↓wBA,tT3,seval,wHl,e1,x41,x4n]|with_reducible refine And.intro ?_ ?_
    all_goals refine rtS ?_
    all_goals simp only[A1.eq_1,Ak.eq_1,Ak.eq_2,Ax.eq_1,Ax.eq_2,tT3,seval,wH,y41]
    rw[he]at htd
    exact⟨n,k,ns1,Y,U4,P4,v4,T4,rfl,(f1.trans f4).setN (by omega) _,h4.set n1 _,k4,tb4.tk,tb4.t0,tb4.key,hfr,htd⟩
end
def Ej:Cv:=(.det 0 (.det 1 (.det 2 (.det 3 (.det 6 (.two 4 (.two 5 (.two 7 (.two 8 (.two 9 (.det 10 (.det 11 (.det 12 (.act 13 (.fin 14 (.det 15 .done)))))) 13 (.fin 9 (.det 10 (.det 11 (.det 12 (.fin 14 (.det 15 .done))))))) 13 (.act 8 (.fin 9 (.det 10 (.det 11 (.det 12 (.fin 14 (.det 15 .done)))))))) 13 (.act 7 (.act 8 (.fin 9 (.det 10 (.det 11 (.det 12 (.fin 14 (.det 15 .done))))))))) 13 (.act 5 (.act 7 (.act 8 (.fin 9 (.det 10 (.det 11 (.det 12 (.fin 14 (.det 15 .done)))))))))) 13 (.act 4 (.act 5 (.act 7 (.act 8 (.fin 9 (.det 10 (.det 11 (.det 12 (.fin 14 (.det 15 .done))))))))))))))))
def Ek:Cv:=(.det 0 (.det 3 (.det 4 (.det 5 (.det 6 (.det 7 (.det 8 (.det 9 (.det 10 (.det 11 (.det 12 (.det 13 (.det 15 (.act 1 (.det 2 (.act 14 (.fin 16 (.det 17 .done))))))))))))))))))
def tT6:=aa wX <| aa wbu <| aa T3 <| aa T4 <| aa T24 <| aa T29 <| aa T35 <| aa T37 <| aa T38 <| aa T40 <| aa T42 <| aa T43 <| aa T44 <| aa T46 <| aa T51 <| aa T54 <| aa T70 <| aa T81 T111
section
variable {σ:St} {b:Nat} {vs:List Va} {cols:List (List PV)} {made:Int}
theorem Ard (hvl:vs.length≤4398046511104)(hbad:¬ (vs.length=cols.length∧vs.all okV=true∧wiN made=true))(x0 x2 x3 x4:PV):
 Aa Tryz.prog 14 [.mp b 2 0 0,.agg [.p x0,.p (.sl 4 cols),.p x2,.p x3,.p x4],.p (.sl 3 (enV vs)),Ad .i64 made] σ fun r σ'=>r= .tup [.agg [Ad .i64 0,Ad .i64 0],Ad .i64 1]∧Ap σ σ':=by
 have hct:=Ajv vs hvl
 have hwn:=Aad made
 have hln:=Fb vs
 have aS:=((Ap.app σ [some (Ob.row 5 [[AV.p x0,AV.p (.sl 4 cols),AV.p x2,AV.p x3,AV.p x4]])]).more [some (Ob.row 2 [[Ad .i64 0,Ad .i64 0]])])
 refine Ab Am Ao Tryz.func14 (by kernel_rfl) rfl (nt:=88) (rs:=[.cell 8 51,.tmp 9]) rfl rfl ?_
 by_cases hl:vs.length=cols.length
 ·have hq:((cols.length:Int)==(cols.length:Int))=true:=by simp
  cases hv:vs.all okV with
  |false=>
   rw[hv]at hct
   repeat' first|((with_reducible first|apply cs|apply ws|apply wd|apply wu)<;>intro h<;>try simp only[h])|simp only[↓wBA,tT6,Bl,seval,Ej,Ek,wH,hln,hl,hq]|((with_reducible show Aa _ _ _ _ _);refine (hct _).eq ?_)|(with_reducible first|refine dQ Ej 16 (some 47) ?_|refine dQ Ek 18 (some 69) ?_)|with_reducible refine And.intro ?_ ?_
   all_goals refine rtS ?_
   all_goals simp only[A1.eq_1,Ak.eq_1,Ak.eq_2,Ax.eq_1,Ax.eq_2,↓wBA,tT6,Bl,seval,wH]
   exact aS
  |true=>
   rw[hv]at hct
   have hw:wiN made=false:=by
    cases hw:wiN made with
    |false=>rfl
    |true=>exact absurd ⟨hl,hv,hw⟩ hbad
   rw[hw]at hwn
   repeat' first|((with_reducible first|apply cs|apply ws|apply wd|apply wu)<;>intro h<;>try simp only[h])|simp only[↓wBA,tT6,Bl,seval,Ej,Ek,wH,hln,hl,hq]|((with_reducible show Aa _ _ _ _ _);first|refine (hct _).eq ?_|refine (hwn _).eq ?_)|(with_reducible first|refine dQ Ej 16 (some 47) ?_|refine dQ Ek 18 (some 69) ?_)|with_reducible refine And.intro ?_ ?_
   all_goals refine rtS ?_
   all_goals simp only[A1.eq_1,Ak.eq_1,Ak.eq_2,Ax.eq_1,Ax.eq_2,↓wBA,tT6,Bl,seval,wH]
   exact aS
 ·have hq:((vs.length:Int)==(cols.length:Int))=false:=by simp;omega
  have hq2:((vs.length:Int) != (cols.length:Int))=true:=by simp;omega
  have hq3:decide ((vs.length:Int)≠(cols.length:Int))=true:=by simp;omega
  have hq4:decide ((vs.length:Int)=(cols.length:Int))=false:=by simp;omega
  have hq5:((vs.length:Int)=(cols.length:Int))=False:=by simp;omega
  repeat' first|((with_reducible first|apply cs|apply ws|apply wd|apply wu)<;>intro h<;>try simp only[h])|simp only[↓wBA,tT6,Bl,seval,Ej,Ek,wH,hln,hq,hq2,hq3,hq4,hq5]|((with_reducible show Aa _ _ _ _ _);refine (hct _).eq ?_)|(with_reducible first|refine dQ Ej 16 (some 47) ?_|refine dQ Ek 18 (some 69) ?_)|with_reducible refine And.intro ?_ ?_
  all_goals refine rtS ?_
  all_goals simp only[A1.eq_1,Ak.eq_1,Ak.eq_2,Ax.eq_1,Ax.eq_2,↓wBA,tT6,Bl,seval,wH]
  exact aS
theorem Are (hvl:vs.length=cols.length)(h255:vs.length≤255)(hv:∀ v∈vs,okW v)(hw:wiN made=true)(hfit:¬ (rwB vs).length≤392)(x0 x2 x3 x4:PV):
 Aa Tryz.prog 14 [.mp b 2 0 0,.agg [.p x0,.p (.sl 4 cols),.p x2,.p x3,.p x4],.p (.sl 3 (enV vs)),Ad .i64 made] σ fun r σ'=>r= .tup [.agg [Ad .i64 0,Ad .i64 0],Ad .i64 34]∧Ap σ σ':=by
 have hct:=Ajv vs (by omega)
 rw[okW.all hv]at hct
 have hwn:=Aad made
 rw[hw]at hwn
 have hln:=Fb vs
 have hft:=Aqr vs
 rw[Ux hv h255,decide_eq_false hfit]at hft
 have hq:((cols.length:Int)==(cols.length:Int))=true:=by simp
 have aS:=((Ap.app σ [some (Ob.row 5 [[AV.p x0,AV.p (.sl 4 cols),AV.p x2,AV.p x3,AV.p x4]])]).more [some (Ob.row 2 [[Ad .i64 0,Ad .i64 0]])])
 refine Ab Am Ao Tryz.func14 (by kernel_rfl) rfl (nt:=88) (rs:=[.cell 8 51,.tmp 9]) rfl rfl ?_
 repeat' first|((with_reducible first|apply cs|apply ws|apply wd|apply wu)<;>intro h<;>try simp only[h])|simp only[↓wBA,tT6,Bl,seval,Ej,Ek,wH,hln,hvl,hq]|((with_reducible show Aa _ _ _ _ _);first|refine (hct _).eq ?_|refine (hwn _).eq ?_|refine (hft _).eq ?_)|(with_reducible first|refine dQ Ej 16 (some 47) ?_|refine dQ Ek 18 (some 69) ?_)|with_reducible refine And.intro ?_ ?_
 all_goals refine rtS ?_
 all_goals simp only[A1.eq_1,Ak.eq_1,Ak.eq_2,Ax.eq_1,Ax.eq_2,↓wBA,tT6,Bl,seval,wH]
 exact aS
end
end Go.Proofs.YtpoigihfeehehaaGreatDoor
