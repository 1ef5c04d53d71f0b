/- Hash indexes: split. -/
import Derived.Test.YthhbnenaihkggaaGreatM40
set_option linter.unusedSimpArgs false
set_option linter.unusedVariables false
set_option linter.defProp false
set_option maxRecDepth 100000
set_option maxHeartbeats 32000000
namespace Go.Proofs.YthhbnenaihkggaaGreat
open Go.RowKit
open List (filter_append getElem?_set_ne length_map length_set mem_append)
def pl45_9Xg:Plan:=(.det 0 (.det 1 (.det 2 (.det 3 (.two 4 (.two 5 (.det 6 (.det 7 (.det 8 (.act 9 (.fin 10 (.det 11 .done)))))) 9 (.fin 5 (.det 6 (.det 7 (.det 8 (.fin 10 (.det 11 .done))))))) 9 (.act 4 (.fin 5 (.det 6 (.det 7 (.det 8 (.fin 10 (.det 11 .done))))))))))))
def tXg:=aa wX <| aa wbu <| aa T3 <| aa T23 <| aa T25 <| aa T29 <| aa T45 <| aa T63 <| aa T65 T73
def movX (n:Nat)(r:List UInt8):Bool:=bktH (fnvL (r.drop 4)) (n+1)==n
section
variable {σ:St} {b p dd l kh root c:Nat} {U:Nat→Prop} {P:PoolV} {v:Nat→List UInt8} {T:Nat→Bool} {bs:List (List Nat)} {E:List HEn}
structure SplX (v v':Nat→List UInt8)(T T':Nat→Bool)(np root:Nat)(bs:List (List Nat))(E:List HEn)(c:Nat)(to:List Nat):Prop where
 ix:Ix v' T' np root (bs++[to]) E c
 tk:Tk (v' 0) np T'
 t0:T' 0=true
 tt:∀ n,T' n=true↔T n=true∨n∈to
 cn:cnt T' np≤cnt T np+1+E.length
 oth:∀ q,q≠0→q≠root→q∉to→q∉bs.flatten→v' q=v q
structure SplL (v3 v':Nat→List UInt8)(T3 T':Nat→Bool)(np n m:Nat)(b' to:List Nat)(L:List (Nat×Nat×List UInt8))(i:Nat):Prop where
 hb:Heap v' T' np b'
 ht:Heap v' T' np to
 hd:to.headD 0=m
 fm:(entH v' b').Perm ((L.take i).filter (fun r=> !movX n r.2.2)++L.drop i)
 tm:(recH v' to).Perm (((L.take i).filter fun r=>movX n r.2.2).map fun r=>r.2.2)
 tk:Tk (v' 0) np T'
 t0:T' 0=true
 tt:∀ q,T' q=true↔T3 q=true∨q∈to
 cn:cnt T' np≤cnt T3 np+i
 nw:∀ q∈to,q=m∨T3 q=false
 oth:∀ q,q≠0→q∉to→q∉b'→v' q=v3 q
theorem axsplit {c0:Nat}(h:Bt σ b p dd l kh U P v)(hT:Tk (v 0) P.pages T)(hnp:P.pages≤3200)(hT0:T 0=true)(hx:Ix v T P.pages root bs E c)(hroom:cnt T P.pages+1+E.length<P.pages)(hl:bs.length≤50)(hb:Bud P 1):
 ACalls Tryz.prog 45 [.agg (ixC b root c0 bs),intV .i64 (root:Nat)] σ fun r σ'=>∃ U' P' v' T' to,r=intV .i64 0∧Fr σ σ' U U'∧Bt σ' b p dd l kh U' P' v'∧Kp P P' 0∧SplX v v' T T' P.pages root bs E c to:=by
 have hlt:=h.lt
 have hn1:=hx.n1
 have hrl:=dirR_len (root:=root) (c:=c0) (bs:=bs)
 have hla:lenA cx 63 (.p (.sl 3 (dirR root c0 bs)))=some (bs.length+1):=by
  unfold lenA
  rw[ck_63]
  simp[elemsA,hrl]
 have hw1:IntKind.i64.wrap (((bs.length+1:Nat):Int) - 1)=((bs.length:Nat):Int):=by rw[wrap_i64 (by omega) (by omega)];omega
 have hll:=lvl_le hn1
 have hlp:=lvl_pos bs.length
 obtain⟨b',hb'⟩:∃ b',bs[bs.length - lvl bs.length]? =some b':=⟨bs[bs.length - lvl bs.length]'(by omega),by simp⟩
 have hH:=hx.bk b' (List.mem_of_getElem? hb')
 obtain⟨hbl,hbh⟩:=h.big2 hH
 obtain⟨S,hS⟩:∃ S,S=σ++[some (Ob.row 2 [[AV.mp b 2 0 0,AV.p (PV.sl 3 (dirR root c0 bs))]])]:=⟨_,rfl⟩
 have aS:Ap σ S:=⟨_,hS⟩
 have bg:S[σ.length]? =some (some (Ob.row 2 [[AV.mp b 2 0 0,AV.p (PV.sl 3 (dirR root c0 bs))]])):=by rw[hS];simp
 have yg:=at_lt bg
 have lS:S.length=σ.length+1:=by rw[hS];simp
 have hp0:(((2 ^ 0:Nat):Nat):Int)=1:=rfl
 refine acalls_of cx_ok dr_ok Tryz.func45 (by kernel_rfl) rfl (nt:=92) (rs:=[.tmp 4]) rfl rfl ?_
 repeat' first|((with_reducible first|apply cs|apply ws|apply wd|apply wu)<;>intro h<;>try simp only[h])|simp only[↓wBA,tXg,convA,seval,pl45_9Xg,wH,ixC,hS.symm,bg,yg,hla,hw1]|(with_reducible refine dQ pl45_9Xg 12 (some 40) ?_)|with_reducible refine And.intro ?_ ?_
 refine awp_loopS (X:={ j:Nat // 2 ^ j≤bs.length }) (fun j=>bs.length - 2 ^ j.1) (fun j=>[(6,intV .i64 (2 ^ j.1:Nat))]) [19,20,21,22,23,24] (fun j s=>s=S) (⟨0,by simpa using hn1⟩) ?_ ?_ ?_ ?_
 ·simp only[wHl,wHf,hp0]
 ·rfl
 ·rintro _ _ rfl;exact Nat.le_refl _
 ·intro y J s hI
  simp only[wHl]
  obtain⟨j,hj⟩:=y
  subst hI
  dsimp only at*
  have hp:0<2 ^ j:=Nat.two_pow_pos j
  have hw2:IntKind.i64.wrap (2*((2 ^ j:Nat):Int))=((2*2 ^ j:Nat):Int):=by rw[wrap_i64 (by omega) (by omega)];omega
  have hw3:IntKind.i64.wrap (((2 ^ j:Nat):Int)*2)=((2*2 ^ j:Nat):Int):=by rw[wrap_i64 (by omega) (by omega)];omega
  by_cases hlt1:2*2 ^ j≤bs.length
  ·have e1:decide (((2*2 ^ j:Nat):Int)≤(bs.length:Int))=true:=by simp only[decide_eq_true_eq];omega
   repeat' first|((with_reducible first|apply cs|apply ws|apply wd|apply wu)<;>intro h<;>try simp only[h])|simp only[↓wBA,tXg,convA,seval,pl45_9Xg,wH,wHl,hw2,hw3,e1]|(with_reducible refine dQ pl45_9Xg 12 (some 40) ?_)|with_reducible refine And.intro ?_ ?_
   exact⟨⟨j+1,by rw[Nat.pow_succ];omega⟩,by show bs.length - 2 ^ (j+1)<bs.length - 2 ^ j;rw[Nat.pow_succ];omega,by simp only[wHl,wHf,Nat.pow_succ,Nat.mul_comm]⟩
  ·have e1:decide (((2*2 ^ j:Nat):Int)≤(bs.length:Int))=false:=by simp only[decide_eq_false_iff_not];omega
   have hl2:=lvl_eq (n:=bs.length) hj (by omega)
   rw[← hl2]at hw2 e1 hp hlt1 ⊢
   have hws:IntKind.i64.wrap (((bs.length:Nat):Int) - ((lvl bs.length:Nat):Int))=((bs.length - lvl bs.length:Nat):Int):=by rw[wrap_i64 (by omega) (by omega)];omega
   repeat' first|((with_reducible first|apply cs|apply ws|apply wd|apply wu)<;>intro h<;>try simp only[h])|simp only[↓wBA,tXg,convA,seval,pl45_9Xg,wH,wHl,hw2,e1,bg,yg,hws]|(with_reducible refine dQ pl45_9Xg 12 (some 40) ?_)|with_reducible refine And.intro ?_ ?_
   refine (axpage hb' hbh (by omega)).mono ?_
   rintro _ s1 ⟨a1,rfl⟩
   have l1:=a1.len
   have g1:=a1.get bg
   have y1:=at_lt g1
   have a01:=aS.trans a1
   repeat' first|((with_reducible first|apply cs|apply ws|apply wd|apply wu)<;>intro h<;>try simp only[h])|simp only[↓wBA,tXg,convA,seval,pl45_9Xg,wH,wHl,g1,y1]|(with_reducible refine dQ pl45_9Xg 12 (some 40) ?_)|with_reducible refine And.intro ?_ ?_
   refine (amake (T:=T) (h.ap a01) hT hnp (by omega) hT0 hb).mono ?_
   rintro r2 s2 ⟨U2,P2,v2,f2,h2,k2,hc2⟩
   rcases hc2 with⟨m,m1,m2,hTm,rfl,hpm,hvo2,hTk2⟩|⟨hall,_,_⟩
   rotate_left
   ·exact absurd (cnt_all _ hall) (by omega)
   have hc1:=cnt_true hTm P.pages m2
   have hmb:m<16777216:=by have:=h.big;omega
   have f02:=a01.fr.trans f2
   have l2:=f2.len
   have n0:¬ U σ.length:=fun e=>Nat.lt_irrefl _ (hlt _ e)
   have g2:=f2.get g1 n0
   have y2:=at_lt g2
   have w2:¬ U2 σ.length:=fun e=>(f2.own _ e).elim n0 fun e=>by omega
   have hmr:m≠root:=fun e=>by have:=hx.rt.2.2;rw[← e,hTm]at this;cases this
   have hr0:=hx.rt.1
   have hvr:v2 root=v root:=hvo2 root (fun e=>hmr e.symm) (by omega)
   have hdir:HPg (v2 root) 0 ((dirS c bs).map some):=by rw[hvr];exact hx.dir
   have hrm:=dir_room (r:=num3 m) hdir rfl hl
   have hend:∀ {Y s4:St} {U4:Nat→Prop} {P4:PoolV},Ap s2 Y→Fr Y s4 U2 U4→Bt s4 b p dd l kh U4 P4 (upV v2 root (addL (v2 root) (num3 m)).1)→Kp P2 P4 0→HPg (addL (v2 root) (num3 m)).1 0 (putL ((dirS c bs).map some) (freeL ((dirS c bs).map some)) (num3 m))→(Fr σ s4 U U4∧Bt s4 b p dd l kh U4 P4 (upV v2 root (addL (v2 root) (num3 m)).1)∧Kp P P4 0∧s4[σ.length]? =some (some (Ob.row 2 [[AV.mp b 2 0 0,AV.p (PV.sl 3 (dirR root c0 bs))]]))∧¬ U4 σ.length∧HPg (addL (v2 root) (num3 m)).1 0 ((dirS c (bs++[[m]])).map some)):=fun aY f4 h4 k4 hp4=>
    ⟨(f02.trans aY.fr).trans f4,h4,k2.trans k4,f4.get (aY.get g2) w2,fun e=>(f4.own _ e).elim w2 fun e=>by have:=aY.len;omega,dir_add (r:=[]) hp4 rfl⟩
   refine' (fun key:(∀ (S3:St) (na:Nat) (U3:Nat→Prop) (P3:PoolV),(Fr σ S3 U U3∧Bt S3 b p dd l kh U3 P3 (upV v2 root (addL (v2 root) (num3 m)).1)∧Kp P P3 0∧S3[σ.length]? =some (some (Ob.row 2 [[AV.mp b 2 0 0,AV.p (PV.sl 3 (dirR root c0 bs))]]))∧¬ U3 σ.length∧HPg (addL (v2 root) (num3 m)).1 0 ((dirS c (bs++[[m]])).map some))→(_:St→Nat→Prop) S3 na)=> ?main) ?tail
   case main=>
    repeat' first|((with_reducible first|apply cs|apply ws|apply wd|apply wu)<;>intro h<;>try simp only[h])|simp only[↓wBA,tXg,convA,seval,pl45_9Xg,wH,wHl,g2,y2]|(with_reducible refine dQ pl45_9Xg 12 (some 40) ?_)|with_reducible refine And.intro ?_ ?_
    ·skip
     refine (axbytes m hmb _).mono ?_
     rintro _ s3 ⟨a3,rfl⟩
     have a3':=a3.unmask g2
     have l3:=a3.len
     simp only[length_set]at l3
     have z3:σ.length<s3.length:=by omega
     repeat' first|((with_reducible first|apply cs|apply ws|apply wd|apply wu)<;>intro h<;>try simp only[h])|simp only[↓wBA,tXg,convA,seval,pl45_9Xg,wH,wHl,g2,z3]|(with_reducible refine dQ pl45_9Xg 12 (some 40) ?_)|with_reducible refine And.intro ?_ ?_
     ·skip
      have hBm:=(h2.ap a3').set w2 none
      rw[List.set_set]at hBm
      refine (ahinsert1 (r:=num3 m) hBm hx.rt.1 (by rw[k2.pages];exact hx.rt.2.1) hdir hrm (.inl rfl) (by simp[num3]) (hb.kp k2 (by omega))).mono ?_
      rintro _ s4 ⟨rfl,U4,P4,f4,h4,k4,hp4⟩
      have l4:=f4.len
      simp only[length_set]at l4
      have z4:σ.length<s4.length:=by omega
      have hz3:(s3.set σ.length (some (Ob.row 2 [[AV.mp b 2 0 0,AV.p (PV.sl 3 (dirR root c0 bs))]])))[σ.length]? =some (some (Ob.row 2 [[AV.mp b 2 0 0,AV.p (PV.sl 3 (dirR root c0 bs))]])):=List.getElem?_set_self z3
      repeat' first|((with_reducible first|apply cs|apply ws|apply wd|apply wu)<;>intro h<;>try simp only[h])|simp only[↓wBA,tXg,convA,seval,pl45_9Xg,wH,wHl,g2,z4,hz3]|(with_reducible refine dQ pl45_9Xg 12 (some 40) ?_)|with_reducible refine And.intro ?_ ?_
      obtain⟨S3,hS3⟩:∃ S3,S3=s4.set σ.length (some (Ob.row 2 [[AV.mp b 2 0 0,AV.p (PV.sl 3 (dirR root c0 bs))]]))++[some (Ob.row 2 [[AV.p (PV.v (Value.int IntKind.i64 (root:Nat))),AV.p (PV.v (Value.int IntKind.i64 (freeL (List.map some (dirS c bs))+1:Nat)))]])]:=⟨_,rfl⟩
      have a3'':=a3'
      have f4':Fr (s3.set σ.length (some (Ob.row 2 [[AV.mp b 2 0 0,AV.p (PV.sl 3 (dirR root c0 bs))]]))) (s4.set σ.length (some (Ob.row 2 [[AV.mp b 2 0 0,AV.p (PV.sl 3 (dirR root c0 bs))]]))) U2 U4:=⟨by simp;omega,fun t ht hn=>by
       by_cases e:t=σ.length
       ·subst e;rw[List.getElem?_set_self z4,List.getElem?_set_self z3]
       ·have:=f4.keep t (by simpa using ht) hn
        rw[getElem?_set_ne (fun e'=>e e'.symm),this,getElem?_set_ne (fun e'=>e e'.symm),getElem?_set_ne (fun e'=>e e'.symm)],fun t ht=>by have:=f4.own t ht;simpa using this⟩
      have hU4:¬ U4 σ.length:=fun e=>(f4.own _ e).elim w2 fun e=>by simp at e;omega
      have he:=hend a3'' (f4'.app [some (Ob.row 2 [[AV.p (PV.v (Value.int IntKind.i64 (root:Nat))),AV.p (PV.v (Value.int IntKind.i64 (freeL (List.map some (dirS c bs))+1:Nat)))]])]) ((h4.set hU4 _).ap (Ap.app _ _)) k4 hp4
      rw[← hS3]at he
      simp only[hS3.symm]
      obtain⟨na,hna⟩:∃ na,na=s4.length:=⟨_,rfl⟩
      simp only[hna.symm]
      exact key S3 na U4 P4 he
     ·skip
      have aY:=a3'.more [some (Ob.row 2 [[AV.p (PV.v (Value.int IntKind.i64 0)),AV.p (PV.v (Value.int IntKind.i64 0))]])]
      refine (ahinsert1 (r:=num3 m) (h2.ap aY) hx.rt.1 (by rw[k2.pages];exact hx.rt.2.1) hdir hrm (.inl rfl) (by simp[num3]) (hb.kp k2 (by omega))).mono ?_
      rintro _ s4 ⟨rfl,U4,P4,f4,h4,k4,hp4⟩
      have hlt2:=h2.lt
      have g4:=f4.get (t:=s3.length) (x:=some (Ob.row 2 [[AV.p (PV.v (Value.int IntKind.i64 0)),AV.p (PV.v (Value.int IntKind.i64 0))]])) (by simp) (fun e=>by have:=hlt2 _ e;omega)
      have y4:=at_lt g4
      have g5:=f4.get (aY.get g2) w2
      have g6:(s4.set s3.length (some (Ob.row 2 [[AV.p (PV.v (Value.int IntKind.i64 (root:Nat))),AV.p (PV.v (Value.int IntKind.i64 (freeL (List.map some (dirS c bs))+1:Nat)))]])))[σ.length]? =some (some (Ob.row 2 [[AV.mp b 2 0 0,AV.p (PV.sl 3 (dirR root c0 bs))]])):=by rw[getElem?_set_ne (by omega)];exact g5
      have y6:=at_lt g5
      repeat' first|((with_reducible first|apply cs|apply ws|apply wd|apply wu)<;>intro h<;>try simp only[h])|simp only[↓wBA,tXg,convA,seval,pl45_9Xg,wH,wHl,g4,y4,g6,y6]|(with_reducible refine dQ pl45_9Xg 12 (some 40) ?_)|with_reducible refine And.intro ?_ ?_
      obtain⟨S3,hS3⟩:∃ S3,S3=s4.set s3.length (some (Ob.row 2 [[AV.p (PV.v (Value.int IntKind.i64 (root:Nat))),AV.p (PV.v (Value.int IntKind.i64 (freeL (List.map some (dirS c bs))+1:Nat)))]])):=⟨_,rfl⟩
      have f4n:Fr s2 (s4.set s3.length (some (Ob.row 2 [[AV.p (PV.v (Value.int IntKind.i64 (root:Nat))),AV.p (PV.v (Value.int IntKind.i64 (freeL (List.map some (dirS c bs))+1:Nat)))]]))) U2 U4:=(aY.fr.trans f4).setN (by omega) _
      have hU4:¬ U4 s3.length:=fun e=>(f4.own _ e).elim (fun e=>by have:=hlt2 _ e;omega) fun e=>by simp at e;omega
      have he:=hend (Ap.refl _) f4n (h4.set hU4 _) k4 hp4
      rw[← hS3]at he
      simp only[hS3.symm]
      obtain⟨na,hna⟩:∃ na,na=s3.length:=⟨_,rfl⟩
      simp only[hna.symm]
      exact key S3 na U4 P4 he
    ·skip
     refine (axbytes m hmb _).mono ?_
     rintro _ s3 ⟨a3,rfl⟩
     have l3:=a3.len
     simp only[List.length_append,length_set,List.length_cons,List.length_nil]at l3
     have z3:σ.length<s3.length:=by omega
     obtain⟨Z,hZ⟩:∃ Z,Z=s2++[some (Ob.row 2 [[AV.p (PV.v (Value.int IntKind.i64 0)),AV.p (PV.v (Value.int IntKind.i64 0))]])]:=⟨_,rfl⟩
     have aZ:Ap s2 Z:=⟨_,hZ⟩
     have gZ:=aZ.get g2
     have gn:Z[s2.length]? =some (some (Ob.row 2 [[AV.p (PV.v (Value.int IntKind.i64 0)),AV.p (PV.v (Value.int IntKind.i64 0))]])):=by rw[hZ];simp
     have e3:Z.set σ.length none=s2.set σ.length none++[some (Ob.row 2 [[AV.p (PV.v (Value.int IntKind.i64 0)),AV.p (PV.v (Value.int IntKind.i64 0))]])]:=by rw[hZ];exact List.set_append_left _ _ y2
     have a3':Ap Z (s3.set σ.length (some (Ob.row 2 [[AV.mp b 2 0 0,AV.p (PV.sl 3 (dirR root c0 bs))]]))):=Ap.unmask (t:=σ.length) (by rw[e3];exact a3) gZ
     have gZ':=gZ
     rw[hZ]at gZ'
     repeat' first|((with_reducible first|apply cs|apply ws|apply wd|apply wu)<;>intro h<;>try simp only[h])|simp only[↓wBA,tXg,convA,seval,pl45_9Xg,wH,wHl,g2,z3,gZ']|(with_reducible refine dQ pl45_9Xg 12 (some 40) ?_)|with_reducible refine And.intro ?_ ?_
     have aY:=aZ.trans a3'
     refine (ahinsert1 (r:=num3 m) (h2.ap aY) hx.rt.1 (by rw[k2.pages];exact hx.rt.2.1) hdir hrm (.inl rfl) (by simp[num3]) (hb.kp k2 (by omega))).mono ?_
     rintro _ s4 ⟨rfl,U4,P4,f4,h4,k4,hp4⟩
     have hlt2:=h2.lt
     have wn:¬ U2 s2.length:=fun e=>Nat.lt_irrefl _ (hlt2 _ e)
     have g4:=f4.get (a3'.get gn) wn
     have y4:=at_lt g4
     have g5:=f4.get (aY.get g2) w2
     have g6:(s4.set s2.length (some (Ob.row 2 [[AV.p (PV.v (Value.int IntKind.i64 (root:Nat))),AV.p (PV.v (Value.int IntKind.i64 (freeL (List.map some (dirS c bs))+1:Nat)))]])))[σ.length]? =some (some (Ob.row 2 [[AV.mp b 2 0 0,AV.p (PV.sl 3 (dirR root c0 bs))]])):=by rw[getElem?_set_ne (by omega)];exact g5
     have y6:=at_lt g5
     repeat' first|((with_reducible first|apply cs|apply ws|apply wd|apply wu)<;>intro h<;>try simp only[h])|simp only[↓wBA,tXg,convA,seval,pl45_9Xg,wH,wHl,g4,y4,g6,y6]|(with_reducible refine dQ pl45_9Xg 12 (some 40) ?_)|with_reducible refine And.intro ?_ ?_
     obtain⟨S3,hS3⟩:∃ S3,S3=s4.set s2.length (some (Ob.row 2 [[AV.p (PV.v (Value.int IntKind.i64 (root:Nat))),AV.p (PV.v (Value.int IntKind.i64 (freeL (List.map some (dirS c bs))+1:Nat)))]])):=⟨_,rfl⟩
     have f4n:Fr s2 (s4.set s2.length (some (Ob.row 2 [[AV.p (PV.v (Value.int IntKind.i64 (root:Nat))),AV.p (PV.v (Value.int IntKind.i64 (freeL (List.map some (dirS c bs))+1:Nat)))]]))) U2 U4:=(aY.fr.trans f4).setN (Nat.le_refl _) _
     have hU4:¬ U4 s2.length:=fun e=>(f4.own _ e).elim wn fun e=>by simp at e;omega
     have he:=hend (Ap.refl _) f4n (h4.set hU4 _) k4 hp4
     rw[← hS3]at he
     simp only[hS3.symm]
     obtain⟨na,hna⟩:∃ na,na=s2.length:=⟨_,rfl⟩
     simp only[hna.symm]
     exact key S3 na U4 P4 he
   case tail=>
    rintro S3 na U3 P3 ⟨f3,h3,k3,g3,n3,hd3⟩
    obtain⟨v3,hv3⟩:∃ v3,v3=upV v2 root (addL (v2 root) (num3 m)).1:=⟨_,rfl⟩
    rw[← hv3]at h3
    have hbm:=List.mem_of_getElem? hb'
    have hTk0:∀ q∈b',q≠0∧q≠root∧q≠m:=fun q hq=>by
     obtain⟨q1,q2,q3⟩:=hH.tk q hq
     refine⟨by omega,fun e=>(List.nodup_cons.1 hx.dj).1 (by rw[← e];exact List.mem_flatten.2 ⟨b',hbm,hq⟩),fun e=>by rw[e,hTm]at q3;cases q3⟩
    have hvb:∀ q,q≠root→q≠m→q≠0→v3 q=v q:=fun q q1 q2 q3=>by rw[hv3];unfold upV;rw[if_neg q1];exact hvo2 q q2 q3
    have hH3:=(hH.other (v':=v3) (T':=updT T m true) (fun q hq=>hvb q (hTk0 q hq).2.1 (hTk0 q hq).2.2 (hTk0 q hq).1) fun q hq=>by unfold updT;rw[if_neg (hTk0 q hq).2.2]).1
    have hpm3:HPg (v3 m) 0 []:=by rw[hv3];unfold upV;rw[if_neg hmr];exact hpm
    have hTo:=Heap.one (np:=P.pages) (T:=updT T m true) (v:=v3) m1 m2 (by simp[updT]) hpm3
    have hTk3:Tk (v3 0) P.pages (updT T m true):=by rw[hv3];unfold upV;rw[if_neg (by omega)];exact hTk2
    have hT30:updT T m true 0=true:=by unfold updT;split<;>simp_all
    have hfst:b'[0]? =some (b'.headD 0):=by
     cases b' with
     |nil=>exact absurd rfl hH.ne
     |cons a r=>rfl
    refine (ascan h3 (by rw[k3.pages];exact hH3) hfst (hb.kp k3 (by omega)) hbl).mono ?_
    rintro _ s5 ⟨rfl,U5,P5,f5,h5,k5⟩
    have f05:=f3.trans f5
    have l5:=f05.len
    have g5:=f5.get g3 n3
    have y5:=at_lt g5
    have n5:¬ U5 σ.length:=fun e=>(f5.own _ e).elim n3 fun e=>by have:=at_lt g3;omega
    have k05:=k3.trans k5
    obtain⟨L,hL⟩:∃ L,L=entH v3 b':=⟨_,rfl⟩
    rw[← hL]
    obtain⟨y,hy,hy1,hy2⟩:=lsV_p 3 (L.map entR)
    have hly:lenA cx 63 (.p y)=some L.length:=by rw[len_p ck_63 hy1 hy2,length_map]
    have hLl:L.length≤900000:=by have:=entH_len v3 b';rw[← hL]at this;omega
    rw[hy]
    repeat' first|((with_reducible first|apply cs|apply ws|apply wd|apply wu)<;>intro h<;>try simp only[h])|simp only[↓wBA,tXg,convA,seval,pl45_9Xg,wH,wHl,hly]|(with_reducible refine dQ pl45_9Xg 12 (some 40) ?_)|with_reducible refine And.intro ?_ ?_
    refine awp_loopS (X:={ i:Nat // i≤L.length }) (fun i=>L.length - i.1) (fun i=>[(9,intV .i64 0),(60,intV .i64 (i.1:Nat))]) [14,61,62,63,64,65,66,67,68,69,70,71,72,73,74,75,76,77,78,79,80,81,82,83,84,85,86,87,88,89,90,91,92] (fun i s=>∃ U' P' v' T' to,Fr s5 s U5 U'∧Bt s b p dd l kh U' P' v'∧Kp P P' 0∧SplL v3 v' (updT T m true) T' P.pages bs.length m b' to L i.1) (⟨0,by omega⟩) ?_ ?_ ?_ ?_
    ·simp only[wHl,wHf]
    ·have he0:entH v3 [m]=[]:=by
      cases hq:entH v3 [m]with
      |nil=>rfl
      |cons a r=>
       have:=(mem_entH hTo.1 a.1 a.2.1 a.2.2).1 (by rw[hq];simp)
       rw[hTo.2]at this;cases this
     exact⟨U5,P5,v3,_,[m],Fr.refl _ _,h5,k05,⟨hH3,hTo.1,rfl,by rw[← hL];simp,by unfold recH;rw[he0];simp,hTk3,hT30,fun q=>⟨.inl,fun hq=>hq.elim id fun hq=>by simp at hq;subst hq;simp[updT]⟩,by omega,fun q hq=>by simp at hq;exact .inl hq,fun _ _ _ _=>rfl⟩⟩
    ·rintro _ _ ⟨_,_,_,_,_,h,_⟩;exact h.len
    ·intro w J s hI
     simp only[wHl]
     obtain⟨i,hi⟩:=w
     obtain⟨U6,P6,v6,T6,to,f6,h6,k6,hS⟩:=hI
     dsimp only at*
     have l6:=f6.len
     have g6:=f6.get g5 n5
     have y6:=at_lt g6
     have hi0:=nnI i
     have hwi:=wI i (by omega)
     have hwn:=wI bs.length (by omega)
     have hLE:L.length≤E.length:=by
      have hrec:L.map (fun r=>r.2.2)=recH v b':=by rw[hL];unfold recH;rw[entH_congr fun q hq=>hvb q (hTk0 q hq).2.1 (hTk0 q hq).2.2 (hTk0 q hq).1]
      have:=(hx.pm _ b' hb').length_eq
      rw[← hrec,length_map,length_map]at this
      rw[this];exact List.length_filter_le _ _
     by_cases hlt5:i<L.length
     ·have e2:=dT (i:=i) (n:=L.length) hlt5
      obtain⟨⟨n,k,rec⟩,hr⟩:∃ r,L[i]? =some r:=⟨L[i],by simp⟩
      have hLv:L=entH v b':=by rw[hL];exact entH_congr fun q hq=>hvb q (hTk0 q hq).2.1 (hTk0 q hq).2.2 (hTk0 q hq).1
      obtain⟨e,heE,hre,hok⟩:∃ e∈E,rec=encX e∧e.Ok:=by
       have h7:rec∈recH v b':=by unfold recH;rw[← hLv];exact List.mem_map.2 ⟨_,List.mem_of_getElem? hr,rfl⟩
       obtain⟨e,he,h8⟩:=List.mem_map.1 ((hx.pm _ b' hb').mem_iff.1 h7)
       exact⟨e,(List.mem_filter.1 he).1,h8.symm,hx.ok e (List.mem_filter.1 he).1⟩
      subst hre
      obtain rfl:y= .sl 3 (L.map entR):=hy1 (fun e=>by rw[List.map_eq_nil_iff]at e;rw[e]at hlt5;simp at hlt5)
      have hg:(L.map entR)[i]? =some [.v (.int .i64 (n:Nat)),.v (.int .i64 (k:Nat)),.sl 1 (encB (encX e))]:=by rw[List.getElem?_map,hr];rfl
      have hif:((i:Int)<((L.map entR).length:Int))=True:=eq_true (by rw[length_map];omega)
      have hif':((i:Int)<(L.length:Int))=True:=eq_true (by omega)
      have hs4:=sl_four (e:=e)
      have hek:e.k.length≤140737488351232:=by have:=hok.1;omega
      have htk:L.take (i+1)=L.take i++[(n,k,encX e)]:=by rw[List.take_add_one,hr];rfl
      have hdr:L.drop i=(n,k,encX e)::L.drop (i+1):=by
       obtain⟨q1,q2⟩:=List.getElem?_eq_some_iff.1 hr
       rw[← q2];exact List.drop_eq_getElem_cons q1
      by_cases hmv:bktH (fnvL e.k) (bs.length+1)=bs.length
      ·have hbq:(((bktH (fnvL e.k) (bs.length+1):Nat):Int)==((bs.length:Nat):Int))=true:=by rw[hmv];simp
       repeat' first|((with_reducible first|apply cs|apply ws|apply wd|apply wu)<;>intro h<;>try simp only[h])|simp only[↓wBA,tXg,convA,seval,pl45_9Xg,wH,wHl,e2,hg,hif,hif',hi0,hs4,hwn,hbq,g6,y6]|((with_reducible show ACalls _ _ _ _ _);refine (axbucket e.k hek _ (.inl rfl) (bs.length+1) (by omega) (by omega) _).eq ?_)|(with_reducible refine dQ pl45_9Xg 12 (some 40) ?_)|with_reducible refine And.intro ?_ ?_
       have hmvd:movX bs.length (encX e)=true:=by unfold movX;rw[encX_drop];simp[hmv]
       have hmem:(n,k,encX e)∈entH v6 b':=hS.fm.mem_iff.2 (List.mem_append_right _ (by rw[hdr];simp))
       have hrc:=(mem_entH hS.hb n k (encX e)).1 hmem
       have hnb:n∈b':=by
        unfold HRec at hrc
        split at hrc
        ·assumption
        ·cases hrc
       obtain⟨d1,d2,d3⟩:=hS.hb.tk n hnb
       obtain⟨j2,hj2⟩:=List.getElem?_of_mem hnb
       obtain⟨ss,hp6⟩:=hS.hb.ch.get hj2
       obtain⟨k',rfl⟩:∃ k',k=k'+1:=by
        rcases Nat.eq_zero_or_pos k with hz|hz
        ·rw[hz]at hrc;unfold HRec at hrc;rw[if_pos hnb,recOf_zero]at hrc;cases hrc
        ·exact⟨k - 1,by omega⟩
       have hgs:ss.getD k' none=some (encX e):=by unfold HRec at hrc;rw[if_pos hnb,hp6.recOf]at hrc;exact hrc
       have hgt:getL (v6 n) ((k'+1:Nat):Int)=some (encX e):=by rw[hp6.at];exact hgs
       have a7:=Ap.app s [some (Ob.row 3 [[AV.p (PV.v (Value.int IntKind.i64 (n:Nat))),AV.p (PV.v (Value.int IntKind.i64 (k'+1:Nat))),AV.p (PV.sl 1 (encB (encX e)))]])]
       refine (ahdrop (h6.ap a7) d1 (by rw[k6.pages];exact d2) hp6 (hb.kp k6 (by omega)) hgt (by omega)).mono ?_
       rintro _ s8 ⟨rfl,U8,P8,f8,h8,k8⟩
       obtain⟨_,hp'⟩:=hp6.drop hgs
       obtain⟨hHb,hgetb⟩:=hS.hb.change hj2 hp6 rfl hp' (x:=none) (k:=k') fun q=>by
        rw[trimL_getD',List.getD_eq_getElem?_getD,List.getElem?_set]
        by_cases e:k'=q
        ·subst e
         rw[if_pos rfl,if_pos rfl]
         split<;>rfl
        ·rw[if_neg e,if_neg (fun h=>e h.symm),←List.getD_eq_getElem?_getD]
       have hbto:∀ q∈b',q∉to:=fun q hq hqt=>by
        rcases hS.nw q hqt with h9|h9
        ·exact (hTk0 q hq).2.2 h9
        ·have:=(hH3.tk q hq).2.2;rw[h9]at this;cases this
       obtain⟨hHt,hgett⟩:=hS.ht.other (v':=upV v6 n (dropL (v6 n) ((k'+1:Nat):Int)).1) (T':=T6) (fun q hq=>by unfold upV;rw[if_neg (fun e:q=n=>hbto n hnb (by rw[← e];exact hq))]) (fun _ _=>rfl)
       have hdrop:=entH_drop hS.hb hHb hrc hgetb
       have k68:=k6.trans k8
       have l8:=f8.len
       simp only[List.length_append,List.length_cons,List.length_nil]at l8
       have g8:=f8.get (a7.get g6) (fun e=>(f6.own _ e).elim n5 fun e=>by omega)
       have y8:=at_lt g8
       have hlt6:=h6.lt
       have x8:=f8.get (t:=s.length) (x:=some (Ob.row 3 [[AV.p (PV.v (Value.int IntKind.i64 (n:Nat))),AV.p (PV.v (Value.int IntKind.i64 (k'+1:Nat))),AV.p (PV.sl 1 (encB (encX e)))]])) (by simp) (fun e=>Nat.lt_irrefl _ (hlt6 _ e))
       have w8:=at_lt x8
       repeat' first|((with_reducible first|apply cs|apply ws|apply wd|apply wu)<;>intro h<;>try simp only[h])|simp only[↓wBA,tXg,convA,seval,pl45_9Xg,wH,wHl,g8,y8,x8,w8]|(with_reducible refine dQ pl45_9Xg 12 (some 40) ?_)|with_reducible refine And.intro ?_ ?_
       have hfto:to[0]? =some m:=by
        have q1:=hS.ht.ne
        have q2:=hS.hd
        cases to with
        |nil=>exact absurd rfl q1
        |cons a r=>simp at q2;subst q2;rfl
       obtain⟨v8,hv8⟩:∃ v8,v8=upV v6 n (dropL (v6 n) ((k'+1:Nat):Int)).1:=⟨_,rfl⟩
       rw[← hv8]at h8 hHb hgetb hHt hgett hdrop
       have hv80:v8 0=v6 0:=by rw[hv8];unfold upV;rw[if_neg (by omega)]
       have hsub:∀ q,T q=true→updT T m true q=true:=fun q hq=>by unfold updT;split<;>simp[hq]
       have hcn6:=hS.cn
       refine (ahinsert (T:=T6) (v:=v8) (ns:=to) (r:=encX e) h8 (by rw[k68.pages,hv80];exact hS.tk) (by rw[k68.pages];exact hnp) hS.t0 (by rw[k68.pages];exact hHt) hfto (.inl ⟨_,rfl,.inl rfl⟩) (by rw[encX_len];have:=hok.1;omega) (fun t ht=>by cases ht) (hb.kp k68 (by omega))).mono ?_
       rintro _ s9 ⟨U9,P9,v9,f9,h9,k9,hc9⟩
       rw[k68.pages]at hc9
       rcases hc9 with⟨n9,k9',T9,to9,rfl,hi9⟩|⟨hall,_,_⟩
       rotate_left
       ·have:=cnt_all _ hall
        exact absurd this (by omega)
       have l9:=f9.len
       have f69:=((f6.trans a7.fr).trans f8).trans f9
       have k69:=k68.trans k9
       have hpg:=hi9.pages
       have hsup:∀ q∈to,q∈to9:=fun q hq=>by
        rcases hpg with⟨rfl,_,_⟩|⟨m',_,_,rfl,_⟩
        ·exact hq
        ·exact List.mem_append_left _ hq
       have hb9:∀ q∈b',q∉to9:=fun q hq hqt=>by
        rcases hpg with⟨rfl,_,_⟩|⟨m',p1,_,rfl,_⟩
        ·exact hbto q hq hqt
        ·rcases mem_append.1 hqt with hqt|hqt
         ·exact hbto q hq hqt
         ·simp at hqt;subst hqt
          have:=(hHb.tk q hq).2.2;rw[p1]at this;cases this
       have hT9:∀ q,T6 q=true→T9 q=true:=fun q hq=>by
        rcases hpg with⟨_,rfl,_⟩|⟨m',p1,_,_,rfl⟩
        ·exact hq
        ·unfold updT;split<;>simp[hq]
       obtain⟨hHb9,_⟩:=hHb.other (v':=v9) (T':=T9) (fun q hq=>hi9.oth q (hb9 q hq) (by have:=(hTk0 q hq).1;omega)) (fun q hq=>by rw[(hHb.tk q hq).2.2];exact hT9 q (hHb.tk q hq).2.2)
       have e9b:entH v9 b'=entH v8 b':=entH_congr fun q hq=>hi9.oth q (hb9 q hq) (hTk0 q hq).1
       have e8t:recH v8 to=recH v6 to:=recH_congr fun q hq=>by rw[hv8];unfold upV;rw[if_neg (fun e:q=n=>hbto n hnb (by rw[← e];exact hq))]
       have hmi:=hi9.mem
       have ins9:=(entH_ins hHt hi9.heap hi9.old hi9.get).map fun r:Nat×Nat×List UInt8=>r.2.2
       have hins9:(recH v9 to9).Perm (encX e::recH v6 to):=by rw[← e8t];exact ins9
       have hlen9:i+1≤L.length:=by omega
       have hL9:L.length - (i+1)<L.length - i:=by omega
       repeat' first|((with_reducible first|apply cs|apply ws|apply wd|apply wu)<;>intro h<;>try simp only[h])|simp only[↓wBA,tXg,convA,seval,pl45_9Xg,wH,wHl,g8,y8,x8,w8,hwi]|(with_reducible refine dQ pl45_9Xg 12 (some 40) ?_)|with_reducible refine And.intro ?_ ?_
       refine⟨⟨i+1,hlen9⟩,hL9,⟨U9,P9,v9,T9,to9,f69,h9,k69,⟨hHb9,hi9.heap,?_,?_,?_,hi9.tk,hi9.t0,?_,?_,?_,?_⟩⟩,by simp only[wHl,wHf]⟩
       ·rcases hpg with⟨rfl,_,_⟩|⟨m',_,_,rfl,_⟩
        ·exact hS.hd
        ·have q2:=hS.hd
         cases to with
         |nil=>exact absurd rfl hS.ht.ne
         |cons a r=>exact q2
       ·have h9:=hS.fm
        show (entH v9 b').Perm ((L.take (i+1)).filter (fun r=> !movX bs.length r.2.2)++L.drop (i+1))
        rw[hdr]at h9
        rw[e9b,htk,filter_append]
        have h10:=(hdrop.symm.trans h9).trans List.perm_middle
        have h11:=h10.cons_inv
        simpa [hmvd]using h11
       ·show (recH v9 to9).Perm (((L.take (i+1)).filter fun r=>movX bs.length r.2.2).map fun r=>r.2.2)
        rw[htk,filter_append]
        have h12:=hins9.trans (hS.tm.cons (encX e))
        have h13:=h12.trans (List.perm_append_singleton (encX e) _).symm
        simpa [hmvd]using h13
       ·intro q
        rcases hpg with⟨rfl,rfl,_⟩|⟨m',p1,_,rfl,rfl⟩
        ·exact hS.tt q
        ·unfold updT
         by_cases e1:q=m'
         ·simp[e1]
         ·rw[if_neg e1]
          have:=hS.tt q
          simp only[mem_append,List.mem_singleton,e1,or_false]
          exact this
       ·show cnt T9 P.pages≤_+(i+1)
        rcases hpg with⟨rfl,rfl,_⟩|⟨m',p1,p2,rfl,rfl⟩
        ·omega
        ·rw[cnt_true p1 _ p2];omega
       ·intro q hq
        rcases hpg with⟨rfl,rfl,_⟩|⟨m',p1,p2,rfl,rfl⟩
        ·exact hS.nw q hq
        ·rcases mem_append.1 hq with hq|hq
         ·exact hS.nw q hq
         ·simp at hq;subst hq
          refine .inr ?_
          cases hz:updT T m true q with
          |false=>rfl
          |true=>rw[(hS.tt q).2 (.inl hz)]at p1;cases p1
       ·intro q p1 p2 p3
        rw[hi9.oth q p2 p1,hv8]
        unfold upV
        rw[if_neg (fun e=>p3 (by rw[e];exact hnb))]
        exact hS.oth q p1 (fun e=>p2 (hsup q e)) p3
      ·have hbq:(((bktH (fnvL e.k) (bs.length+1):Nat):Int)==((bs.length:Nat):Int))=false:=by simp;omega
       repeat' first|((with_reducible first|apply cs|apply ws|apply wd|apply wu)<;>intro h<;>try simp only[h])|simp only[↓wBA,tXg,convA,seval,pl45_9Xg,wH,wHl,e2,hg,hif,hif',hi0,hs4,hwn,hbq,g6,y6,hwi]|((with_reducible show ACalls _ _ _ _ _);refine (axbucket e.k hek _ (.inl rfl) (bs.length+1) (by omega) (by omega) _).eq ?_)|(with_reducible refine dQ pl45_9Xg 12 (some 40) ?_)|with_reducible refine And.intro ?_ ?_
       have hnm:movX bs.length (encX e)=false:=by unfold movX;rw[encX_drop];simp[hmv]
       refine⟨⟨i+1,by omega⟩,by show L.length - (i+1)<L.length - i;omega,⟨U6,P6,v6,T6,to,f6.app _,h6.ap (Ap.app _ _),k6,⟨hS.hb,hS.ht,hS.hd,?_,?_,hS.tk,hS.t0,hS.tt,by have:=hS.cn;show _≤_+(i+1);omega,hS.nw,hS.oth⟩⟩,by simp only[wHl,wHf]⟩
       ·have h9:=hS.fm
        show (entH v6 b').Perm ((L.take (i+1)).filter (fun r=> !movX bs.length r.2.2)++L.drop (i+1))
        rw[hdr]at h9
        rw[htk,filter_append]
        simpa [hnm]using h9
       ·have h9:=hS.tm
        show (recH v6 to).Perm (((L.take (i+1)).filter fun r=>movX bs.length r.2.2).map fun r=>r.2.2)
        rw[htk,filter_append]
        simpa [hnm]using h9
     ·obtain rfl:i=L.length:=by omega
      have e2:=dF (i:=L.length) (n:=L.length) hlt5
      have hLv:L=entH v b':=by rw[hL];exact entH_congr fun q hq=>hvb q (hTk0 q hq).2.1 (hTk0 q hq).2.2 (hTk0 q hq).1
      have hrec:L.map (fun r=>r.2.2)=recH v b':=by rw[hLv];rfl
      repeat' first|((with_reducible first|apply cs|apply ws|apply wd|apply wu)<;>intro h<;>try simp only[h])|simp only[↓wBA,tXg,convA,seval,pl45_9Xg,wH,wHl,e2]|(with_reducible refine dQ pl45_9Xg 12 (some 40) ?_)|with_reducible refine And.intro ?_ ?_
      all_goals refine ret_st ?_ (by first|exact Nat.le_refl _|(simp only[length_set,List.length_append];omega)|omega)
      all_goals simp only[resA.eq_1,resL.eq_1,resL.eq_2,resV.eq_1,resV.eq_2,↓wBA,tXg,convA,seval,wH]
      have q1:=hS.fm
      have q2:=hS.tm
      rw[List.take_length,List.drop_length,List.append_nil]at q1
      rw[List.take_length]at q2
      have hrt:root∉to:=fun hq=>by
       rcases hS.nw _ hq with h9|h9
       ·exact hmr h9.symm
       ·unfold updT at h9;split at h9
        ·cases h9
        ·have:=hx.rt.2.2;rw[h9]at this;cases this
      have hrb:root∉b':=fun hq=>(hTk0 _ hq).2.1 rfl
      have hnew:∀ q∈to,T q=false:=fun q hq=>by
       rcases hS.nw q hq with h9|h9
       ·rw[h9];exact hTm
       ·unfold updT at h9;split at h9
        ·cases h9
        ·exact h9
      have hmto:m∈to:=by
       have:=hS.ht.ne;have h9:=hS.hd
       cases to with
       |nil=>exact absurd rfl this
       |cons a r=>simp at h9;subst h9;simp
      have hvr6:v6 root=v3 root:=hS.oth root (by omega) hrt hrb
      refine⟨U6,P6,v6,T6,to,f05.trans f6,h6,k6,⟨hx.split hb' ?_ hS.hb hS.ht ?_ ?_ hnew ?_ ?_,hS.tk,hS.t0,fun q=> ?_,by have:=hS.cn;omega,fun q p1 p2 p3 p4=> ?_⟩⟩
      ·have:dirS c (bs++[to])=dirS c (bs++[[m]]):=by unfold dirS;simp only[List.map_append,List.map_cons,List.map_nil,hS.hd,List.headD_cons]
       rw[this,hvr6,hv3];unfold upV;rw[if_pos rfl];exact hd3
      ·have:=q1.map fun r=>r.2.2
       refine this.trans (List.Perm.of_eq ?_)
       rw[← hrec,List.filter_map];rfl
      ·refine q2.trans (List.Perm.of_eq ?_)
       rw[← hrec,List.filter_map];rfl
      ·exact fun q hq=>(hS.tt q).2 (.inl (by unfold updT;split<;>simp[hq]))
      ·exact fun q p1 p2 p3 p4=>by rw[hS.oth q p1 p3 p4];exact hvb q p2 (fun e=>p3 (e▸hmto)) p1
      ·rw[hS.tt];unfold updT
       constructor
       ·rintro (h9|h9)
        ·split at h9
         ·rename_i e;exact .inr (e▸hmto)
         ·exact .inl h9
        ·exact .inr h9
       ·rintro (h9|h9)
        ·exact .inl (by split<;>simp[h9])
        ·exact .inr h9
      ·rw[hS.oth q p1 p3 fun hq=>p4 (List.mem_flatten.2 ⟨b',hbm,hq⟩)];exact hvb q p2 (fun e=>p3 (e▸hmto)) p1
end
end Go.Proofs.YthhbnenaihkggaaGreat
