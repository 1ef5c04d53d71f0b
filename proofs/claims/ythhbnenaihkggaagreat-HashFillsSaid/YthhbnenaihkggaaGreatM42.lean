/- Hash indexes: Insert. -/
import Derived.Test.YthhbnenaihkggaaGreatM41
set_option linter.unusedSimpArgs false
set_option linter.unusedVariables false
set_option linter.defProp false
set_option maxRecDepth 100000
set_option maxHeartbeats 32000000
namespace Go.Proofs.YthhbnenaihkggaaGreat
open Go.RowKit
open List (flatten_append getElem?_set_ne length_append length_cons length_nil length_set mem_append set_append_left set_set)
def pl16_16Xh:Plan:=(.det 0 (.det 1 (.det 2 (.det 3 (.det 4 (.det 5 (.det 6 (.det 9 (.det 10 (.two 7 (.two 8 (.two 11 (.two 12 (.det 13 (.det 14 (.det 15 (.act 16 (.fin 17 (.det 18 .done)))))) 16 (.fin 12 (.det 13 (.det 14 (.det 15 (.fin 17 (.det 18 .done))))))) 16 (.fin 11 (.fin 12 (.det 13 (.det 14 (.det 15 (.fin 17 (.det 18 .done)))))))) 16 (.act 8 (.fin 11 (.fin 12 (.det 13 (.det 14 (.det 15 (.fin 17 (.det 18 .done))))))))) 16 (.act 7 (.act 8 (.fin 11 (.fin 12 (.det 13 (.det 14 (.det 15 (.fin 17 (.det 18 .done)))))))))))))))))))
def tXh:=aa wX <| aa wbu <| aa T3 <| aa T23 <| aa T25 <| aa T29 <| aa T45 <| aa T63 T65
section
variable {σ:St} {b p dd l kh root c:Nat} {U:Nat→Prop} {P:PoolV} {v:Nat→List UInt8} {T:Nat→Bool} {bs:List (List Nat)} {E:List HEn}
structure PutX (v v':Nat→List UInt8)(T T':Nat→Bool)(np root:Nat)(bs bs':List (List Nat))(E:List HEn)(e:HEn):Prop where
 ix:Ix v' T' np root bs' (e::E) (E.length+1)
 tk:Tk (v' 0) np T'
 t0:T' 0=true
 tt:∀ m,T' m=true↔T m=true∨m∈bs'.flatten
 few:E.length+1<8*bs'.length
 cn:(bs'.length=bs.length∧cnt T' np≤cnt T np+1)∨(bs'.length=bs.length+1∧E.length+1=8*bs.length∧cnt T' np≤cnt T np+3+E.length)
 sub:∀ m∈bs.flatten,m∈bs'.flatten
 oth:∀ m,m≠0→m≠root→m∉bs'.flatten→v' m=v m
theorem flat_set {bs:List (List Nat)}{k:Nat}{b b':List Nat}(h:bs[k]? =some b)(hs:∀ m∈b,m∈b'):∀ m∈bs.flatten,m∈(bs.set k b').flatten:=by
 intro m hm
 obtain⟨L,R,hbs,hL⟩:=cut_at h
 have hset:bs.set k b'=L++b'::R:=by rw[hbs,←hL];exact set_cut
 rw[hset]
 rw[hbs]at hm
 simp only[flatten_append,List.flatten_cons,mem_append]at hm ⊢
 exact hm.imp id fun hm=>hm.imp (hs m) id
theorem set_same {α:Type}{l:List α}{k:Nat}{y:α}(h:l[k]? =some y):l.set k y=l:=by
 apply List.ext_getElem?
 intro i
 by_cases e:k=i
 ·subst e
  rw[List.getElem?_set_self (List.getElem?_eq_some_iff.1 h).1,h]
 ·rw[getElem?_set_ne e]
theorem dirR_set {root c k:Nat}{bs:List (List Nat)}{b b':List Nat}(h:bs[k]? =some b)(hh:b'.headD 0=b.headD 0):dirR root c (bs.set k b')=dirR root c bs:=by
 unfold dirR dirS
 rw[List.map_set,set_same (by rw[List.getElem?_map,h,Option.map_some,hh])]
theorem fr_unmask {Z s:St}{V V':Nat→Prop}{t:Nat}{x:Option Ob}(f:Fr (List.set Z t none) s V V')(hz:Z[t]? =some x):Fr Z (s.set t x) V V':=by
 have hl:=f.len
 rw[length_set]at hl
 have ht:=(List.getElem?_eq_some_iff.1 hz).1
 refine⟨by simpa using hl,fun t' h1 h2=> ?_,fun t' h=>by have:=f.own t' h;rwa [length_set]at this⟩
 by_cases e:t'=t
 ·subst e;rw[List.getElem?_set_self (by omega)];exact hz.symm
 ·have:=f.keep t' (by simpa using h1) h2
  rw[getElem?_set_ne (fun e'=>e e'.symm),this,getElem?_set_ne (fun e'=>e e'.symm)]
theorem axinsert {e:HEn}{x:PV}(h:Bt σ b p dd l kh U P v)(hT:Tk (v 0) P.pages T)(hnp:P.pages≤3200)(hT0:T 0=true)(hx:Ix v T P.pages root bs E E.length)(hfew:E.length<8*bs.length)(hroom:cnt T P.pages+3+E.length<P.pages)(hb:Bud P 1)(hl:bs.length≤50)(he:e.Ok)(hxk:BX x e.k):
 ACalls Tryz.prog 16 [.mp b 2 0 0,intV .i64 (root:Nat),.p x,.agg [intV .i64 (e.p:Nat),intV .i64 (e.s:Nat)]] σ fun r σ'=>∃ U' P' v',Fr σ σ' U U'∧Bt σ' b p dd l kh U' P' v'∧Kp P P' 0∧
  ((e∈E∧r=intV .i64 1∧v'=v)∨(e∉E∧r=intV .i64 0∧∃ T' bs',PutX v v' T T' P.pages root bs bs' E e)):=by
 have hlt:=h.lt
 have hla:lenA cx 23 (.p x)=some e.k.length:=RecA.len (σ:=σ) (.inl ⟨x,rfl,hxk⟩)
 obtain⟨h1,h2,h3⟩:=id he
 have hn1:=hx.n1
 have e1:decide ((e.k.length:Int)>140)=false:=by simp only[decide_eq_false_iff_not];omega
 have e1':decide ((140:Int)<(e.k.length:Int))=false:=by simp only[decide_eq_false_iff_not];omega
 have hmn:decide ((if (e.s:Int)<(e.p:Int)then (e.s:Int)else (e.p:Int))<0)=false:=by simp only[decide_eq_false_iff_not];split<;>omega
 have hmx:decide ((if (e.s:Int)>(e.p:Int)then (e.s:Int)else (e.p:Int))≥65536)=false:=by simp only[decide_eq_false_iff_not];split<;>omega
 have hlaD:lenA cx 63 (.p (.sl 3 (dirR root E.length bs)))=some (bs.length+1):=by
  have hrl:=dirR_len (root:=root) (c:=E.length) (bs:=bs)
  unfold lenA
  rw[ck_63]
  simp[elemsA,hrl]
 have hw1:IntKind.i64.wrap (((bs.length+1:Nat):Int) - 1)=((bs.length:Nat):Int):=by rw[wrap_i64 (by omega) (by omega)];omega
 have hw8:IntKind.i64.wrap (8*((bs.length:Nat):Int))=((8*bs.length:Nat):Int):=by rw[wrap_i64 (by omega) (by omega)];omega
 have hkl:e.k.length≤140737488351232:=by omega
 obtain⟨b',hb'⟩:=hx.bkt e
 have hH:=hx.bk b' (List.mem_of_getElem? hb')
 obtain⟨hbl,hbh⟩:=h.big2 hH
 refine acalls_of cx_ok dr_ok Tryz.func16 (by kernel_rfl) rfl (nt:=94) (rs:=[.tmp 8]) rfl rfl ?_
 repeat' first|((with_reducible first|apply cs|apply ws|apply wd|apply wu)<;>intro h<;>try simp only[h])|simp only[↓wBA,tXh,convA,seval,pl16_16Xh,wH,hla,e1,e1',hmn,hmx]|(with_reducible refine dQ pl16_16Xh 19 (some 60) ?_)|with_reducible refine And.intro ?_ ?_
 have a0:=Ap.app σ [some (Ob.row 2 [[AV.p (PV.v (Value.int IntKind.i64 (e.p:Nat))),AV.p (PV.v (Value.int IntKind.i64 (e.s:Nat)))]])]
 have g0:(σ++[some (Ob.row 2 [[AV.p (PV.v (Value.int IntKind.i64 (e.p:Nat))),AV.p (PV.v (Value.int IntKind.i64 (e.s:Nat)))]])])[σ.length]? =some (some (Ob.row 2 [[AV.p (PV.v (Value.int IntKind.i64 (e.p:Nat))),AV.p (PV.v (Value.int IntKind.i64 (e.s:Nat)))]])):=by simp
 have n0:¬ U σ.length:=fun e=>Nat.lt_irrefl _ (hlt _ e)
 refine (axopen (h.ap a0) hx hb).mono ?_
 rintro _ s1 ⟨rfl,U1,P1,f1,h1',k1⟩
 have g1:=f1.get g0 n0
 have y1:=at_lt g1
 have l1:=f1.len
 simp only[length_append,length_cons,length_nil]at l1
 have n1:¬ U1 σ.length:=fun e=>(f1.own _ e).elim n0 fun e=>by simp at e;omega
 have a1:=Ap.app s1 [some (Ob.row 2 [ixC b root E.length bs])]
 have hx1:Ix v T P1.pages root bs E E.length:=by rw[k1.pages];exact hx
 repeat' first|((with_reducible first|apply cs|apply ws|apply wd|apply wu)<;>intro h<;>try simp only[h])|simp only[↓wBA,tXh,convA,seval,pl16_16Xh,wH,ixC,g1,y1]|(with_reducible refine dQ pl16_16Xh 19 (some 60) ?_)|with_reducible refine And.intro ?_ ?_
 refine (axfind (h1'.ap a1) hx1 (hb.kp k1 (by omega)) (by omega) he hxk).mono ?_
 rintro r s2 ⟨⟨U2,P2,f2,h2',k2⟩,hc⟩
 have f02:=((a0.fr.trans f1).trans a1.fr).trans f2
 have l2:=f2.len
 simp only[length_append,length_cons,length_nil]at l2
 have k12:=k1.trans k2
 have hlt1:=h1'.lt
 have n1':¬ U1 s1.length:=fun e=>Nat.lt_irrefl _ (hlt1 _ e)
 have m2:=f2.get (t:=s1.length) (x:=some (Ob.row 2 [[AV.mp b 2 0 0,AV.p (PV.sl 3 (dirR root E.length bs))]])) (by simp[ixC]) n1'
 have y2:=at_lt m2
 have w2:¬ U2 s1.length:=fun e=>(f2.own _ e).elim n1' fun e=>by simp at e;omega
 have g2:=f2.get (a1.get g1) n1
 have z2:=at_lt g2
 have u2:¬ U2 σ.length:=fun e=>(f2.own _ e).elim n1 fun e=>by simp at e;omega
 rcases hc with⟨hin,n,k,b2,hb2,hnb,hrec,rfl⟩|⟨hnot,rfl⟩
 ·skip
  repeat' first|((with_reducible first|apply cs|apply ws|apply wd|apply wu)<;>intro h<;>try simp only[h])|simp only[↓wBA,tXh,convA,seval,pl16_16Xh,wH]|(with_reducible refine dQ pl16_16Xh 19 (some 60) ?_)|with_reducible refine And.intro ?_ ?_
  all_goals refine ret_st ?_ (by first|exact Nat.le_refl _|(simp only[length_set,length_append];omega)|omega)
  all_goals simp only[resA.eq_1,resL.eq_1,resL.eq_2,resV.eq_1,resV.eq_2,↓wBA,tXh,convA,seval,wH]
  exact⟨U2,P2,v,f02.app _,h2'.ap (Ap.app _ _),k12,.inl ⟨hin,rfl⟩⟩
 have q1:(σ.length=s1.length)=False:=nf (by omega)
 have q2:(s1.length=σ.length)=False:=nf (by omega)
 have hfst:b'[0]? =some (b'.headD 0):=by
  cases b' with
  |nil=>exact absurd rfl hH.ne
  |cons a r=>rfl
 have hlt2:=h2'.lt
 have hins:∀ {Q:St},Bt Q b p dd l kh U2 P2 v→ACalls Tryz.prog 40 [.mp b 2 0 0,intV .i64 (b'.headD 0:Nat),.p (.sl 1 (encB (encX e)))] Q fun q σ'=>∃ U6 P6 v6 T6 ns n k,q= .tup [.agg [intV .i64 (n:Nat),intV .i64 (k:Nat)],intV .i64 0]∧Fr Q σ' U2 U6∧Bt σ' b p dd l kh U6 P6 v6∧Kp P P6 0∧InsR v v6 T T6 P.pages b' ns n k (encX e):=fun {Q} hQ=>by
  refine (ahinsert (T:=T) (ns:=b') (r:=encX e) hQ (by rw[k12.pages];exact hT) (by rw[k12.pages];exact hnp) hT0 (by rw[k12.pages];exact hH) hfst (.inl ⟨_,rfl,.inl rfl⟩) (by rw[encX_len];omega) (fun t ht=>by cases ht) (hb.kp k12 (by omega))).mono ?_
  rintro q s6 ⟨U6,P6,v6,f6,h6,k6,hc6⟩
  rw[k12.pages]at hc6
  rcases hc6 with⟨n,k,T6,ns,rfl,hi6⟩|⟨hall,_,_⟩
  ·exact⟨U6,P6,v6,T6,ns,n,k,rfl,f6,h6,k12.trans k6,hi6⟩
  ·have:=cnt_all _ hall
   exact absurd this (by omega)
 have end1:∀ {Q s6:St} {U6:Nat→Prop} {P6:PoolV} {v6:Nat→List UInt8} {T6:Nat→Bool} {ns:List Nat} {n k na:Nat} (x:Option Ob),Ap s2 Q→s2.length≤na→na<Q.length→Fr Q s6 U2 U6→Bt s6 b p dd l kh U6 P6 v6→Kp P P6 0→InsR v v6 T T6 P.pages b' ns n k (encX e)→(Fr σ (s6.set na x) U U6∧Bt (s6.set na x) b p dd l kh U6 P6 v6∧Kp P P6 0∧InsR v v6 T T6 P.pages b' ns n k (encX e)∧(s6.set na x)[s1.length]? =some (some (Ob.row 2 [[AV.mp b 2 0 0,AV.p (PV.sl 3 (dirR root E.length bs))]]))∧¬ U6 s1.length):=fun {Q s6 U6 P6 v6 T6 ns n k na} x aQ h1 h2 f6 h6 k6 i6=>by
  have hw:¬ U6 s1.length:=fun e=>(f6.own _ e).elim w2 fun e=>by have:=aQ.len;omega
  have hna:¬ U6 na:=fun e=>(f6.own _ e).elim (fun e=>by have:=hlt2 _ e;omega) fun e=>by omega
  refine⟨((f02.trans aQ.fr).trans f6).setN (by omega) _,h6.set hna _,k6,i6,?_,hw⟩
  rw[getElem?_set_ne (by omega)]
  exact f6.get (aQ.get m2) w2
 have end2:∀ {Q s6:St} {U6:Nat→Prop} {P6:PoolV} {v6:Nat→List UInt8} {T6:Nat→Bool} {ns:List Nat} {n k:Nat} (x:Option Ob),Ap s2 Q→Fr Q s6 U2 U6→Bt s6 b p dd l kh U6 P6 v6→Kp P P6 0→InsR v v6 T T6 P.pages b' ns n k (encX e)→(Fr σ (s6++[x]) U U6∧Bt (s6++[x]) b p dd l kh U6 P6 v6∧Kp P P6 0∧InsR v v6 T T6 P.pages b' ns n k (encX e)∧(s6++[x])[s1.length]? =some (some (Ob.row 2 [[AV.mp b 2 0 0,AV.p (PV.sl 3 (dirR root E.length bs))]]))∧¬ U6 s1.length):=fun {Q s6 U6 P6 v6 T6 ns n k} x aQ f6 h6 k6 i6=>by
  have hw:¬ U6 s1.length:=fun e=>(f6.own _ e).elim w2 fun e=>by have:=aQ.len;omega
  refine⟨((f02.trans aQ.fr).trans f6).app _,h6.ap (Ap.app _ _),k6,i6,?_,hw⟩
  have:=f6.get (aQ.get m2) w2
  rw[List.getElem?_append_left (at_lt this)]
  exact this
 have unm:∀ {X s:St},Ap s2 X→Ap ((X.set σ.length none).set s1.length none) s→Ap X ((s.set s1.length (some (Ob.row 2 [[AV.mp b 2 0 0,AV.p (PV.sl 3 (dirR root E.length bs))]]))).set σ.length (some (Ob.row 2 [[AV.p (PV.v (Value.int IntKind.i64 (e.p:Nat))),AV.p (PV.v (Value.int IntKind.i64 (e.s:Nat)))]]))):=fun {X s} aX a=>by
  have gX:=aX.get m2
  have gX0:=aX.get g2
  refine Ap.unmask (t:=σ.length) ?_ gX0
  refine Ap.unmask (t:=s1.length) a ?_
  rw[getElem?_set_ne (by omega)];exact gX
 refine' (fun key:(∀ (S:St) (na:Nat) (U4:Nat→Prop) (P4:PoolV) (v4:Nat→List UInt8) (T4:Nat→Bool) (ns4:List Nat) (n4 k4:Nat),(Fr σ S U U4∧Bt S b p dd l kh U4 P4 v4∧Kp P P4 0∧InsR v v4 T T4 P.pages b' ns4 n4 k4 (encX e)∧S[s1.length]? =some (some (Ob.row 2 [[AV.mp b 2 0 0,AV.p (PV.sl 3 (dirR root E.length bs))]]))∧¬ U4 s1.length)→(_:St→Nat→Nat→Nat→Prop) S na n4 k4)=> ?main) ?tail
 case main=>
  repeat' first|((with_reducible first|apply cs|apply ws|apply wd|apply wu)<;>intro h<;>try simp only[h])|simp only[↓wBA,tXh,convA,seval,pl16_16Xh,wH,m2,y2,g2,z2,hlaD,hw1,q1,q2]|((with_reducible show ACalls _ _ _ _ _);refine (axbucket e.k hkl x hxk bs.length hn1 (by omega) _).eq ?_)|(with_reducible refine dQ pl16_16Xh 19 (some 60) ?_)|with_reducible refine And.intro ?_ ?_
  ·skip
   refine (axpage hb' hbh (by omega)).mono ?_
   rintro _ s3 ⟨a3,rfl⟩
   have l3:=a3.len
   simp only[length_append,length_set,length_cons,length_nil]at l3
   have z3:σ.length<s3.length:=by omega
   have z3':s1.length<s3.length:=by omega
   obtain⟨X,hX⟩:∃ X,X=s2++[some (Ob.row 2 [[AV.p (PV.v (Value.int IntKind.i64 0)),AV.p (PV.v (Value.int IntKind.i64 0))]])]:=⟨_,rfl⟩
   have aX:Ap s2 X:=⟨_,hX⟩
   have hXe:(s2.set σ.length none).set s1.length none++[some (Ob.row 2 [[AV.p (PV.v (Value.int IntKind.i64 0)),AV.p (PV.v (Value.int IntKind.i64 0))]])]=(X.set σ.length none).set s1.length none:=by rw[hX,set_append_left _ _ z2,set_append_left _ _ (by rw[length_set];exact y2)]
   rw[hXe]at a3
   have aY:=unm aX a3
   obtain⟨Y,hY⟩:∃ Y,Y=(s3.set s1.length (some (Ob.row 2 [[AV.mp b 2 0 0,AV.p (PV.sl 3 (dirR root E.length bs))]]))).set σ.length (some (Ob.row 2 [[AV.p (PV.v (Value.int IntKind.i64 (e.p:Nat))),AV.p (PV.v (Value.int IntKind.i64 (e.s:Nat)))]])):=⟨_,rfl⟩
   rw[← hY]at aY
   have lY:Y.length=s3.length:=by rw[hY];simp
   have hYe:((s3.set s1.length (some (Ob.row 2 [[AV.mp b 2 0 0,AV.p (PV.sl 3 (dirR root E.length bs))]]))).set σ.length none).set s1.length none=(Y.set σ.length none).set s1.length none:=by rw[hY,set_set]
   have a2Y:=aX.trans aY
   repeat' first|((with_reducible first|apply cs|apply ws|apply wd|apply wu)<;>intro h<;>try simp only[h])|simp only[↓wBA,tXh,convA,seval,pl16_16Xh,wH,m2,y2,g2,z2,q1,q2,z3,z3',set_set]|(with_reducible refine dQ pl16_16Xh 19 (some 60) ?_)|with_reducible refine And.intro ?_ ?_
   ·skip
    rw[hYe]
    simp only[← hY]
    refine (axentry he hxk _).mono ?_
    rintro _ s5 ⟨a5,rfl⟩
    have aY5:=unm a2Y a5
    have l5:=a5.len
    simp only[length_set]at l5
    have z5:σ.length<s5.length:=by omega
    have z5':s1.length<s5.length:=by omega
    have gY0:Y[σ.length]? =some (some (Ob.row 2 [[AV.p (PV.v (Value.int IntKind.i64 (e.p:Nat))),AV.p (PV.v (Value.int IntKind.i64 (e.s:Nat)))]])):=a2Y.get g2
    have gY1:Y[s1.length]? =some (some (Ob.row 2 [[AV.mp b 2 0 0,AV.p (PV.sl 3 (dirR root E.length bs))]])):=a2Y.get m2
    have yY0:=at_lt gY0
    have yY1:=at_lt gY1
    obtain⟨Z,hZ⟩:∃ Z,Z=(s5.set s1.length (some (Ob.row 2 [[AV.mp b 2 0 0,AV.p (PV.sl 3 (dirR root E.length bs))]]))).set σ.length (some (Ob.row 2 [[AV.p (PV.v (Value.int IntKind.i64 (e.p:Nat))),AV.p (PV.v (Value.int IntKind.i64 (e.s:Nat)))]])):=⟨_,rfl⟩
    rw[← hZ]at aY5
    have lZ:Z.length=s5.length:=by rw[hZ];simp
    have hZe:((s5.set s1.length (some (Ob.row 2 [[AV.mp b 2 0 0,AV.p (PV.sl 3 (dirR root E.length bs))]]))).set σ.length none).set s1.length none=(Z.set σ.length none).set s1.length none:=by rw[hZ,set_set]
    have a2Z:=a2Y.trans aY5
    have gZ0:Z[σ.length]? =some (some (Ob.row 2 [[AV.p (PV.v (Value.int IntKind.i64 (e.p:Nat))),AV.p (PV.v (Value.int IntKind.i64 (e.s:Nat)))]])):=a2Z.get g2
    have gZ1:Z[s1.length]? =some (some (Ob.row 2 [[AV.mp b 2 0 0,AV.p (PV.sl 3 (dirR root E.length bs))]])):=a2Z.get m2
    have yZ0:=at_lt gZ0
    have yZ1:=at_lt gZ1
    repeat' first|((with_reducible first|apply cs|apply ws|apply wd|apply wu)<;>intro h<;>try simp only[h])|simp only[↓wBA,tXh,convA,seval,pl16_16Xh,wH,q1,q2,z5,z5',set_set,gY0,gY1,yY0,yY1]|(with_reducible refine dQ pl16_16Xh 19 (some 60) ?_)|with_reducible refine And.intro ?_ ?_
    ·skip
     rw[hZe]
     simp only[← hZ]
     refine (hins (((h2'.ap a2Z).set u2 none).set w2 none)).mono ?_
     rintro _ s6 ⟨U6,P6,v6,T6,ns,n,k,rfl,f6,h6,k6,i6⟩
     have f6':=fr_unmask (t:=σ.length) (fr_unmask (t:=s1.length) (x:=some (Ob.row 2 [[AV.mp b 2 0 0,AV.p (PV.sl 3 (dirR root E.length bs))]])) f6 (by rw[getElem?_set_ne (by omega)];exact gZ1)) gZ0
     have l6:=f6.len
     simp only[length_set]at l6
     have z6:σ.length<s6.length:=by omega
     have z6':s1.length<s6.length:=by omega
     have hw:¬ U6 s1.length:=fun e=>(f6.own _ e).elim w2 fun e=>by simp only[length_set]at e;have:=a2Z.len;omega
     have hw':¬ U6 σ.length:=fun e=>(f6.own _ e).elim u2 fun e=>by simp only[length_set]at e;have:=a2Z.len;omega
     have he6:=end2 (some (Ob.row 2 [[AV.p (PV.v (Value.int IntKind.i64 (n:Nat))),AV.p (PV.v (Value.int IntKind.i64 (k:Nat)))]])) a2Z f6' ((h6.set hw _).set hw' _) k6 i6
     repeat' first|((with_reducible first|apply cs|apply ws|apply wd|apply wu)<;>intro h<;>try simp only[h])|simp only[↓wBA,tXh,convA,seval,pl16_16Xh,wH,q1,q2,z6,z6',set_set,gZ0,gZ1,yZ0,yZ1]|(with_reducible refine dQ pl16_16Xh 19 (some 60) ?_)|with_reducible refine And.intro ?_ ?_
     obtain⟨S3,hS3⟩:∃ S3,S3=(s6.set s1.length (some (Ob.row 2 [[AV.mp b 2 0 0,AV.p (PV.sl 3 (dirR root E.length bs))]]))).set σ.length (some (Ob.row 2 [[AV.p (PV.v (Value.int IntKind.i64 (e.p:Nat))),AV.p (PV.v (Value.int IntKind.i64 (e.s:Nat)))]]))++[some (Ob.row 2 [[AV.p (PV.v (Value.int IntKind.i64 (n:Nat))),AV.p (PV.v (Value.int IntKind.i64 (k:Nat)))]])]:=⟨_,rfl⟩
     rw[← hS3]at he6
     simp only[hS3.symm]
     obtain⟨na,hna⟩:∃ na,na=s6.length:=⟨_,rfl⟩
     simp only[hna.symm]
     exact key S3 na U6 P6 v6 T6 ns n k he6
    ·skip
     rw[← hZ]
     have gz:(Z++[some (Ob.row 2 [[AV.p (PV.v (Value.int IntKind.i64 0)),AV.p (PV.v (Value.int IntKind.i64 0))]])])[Z.length]? =some (some (Ob.row 2 [[AV.p (PV.v (Value.int IntKind.i64 0)),AV.p (PV.v (Value.int IntKind.i64 0))]])):=by simp
     rw[lZ]at gz
     refine (hins (h2'.ap (a2Z.more _))).mono ?_
     rintro _ s6 ⟨U6,P6,v6,T6,ns,n,k,rfl,f6,h6,k6,i6⟩
     have gz6:=f6.get gz (fun e=>by have:=hlt2 _ e;have:=a2Z.len;omega)
     have lz6:=at_lt gz6
     have he6:=end1 (na:=s5.length) (some (Ob.row 2 [[AV.p (PV.v (Value.int IntKind.i64 (n:Nat))),AV.p (PV.v (Value.int IntKind.i64 (k:Nat)))]])) (a2Z.more [some (Ob.row 2 [[AV.p (PV.v (Value.int IntKind.i64 0)),AV.p (PV.v (Value.int IntKind.i64 0))]])]) (by have:=a2Z.len;omega) (by simp;omega) f6 h6 k6 i6
     repeat' first|((with_reducible first|apply cs|apply ws|apply wd|apply wu)<;>intro h<;>try simp only[h])|simp only[↓wBA,tXh,convA,seval,pl16_16Xh,wH,gz6,lz6]|(with_reducible refine dQ pl16_16Xh 19 (some 60) ?_)|with_reducible refine And.intro ?_ ?_
     obtain⟨S3,hS3⟩:∃ S3,S3=s6.set s5.length (some (Ob.row 2 [[AV.p (PV.v (Value.int IntKind.i64 (n:Nat))),AV.p (PV.v (Value.int IntKind.i64 (k:Nat)))]])):=⟨_,rfl⟩
     rw[← hS3]at he6
     simp only[hS3.symm]
     obtain⟨na,hna⟩:∃ na,na=s5.length:=⟨_,rfl⟩
     simp only[hna.symm]
     have gS:=he6.2.2.2.2.1
     have yS:=at_lt gS
     repeat' first|((with_reducible first|apply cs|apply ws|apply wd|apply wu)<;>intro h<;>try simp only[h])|simp only[↓wBA,tXh,convA,seval,pl16_16Xh,wH,gS,yS]|(with_reducible refine dQ pl16_16Xh 19 (some 60) ?_)|with_reducible refine And.intro ?_ ?_
     exact key S3 na U6 P6 v6 T6 ns n k he6
   ·skip
    rw[← hY]
    refine (axentry he hxk _).mono ?_
    rintro _ s5 ⟨a5,rfl⟩
    have a25:=(a2Y.trans (Ap.app _ _)).trans a5
    have l5:=a5.len
    simp only[length_append,length_cons,length_nil]at l5
    have gz:=a5.get (t:=Y.length) (x:=some (Ob.row 2 [[AV.p (PV.v (Value.int IntKind.i64 0)),AV.p (PV.v (Value.int IntKind.i64 0))]])) (by simp)
    rw[lY]at gz
    repeat' first|((with_reducible first|apply cs|apply ws|apply wd|apply wu)<;>intro h<;>try simp only[h])|simp only[↓wBA,tXh,convA,seval,pl16_16Xh,wH]|(with_reducible refine dQ pl16_16Xh 19 (some 60) ?_)|with_reducible refine And.intro ?_ ?_
    refine (hins (h2'.ap a25)).mono ?_
    rintro _ s6 ⟨U6,P6,v6,T6,ns,n,k,rfl,f6,h6,k6,i6⟩
    have gz6:=f6.get gz (fun e=>by have:=hlt2 _ e;omega)
    have lz6:=at_lt gz6
    have he6:=end1 (na:=s3.length) (some (Ob.row 2 [[AV.p (PV.v (Value.int IntKind.i64 (n:Nat))),AV.p (PV.v (Value.int IntKind.i64 (k:Nat)))]])) a25 (by omega) (by omega) f6 h6 k6 i6
    repeat' first|((with_reducible first|apply cs|apply ws|apply wd|apply wu)<;>intro h<;>try simp only[h])|simp only[↓wBA,tXh,convA,seval,pl16_16Xh,wH,gz6,lz6]|(with_reducible refine dQ pl16_16Xh 19 (some 60) ?_)|with_reducible refine And.intro ?_ ?_
    obtain⟨S3,hS3⟩:∃ S3,S3=s6.set s3.length (some (Ob.row 2 [[AV.p (PV.v (Value.int IntKind.i64 (n:Nat))),AV.p (PV.v (Value.int IntKind.i64 (k:Nat)))]])):=⟨_,rfl⟩
    rw[← hS3]at he6
    simp only[hS3.symm]
    obtain⟨na,hna⟩:∃ na,na=s3.length:=⟨_,rfl⟩
    simp only[hna.symm]
    have gS:=he6.2.2.2.2.1
    have yS:=at_lt gS
    repeat' first|((with_reducible first|apply cs|apply ws|apply wd|apply wu)<;>intro h<;>try simp only[h])|simp only[↓wBA,tXh,convA,seval,pl16_16Xh,wH,gS,yS]|(with_reducible refine dQ pl16_16Xh 19 (some 60) ?_)|with_reducible refine And.intro ?_ ?_
    exact key S3 na U6 P6 v6 T6 ns n k he6
  all_goals
   refine (axpage hb' hbh (by omega)).mono ?_
   rintro _ s3 ⟨a3,rfl⟩
   have l3:=a3.len
   simp only[length_append,length_set,length_cons,length_nil]at l3
   have z3:σ.length<s3.length:=by omega
   have z3':s1.length<s3.length:=by omega
   obtain⟨X,hX⟩:∃ X,X=s2++[some (Ob.row 2 [[AV.p (PV.v (Value.int IntKind.i64 0)),AV.p (PV.v (Value.int IntKind.i64 0))]])]++[some (Ob.row 2 [[AV.p (PV.v (Value.int IntKind.i64 0)),AV.p (PV.v (Value.int IntKind.i64 0))]])]:=⟨_,rfl⟩
   have aX:Ap s2 X:=by rw[hX];exact (Ap.app _ _).more _
   have hXe:(s2.set σ.length none).set s1.length none++[some (Ob.row 2 [[AV.p (PV.v (Value.int IntKind.i64 0)),AV.p (PV.v (Value.int IntKind.i64 0))]])]++[some (Ob.row 2 [[AV.p (PV.v (Value.int IntKind.i64 0)),AV.p (PV.v (Value.int IntKind.i64 0))]])]=(X.set σ.length none).set s1.length none:=by rw[hX,List.append_assoc,List.append_assoc,set_append_left _ _ z2,set_append_left _ _ (by rw[length_set];exact y2)]
   rw[hXe]at a3
   have aY:=unm aX a3
   obtain⟨Y,hY⟩:∃ Y,Y=(s3.set s1.length (some (Ob.row 2 [[AV.mp b 2 0 0,AV.p (PV.sl 3 (dirR root E.length bs))]]))).set σ.length (some (Ob.row 2 [[AV.p (PV.v (Value.int IntKind.i64 (e.p:Nat))),AV.p (PV.v (Value.int IntKind.i64 (e.s:Nat)))]])):=⟨_,rfl⟩
   rw[← hY]at aY
   have lY:Y.length=s3.length:=by rw[hY];simp
   have a2Y:=aX.trans aY
   have gz:=aY.get (t:=s2.length+1) (x:=some (Ob.row 2 [[AV.p (PV.v (Value.int IntKind.i64 0)),AV.p (PV.v (Value.int IntKind.i64 0))]])) (by rw[hX];simp)
   repeat' first|((with_reducible first|apply cs|apply ws|apply wd|apply wu)<;>intro h<;>try simp only[h])|simp only[↓wBA,tXh,convA,seval,pl16_16Xh,wH,m2,y2,g2,z2,q1,q2,z3,z3',set_set]|(with_reducible refine dQ pl16_16Xh 19 (some 60) ?_)|with_reducible refine And.intro ?_ ?_
   rw[← hY]
   refine (axentry he hxk _).mono ?_
   rintro _ s5 ⟨a5,rfl⟩
   have a25:=a2Y.trans a5
   have l5:=a5.len
   have gz5:=a5.get gz
   have lz5:=at_lt gz5
   repeat' first|((with_reducible first|apply cs|apply ws|apply wd|apply wu)<;>intro h<;>try simp only[h])|simp only[↓wBA,tXh,convA,seval,pl16_16Xh,wH]|(with_reducible refine dQ pl16_16Xh 19 (some 60) ?_)|with_reducible refine And.intro ?_ ?_
   refine (hins (h2'.ap a25)).mono ?_
   rintro _ s6 ⟨U6,P6,v6,T6,ns,n,k,rfl,f6,h6,k6,i6⟩
   have gz6:=f6.get gz5 (fun e=>by have:=hlt2 _ e;omega)
   have lz6:=at_lt gz6
   have he6:=end1 (na:=s2.length+1) (some (Ob.row 2 [[AV.p (PV.v (Value.int IntKind.i64 (n:Nat))),AV.p (PV.v (Value.int IntKind.i64 (k:Nat)))]])) a25 (by omega) (by omega) f6 h6 k6 i6
   repeat' first|((with_reducible first|apply cs|apply ws|apply wd|apply wu)<;>intro h<;>try simp only[h])|simp only[↓wBA,tXh,convA,seval,pl16_16Xh,wH,gz6,lz6]|(with_reducible refine dQ pl16_16Xh 19 (some 60) ?_)|with_reducible refine And.intro ?_ ?_
   obtain⟨S3,hS3⟩:∃ S3,S3=s6.set (s2.length+1) (some (Ob.row 2 [[AV.p (PV.v (Value.int IntKind.i64 (n:Nat))),AV.p (PV.v (Value.int IntKind.i64 (k:Nat)))]])):=⟨_,rfl⟩
   rw[← hS3]at he6
   simp only[hS3.symm]
   obtain⟨na,hna⟩:∃ na,na=s2.length+1:=⟨_,rfl⟩
   simp only[hna.symm]
   have gS:=he6.2.2.2.2.1
   have yS:=at_lt gS
   repeat' first|((with_reducible first|apply cs|apply ws|apply wd|apply wu)<;>intro h<;>try simp only[h])|simp only[↓wBA,tXh,convA,seval,pl16_16Xh,wH,gS,yS]|(with_reducible refine dQ pl16_16Xh 19 (some 60) ?_)|with_reducible refine And.intro ?_ ?_
   exact key S3 na U6 P6 v6 T6 ns n k he6
 case tail=>
  rintro S na U4 P4 v4 T4 ns4 n4 k4 ⟨f4,h4,kk4,i4,g4,w4⟩
  obtain⟨hx4,ht4,ho4⟩:=hx.put hb' rfl he hnot i4
  have hsup:∀ m∈b',m∈ns4:=fun m hm=>by
   rcases i4.pages with⟨rfl,_,_⟩|⟨m',_,_,rfl,_⟩
   ·exact hm
   ·exact List.mem_append_left _ hm
  have hhd:ns4.headD 0=b'.headD 0:=by
   rcases i4.pages with⟨rfl,_,_⟩|⟨m',_,_,rfl,_⟩
   ·rfl
   ·cases b' with
    |nil=>exact absurd rfl hH.ne
    |cons a r=>rfl
  have hdir:=dirR_set (root:=root) (c:=E.length) hb' hhd
  have hfl:=flat_set hb' hsup
  obtain⟨bs1,hbs1⟩:∃ bs1,bs1=bs.set (bkE bs.length e) ns4:=⟨_,rfl⟩
  rw[← hbs1]at hx4 ht4 ho4 hdir hfl
  have hl1:bs1.length=bs.length:=by rw[hbs1];simp
  have hcn4:cnt T4 P.pages≤cnt T P.pages+1:=by
   rcases i4.pages with⟨_,rfl,_⟩|⟨m',p1,p2,_,rfl⟩
   ·omega
   ·rw[cnt_true p1 _ p2];omega
  have l4:=f4.len
  have y4:=at_lt g4
  have hb16:E.length<16777215:=by omega
  repeat' first|((with_reducible first|apply cs|apply ws|apply wd|apply wu)<;>intro h<;>try simp only[h])|simp only[↓wBA,tXh,convA,seval,pl16_16Xh,wH,g4,y4]|(with_reducible refine dQ pl16_16Xh 19 (some 60) ?_)|with_reducible refine And.intro ?_ ?_
  have hct:=axcount (by_:=1) (c':=E.length+1) h4 (by rw[kk4.pages];exact hx4) (hb.kp kk4 (by omega)) (by omega) (by omega) (by omega)
  simp only[ixC,hdir]at hct
  refine hct.mono ?_
  rintro _ s5 ⟨rfl,U5,P5,f5,h5,k5,hx5⟩
  rw[kk4.pages]at hx5
  obtain⟨v5,hv5⟩:∃ v5,v5=upV v4 root (setL (v4 root) 1 (num3 (E.length+1))).1:=⟨_,rfl⟩
  rw[← hv5]at h5 hx5
  have k45:=kk4.trans k5
  have f45:=f4.trans f5
  have l5:=f45.len
  have g5:=f5.get g4 w4
  have y5:=at_lt g5
  have hr0:=hx.rt.1
  have hv50:v5 0=v4 0:=by rw[hv5];unfold upV;rw[if_neg (by omega)]
  have ho5:∀ m,m≠0→m≠root→m∉bs1.flatten→v5 m=v m:=fun m q1 q2 q3=>by rw[hv5];unfold upV;rw[if_neg q2];exact ho4 m q1 q2 q3
  by_cases hlt8:E.length+1<8*bs.length
  ·have e8:decide (((E.length+1:Nat):Int)<((8*bs.length:Nat):Int))=true:=by simp only[decide_eq_true_eq];omega
   repeat' first|((with_reducible first|apply cs|apply ws|apply wd|apply wu)<;>intro h<;>try simp only[h])|simp only[↓wBA,tXh,convA,seval,pl16_16Xh,wH,g5,y5,hlaD,hw1,hw8,e8]|(with_reducible refine dQ pl16_16Xh 19 (some 60) ?_)|with_reducible refine And.intro ?_ ?_
   all_goals refine ret_st ?_ (by first|exact Nat.le_refl _|(simp only[length_set,length_append];omega)|omega)
   all_goals simp only[resA.eq_1,resL.eq_1,resL.eq_2,resV.eq_1,resV.eq_2,↓wBA,tXh,convA,seval,wH]
   exact⟨U5,P5,v5,f45,h5,k45,.inr ⟨hnot,T4,bs1,⟨hx5,by rw[hv50];exact i4.tk,i4.t0,ht4,by omega,.inl ⟨hl1,hcn4⟩,hfl,ho5⟩⟩⟩
  ·have e8:decide (((E.length+1:Nat):Int)<((8*bs.length:Nat):Int))=false:=by simp only[decide_eq_false_iff_not];omega
   repeat' first|((with_reducible first|apply cs|apply ws|apply wd|apply wu)<;>intro h<;>try simp only[h])|simp only[↓wBA,tXh,convA,seval,pl16_16Xh,wH,g5,y5,hlaD,hw1,hw8,e8]|(with_reducible refine dQ pl16_16Xh 19 (some 60) ?_)|with_reducible refine And.intro ?_ ?_
   have hsp:=axsplit (c0:=E.length) (c:=E.length+1) (E:=e::E) (bs:=bs1) (T:=T4) h5 (by rw[k45.pages,hv50];exact i4.tk) (by rw[k45.pages];exact hnp) i4.t0 (by rw[k45.pages];exact hx5) (by rw[k45.pages,length_cons];omega) (by omega) (hb.kp k45 (by omega))
   simp only[ixC,hdir]at hsp
   refine hsp.mono ?_
   rintro _ s6 ⟨U6,P6,v6,T6,to,rfl,f6,h6,k6,hs6⟩
   rw[k45.pages]at hs6
   have l6:=f6.len
   repeat' first|((with_reducible first|apply cs|apply ws|apply wd|apply wu)<;>intro h<;>try simp only[h])|simp only[↓wBA,tXh,convA,seval,pl16_16Xh,wH]|(with_reducible refine dQ pl16_16Xh 19 (some 60) ?_)|with_reducible refine And.intro ?_ ?_
   all_goals refine ret_st ?_ (by first|exact Nat.le_refl _|(simp only[length_set,length_append];omega)|omega)
   all_goals simp only[resA.eq_1,resL.eq_1,resL.eq_2,resV.eq_1,resV.eq_2,↓wBA,tXh,convA,seval,wH]
   have hcn6:=hs6.cn
   rw[length_cons]at hcn6
   refine⟨U6,P6,v6,f45.trans f6,h6,k45.trans k6,.inr ⟨hnot,T6,bs1++[to],⟨hs6.ix,hs6.tk,hs6.t0,fun m=> ?_,by rw[length_append,List.length_singleton];omega,.inr ⟨by rw[length_append,List.length_singleton,hl1],by omega,by omega⟩,fun m hm=>by rw[flatten_append];exact List.mem_append_left _ (hfl m hm),fun m q1 q2 q3=> ?_⟩⟩⟩
   ·rw[hs6.tt,ht4,flatten_append,List.flatten_singleton,mem_append]
    exact or_assoc
   ·rw[flatten_append,List.flatten_singleton,mem_append,not_or]at q3
    rw[hs6.oth m q1 q2 q3.2 q3.1]
    exact ho5 m q1 q2 q3.1
end
end Go.Proofs.YthhbnenaihkggaaGreat
