/- Trees: what the laws share: texts, the tree of some keys. Trees: all pages are given back. Trees: a child and the next one made one page, if they fit. -/
import Derived.Test.YtockimhceppkbaaGreatM37
import Derived.Test.YtockimhceppkbaaGreatM36
set_option linter.unusedSimpArgs false
set_option linter.unusedVariables false
set_option linter.defProp false
set_option maxRecDepth 100000
set_option maxHeartbeats 32000000
namespace Go.Proofs.YtockimhceppkbaaGreat
open Go.RowKit
open List (getElem?_append_left getElem?_set getElem?_set_ne length_append length_cons length_nil length_set)
theorem convB_bx {y:PV}{r:List UInt8}(h:BX y r):convB cx 35 9 (.p y)=some (.p (.v (.string ⟨r.toArray⟩))):=by
 unfold convB
 rw[ck_35,ck_9]
 simp only[ck_5]
 rcases h with rfl|⟨rfl,rfl⟩
 ·simp only[elemsA,bytesOf_enc];rfl
 ·rfl
abbrev strS (r:List UInt8):ByteArray:=⟨r.toArray⟩
section
variable {σ:St} {b p dd l kh n:Nat} {U:Nat→Prop} {P:PoolV} {v:Nat→List UInt8} {T:Nat→Bool}
theorem abFree (h:Bt σ b p dd l kh U P v)(hT:Tk (v 0) P.pages T)(hnp:P.pages≤3200)(hn1:1≤n)(hn:n<P.pages)(hTn:T n=true)(hb:Bud P 1):
 ACalls Tryz.prog 38 [.mp b 2 0 0,intV .i64 (n:Nat)] σ fun r σ'=>r=intV .i64 0∧∃ U' P' v',Fr σ σ' U U'∧Bt σ' b p dd l kh U' P' v'∧Kp P P' 0∧(∀ m,m≠0→v' m=v m)∧Tk (v' 0) P.pages fun m=>if m=n then false else T m:=by
 obtain⟨B,G,ch,h,hU⟩:=h
 have:=h.chl
 refine (afree h.bt h.pl h.dj (by rw[h.vw];exact hT) hnp hn1 hn (by omega) hb.c hb.w).mono ?_
 rintro r s ⟨B',G',P',ch',hf,hB,hP,hd,hk,_,hc⟩
 rcases hc with⟨pg,_,rfl,rfl,hz,hT'⟩|⟨hno,_⟩
 ·refine⟨rfl,fun t=>B' t∨G' t,P',bview P'.view (setM ch 0 pg),fr_iff hf hU fun t=>Iff.rfl,⟨B',G',_,⟨hB,hP,hd,fun q hq=> ?_,fun m=>rfl⟩,fun t=>Iff.rfl⟩,hk,fun m hm0=> ?_,?_⟩
  ·rw[hk.pages]
   rcases mem_set q hq with rfl|hq
   ·exact⟨by show 0<_;omega,hz⟩
   ·exact h.ok q hq
  ·rw[bview_set,if_neg hm0,bview_congr hk.view];exact h.vw m
  ·rw[bview_set,if_pos rfl];exact hT'
 ·rw[hTn]at hno;cases hno
end
def pl86_3Dj:Plan:=(.det 0 (.det 1 (.det 2 (.det 3 (.det 4 (.det 5 (.det 6 (.two 7 (.det 8 (.det 9 (.det 10 (.act 11 (.fin 12 (.det 13 .done)))))) 11 (.fin 7 (.det 8 (.det 9 (.det 10 (.fin 12 (.det 13 .done))))))))))))))
def pl86_6Dj:Plan:=(.det 0 (.det 1 (.det 2 (.det 3 (.det 4 (.det 5 (.det 6 (.det 7 (.two 8 (.det 9 (.det 10 (.det 11 (.act 12 (.fin 13 (.det 14 .done)))))) 12 (.fin 8 (.det 9 (.det 10 (.det 11 (.fin 13 (.det 14 .done)))))))))))))))
def pl86_10Dj:Plan:=(.det 0 (.det 1 (.det 2 (.det 3 (.det 4 (.det 5 (.det 6 (.det 7 (.det 8 (.det 9 (.det 10 (.fin 11 .done))))))))))))
def pl86_15Dj:Plan:=(.det 0 (.det 1 (.det 2 (.det 3 (.det 4 (.det 5 (.det 6 (.det 7 (.fin 8 (.det 9 .done))))))))))
def pl86_18Dj:Plan:=(.det 0 (.det 1 (.det 2 (.det 3 (.det 4 (.det 5 (.det 6 (.det 7 (.det 8 (.fin 9 (.det 10 .done)))))))))))
def tDj:=aa wX <| aa wbu <| aa T3 <| aa T4 <| aa T25 <| aa T30 <| aa T48 <| aa T86 <| aa T90 <| aa T92 <| aa T97 <| aa T106 T194
def setE (y:Ent):List Itm→List Itm
 |[]=>[]
 |z::r=>⟨y,z.c⟩::r
theorem setE_len (y:Ent)(l:List Itm):(setE y l).length=l.length:=by cases l<;>rfl
def catI (kd:Nat)(y:Ent)(la lb:List Itm):List Itm:=la++if kd=3 then setE y lb else lb
def JnR (T:Nat→Bool)(np t len0:Nat)(l:List Itm)(i:Nat)(X Y:Itm)(kd:Nat)(la lb:List Itm)(v v':Nat→List UInt8)(T':Nat→Bool)(r:AV)(s:St)(U':Nat→Prop):Prop:=
 (496<szL (catI kd Y.e la lb)∧r= .tup [.agg [intV .i64 3,.ms t 4 0 l.length],intV .i64 0]∧v'=v∧T'=T∧s[t]? =some (some (.row 4 (l.map itC)))∧¬ U' t)
 ∨(szL (catI kd Y.e la lb)≤496∧∃ t',r= .tup [.agg [intV .i64 3,.ms t' 4 0 (l.length - 1)],intV .i64 0]∧len0≤t'∧¬ U' t'∧s[t']? =some (some (.row 4 ((l.take (i+1)++l.drop (i+2)).map itC)))∧
  v' X.c=(fitF kd (catI kd Y.e la lb)).1∧(∀ q,q≠X.c→q≠0→v' q=v q)∧Tk (v' 0) np T'∧T'=fun m=>if m=Y.c then false else T m)
theorem frM {σ s1:St}{t:Nat}{U U1:Nat→Prop}{x0 x1 x2 xt:Option Ob}(f1:Fr (List.set σ t none++[none]++[none]++[x2]) s1 U U1)(hlt:∀ q,U q→q<σ.length)(htU:¬ U t)(ht:σ[t]? =some xt)(τ:St):
 Fr σ (((s1.set σ.length x0).set (σ.length+1) x1).set t xt++τ) U U1∧(((s1.set σ.length x0).set (σ.length+1) x1).set t xt++τ)[σ.length]? =some x0∧(((s1.set σ.length x0).set (σ.length+1) x1).set t xt++τ)[σ.length+1]? =some x1∧(((s1.set σ.length x0).set (σ.length+1) x1).set t xt++τ)[σ.length+2]? =some x2∧
  (((s1.set σ.length x0).set (σ.length+1) x1).set t xt++τ)[t]? =some xt∧(∀ j,σ.length+3≤j→j<s1.length→(((s1.set σ.length x0).set (σ.length+1) x1).set t xt++τ)[j]? =s1[j]?)∧σ.length+3≤s1.length∧¬ U1 σ.length∧¬ U1 (σ.length+1)∧¬ U1 (σ.length+2)∧¬ U1 t:=by
 have yt:=at_lt ht
 have q1:=f1.len
 simp only[length_append,length_cons,length_nil,length_set]at q1
 have nU:∀ j,j<σ.length+3→¬ U j→¬ U1 j:=fun j hj hn e=>(f1.own j e).elim hn fun e=>by simp at e;omega
 have nl:∀ j,σ.length≤j→¬ U j:=fun j hj e=>by have:=hlt j e;omega
 have hR:∀ j,j<s1.length→(((s1.set σ.length x0).set (σ.length+1) x1).set t xt++τ)[j]? =if j=t then some xt else if j=σ.length+1 then some x1 else if j=σ.length then some x0 else s1[j]? :=fun j hj=>by
  rw[getElem?_append_left (by simpa using hj),getElem?_set]
  by_cases e1:t=j
  ·subst e1;simp[hj]
  ·rw[if_neg e1,if_neg (fun e=>e1 e.symm),getElem?_set]
   by_cases e2:σ.length+1=j
   ·subst e2;simp[hj]
   ·rw[if_neg e2,if_neg (fun e=>e2 e.symm),getElem?_set]
    by_cases e3:σ.length=j
    ·subst e3;simp[hj]
    ·rw[if_neg e3,if_neg (fun e=>e3 e.symm)]
 refine⟨⟨by simp;omega,fun j hj hn=> ?_,fun j hj=>(f1.own j hj).imp id fun e=>by simp at e;omega⟩,?_,?_,?_,?_,fun j h1 h2=> ?_,by omega,nU _ (by omega) (nl _ (Nat.le_refl _)),nU _ (by omega) (nl _ (by omega)),nU _ (by omega) (nl _ (by omega)),nU _ (by omega) htU⟩
 ·rw[hR j (by omega)]
  by_cases e:j=t
  ·subst e;rw[if_pos rfl,ht]
  ·rw[if_neg e,if_neg (by omega),if_neg (by omega),f1.keep j (by simp;omega) hn,getElem?_append_left (by simp;omega),getElem?_append_left (by simp;omega),getElem?_append_left (by simp;omega),getElem?_set_ne (fun h=>e h.symm)]
 ·rw[hR _ (by omega),if_neg (by omega),if_neg (by omega),if_pos rfl]
 ·rw[hR _ (by omega),if_neg (by omega),if_pos rfl]
 ·rw[hR _ (by omega),if_neg (by omega),if_neg (by omega),if_neg (by omega),f1.keep _ (by simp) (nl _ (by omega))]
  rw[List.getElem?_append_right (by simp)]
  simp
 ·rw[hR _ (by omega),if_pos rfl]
 ·rw[hR j h2,if_neg (by omega),if_neg (by omega),if_neg (by omega)]
theorem frN {S s2:St}{A B t:Nat}{U1 U2:Nat→Prop}{xA xB xt:Option Ob}(f2:Fr (((S.set t none).set B none).set A none) s2 U1 U2)(hA:S[A]? =some xA)(hB:S[B]? =some xB)(ht:S[t]? =some xt)(nA:¬ U1 A)(nB:¬ U1 B)(nt:¬ U1 t)(τ:St):
 Fr S (((s2.set A xA).set B xB).set t xt++τ) U1 U2∧(∀ j,S.length≤j→j<s2.length→(((s2.set A xA).set B xB).set t xt++τ)[j]? =s2[j]?)∧S.length≤s2.length∧¬ U2 A∧¬ U2 B∧¬ U2 t:=by
 have yA:=at_lt hA
 have yB:=at_lt hB
 have yt:=at_lt ht
 have q1:=f2.len
 simp only[length_set]at q1
 have nU:∀ j,j<S.length→¬ U1 j→¬ U2 j:=fun j hj hn e=>(f2.own j e).elim hn fun e=>by simp at e;omega
 have hR:∀ j,j<s2.length→(((s2.set A xA).set B xB).set t xt++τ)[j]? =if j=t then some xt else if j=B then some xB else if j=A then some xA else s2[j]? :=fun j hj=>by
  rw[getElem?_append_left (by simpa using hj),getElem?_set]
  by_cases e1:t=j
  ·subst e1;simp[hj]
  ·rw[if_neg e1,if_neg (fun e=>e1 e.symm),getElem?_set]
   by_cases e2:B=j
   ·subst e2;simp[hj]
   ·rw[if_neg e2,if_neg (fun e=>e2 e.symm),getElem?_set]
    by_cases e3:A=j
    ·subst e3;simp[hj]
    ·rw[if_neg e3,if_neg (fun e=>e3 e.symm)]
 refine⟨⟨by simp;omega,fun j hj hn=> ?_,fun j hj=>(f2.own j hj).imp id fun e=>by simpa using e⟩,fun j h1 h2=> ?_,q1,nU _ yA nA,nU _ yB nB,nU _ yt nt⟩
 ·rw[hR j (by omega)]
  by_cases e:j=t
  ·subst e;rw[if_pos rfl,ht]
  ·by_cases e2:j=B
   ·subst e2;rw[if_neg e,if_pos rfl,hB]
   ·by_cases e3:j=A
    ·subst e3;rw[if_neg e,if_neg e2,if_pos rfl,hA]
    ·rw[if_neg e,if_neg e2,if_neg e3,f2.keep j (by simpa using hj) hn,getElem?_set_ne (fun h=>e3 h.symm),getElem?_set_ne (fun h=>e2 h.symm),getElem?_set_ne (fun h=>e h.symm)]
 ·rw[hR j h2,if_neg (by omega),if_neg (by omega),if_neg (by omega)]
theorem fr1 {S s:St}{t:Nat}{U1 U2:Nat→Prop}{xt:Option Ob}(f:Fr (S.set t none) s U1 U2)(ht:S[t]? =some xt)(nt:¬ U1 t):Fr S (s.set t xt) U1 U2∧¬ U2 t:=by
 have yt:=at_lt ht
 have q:=f.len
 simp only[length_set]at q
 refine⟨⟨by simp;omega,fun j hj hn=> ?_,fun j hj=>(f.own j hj).imp id fun e=>by simpa using e⟩,fun e=>(f.own t e).elim nt fun e=>by simp at e;omega⟩
 by_cases e:t=j
 ·subst e;rw[ht,List.getElem?_set_self (by omega)]
 ·rw[getElem?_set_ne e,f.keep j (by simpa using hj) hn,getElem?_set_ne e]
theorem setE_row (y:Ent)(z:Itm)(r:List Itm):((z::r).map itC).set 0 [.p (.sl 1 (encB y.k)),intV .i64 (y.p:Nat),intV .i64 (y.s:Nat),intV .i64 (z.c:Nat)]=(setE y (z::r)).map itC:=rfl
theorem fr_up {σ s:St}{U U2:Nat→Prop}{t:Nat}(h:Fr σ s U U2):Fr σ s (fun q=>U q∨q=t) U2:=⟨h.len,fun j hj hn=>h.keep j hj fun e=>hn (.inl e),fun j hj=>(h.own j hj).imp .inl id⟩
structure JA (σ S:St)(b p dd l kh t na ta kd:Nat)(its la:List Itm)(U U1:Nat→Prop)(P P1:PoolV)(v:Nat→List UInt8):Prop where
 g1:Fr σ S U U1
 g2:S[σ.length]? =some (some (Ob.row 1 [[AV.mp b 2 0 0]]))
 g3:S[σ.length+1]? =some (some (Ob.row 2 [[AV.p (.v (.int .i64 3)),AV.ms t 4 0 its.length]]))
 g4:S[σ.length+2]? =some (some (Ob.row 2 [[AV.p (.v (.int .i64 0)),AV.p (.v (.slice none 0 0))]]))
 g5:S[t]? =some (some (Ob.row 4 (its.map itC)))
 g12:S[na]? =some (some (Ob.row 2 [[AV.p (.v (.int .i64 (kd:Nat))),AV.ms ta 4 0 la.length]]))
 g13:S[ta]? =some (some (Ob.row 4 (la.map itC)))
 g8:¬ U1 σ.length
 g9:¬ U1 (σ.length+1)
 g10:¬ U1 (σ.length+2)
 g11:¬ U1 t
 g14:¬ U1 na
 htaU:¬ U1 ta
 hna:σ.length+3≤na
 hnta:na≠ta
 hta0:σ.length+3≤ta
 hBS:Bt S b p dd l kh U1 P1 v
 k1:Kp P P1 0
structure JB (S S2:St)(b p dd l kh t nb tb ta kd:Nat)(lb:List Itm)(U1 U2:Nat→Prop)(P1 P2:PoolV)(v:Nat→List UInt8):Prop where
 e1:Fr S S2 U1 U2
 e12:S2[nb]? =some (some (Ob.row 2 [[AV.p (.v (.int .i64 (kd:Nat))),AV.ms tb 4 0 lb.length]]))
 e13:S2[tb]? =some (some (Ob.row 4 (lb.map itC)))
 e14:¬ U2 nb
 htbU:¬ U2 tb
 hnb:S.length≤nb
 hntb:nb≠tb
 htb0:S.length≤tb∧tb≠t∧tb≠ta
 hBS2:Bt S2 b p dd l kh U2 P2 v
 k2:Kp P1 P2 0
section
variable {σ:St} {b p dd l kh:Nat} {U:Nat→Prop} {P:PoolV} {v:Nat→List UInt8} {T:Nat→Bool}
theorem ajoinOut {its:List Itm}{t i:Nat}(hl:its.length≤1000)(hi:its.length≤i+1)(hi2:i≤1000):
 ACalls Tryz.prog 86 [.agg [.mp b 2 0 0],.agg [intV .i64 3,.ms t 4 0 its.length],intV .i64 (i:Nat)] σ fun r s=>r= .tup [.agg [intV .i64 3,.ms t 4 0 its.length],intV .i64 0]∧Ap σ s:=by
 have hw:=wI i (by omega)
 have hge:decide (((i+1:Nat):Int)≥(its.length:Int))=true:=by simp;omega
 have hge':decide ((its.length:Int)≤((i+1:Nat):Int))=true:=by simp;omega
 have hkm:lenA cx 90 (.ms t 4 0 its.length)=some its.length:=km_90
 refine acalls_of cx_ok dr_ok Tryz.func86 (by kernel_rfl) rfl (nt:=111) (rs:=[.cell 6 92,.tmp 7]) rfl rfl ?_
 repeat' first|((with_reducible first|apply cs|apply ws|apply wd|apply wu)<;>intro h<;>try simp only[h])|simp only[↓wBA,tDj,convA,seval,pl86_3Dj,pl86_6Dj,pl86_10Dj,pl86_15Dj,pl86_18Dj,wH,hw,hge,hge',hkm]|(with_reducible first|refine dQ pl86_3Dj 14 (some 22) ?_|refine dQ pl86_6Dj 15 (some 37) ?_|refine dQ pl86_10Dj 12 (some 55) ?_|refine dQ pl86_15Dj 10 (some 81) ?_|refine dQ pl86_18Dj 11 (some 94) ?_)|with_reducible refine And.intro ?_ ?_
 all_goals refine ret_st ?_ (by first|exact Nat.le_refl _|(simp only[length_set,length_append];omega)|omega)
 all_goals simp only[resA.eq_1,resL.eq_1,resL.eq_2,resV.eq_1,resV.eq_2,↓wBA,tDj,convA,seval,wH]
 exact ((Ap.app _ _).more _).more _
theorem ajoin {t i kd:Nat}{its la lb:List Itm}{X Y:Itm}(hB:Bt σ b p dd l kh U P v)(hT:Tk (v 0) P.pages T)(hnp:P.pages≤3200)(hb:Bud P 1)(ht:σ[t]? =some (some (.row 4 (its.map itC))))(htU:¬ U t)(hl:its.length≤1000)(hX:its[i]? =some X)(hY:its[i+1]? =some Y)(hYo:Y.ok)
 (hXn:1≤X.c∧X.c<P.pages) (hYn:1≤Y.c∧Y.c<P.pages∧T Y.c=true) (hXY:X.c≠Y.c) (hA:NodeP (v X.c) kd la) (hBn:NodeP (v Y.c) kd lb) (hla:la≠[]) (hlb:lb≠[]):
 ACalls Tryz.prog 86 [.agg [.mp b 2 0 0],.agg [intV .i64 3,.ms t 4 0 its.length],intV .i64 (i:Nat)] σ fun r σ'=>∃ U' P' v' T',Fr σ σ' (fun q=>U q∨q=t) U'∧Bt σ' b p dd l kh U' P' v'∧Kp P P' 0∧JnR T P.pages t σ.length its i X Y kd la lb v v' T' r σ' U':=by
 have hlt:=hB.lt
 have yt:=at_lt ht
 have hil:=(List.getElem?_eq_some_iff.1 hY).1
 have hw:=wI i (by omega)
 have hge:decide (((i+1:Nat):Int)≥(its.length:Int))=false:=by simp;omega
 have hge':decide ((its.length:Int)≤((i+1:Nat):Int))=false:=by simp;omega
 have hkm:∀ t,lenA cx 90 (.ms t 4 0 its.length)=some its.length:=fun _=>km_90
 have hi0:=nnI i
 have hi10:=nnI (i+1)
 have hif:((i:Int)<(its.length:Int))=True:=eq_true (by omega)
 have hif1:(((i+1:Nat):Int)<(its.length:Int))=True:=eq_true (by omega)
 have hgX:(its.map itC)[i]? =some (itC X):=by simp[hX]
 have hgY:(its.map itC)[i+1]? =some (itC Y):=by simp[hY]
 refine acalls_of cx_ok dr_ok Tryz.func86 (by kernel_rfl) rfl (nt:=111) (rs:=[.cell 6 92,.tmp 7]) rfl rfl ?_
 refine' (fun key:(∀ (S:St) (na ta:Nat) (U1:Nat→Prop) (P1:PoolV),JA σ S b p dd l kh t na ta kd its la U U1 P P1 v→(_:St→Nat→Nat→Prop) S na ta)=> ?main) ?tail
 case main=>
  repeat' first|((with_reducible first|apply cs|apply ws|apply wd|apply wu)<;>intro h<;>try simp only[h])|simp only[↓wBA,tDj,convA,seval,pl86_3Dj,pl86_6Dj,pl86_10Dj,pl86_15Dj,pl86_18Dj,wH,hw,hge,hge',hkm,ht,yt,hgX,itC,hif,hi0]|(with_reducible first|refine dQ pl86_3Dj 14 (some 22) ?_|refine dQ pl86_6Dj 15 (some 37) ?_|refine dQ pl86_10Dj 12 (some 55) ?_|refine dQ pl86_15Dj 10 (some 81) ?_|refine dQ pl86_18Dj 11 (some 94) ?_)|with_reducible refine And.intro ?_ ?_
  ·skip
   refine (atRead (((hB.set htU none).ap (Ap.app _ _)).ap (Ap.app _ _) |>.ap (Ap.app _ _)) hXn.2 hA hb).mono ?_
   rintro _ s1 ⟨U1,P1,a,rfl,f1,hB1,k1,ha,hta⟩
   rcases ha with⟨h0,_⟩|⟨_,ta,rfl,htna⟩
   ·exact absurd h0 hla
   obtain⟨g1,g2,g3,g4,g5,g6,g7,g8,g9,g10,g11⟩:=frM (x0:=some (Ob.row 1 [[AV.mp b 2 0 0]])) (x1:=some (Ob.row 2 [[AV.p (.v (.int .i64 3)),AV.ms t 4 0 its.length]])) f1 hlt htU ht [some (Ob.row 2 [[AV.p (.v (.int .i64 (kd:Nat))),AV.ms ta 4 0 la.length]])]
   have v0:σ.length<s1.length:=by omega
   have v1:σ.length+1<s1.length:=by omega
   have vt:t<s1.length:=by omega
   obtain⟨hta1,htaU⟩:=hta ta rfl
   simp only[length_append,length_cons,length_nil,length_set]at hta1
   have yta:=at_lt htna
   have hBS:=((((hB1.set g8 (some (Ob.row 1 [[AV.mp b 2 0 0]]))).set g9 (some (Ob.row 2 [[AV.p (.v (.int .i64 3)),AV.ms t 4 0 its.length]]))).set g11 (some (Ob.row 4 (its.map itC))))).ap (Ap.app _ [some (Ob.row 2 [[AV.p (.v (.int .i64 (kd:Nat))),AV.ms ta 4 0 la.length]])])
   have g12:(((s1.set σ.length (some (Ob.row 1 [[AV.mp b 2 0 0]]))).set (σ.length+1) (some (Ob.row 2 [[AV.p (.v (.int .i64 3)),AV.ms t 4 0 its.length]]))).set t (some (Ob.row 4 (its.map itC)))++[some (Ob.row 2 [[AV.p (.v (.int .i64 (kd:Nat))),AV.ms ta 4 0 la.length]])])[s1.length]? =some (some (Ob.row 2 [[AV.p (.v (.int .i64 (kd:Nat))),AV.ms ta 4 0 la.length]])):=by
    rw[List.getElem?_append_right (by simp)];simp
   have g13:=(g6 ta (by omega) yta).trans htna
   have g14:¬ U1 s1.length:=fun e=>by have:=hB1.lt _ e;omega
   have hna:σ.length+3≤s1.length:=g7
   have hnta:s1.length≠ta:=by omega
   obtain⟨S,hS⟩:∃ S,S=((s1.set σ.length (some (Ob.row 1 [[AV.mp b 2 0 0]]))).set (σ.length+1) (some (Ob.row 2 [[AV.p (.v (.int .i64 3)),AV.ms t 4 0 its.length]]))).set t (some (Ob.row 4 (its.map itC)))++[some (Ob.row 2 [[AV.p (.v (.int .i64 (kd:Nat))),AV.ms ta 4 0 la.length]])]:=⟨_,rfl⟩
   rw[← hS]at g1 g2 g3 g4 g5 g12 g13 hBS
   obtain⟨na,hnae⟩:∃ na,na=s1.length:=⟨_,rfl⟩
   rw[← hnae]at g12 g14 hna hnta
   have hta0:σ.length+3≤ta:=by omega
   repeat' first|((with_reducible first|apply cs|apply ws|apply wd|apply wu)<;>intro h<;>try simp only[h])|simp only[↓wBA,tDj,convA,seval,pl86_3Dj,pl86_6Dj,pl86_10Dj,pl86_15Dj,pl86_18Dj,wH,ht,yt,v0,v1,vt]|(with_reducible first|refine dQ pl86_3Dj 14 (some 22) ?_|refine dQ pl86_6Dj 15 (some 37) ?_|refine dQ pl86_10Dj 12 (some 55) ?_|refine dQ pl86_15Dj 10 (some 81) ?_|refine dQ pl86_18Dj 11 (some 94) ?_)|with_reducible refine And.intro ?_ ?_
   simp only[hS.symm,hnae.symm]
   exact key S na ta U1 P1 ⟨g1,g2,g3,g4,g5,g12,g13,g8,g9,g10,g11,g14,htaU,hna,hnta,hta0,hBS,k1⟩
  ·skip
   refine (atRead ((((hB.ap (Ap.app _ _)).ap (Ap.app _ _)).ap (Ap.app _ _)).ap (Ap.app _ _)) hXn.2 hA hb).mono ?_
   rintro _ s1 ⟨U1,P1,a,rfl,f1,hB1,k1,ha,hta⟩
   rcases ha with⟨h0,_⟩|⟨_,ta,rfl,htna⟩
   ·exact absurd h0 hla
   have q1:=f1.len
   simp only[length_append,length_cons,length_nil]at q1
   obtain⟨hta1,htaU⟩:=hta ta rfl
   simp only[length_append,length_cons,length_nil]at hta1
   have yta:=at_lt htna
   have nl:∀ j,σ.length≤j→j<σ.length+4→¬ U1 j:=fun j hj hj2 e=>(f1.own j e).elim (fun e=>by have:=hlt j e;omega) fun e=>by simp at e;omega
   have g2:s1[σ.length]? =some (some (Ob.row 1 [[AV.mp b 2 0 0]])):=by rw[f1.keep _ (by simp) fun e=>by have:=hlt _ e;omega];simp
   have g3:s1[σ.length+1]? =some (some (Ob.row 2 [[AV.p (.v (.int .i64 3)),AV.ms t 4 0 its.length]])):=by rw[f1.keep _ (by simp) fun e=>by have:=hlt _ e;omega];simp
   have g4:s1[σ.length+2]? =some (some (Ob.row 2 [[AV.p (.v (.int .i64 0)),AV.p (.v (.slice none 0 0))]])):=by rw[f1.keep _ (by simp) fun e=>by have:=hlt _ e;omega];simp
   have g4':σ.length+3<s1.length:=by omega
   have g5:s1[t]? =some (some (Ob.row 4 (its.map itC))):=by rw[f1.keep _ (by simp;omega) htU,getElem?_append_left (by simp;omega),getElem?_append_left (by simp;omega),getElem?_append_left (by simp;omega),getElem?_append_left yt];exact ht
   have n3:¬ U1 (σ.length+3):=nl _ (by omega) (by omega)
   have hBS:=hB1.set n3 (some (Ob.row 2 [[AV.p (.v (.int .i64 (kd:Nat))),AV.ms ta 4 0 la.length]]))
   have g1:Fr σ (s1.set (σ.length+3) (some (Ob.row 2 [[AV.p (.v (.int .i64 (kd:Nat))),AV.ms ta 4 0 la.length]]))) U U1:=⟨by simp;omega,fun j hj hn=>by rw[getElem?_set_ne (by omega),f1.keep j (by simp;omega) hn,getElem?_append_left (by simp;omega),getElem?_append_left (by simp;omega),getElem?_append_left (by simp;omega),getElem?_append_left hj],fun j hj=>(f1.own j hj).imp id fun e=>by simp at e;omega⟩
   have h2:(s1.set (σ.length+3) (some (Ob.row 2 [[AV.p (.v (.int .i64 (kd:Nat))),AV.ms ta 4 0 la.length]])))[σ.length]? =some (some (Ob.row 1 [[AV.mp b 2 0 0]])):=by rw[getElem?_set_ne (by omega)];exact g2
   have h3:(s1.set (σ.length+3) (some (Ob.row 2 [[AV.p (.v (.int .i64 (kd:Nat))),AV.ms ta 4 0 la.length]])))[σ.length+1]? =some (some (Ob.row 2 [[AV.p (.v (.int .i64 3)),AV.ms t 4 0 its.length]])):=by rw[getElem?_set_ne (by omega)];exact g3
   have h4:(s1.set (σ.length+3) (some (Ob.row 2 [[AV.p (.v (.int .i64 (kd:Nat))),AV.ms ta 4 0 la.length]])))[σ.length+2]? =some (some (Ob.row 2 [[AV.p (.v (.int .i64 0)),AV.p (.v (.slice none 0 0))]])):=by rw[getElem?_set_ne (by omega)];exact g4
   have h5:(s1.set (σ.length+3) (some (Ob.row 2 [[AV.p (.v (.int .i64 (kd:Nat))),AV.ms ta 4 0 la.length]])))[t]? =some (some (Ob.row 4 (its.map itC))):=by rw[getElem?_set_ne (by omega)];exact g5
   have g12:(s1.set (σ.length+3) (some (Ob.row 2 [[AV.p (.v (.int .i64 (kd:Nat))),AV.ms ta 4 0 la.length]])))[σ.length+3]? =some (some (Ob.row 2 [[AV.p (.v (.int .i64 (kd:Nat))),AV.ms ta 4 0 la.length]])):=by simp[g4']
   have g13:(s1.set (σ.length+3) (some (Ob.row 2 [[AV.p (.v (.int .i64 (kd:Nat))),AV.ms ta 4 0 la.length]])))[ta]? =some (some (Ob.row 4 (la.map itC))):=by rw[getElem?_set_ne (by omega)];exact htna
   have g6:s1[σ.length+3]? =some (some (Ob.row 2 [[AV.p (.v (.int .i64 0)),AV.p (.v (.slice none 0 0))]])):=by rw[f1.keep _ (by simp) fun e=>by have:=hlt _ e;omega];simp
   have v0:σ.length<s1.length:=by omega
   have v1:σ.length+1<s1.length:=by omega
   have vt:t<s1.length:=by omega
   repeat' first|((with_reducible first|apply cs|apply ws|apply wd|apply wu)<;>intro h<;>try simp only[h])|simp only[↓wBA,tDj,convA,seval,pl86_3Dj,pl86_6Dj,pl86_10Dj,pl86_15Dj,pl86_18Dj,wH,yt,g4',g6,g2,g3,g5,v0,v1,vt]|(with_reducible first|refine dQ pl86_3Dj 14 (some 22) ?_|refine dQ pl86_6Dj 15 (some 37) ?_|refine dQ pl86_10Dj 12 (some 55) ?_|refine dQ pl86_15Dj 10 (some 81) ?_|refine dQ pl86_18Dj 11 (some 94) ?_)|with_reducible refine And.intro ?_ ?_
   clear g2 g3 g4 g5 g6 v0 v1 vt
   obtain⟨S,hS⟩:∃ S,S=s1.set (σ.length+3) (some (Ob.row 2 [[AV.p (.v (.int .i64 (kd:Nat))),AV.ms ta 4 0 la.length]])):=⟨_,rfl⟩
   rw[← hS]at h2 h3 h4 h5 g12 g13 hBS g1
   obtain⟨na,hnae⟩:∃ na,na=σ.length+3:=⟨_,rfl⟩
   rw[← hnae]at g12 n3
   have g2:=h2
   have g3:=h3
   have g4:=h4
   have g5:=h5
   have g14:=n3
   have hna:σ.length+3≤na:=by omega
   have hnta:na≠ta:=by omega
   have hta0:σ.length+3≤ta:=by omega
   simp only[hS.symm]
   simp only[hnae.symm]
   have g8:¬ U1 σ.length:=nl _ (by omega) (by omega)
   have g9:¬ U1 (σ.length+1):=nl _ (by omega) (by omega)
   have g10:¬ U1 (σ.length+2):=nl _ (by omega) (by omega)
   have g11:¬ U1 t:=fun e=>(f1.own _ e).elim htU fun e=>by simp at e;omega
   exact key S na ta U1 P1 ⟨g1,g2,g3,g4,g5,g12,g13,g8,g9,g10,g11,g14,htaU,hna,hnta,hta0,hBS,k1⟩
 case tail=>
  rintro S na ta U1 P1 ⟨g1,g2,g3,g4,g5,g12,g13,g8,g9,g10,g11,g14,htaU,hna,hnta,hta0,hBS,k1⟩
  have y2:=at_lt g2
  have y3:=at_lt g3
  have y4:=at_lt g4
  have y5:=at_lt g5
  have y12:=at_lt g12
  have y13:=at_lt g13
  refine' (fun key:(∀ (S2:St) (nb tb:Nat) (U2:Nat→Prop) (P2:PoolV),JB S S2 b p dd l kh t nb tb ta kd lb U1 U2 P1 P2 v→(_:St→Nat→Nat→Prop) S2 nb tb)=> ?main2) ?tail2
  case main2=>
   repeat' first|((with_reducible first|apply cs|apply ws|apply wd|apply wu)<;>intro h<;>try simp only[h])|simp only[↓wBA,tDj,convA,seval,pl86_3Dj,pl86_6Dj,pl86_10Dj,pl86_15Dj,pl86_18Dj,wH,hw,hkm,g2,g3,g5,y2,y3,y5,yt,hgY,itC,hif1,hi10]|(with_reducible first|refine dQ pl86_3Dj 14 (some 22) ?_|refine dQ pl86_6Dj 15 (some 37) ?_|refine dQ pl86_10Dj 12 (some 55) ?_|refine dQ pl86_15Dj 10 (some 81) ?_|refine dQ pl86_18Dj 11 (some 94) ?_)|with_reducible refine And.intro ?_ ?_
   ·skip
    refine (atRead (((hBS.set g11 none).set g9 none).set g8 none) (by rw[k1.pages];exact hYn.2.1) hBn (hb.kp k1 (by omega))).mono ?_
    rintro _ s2 ⟨U2,P2,a,rfl,f2,hB2,k2,ha,hta⟩
    rcases ha with⟨h0,_⟩|⟨_,tb,rfl,htnb⟩
    ·exact absurd h0 hlb
    obtain⟨e1,e2,e3,e4,e5,e6⟩:=frN f2 g2 g3 g5 g8 g9 g11 [some (Ob.row 2 [[AV.p (.v (.int .i64 (kd:Nat))),AV.ms tb 4 0 lb.length]])]
    have v2:σ.length<s2.length:=by omega
    have v3:σ.length+1<s2.length:=by omega
    have v5:t<s2.length:=by omega
    obtain⟨htb1,htbU⟩:=hta tb rfl
    simp only[length_set]at htb1
    have ytb:=at_lt htnb
    have hBS2:=(((hB2.set e4 (some (Ob.row 1 [[AV.mp b 2 0 0]]))).set e5 (some (Ob.row 2 [[AV.p (.v (.int .i64 3)),AV.ms t 4 0 its.length]]))).set e6 (some (Ob.row 4 (its.map itC)))).ap (Ap.app _ [some (Ob.row 2 [[AV.p (.v (.int .i64 (kd:Nat))),AV.ms tb 4 0 lb.length]])])
    obtain⟨S2,hS2⟩:∃ S2,S2=((s2.set σ.length (some (Ob.row 1 [[AV.mp b 2 0 0]]))).set (σ.length+1) (some (Ob.row 2 [[AV.p (.v (.int .i64 3)),AV.ms t 4 0 its.length]]))).set t (some (Ob.row 4 (its.map itC)))++[some (Ob.row 2 [[AV.p (.v (.int .i64 (kd:Nat))),AV.ms tb 4 0 lb.length]])]:=⟨_,rfl⟩
    have e12:S2[s2.length]? =some (some (Ob.row 2 [[AV.p (.v (.int .i64 (kd:Nat))),AV.ms tb 4 0 lb.length]])):=by
     rw[hS2,List.getElem?_append_right (by simp)];simp
    have e13:=(e2 tb (by omega) ytb).trans htnb
    have e14:¬ U2 s2.length:=fun e=>by have:=hB2.lt _ e;omega
    have hnb:S.length≤s2.length:=e3
    have hntb:s2.length≠tb:=by omega
    rw[← hS2]at e1 e13 hBS2
    obtain⟨nb,hnbe⟩:∃ nb,nb=s2.length:=⟨_,rfl⟩
    rw[← hnbe]at e12 e14 hnb hntb
    simp only[↓wBA,tDj,convA,seval,wH,g2,g3,g5,yt,v2,v3,v5]
    simp only[hS2.symm]
    simp only[hnbe.symm]
    have htb0:S.length≤tb∧tb≠t∧tb≠ta:=⟨htb1,by omega,by omega⟩
    exact key S2 nb tb U2 P2 ⟨e1,e12,e13,e14,htbU,hnb,hntb,htb0,hBS2,k2⟩
   ·skip
    refine (atRead (hBS.ap (Ap.app _ _)) (by rw[k1.pages];exact hYn.2.1) hBn (hb.kp k1 (by omega))).mono ?_
    rintro _ s2 ⟨U2,P2,a,rfl,f2,hB2,k2,ha,hta⟩
    rcases ha with⟨h0,_⟩|⟨_,tb,rfl,htnb⟩
    ·exact absurd h0 hlb
    have q2:=f2.len
    simp only[length_append,length_cons,length_nil]at q2
    obtain⟨htb1,htbU⟩:=hta tb rfl
    simp only[length_append,length_cons,length_nil]at htb1
    have ytb:=at_lt htnb
    have hl1:=hBS.lt
    have e6:s2[S.length]? =some (some (Ob.row 2 [[AV.p (.v (.int .i64 0)),AV.p (.v (.slice none 0 0))]])):=by rw[f2.keep _ (by simp) fun e=>by have:=hl1 _ e;omega];simp
    have e7:=at_lt e6
    have n7:¬ U2 S.length:=fun e=>(f2.own _ e).elim (fun e=>by have:=hl1 _ e;omega) fun e=>by simp only[length_append,length_cons,length_nil]at e;omega
    have hBS2:=hB2.set n7 (some (Ob.row 2 [[AV.p (.v (.int .i64 (kd:Nat))),AV.ms tb 4 0 lb.length]]))
    have e1:Fr S (s2.set S.length (some (Ob.row 2 [[AV.p (.v (.int .i64 (kd:Nat))),AV.ms tb 4 0 lb.length]]))) U1 U2:=⟨by simp;omega,fun j hj hn=>by rw[getElem?_set_ne (by omega),f2.keep j (by simp;omega) hn,getElem?_append_left hj],fun j hj=>(f2.own j hj).imp id fun e=>by simp at e;omega⟩
    have e12:(s2.set S.length (some (Ob.row 2 [[AV.p (.v (.int .i64 (kd:Nat))),AV.ms tb 4 0 lb.length]])))[S.length]? =some (some (Ob.row 2 [[AV.p (.v (.int .i64 (kd:Nat))),AV.ms tb 4 0 lb.length]])):=by simp[e7]
    have e13:(s2.set S.length (some (Ob.row 2 [[AV.p (.v (.int .i64 (kd:Nat))),AV.ms tb 4 0 lb.length]])))[tb]? =some (some (Ob.row 4 (lb.map itC))):=by rw[getElem?_set_ne (by omega)];exact htnb
    have z2:s2[σ.length]? =some (some (Ob.row 1 [[AV.mp b 2 0 0]])):=by rw[f2.keep _ (by simp;omega) g8,getElem?_append_left y2];exact g2
    have z3:s2[σ.length+1]? =some (some (Ob.row 2 [[AV.p (.v (.int .i64 3)),AV.ms t 4 0 its.length]])):=by rw[f2.keep _ (by simp;omega) g9,getElem?_append_left y3];exact g3
    have z5:s2[t]? =some (some (Ob.row 4 (its.map itC))):=by rw[f2.keep _ (by simp;omega) g11,getElem?_append_left y5];exact g5
    have v2:=at_lt z2
    have v3:=at_lt z3
    have v5:=at_lt z5
    have x1:=lf y2
    have x2:=lf y3
    have x3:=lf y5
    simp only[↓wBA,tDj,convA,seval,wH,yt,e6,e7,z2,z3,z5,v2,v3,v5,x1,x2,x3]
    have htb0:S.length≤tb∧tb≠t∧tb≠ta:=⟨by omega,by omega,by omega⟩
    obtain⟨S2,hS2⟩:∃ S2,S2=s2.set S.length (some (Ob.row 2 [[AV.p (.v (.int .i64 (kd:Nat))),AV.ms tb 4 0 lb.length]])):=⟨_,rfl⟩
    rw[← hS2]at e12 e13 hBS2 e1
    obtain⟨nb,hnbe⟩:∃ nb,nb=S.length:=⟨_,rfl⟩
    rw[← hnbe]at e12
    have e14:¬ U2 nb:=by rw[hnbe];exact n7
    have hnb:S.length≤nb:=by omega
    have hntb:nb≠tb:=fun e=>by rw[← e,e12]at e13;simp at e13
    simp only[hS2.symm]
    simp only[hnbe.symm]
    exact key S2 nb tb U2 P2 ⟨e1,e12,e13,e14,htbU,hnb,hntb,htb0,hBS2,k2⟩
  case tail2=>
   rintro S2 nb tb U2 P2 ⟨e1,e12,e13,e14,htbU,hnb,hntb,htb0,hBS2,k2⟩
   have w2:=e1.get g2 g8
   have w3:=e1.get g3 g9
   have w4:=e1.get g4 g10
   have w5:=e1.get g5 g11
   have wna:=e1.get g12 g14
   have wta:=e1.get g13 htaU
   have k12:=k1.trans k2
   have yl:=e1.len
   have n1:(na=nb)=False:=eq_false (by omega)
   have n2:(nb=na)=False:=eq_false (by omega)
   have nU2:¬ U2 σ.length∧¬ U2 (σ.length+1)∧¬ U2 (σ.length+2)∧¬ U2 na∧¬ U2 t:=⟨fun e=>(e1.own _ e).elim g8 fun e=>by omega,fun e=>(e1.own _ e).elim g9 fun e=>by omega,fun e=>(e1.own _ e).elim g10 fun e=>by omega,fun e=>(e1.own _ e).elim g14 fun e=>by omega,fun e=>(e1.own _ e).elim g11 fun e=>by omega⟩
   clear g2 g3 g4 g5 g12 g13 hBS y2 y3 y4 y5 y12 y13
   have f12:=g1.trans e1
   have m2:=at_lt w2
   have m3:=at_lt w3
   have m4:=at_lt w4
   have m5:=at_lt w5
   have m6:=at_lt wna
   have m7:=at_lt wta
   have m8:=at_lt e12
   have m9:=at_lt e13
   obtain⟨lc,hlc⟩:∃ lc,lc=(if kd=3 then setE Y.e lb else lb):=⟨_,rfl⟩
   obtain⟨z,hz⟩:∃ z,lb[0]? =some z:=by cases lb with|nil=>exact absurd rfl hlb|cons z r=>exact⟨z,rfl⟩
   have hlcl:lc.length=lb.length:=by rw[hlc];split;exact setE_len _ _;rfl
   have hl0:((0:Int)<(lb.length:Int))=True:=eq_true (by have:=List.length_pos_iff.2 hlb;omega)
   have hgb:(lb.map itC)[0]? =some [.p (.sl 1 (encB z.e.k)),.p (.v (.int .i64 (z.e.p:Nat))),.p (.v (.int .i64 (z.e.s:Nat))),.p (.v (.int .i64 (z.c:Nat)))]:=by simp[hz,itC,intV]
   have x1:(tb=nb)=False:=eq_false (fun e=>hntb e.symm)
   have x2:(nb=tb)=False:=eq_false hntb
   have x3:tb≠σ.length∧tb≠σ.length+1∧tb≠σ.length+2∧tb≠t∧tb≠na∧tb≠ta:=⟨fun e=>by rw[e,w2]at e13;simp at e13,fun e=>by rw[e,w3]at e13;simp at e13,fun e=>by rw[e,w4]at e13;simp at e13,htb0.2.1,fun e=>by rw[e,wna]at e13;simp at e13,htb0.2.2⟩
   obtain⟨x4,x5,x6,x7,x8,x9⟩:=x3
   obtain⟨S3,hS3⟩:∃ S3,S3=if kd=3 then S2.set tb (some (Ob.row 4 (lc.map itC)))else S2:=⟨_,rfl⟩
   have hg3:∀ j,j≠tb→S3[j]? =S2[j]? :=fun j hj=>by rw[hS3];split;exact getElem?_set_ne (fun e=>hj e.symm);rfl
   have u2:=(hg3 _ x4.symm).trans w2
   have u3:=(hg3 _ x5.symm).trans w3
   have u4:=(hg3 _ x6.symm).trans w4
   have u5:=(hg3 _ x7.symm).trans w5
   have una:=(hg3 _ x8.symm).trans wna
   have uta:=(hg3 _ x9.symm).trans wta
   have unb:=(hg3 _ hntb).trans e12
   have utb:S3[tb]? =some (some (Ob.row 4 (lc.map itC))):=by
    rw[hS3];split
    ·rw[List.getElem?_set_self m9]
    ·rename_i hk;rw[hlc,if_neg hk];exact e13
   have hB3:Bt S3 b p dd l kh U2 P2 v:=by rw[hS3];split;exact hBS2.set htbU _;exact hBS2
   have f13:Fr σ S3 U U2:=by rw[hS3];split;exact Fr.setY f12 (by have:=g1.len;have:=htb0.1;omega) _;exact f12
   repeat' first|((with_reducible first|apply cs|apply ws|apply wd|apply wu)<;>intro h<;>try simp only[h])|simp only[↓wBA,tDj,convA,seval,pl86_3Dj,pl86_6Dj,pl86_10Dj,pl86_15Dj,pl86_18Dj,wH,e12,m8]|(with_reducible first|refine dQ pl86_3Dj 14 (some 22) ?_|refine dQ pl86_6Dj 15 (some 37) ?_|refine dQ pl86_10Dj 12 (some 55) ?_|refine dQ pl86_15Dj 10 (some 81) ?_|refine dQ pl86_18Dj 11 (some 94) ?_)|with_reducible refine And.intro ?_ ?_
   all_goals first
    |have hk3:kd=3:=by
      have h0:((kd:Int)==3)=true:=h
      have:(kd:Int)=3:=by simpa using h0
      omega
     have hset:(lb.map itC).set 0 [.p (.sl 1 (encB Y.e.k)),.p (.v (.int .i64 (Y.e.p:Nat))),.p (.v (.int .i64 (Y.e.s:Nat))),.p (.v (.int .i64 (z.c:Nat)))]=lc.map itC:=by
      rw[hlc,if_pos hk3]
      cases lb with
      |nil=>exact absurd rfl hlb
      |cons z' r=>simp at hz;subst hz;exact setE_row Y.e _ r
     rw[if_pos hk3]at hS3
     repeat' first|((with_reducible first|apply cs|apply ws|apply wd|apply wu)<;>intro h<;>try simp only[h])|simp only[↓wBA,tDj,convA,seval,pl86_3Dj,pl86_6Dj,pl86_10Dj,pl86_15Dj,pl86_18Dj,wH,hw,hkm,hgY,itC,hif1,hi10,w2,w3,w5,e12,e13,m2,m3,m5,m8,m9,hgb,hl0,hset]|(with_reducible first|refine dQ pl86_3Dj 14 (some 22) ?_|refine dQ pl86_6Dj 15 (some 37) ?_|refine dQ pl86_10Dj 12 (some 55) ?_|refine dQ pl86_15Dj 10 (some 81) ?_|refine dQ pl86_18Dj 11 (some 94) ?_)|with_reducible refine And.intro ?_ ?_
     simp only[hS3.symm]
     clear hk3 hset h
    |have h0:((kd:Int)==3)=false:=h
     have hk3:kd≠3:=fun e=>by rw[e]at h0;simp at h0
     rw[if_neg hk3]at hS3
     subst hS3
     clear h0 hk3 h
   all_goals
    have p2:=at_lt u2
    have p3:=at_lt u3
    have p4:=at_lt u4
    have p5:=at_lt u5
    have pna:=at_lt una
    have pnb:=at_lt unb
    have ptb:=at_lt utb
    repeat' first|((with_reducible first|apply cs|apply ws|apply wd|apply wu)<;>intro h<;>try simp only[h])|simp only[↓wBA,tDj,convA,seval,pl86_3Dj,pl86_6Dj,pl86_10Dj,pl86_15Dj,pl86_18Dj,wH,una,unb,pna,pnb]|(with_reducible first|refine dQ pl86_3Dj 14 (some 22) ?_|refine dQ pl86_6Dj 15 (some 37) ?_|refine dQ pl86_10Dj 12 (some 55) ?_|refine dQ pl86_15Dj 10 (some 81) ?_|refine dQ pl86_18Dj 11 (some 94) ?_)|with_reducible refine And.intro ?_ ?_
    obtain⟨C,hC⟩:∃ C,C=catI kd Y.e la lb:=⟨_,rfl⟩
    have hC2:la++lc=C:=by rw[hC,hlc];rfl
    have hlp:=List.length_pos_iff.2 hla
    have hbp:=List.length_pos_iff.2 hlb
    have hl49:=hA.n
    have hb49:=hBn.n
    have hCl:C.length=la.length+lb.length:=by rw[← hC2,length_append,hlcl]
    have hCok:∀ x∈C,x.ok:=fun x hx=>by
     rw[← hC2]at hx
     rcases List.mem_append.1 hx with hx|hx
     ·exact hA.ok x hx
     ·rw[hlc]at hx
      split at hx
      ·cases lb with
       |nil=>exact absurd rfl hlb
       |cons z' r=>
        rcases List.mem_cons.1 hx with rfl|hx
        ·exact⟨hYo.1,(hBn.ok z' (by simp)).2⟩
        ·exact hBn.ok x (List.mem_cons_of_mem _ hx)
      ·exact hBn.ok x hx
    have q1:=(Ap.app S3 [some (Ob.row 1 [[AV.ms ta 4 0 la.length],[AV.ms tb 4 0 lb.length]])])
    have hcat:=acatI (σ:=S3++[some (Ob.row 1 [[AV.ms ta 4 0 la.length],[AV.ms tb 4 0 lb.length]])]) (tv:=S3.length) (ta:=ta) (tb:=tb) (la:=la) (lb:=lc) (by rw[hlcl];simp) (q1.get uta) (q1.get utb) hlp (by omega) (by omega) (by omega)
    rw[hlcl,hC2]at hcat
    refine hcat.mono ?_
    rintro _ s4 ⟨a4,tc,rfl,htc,utc⟩
    have a34:=q1.trans a4
    have l34:=a34.len
    simp only[length_append,length_cons,length_nil]at htc
    have vna:=a34.get una
    have pna4:=at_lt vna
    have ptc:=at_lt utc
    have x10:tc≠na:=by omega
    have hM:ItM (s4.set na (some (Ob.row 2 [[AV.p (.v (.int .i64 (kd:Nat))),AV.ms tc 4 0 (la.length+lb.length)]]))) tc 0 C:=⟨_,(getElem?_set_ne (fun e=>x10 e.symm)).trans utc,by simp,fun j x hj=>by simp[hj]⟩
    have hfit:=atFits kd hM.a hCok (by omega)
    rw[hCl]at hfit
    simp only[intV]at hfit
    have hpl:=fitF_len kd C
    have hpc:=pageC_512 hpl
    have z5:=pageC_512 len_zero512
    have r2:=a34.get u2
    have r3:=a34.get u3
    have r4:=a34.get u4
    have r5:=a34.get u5
    have o2:=at_lt r2
    have o3:=at_lt r3
    have o4:=at_lt r4
    have o5:=at_lt r5
    have x11:(na=σ.length+2)=False:=eq_false (by omega)
    have x12:(σ.length+2=na)=False:=eq_false (by omega)
    have x13:(na=σ.length+1)=False:=eq_false (by omega)
    have x14:(σ.length+1=na)=False:=eq_false (by omega)
    have x15:(na=σ.length)=False:=eq_false (by omega)
    have x16:(σ.length=na)=False:=eq_false (by omega)
    have f14:Fr σ s4 U U2:=f13.trans a34.fr
    have hB4:=hB3.ap a34
    obtain⟨nU20,nU21,nU22,nU2n,nU2t⟩:=nU2
    by_cases hs:szL C≤496
    rotate_left
    focus
     have hf2:=fit_no hA.kd hCok hs
     repeat' first|((with_reducible first|apply cs|apply ws|apply wd|apply wu)<;>intro h<;>try simp only[h])|simp only[↓wBA,tDj,convA,seval,pl86_3Dj,pl86_6Dj,pl86_10Dj,pl86_15Dj,pl86_18Dj,wH,vna,pna4,pageA,hpc,hpl,zl512,zB_512,len_zero512,z5,hf2,r3,r4,o3,o4,x11,x12,x13,x14]|((with_reducible show ACalls _ _ _ _ _);refine hfit.eq ?_)|(with_reducible first|refine dQ pl86_3Dj 14 (some 22) ?_|refine dQ pl86_6Dj 15 (some 37) ?_|refine dQ pl86_10Dj 12 (some 55) ?_|refine dQ pl86_15Dj 10 (some 81) ?_|refine dQ pl86_18Dj 11 (some 94) ?_)|with_reducible refine And.intro ?_ ?_
     all_goals refine ret_st ?_ (by first|exact Nat.le_refl _|(simp only[length_set,length_append];omega)|omega)
     all_goals simp only[resA.eq_1,resL.eq_1,resL.eq_2,resV.eq_1,resV.eq_2,↓wBA,tDj,convA,seval,wH,o4,x11,x12]
     exact⟨U2,P2,v,T,fr_up ((Fr.setY (Fr.setY f14 (show σ.length≤na by omega) _) (show σ.length≤σ.length+2 by omega) _).app _),((hB4.set nU2n _).set nU22 _).ap (Ap.app _ _),k12,.inl ⟨by rw[← hC];omega,rfl,rfl,rfl,by rw[getElem?_append_left (by simpa using o5),getElem?_set_ne (by omega),getElem?_set_ne (by omega)];exact r5,nU2t⟩⟩
    focus
     obtain⟨hf2,hfn⟩:=fit_yes hA.kd hCok hs
     have x17:(t=na)=False:=eq_false (by omega)
     have x18:(na=t)=False:=eq_false (by omega)
     repeat' first|((with_reducible first|apply cs|apply ws|apply wd|apply wu)<;>intro h<;>try simp only[h])|simp only[↓wBA,tDj,convA,seval,pl86_3Dj,pl86_6Dj,pl86_10Dj,pl86_15Dj,pl86_18Dj,wH,vna,pna4,pageA,hpc,hpl,zl512,zB_512,len_zero512,z5,hf2,r2,r3,r5,o2,o3,o5,x11,x12,x13,x14,x15,x16,x17,x18,hgX,itC,hif,hi0]|((with_reducible show ACalls _ _ _ _ _);refine hfit.eq ?_)|(with_reducible first|refine dQ pl86_3Dj 14 (some 22) ?_|refine dQ pl86_6Dj 15 (some 37) ?_|refine dQ pl86_10Dj 12 (some 55) ?_|refine dQ pl86_15Dj 10 (some 81) ?_|refine dQ pl86_18Dj 11 (some 94) ?_)|with_reducible refine And.intro ?_ ?_
     have lf3:=f14.len
     have hB5:=(hB4.set nU2n (some (Ob.row 2 [[AV.p (.v (.int .i64 (kd:Nat))),AV.ms tc 4 0 (la.length+lb.length)]]))).ap (Ap.app _ [some (Ob.row 512 [pageC (fitF kd C).1])])
     obtain⟨S5,hS5⟩:∃ S5,S5=s4.set na (some (Ob.row 2 [[AV.p (.v (.int .i64 (kd:Nat))),AV.ms tc 4 0 (la.length+lb.length)]]))++[some (Ob.row 512 [pageC (fitF kd C).1])]:=⟨_,rfl⟩
     rw[← hS5]at hB5
     have hg5:∀ j,j≠na→j<s4.length→S5[j]? =s4[j]? :=fun j h1 h2=>by rw[hS5,getElem?_append_left (by simpa using h2),getElem?_set_ne (fun e=>h1 e.symm)]
     have a2:=(hg5 _ (by omega) o2).trans r2
     have a3:=(hg5 _ (by omega) o3).trans r3
     have a4':=(hg5 _ (by omega) o4).trans r4
     have a5:=(hg5 _ (by omega) o5).trans r5
     have ac:S5[tc]? =some (some (Ob.row 4 (C.map itC))):=(hg5 _ x10 ptc).trans utc
     have f15:Fr σ S5 U U2:=by rw[hS5];exact (Fr.setY f14 (show σ.length≤na by omega) _).app _
     have hX5:ItX S5 (.ms tc 4 0 C.length) C:=.inl ⟨tc,0,rfl,_,ac,by simp,fun j x hj=>by simp[hj]⟩
     have hW:=atWrite (n:=X.c) hB5 hXn.1 (by rw[k12.pages];exact hXn.2) hX5 hA.kd hCok hs
     rw[hCl]at hW
     simp only[intV]at hW
     simp only[hS5.symm]
     refine hW.mono ?_
     rintro _ s6 ⟨rfl,U6,f6,hB6⟩
     have l6:=f6.len
     have nU6:∀ j,j<S5.length→¬ U2 j→¬ U6 j:=fun j hj hn e=>(f6.own j e).elim hn fun e=>by omega
     have c2:=f6.get a2 nU20
     have c3:=f6.get a3 nU21
     have c4:=f6.get a4' nU22
     have c5:=f6.get a5 nU2t
     have d2:=at_lt c2
     have d3:=at_lt c3
     have d4:=at_lt c4
     have d5:=at_lt c5
     have hFr:=abFree (n:=Y.c) (T:=T) hB6 (by rw[k12.pages];unfold upV;rw[if_neg (by omega)];exact hT) (by rw[k12.pages];exact hnp) hYn.1 (by rw[k12.pages];exact hYn.2.1) hYn.2.2 (hb.kp k12 (by omega))
     have hX0:=nnI (i+1)
     repeat' first|((with_reducible first|apply cs|apply ws|apply wd|apply wu)<;>intro h<;>try simp only[h])|simp only[↓wBA,tDj,convA,seval,pl86_3Dj,pl86_6Dj,pl86_10Dj,pl86_15Dj,pl86_18Dj,wH,hw,c2,c3,c5,d2,d3,d5,hgY,itC,hif1,hi10]|(with_reducible first|refine dQ pl86_3Dj 14 (some 22) ?_|refine dQ pl86_6Dj 15 (some 37) ?_|refine dQ pl86_10Dj 12 (some 55) ?_|refine dQ pl86_15Dj 10 (some 81) ?_|refine dQ pl86_18Dj 11 (some 94) ?_)|with_reducible refine And.intro ?_ ?_
     refine hFr.mono ?_
     rintro _ s7 ⟨rfl,U7,P7,v7,f7,hB7,k7,hv7,hT7⟩
     have l7:=f7.len
     have n60:=nU6 _ (at_lt a2) nU20
     have n61:=nU6 _ (at_lt a3) nU21
     have n62:=nU6 _ (at_lt a4') nU22
     have n6t:=nU6 _ (at_lt a5) nU2t
     have nU7:∀ j,j<s6.length→¬ U6 j→¬ U7 j:=fun j hj hn e=>(f7.own j e).elim hn fun e=>by omega
     have c3:=f7.get c3 n61
     have c4:=f7.get c4 n62
     have c5:=f7.get c5 n6t
     have d3:=at_lt c3
     have d4:=at_lt c4
     have d5:=at_lt c5
     have n71:=nU7 _ (at_lt ‹s6[σ.length+1]? =_›) n61
     have n72:=nU7 _ (at_lt ‹s6[σ.length+2]? =_›) n62
     have n7t:=nU7 _ (at_lt ‹s6[t]? =_›) n6t
     have hdl:=adel (i:=i+1) (by omega) (by omega) c5
     simp only[intV]at hdl
     have hw2:IntKind.i64.wrap ((i:Int)+2)=((i+1+1:Nat):Int):=by rw[wrap_i64 (by omega) (by omega)];omega
     repeat' first|((with_reducible first|apply cs|apply ws|apply wd|apply wu)<;>intro h<;>try simp only[h])|simp only[↓wBA,tDj,convA,seval,pl86_3Dj,pl86_6Dj,pl86_10Dj,pl86_15Dj,pl86_18Dj,wH,hw,hw2,c3,d3]|(with_reducible first|refine dQ pl86_3Dj 14 (some 22) ?_|refine dQ pl86_6Dj 15 (some 37) ?_|refine dQ pl86_10Dj 12 (some 55) ?_|refine dQ pl86_15Dj 10 (some 81) ?_|refine dQ pl86_18Dj 11 (some 94) ?_)|with_reducible refine And.intro ?_ ?_
     refine hdl.mono ?_
     rintro _ s8 ⟨rfl,rfl⟩
     have x20:(t=σ.length+1)=False:=eq_false (by omega)
     have x21:(σ.length+1=t)=False:=eq_false (by omega)
     have x22:(t=σ.length+2)=False:=eq_false (by omega)
     have x23:(σ.length+2=t)=False:=eq_false (by omega)
     repeat' first|((with_reducible first|apply cs|apply ws|apply wd|apply wu)<;>intro h<;>try simp only[h])|simp only[↓wBA,tDj,convA,seval,pl86_3Dj,pl86_6Dj,pl86_10Dj,pl86_15Dj,pl86_18Dj,wH,c3,d3,c4,d4,d5,x20,x21,x22,x23]|(with_reducible first|refine dQ pl86_3Dj 14 (some 22) ?_|refine dQ pl86_6Dj 15 (some 37) ?_|refine dQ pl86_10Dj 12 (some 55) ?_|refine dQ pl86_15Dj 10 (some 81) ?_|refine dQ pl86_18Dj 11 (some 94) ?_)|with_reducible refine And.intro ?_ ?_
     all_goals refine ret_st ?_ (by first|exact Nat.le_refl _|(simp only[length_set,length_append];omega)|omega)
     all_goals simp only[resA.eq_1,resL.eq_1,resL.eq_2,resV.eq_1,resV.eq_2,↓wBA,tDj,convA,seval,wH,d3,d4,x20,x21,x22,x23]
     refine⟨U7,P7,v7,_,(Fr.setY (Fr.setY ((fr_up ((f15.trans f6).trans f7)).set _ (.inr rfl)) (show σ.length≤σ.length+1 by omega) _) (show σ.length≤σ.length+2 by omega) _).app _,(((hB7.set n7t _).set n71 _).set n72 _).ap (Ap.app _ _),k12.trans k7,.inr ⟨by rw[← hC];exact hs,s7.length,rfl,by omega,fun e=>by have:=hB7.lt _ e;omega,by rw[List.getElem?_append_right (by simp)];simp,?_,fun q h1 h2=> ?_,by rw[k12.pages]at hT7;exact hT7,rfl⟩⟩
     ·rw[hv7 _ (by omega)];unfold upV;rw[if_pos rfl,←hC]
     ·rw[hv7 q h2];unfold upV;rw[if_neg h1]
end
end Go.Proofs.YtockimhceppkbaaGreat
