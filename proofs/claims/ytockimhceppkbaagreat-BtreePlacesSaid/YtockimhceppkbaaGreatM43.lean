/- BtreePlaces: the tree of no keys; what the law puts in. BtreePlaces. -/
import Derived.Test.YtockimhceppkbaaGreatM42
set_option linter.unusedSimpArgs false
set_option linter.unusedVariables false
set_option linter.defProp false
set_option maxRecDepth 100000
set_option maxHeartbeats 32000000
namespace Go.Proofs.YtockimhceppkbaaGreat
open Go.RowKit
open List (getElem?_set_ne length_append length_map length_set map_set mem_append)
def tUf:=aa wX <| aa wbu <| aa T3 <| aa T22 <| aa T24 <| aa T25 <| aa T28 <| aa T30 <| aa T35 T37
def entJ (key:List UInt8)(c j:Nat):Ent:=⟨key,j*7 % c,j⟩
theorem has_all {l:List Ent}{key:List UInt8}{c j0:Nat}(hs:SortE l)(hm:∀ e∈l,∃ j,j<c∧e=entJ key c j)(hl:l.length=c)(hj:j0<c):entJ key c j0∈l:=by
 refine Classical.byContradiction fun hn=> ?_
 let g:Ent→Nat:=fun e=>if j0<e.s then e.s - 1 else e.s
 have hne:∀ e∈l,e.s≠j0:=fun e he h=>by
  obtain⟨j,hj,rfl⟩:=hm e he
  have h:j=j0:=h
  subst h;exact hn he
 have hnd:(l.map g).Nodup:=by
  refine List.pairwise_map.2 (List.Pairwise.imp_of_mem (fun {a b} ha hb hab=> ?_) hs)
  intro e
  have h1:=hne a ha
  have h2:=hne b hb
  have h3:a.s=b.s:=by
   simp only[g]at e
   split at e<;>split at e<;>omega
  obtain⟨i,_,rfl⟩:=hm a ha
  obtain⟨j,_,rfl⟩:=hm b hb
  have h3:i=j:=h3
  subst h3
  exact leE_refl _ hab
 have hlt:∀ q∈l.map g,q<c - 1:=fun q hq=>by
  obtain⟨e,he,rfl⟩:=List.mem_map.1 hq
  have h1:=hne e he
  obtain⟨j,hj,rfl⟩:=hm e he
  have h1:j≠j0:=h1
  simp only[g]
  show (if j0<j then j - 1 else j)<c - 1
  split<;>omega
 have:=len_le_of_lt (c - 1) _ hnd hlt
 rw[length_map]at this
 omega
section
theorem atTreeNil (σ:St):ACalls Tryz.prog 17 [.p (.v (.slice none 0 0))] σ fun r σ'=>∃ b root p dd l kh U P v T,r= .tup [.mp b 2 0 0,intV .i64 (root:Nat)]∧Ap σ σ'∧Bt σ' b p dd l kh U P v∧(∀ q,U q→σ.length≤q)∧P.pages=800∧Bud P 1000∧RootOk v T 800 root 0 ([]:List Ent)∧Tk (v 0) 800 T∧T 0=true∧OnlyW T 800 root 0 ([]:List Ent) 0:=by
 refine acalls_of cx_ok dr_ok Tryz.func17 (by kernel_rfl) rfl (nt:=45) (rs:=[.tmp 2,.tmp 3]) rfl rfl ?_
 repeat' first|((with_reducible first|apply cs|apply ws)<;>intro h<;>try simp only[h])|simp only[↓wBA,tUf,convA,seval,wH]
 refine (adnew 6400 (by omega) σ).mono ?_
 rintro _ s1 ⟨dd,Fd,rfl,a1,hd,hFd⟩
 repeat' first|((with_reducible first|apply cs|apply ws)<;>intro h<;>try simp only[h])|simp only[↓wBA,tUf,convA,seval,wH]
 refine (adnew 30000 (by omega) s1).mono ?_
 rintro _ s2 ⟨dl,Fl,rfl,a2,hl,hFl⟩
 have hd2:=hd.ap a2
 have l1:=a1.len
 have l2:=a2.len
 repeat' first|((with_reducible first|apply cs|apply ws)<;>intro h<;>try simp only[h])|simp only[↓wBA,tUf,convA,seval,wH]
 refine (aopenN2 hd2 hl (fun t h1 h2=>by have:=hd.lt t h1;have:=hFl t h2;omega) (by omega) (by omega) 6 (by omega) (by omega)).mono ?_
 rintro _ s3 ⟨p,l,kh,G,P,rfl,a3,hP,p1,p2,p3,p4,p5,p6,p7,p8,p9⟩
 have l3:=a3.len
 have hGσ:∀ t,G t→σ.length≤t:=fun t ht=>by
  rcases p9 t ht with h|h|h
  ·exact hFd t h
  ·have:=hFl t h;omega
  ·omega
 have hpg:P.pages=800:=by rw[p1];rfl
 have hbud:Bud P 1000000:=⟨by omega,by rw[p7];simp,by omega⟩
 repeat' first|((with_reducible first|apply cs|apply ws)<;>intro h<;>try simp only[h])|simp only[↓wBA,tUf,convA,seval,wH]|((with_reducible show ACalls _ _ _ _ _);refine (abBatch hP).mono ?_;rintro _ s4 ⟨rfl,a4,h4⟩)
 have l4:=a4.len
 refine (atMake (T:=fun n=>n==0) h4 (by rw[p8];exact tk_new (by omega)) (by omega) (by omega) rfl (hbud.mono (by omega))).mono ?_
 rintro r s5 ⟨U5,P5,v5,f5,h5,k5,hc⟩
 rcases hc with⟨m,hTm,rfl,hvo,hTk,ht0,hR5⟩|⟨hall,_,_⟩
 rotate_left
 ·exact absurd (hall 1 (by omega)) (by decide)
 have l5:=f5.len
 have hpg5:=k5.pages
 rw[hpg]at hTk hR5
 have hb5:=hbud.kp (k:=1000) k5 (by omega)
 have hf5:Fr σ s5 (fun t=>t=s3.length∨G t) U5:=(((a1.trans a2).trans a3).trans a4).fr.trans f5
 have ho5:OnlyW (updT (fun n=>n==0) m true) 800 m 0 ([]:List Ent) 0:=⟨fun q hq=>by
  unfold updT at hq
  split at hq
  ·rename_i e;right;simp[pgT,e]
  ·left;simpa using hq,pgI_nil,Nat.le_refl _⟩
 have hG6:∀ t,(t=s3.length∨G t)→σ.length≤t:=fun t ht=>ht.elim (fun e=>by omega) (hGσ t)
 repeat' first|((with_reducible first|apply cs|apply ws)<;>intro h<;>try simp only[h])|simp only[↓wBA,tUf,convA,seval,wH]
 refine awp_loopS (X:=Unit) (fun i=>0) (fun i=>[(9,intV .i64 0)]) [25,26,27,28,29,30,31,32,33,34,35,36,37,38,39,40,41,42,43] (fun i s=>s=s5) (()) ?_ ?_ ?_ ?_
 ·simp only[wHl,wHf]
 ·exact rfl
 ·rintro _ _ rfl;omega
 ·intro y J q hI
  simp only[wHl]
  subst hI
  repeat' first|((with_reducible first|apply cs|apply ws)<;>intro h<;>try simp only[h])|simp only[↓wBA,tUf,convA,seval,wH,wHl]
  all_goals refine ret_st ?_ (by first|exact Nat.le_refl _|(simp only[length_set,length_append];omega)|omega)
  all_goals simp only[resA.eq_1,resL.eq_1,resL.eq_2,resV.eq_1,resV.eq_2,↓wBA,tUf,convA,seval,wH]
  all_goals exact⟨s3.length,m,p,dd,l,kh,U5,P5,v5,_,rfl,Ap.of_fr hf5 hG6,h5,fun q hq=>(hf5.own q hq).elim (hG6 q) id,by rw[hpg5];exact hpg,hb5,hR5,hTk,ht0,ho5⟩
end
theorem tmodN (a b:Nat):((a:Int)).tmod ((b:Nat):Int)=((a % b:Nat):Int):=by
 rw[Int.tmod_eq_emod_of_nonneg (by omega)];rfl
def pl4_12Ug:Plan:=(.det 0 (.det 1 (.det 2 (.det 3 (.det 4 (.det 5 (.det 6 (.det 7 (.det 8 (.det 9 (.det 10 (.det 11 (.fin 12 (.fin 13 .done))))))))))))))
def pl4_21Ug:Plan:=(.det 0 (.det 1 (.det 2 (.det 3 (.det 4 (.det 5 (.det 6 (.det 7 (.det 8 (.det 9 (.det 10 (.det 11 (.det 12 (.det 13 (.det 14 (.det 15 (.det 16 (.det 17 (.det 18 (.det 19 (.det 20 (.det 21 (.det 22 (.det 23 (.det 24 (.det 25 (.det 26 (.det 27 (.det 28 (.det 29 (.det 30 (.det 31 (.det 32 (.det 33 (.det 34 (.det 35 (.det 36 (.det 37 (.det 38 (.det 39 (.det 40 (.det 41 (.det 42 (.det 43 (.det 44 (.det 45 (.det 46 (.det 47 (.det 48 (.det 49 (.det 50 (.det 51 (.det 52 (.det 53 (.det 54 (.det 55 (.det 56 (.det 57 (.det 58 .done)))))))))))))))))))))))))))))))))))))))))))))))))))))))))))
def pl4_28Ug:Plan:=(.det 0 (.det 1 (.det 2 (.det 3 (.det 4 (.det 5 (.det 6 (.det 7 (.det 8 (.det 9 (.det 10 (.det 11 (.det 12 (.det 13 (.det 14 (.det 15 (.det 16 (.det 17 (.det 19 (.two 18 (.act 20 (.det 21 (.det 22 (.det 23 (.det 24 .done))))) 20 (.fin 18 (.det 21 (.det 22 (.det 23 (.det 24 .done)))))))))))))))))))))))))
def tUg:=aa wX <| aa wbu <| aa T3 <| aa T4 <| aa T5 <| aa T9 <| aa T22 <| aa T25 <| aa T30 <| aa T35 <| aa T37 <| aa T40 T48
theorem aplaces7M (key:List UInt8)(hk0:key≠[])(hkey:key.length≤140737488351232)(n k:Nat)(hn:n<256)(hk:k<256)(σ:St):ACalls Tryz.prog 4 [.p (.sl 1 (encB key)),intV .u8 (n:Nat),intV .u8 (k:Nat)] σ fun r σ'=>r=boolV true:=by
 have hkl:=encB_len' key
 refine acalls_of cx_ok dr_ok Tryz.func4 (by kernel_rfl) rfl (nt:=204) (rs:=[.tmp 6]) rfl rfl ?_
 repeat' first|((with_reducible first|apply cs|apply ws|apply wd|apply wu)<;>intro h<;>try simp only[h])|simp only[↓wBA,tUg,convA,seval,pl4_12Ug,pl4_21Ug,pl4_28Ug,wH]|((with_reducible show ACalls _ _ _ _ _);refine (aawake7 _).mono ?_;rintro _ s0 ⟨a0,rfl⟩)|(with_reducible first|refine dQ pl4_12Ug 14 (some 52) ?_|refine dQ pl4_21Ug 59 (some 101) ?_|refine dQ pl4_28Ug 25 (some 183) ?_)|with_reducible refine And.intro ?_ ?_
 refine (atTreeNil _).mono ?_
 rintro _ s1 ⟨b,root,p,dd,l,kh,U1,P1,v1,T1,rfl,a1,hB1,hU1,hpg,hb1,hR1,hT1,hT10,ho1⟩
 have l0:=a0.len
 have l1:=a1.len
 by_cases hk4:key.length≤140
 rotate_left
 ·have hd4:decide ((key.length:Int)>140)=true:=by simp;omega
  have hd4':=dT (i:=140) (n:=key.length) (by omega)
  repeat' first|((with_reducible first|apply cs|apply ws|apply wd|apply wu)<;>intro h<;>try simp only[h])|simp only[↓wBA,tUg,convA,seval,pl4_12Ug,pl4_21Ug,pl4_28Ug,wH,hkl,hd4,hd4']|(with_reducible first|refine dQ pl4_12Ug 14 (some 52) ?_|refine dQ pl4_21Ug 59 (some 101) ?_|refine dQ pl4_28Ug 25 (some 183) ?_)|with_reducible refine And.intro ?_ ?_
  all_goals refine ret_st ?_ (by first|exact Nat.le_refl _|(simp only[length_set,length_append];omega)|omega)
  all_goals simp only[resA.eq_1,resL.eq_1,resL.eq_2,resV.eq_1,resV.eq_2,↓wBA,tUg,convA,seval,wH]
 have hd4:decide ((key.length:Int)>140)=false:=by simp;omega
 have hd4':=dF (i:=140) (n:=key.length) (by omega)
 obtain⟨c,hc⟩:∃ c,c=n % 60+1:=⟨_,rfl⟩
 have hc60:1≤c∧c≤60:=by omega
 have hc0:((n:Int)).tmod 60=((n % 60:Nat):Int):=tmodN n 60
 have hc1:IntKind.i64.wrap ((n % 60:Nat):Int)=((n % 60:Nat):Int):=wrap_i64 (by omega) (by omega)
 have hc2:IntKind.i64.wrap (((n % 60:Nat):Int)+1)=((c:Nat):Int):=by rw[wrap_i64 (by omega) (by omega)];omega
 have hcz:(((c:Nat):Int)==0)=false:=by simp;omega
 have hcz':(((c:Nat):Int)=0)=False:=eq_false (by omega)
 simp only[↓wBA,tUg,convA,seval,wH,hkl,hd4,hd4',hc0,hc1,hc2]
 refine awp_loopS (X:={ i:Nat // i≤c }) (fun i=>c - i.1) (fun i=>[(10,intV .i64 (i.1:Nat))]) [6,36,37,38,39,40,41,42,43,44,45,46,47,48,49,50,51] (fun i s=>∃ U' P' v' T' h t,Fr s1 s U1 U'∧Bt s b p dd l kh U' P' v'∧P'.pages=800∧Bud P' 1000∧RootOk v' T' 800 root h t∧Tk (v' 0) 800 T'∧T' 0=true∧OnlyW T' 800 root h t i.1∧NeT h t∧(entsT h t).length=i.1∧∀ e∈entsT h t,∃ j,j<i.1∧e=entJ key c j) (⟨0,by omega⟩) ?_ ?_ ?_ ?_
 ·simp only[wHl,wHf]
 ·exact⟨U1,P1,v1,T1,0,_,Fr.refl _ _,hB1,hpg,hb1,hR1,hT1,hT10,ho1,trivial,rfl,fun e he=>by simp[entsT]at he⟩
 ·rintro _ _ ⟨_,_,_,_,_,_,h,_⟩;exact h.len
 ·intro y J q hI
  simp only[wHl]
  obtain⟨i,hi⟩:=y
  obtain⟨U6,P6,v6,T6,h6,t6,f6,hB6,hp6,hb6,hR6,hT6,h06,ho6,hN6,hl6,he6⟩:=hI
  dsimp only at*
  have q6:=f6.len
  have hi0:=nnI i
  have hwi:=wI i (by omega)
  by_cases hlt:i<c
  ·have e1:=dT (i:=i) (n:=c) hlt
   have hw7:IntKind.i64.wrap ((i:Int)*7)=((i*7:Nat):Int):=by rw[wrap_i64 (by omega) (by omega)];omega
   have hm7:(((i*7:Nat):Int)).tmod ((c:Nat):Int)=((i*7 % c:Nat):Int):=tmodN (i*7) c
   have hmc:i*7 % c<c:=Nat.mod_lt _ (by omega)
   have hw8:IntKind.i64.wrap ((i*7 % c:Nat):Int)=((i*7 % c:Nat):Int):=wrap_i64 (by omega) (by omega)
   have hI:=atIns (e:=entJ key c i) hB6 (by rw[hp6];exact hT6) (by omega) h06 (hb6.mono (by omega)) (by rw[hp6];exact hR6) ⟨hk4,by show i*7 % c<65536;omega,by show i<65536;omega⟩
   simp only[entJ]at hI
   repeat' first|((with_reducible first|apply cs|apply ws|apply wd|apply wu)<;>intro h<;>try simp only[h])|simp only[↓wBA,tUg,convA,seval,pl4_12Ug,pl4_21Ug,pl4_28Ug,wH,wHl,e1,hw7,hm7,hw8,hcz,hcz']|(with_reducible first|refine dQ pl4_12Ug 14 (some 52) ?_|refine dQ pl4_21Ug 59 (some 101) ?_|refine dQ pl4_28Ug 25 (some 183) ?_)|with_reducible refine And.intro ?_ ?_
   refine hI.mono ?_
   rintro rx s7 ⟨U7,P7,v7,T7,h7',t7,f7,h7,k7,hR7,hW7,hc7⟩
   rw[hp6]at hR7 hW7 hc7
   have l7:=f7.len
   rcases hc7 with⟨rfl,hr7,hx7⟩|⟨_,hm7',_⟩|⟨_,hf7,hl7⟩
   rotate_left
   ·obtain⟨j,hj,e⟩:=he6 _ hm7'
    have:i=j:=congrArg Ent.s e
    omega
   ·exact (ho6.hasRoom (by omega) hR6.tr.szT hk4 hl7 fun q hq=>hf7 q (by omega)).elim
   repeat' first|((with_reducible first|apply cs|apply ws|apply wd|apply wu)<;>intro h<;>try simp only[h])|simp only[↓wBA,tUg,convA,seval,pl4_12Ug,pl4_21Ug,pl4_28Ug,wH,wHl,hwi]|(with_reducible first|refine dQ pl4_12Ug 14 (some 52) ?_|refine dQ pl4_21Ug 59 (some 101) ?_|refine dQ pl4_28Ug 25 (some 183) ?_)|with_reducible refine And.intro ?_ ?_
   have hlen7:=(pgI_step ho6.pi hR6.tr.szT hk4 hr7).2
   refine⟨⟨i+1,by omega⟩,by show c - (i+1)<c - i;omega,?_,by simp only[wHl,wHf]⟩
   refine⟨U7,P7,v7,T7,h7',t7,f6.trans f7,h7,by rw[k7.pages];exact hp6,hb6.kp k7 (by omega),hR7,hW7.tkk,hW7.t0,ho6.goesOn hR6.tr.szT hk4 hr7 hx7,root_ne hr7 hN6,by rw[hlen7,hl6],fun e he=> ?_⟩
   rcases root_mem hr7 e he with rfl|he
   ·exact⟨i,by show i<i+1;omega,rfl⟩
   ·obtain⟨j,hj,rfl⟩:=he6 e he
    exact⟨j,by show j<i+1;omega,rfl⟩
  ·obtain rfl:i=c:=by omega
   have e1:=dF (i:=i) (n:=i) hlt
   simp only[↓wBA,tUg,convA,seval,wH,wHl,e1]
   obtain⟨j0,hj0⟩:∃ j0,j0=k % i:=⟨_,rfl⟩
   have hj0i:j0<i:=by rw[hj0];exact Nat.mod_lt _ (by omega)
   have hk1:IntKind.i64.wrap (k:Int)=(k:Int):=wrap_i64 (by omega) (by omega)
   have hk2:((k:Int)).tmod ((i:Nat):Int)=((j0:Nat):Int):=by rw[hj0];exact tmodN k i
   have hk3:IntKind.i64.wrap ((j0:Nat):Int)=((j0:Nat):Int):=wrap_i64 (by omega) (by omega)
   have hk4':IntKind.i64.wrap (((j0:Nat):Int)*7)=((j0*7:Nat):Int):=by rw[wrap_i64 (by omega) (by omega)];omega
   have hk5:(((j0*7:Nat):Int)).tmod ((i:Nat):Int)=((j0*7 % i:Nat):Int):=tmodN (j0*7) i
   have hjm:j0*7 % i<i:=Nat.mod_lt _ (by omega)
   have hk6:IntKind.i64.wrap ((j0*7 % i:Nat):Int)=((j0*7 % i:Nat):Int):=wrap_i64 (by omega) (by omega)
   obtain⟨hD6,hO6⟩:=hR6.toD hN6
   have hs6:=entsD_ok hO6
   have hin6:=has_all hs6.1 he6 hl6 hj0i
   obtain⟨S,hS⟩:∃ S,S=q++[some (Ob.row 2 [[intV .i64 (j0*7 % i:Nat),intV .i64 (j0:Nat)]])]:=⟨_,rfl⟩
   have aS:Ap q S:=⟨_,hS⟩
   have hSl:S.length=q.length+1:=by rw[hS];simp
   have bg:S[q.length]? =some (some (Ob.row 2 [[intV .i64 (j0*7 % i:Nat),intV .i64 (j0:Nat)]])):=by rw[hS];simp
   have yg:=at_lt bg
   have hgU:¬ U6 q.length:=fun e=>by have:=hB6.lt _ e;omega
   have hDel:=atDelete (e:=entJ key i j0) (hB6.ap aS) (by rw[hp6];exact hT6) (by omega) (hb6.mono (by omega)) (by rw[hp6];exact hD6) hO6
   simp only[entJ]at hDel
   simp only[intV]at hS bg
   repeat' first|((with_reducible first|apply cs|apply ws|apply wd|apply wu)<;>intro h<;>try simp only[h])|simp only[↓wBA,tUg,convA,seval,pl4_12Ug,pl4_21Ug,pl4_28Ug,wH,wHl,hk1,hk2,hk3,hk4',hk5,hk6,hcz,hcz',hS.symm,bg,yg]|(with_reducible first|refine dQ pl4_12Ug 14 (some 52) ?_|refine dQ pl4_21Ug 59 (some 101) ?_|refine dQ pl4_28Ug 25 (some 183) ?_)|with_reducible refine And.intro ?_ ?_
   refine hDel.mono ?_
   rintro r s8 (⟨_,hno,_⟩|⟨rfl,U8,P8,v8,T8,h8,t8,f8,hB8,k8,hT8,hD8,hO8,A,B,hA,hA'⟩)
   ·exact absurd hin6 hno
   rw[hp6]at hT8 hD8
   have hp8:P8.pages=800:=by rw[k8.pages];exact hp6
   have hb8:=hb6.kp (k:=1000) k8 (by omega)
   have hsA:=hs6.1
   rw[hA]at hsA
   have hno8:entJ key i j0∉entsT h8 t8:=fun h=>by
    rw[hA']at h
    obtain⟨w1,w2,w3⟩:=List.pairwise_append.1 hsA
    rcases mem_append.1 h with h|h
    ·exact ltE_irrefl _ (w3 _ h _ (by simp[entJ]))
    ·exact ltE_irrefl _ ((List.pairwise_cons.1 w2).1 _ h)
   have bg8:=f8.get bg hgU
   have yg8:=at_lt bg8
   have hDel2:=atDelete (e:=entJ key i j0) hB8 (by rw[hp8];exact hT8) (by omega) (hb8.mono (by omega)) (by rw[hp8];exact hD8) hO8
   simp only[entJ]at hDel2
   repeat' first|((with_reducible first|apply cs|apply ws|apply wd|apply wu)<;>intro h<;>try simp only[h])|simp only[↓wBA,tUg,convA,seval,pl4_12Ug,pl4_21Ug,pl4_28Ug,wH,wHl,bg8,yg8]|(with_reducible first|refine dQ pl4_12Ug 14 (some 52) ?_|refine dQ pl4_21Ug 59 (some 101) ?_|refine dQ pl4_28Ug 25 (some 183) ?_)|with_reducible refine And.intro ?_ ?_
   refine hDel2.mono ?_
   rintro r s9 (⟨rfl,_,U9,P9,f9,hB9,k9⟩|⟨_,_,_,_,_,_,_,_,_,_,_,_,_,A2,B2,hA2,_⟩)
   rotate_left
   ·exact absurd (by rw[hA2];simp[entJ]) hno8
   have hp9:P9.pages=800:=by rw[k9.pages];exact hp8
   have hb9:=hb8.kp (k:=1000) k9 (by omega)
   have hgU8:¬ U8 q.length:=fun e=>(f8.own _ e).elim hgU fun e=>by omega
   have bg9:=f9.get bg8 hgU8
   have yg9:=at_lt bg9
   have hgU9:¬ U9 q.length:=fun e=>(f9.own _ e).elim hgU8 fun e=>by omega
   have hl8:(entsT h8 t8).length=i - 1:=by
    have:=congrArg List.length hA
    rw[hl6,length_append,List.length_cons]at this
    rw[hA',length_append];omega
   have he8:∀ e∈entsT h8 t8,e.k=key∧e≠entJ key i j0:=fun e he=>by
    refine⟨?_,fun h=>hno8 (h▸he)⟩
    have:e∈entsT h6 t6:=by
     rw[hA',mem_append]at he
     rw[hA]
     rcases he with h|h<;>simp[h]
    obtain⟨j,_,rfl⟩:=he6 e this
    rfl
   have hs8:=entsD_ok hO8
   simp only[↓wBA,tUg,convA,seval,wH,wHl]
   have hcs:Lib.compareBytes key key=0:=cb_self key
   have htell:∀ e∈entsT h8 t8,tellE key (fun k=>decide (Lib.compareBytes k key≤0)) e=true:=fun e he=>by
    unfold tellE
    rw[(he8 e he).1];simp[hcs]
   have hfr8:fromF key (fun k=>decide (Lib.compareBytes k key≤0)) h8 t8=entsT h8 t8:=by
    rw[fromF_eq (le_down key) hO8.toT]
    exact List.filter_eq_self.2 htell
   have hwl:IntKind.i64.wrap ((i:Int) - 1)=((i - 1:Nat):Int):=by rw[wrap_i64 (by omega) (by omega)];omega
   have hRM:=atRangeM (lo:=key) (hi:=key) (lox:=.sl 1 (encB key)) (hix:=.sl 1 (encB key)) hB9 (hb9.mono (by omega)) (by rw[hp9];exact hD8) hO8 (fun e he=>⟨by rw[(he8 e he).1];exact hk0,htell e he⟩) (.inl rfl) (.inl rfl)
   refine hRM.mono ?_
   rintro r s10 ⟨U10,P10,av,L,rfl,f10,hB10,k10,hL,hE,hLU,hav⟩
   rw[hfr8]at hL
   have hp10:P10.pages=800:=by rw[k10.pages];exact hp9
   have hb10:=hb9.kp (k:=1000) k10 (by omega)
   have bg10:=f10.get bg9 hgU9
   have yg10:=at_lt bg10
   have lfE:=hE.leaf
   have ccE:=hE.cells
   have hLl:L.length=i - 1:=by have:=congrArg List.length hL;rw[length_map,hl8]at this;exact this
   have hla:lenA cx 40 av=some (i - 1):=by
    rcases hE.av with⟨h0,rfl⟩|⟨_,t,rfl,_⟩
    ·rw[h0]at hLl
     rw[← hLl];rfl
    ·rw[hLl];exact km_40
   have hne1:(((i - 1:Nat):Int) != ((i - 1:Nat):Int))=false:=by simp
   repeat' first|((with_reducible first|apply cs|apply ws|apply wd|apply wu)<;>intro h<;>try simp only[h])|simp only[↓wBA,tUg,convA,seval,pl4_12Ug,pl4_21Ug,pl4_28Ug,wH,wHl,lfE,ccE,hla,hwl,hne1]|(with_reducible first|refine dQ pl4_12Ug 14 (some 52) ?_|refine dQ pl4_21Ug 59 (some 101) ?_|refine dQ pl4_28Ug 25 (some 183) ?_)|with_reducible refine And.intro ?_ ?_
   have hLe:∀ z∈L,z.2∈entsT h8 t8:=fun z hz=>by rw[← hL];exact List.mem_map.2 ⟨z,hz,rfl⟩
   have hLk:∀ z∈L,z.2.k=key:=fun z hz=>(he8 _ (hLe z hz)).1
   have hLj:∀ z∈L,∃ j,j≠j0∧z.2=entJ key i j:=fun z hz=>by
    have h1:=hLe z hz
    have:z.2∈entsT h6 t6:=by
     rw[hA',mem_append]at h1
     rw[hA]
     rcases h1 with h|h<;>simp[h]
    obtain⟨j,_,e⟩:=he6 _ this
    exact⟨j,fun h=>(he8 _ h1).2 (by rw[e,h]),e⟩
   have hl10:=f10.len
   refine awp_loopS (X:={ x:Nat // x≤L.length }) (fun x=>L.length - x.1) (fun x=>[(14,intV .i64 (x.1:Nat))]) [6,15,95,96,97,98,99,100,101,102,103,104,105,106,107,108,109,110,111,112,113,114,115,116,117,118,119,120,121,122,123,124,125,126,127,128,129,130,131,132,133,134,135,136,137,138,139,140,141,142,143,144,145,146,147,148,149,150,151,152,153,154,155,156,157,158,159,160,161,162,163,164,165,166,167,168,169,170,171,172,173,174,175,176] (fun x s=>Fr s10 s (fun j=>∃ z∈L,z.1=j) (fun _=>False)∧∀ z∈L,∃ B,s[z.1]? =some (some (.row 1 (bRow B)))∧B.length=key.length) (⟨0,by omega⟩) ?_ ?_ ?_ ?_
   ·simp only[wHl,wHf]
   ·exact⟨⟨Nat.le_refl _,fun _ _ _=>rfl,fun _ h=>h.elim⟩,fun z hz=>⟨z.2.k,(hE.ks z hz).1,by rw[hLk z hz]⟩⟩
   ·rintro _ _ ⟨h,_⟩;exact h.len
   ·intro y J2 s hI2
    simp only[wHl]
    obtain⟨x,hx⟩:=y
    obtain⟨fs,hB⟩:=hI2
    dsimp only at*
    have ls:=fs.len
    have hgk:¬ ∃ z∈L,z.1=q.length:=fun ⟨z,hz,e⟩=>by have:=(hE.ks z hz).2;have:=f9.len;have:=f8.len;omega
    have bgs:=fs.get bg10 hgk
    have ygs:=at_lt bgs
    have hx0:=nnI x
    have hwx:=wI x (by omega)
    by_cases hxl:x<i - 1
    ·have e1:=dT (i:=x) (n:=i - 1) hxl
     rcases hE.av with⟨h0,_⟩|⟨_,t,rfl,ht,ht0,htq⟩
     ·rw[h0]at hLl;simp at hLl;omega
     have hts:=fs.get ht (fun ⟨z,hz,e⟩=>htq z hz e)
     have yts:=at_lt hts
     obtain⟨z,hz⟩:∃ z,L[x]? =some z:=⟨L[x]'(by omega),by simp⟩
     have hzm:=List.mem_of_getElem? hz
     have hgz:(rowM L)[x]? =some (entMC z):=by simp[rowM,hz]
     have hif:((x:Int)<(L.length:Int))=True:=eq_true (by omega)
     obtain⟨jz,hjz,hze⟩:=hLj z hzm
     have hsne:(((z.2.s:Nat):Int)==((j0:Nat):Int))=false:=by
      rw[hze];show (((jz:Nat):Int)==((j0:Nat):Int))=false
      simp;omega
     have hzl:z.2.k.length=key.length:=by rw[hLk z hzm]
     have hkb:∀ t,lenA cx 35 (.ms t 1 0 key.length)=some key.length:=fun _=>km_35
     by_cases hx00:x=0
     ·have hd0:decide ((x:Int)>0)=false:=by simp;omega
      have hd0':=dF (i:=0) (n:=x) (by omega)
      repeat' first|((with_reducible first|apply cs|apply ws|apply wd|apply wu)<;>intro h<;>try simp only[h])|simp only[↓wBA,tUg,convA,seval,pl4_12Ug,pl4_21Ug,pl4_28Ug,wH,wHl,hla,e1,hts,yts,hgz,entMC,hif,hx0,bgs,ygs,hsne,Bool.and_false,Bool.false_and,hd0,hd0',intV]|(with_reducible first|refine dQ pl4_12Ug 14 (some 52) ?_|refine dQ pl4_21Ug 59 (some 101) ?_|refine dQ pl4_28Ug 25 (some 183) ?_)|with_reducible refine And.intro ?_ ?_
      refine awp_loopS (X:={ y:Nat // y≤key.length }) (fun y=>key.length - y.1) (fun y=>[(15,intV .i64 (y.1:Nat))]) [160,161,162,163,164,165,166,167,168,169,170,171,172,173,174,175,176] (fun y u=>Fr s u (fun j=>∃ z∈L,z.1=j) (fun _=>False)∧∀ z∈L,∃ B,u[z.1]? =some (some (.row 1 (bRow B)))∧B.length=key.length) (⟨0,by omega⟩) ?_ ?_ ?_ ?_
      ·simp only[wHl,wHf]
      ·exact⟨⟨Nat.le_refl _,fun _ _ _=>rfl,fun _ h=>h.elim⟩,hB⟩
      ·rintro _ _ ⟨h,_⟩;exact h.len
      ·intro w J3 u hI3
       simp only[wHl]
       obtain⟨jj,hjj⟩:=w
       obtain⟨fu,hBu⟩:=hI3
       dsimp only at*
       have lu:=fu.len
       obtain⟨B1,hB1',hB1l⟩:=hBu z hzm
       have qB:=at_lt hB1'
       have htu:=fu.get hts (fun ⟨z,hz,e⟩=>htq z hz e)
       have ytu:=at_lt htu
       have hbB:(bRow B1).length=key.length:=by simp[bRow,hB1l]
       by_cases hjlt:jj<key.length
       ·have e5:=dT hjlt
        obtain⟨c5,hc5⟩:∃ c,(bRow B1)[jj]? =some [.p (byteP c)]:=⟨B1[jj]'(by omega),by simp[bRow,hB1l,hjlt]⟩
        have hset5:(bRow B1).set jj [.p (.v (.int .u8 238))]=bRow (B1.set jj 238):=by simp only[bRow,map_set];rfl
        have v51:=nnI jj
        have v52:((jj:Int)<(key.length:Int))=True:=eq_true (by omega)
        have v53:=wI jj (by omega)
        repeat' first|((with_reducible first|apply cs|apply ws|apply wd|apply wu)<;>intro h<;>try simp only[h])|simp only[↓wBA,tUg,convA,seval,pl4_12Ug,pl4_21Ug,pl4_28Ug,wH,wHl,hla,htu,ytu,hgz,entMC,hzl,hkb,hif,hx0,e5,v51,v52,v53,Int.toNat_natCast,hB1',qB,hbB,hc5,hset5,byteP,intV]|(with_reducible first|refine dQ pl4_12Ug 14 (some 52) ?_|refine dQ pl4_21Ug 59 (some 101) ?_|refine dQ pl4_28Ug 25 (some 183) ?_)|with_reducible refine And.intro ?_ ?_
        refine⟨⟨jj+1,by omega⟩,by show key.length - (jj+1)<key.length - jj;omega,⟨⟨by simp;omega,fun j hj hn=> ?_,fun j h=>h.elim⟩,fun z2 hz2=> ?_⟩,by simp only[wHl,wHf]⟩
        ·rw[getElem?_set_ne (fun e=>hn ⟨z,hzm,e⟩)];exact fu.keep j hj hn
        ·by_cases e2:z.1=z2.1
         ·exact⟨B1.set jj 238,by rw[← e2,List.getElem?_set_self qB],by simp[hB1l]⟩
         ·obtain⟨B2,g1,g2⟩:=hBu z2 hz2
          exact⟨B2,by rw[getElem?_set_ne e2];exact g1,g2⟩
       ·obtain rfl:jj=key.length:=by omega
        have e5:=dF (i:=key.length) (n:=key.length) (by omega)
        repeat' first|((with_reducible first|apply cs|apply ws|apply wd|apply wu)<;>intro h<;>try simp only[h])|simp only[↓wBA,tUg,convA,seval,pl4_12Ug,pl4_21Ug,pl4_28Ug,wH,wHl,hla,htu,ytu,hgz,entMC,hzl,hkb,hif,hx0,e5,intV,hwx]|(with_reducible first|refine dQ pl4_12Ug 14 (some 52) ?_|refine dQ pl4_21Ug 59 (some 101) ?_|refine dQ pl4_28Ug 25 (some 183) ?_)|with_reducible refine And.intro ?_ ?_
        exact⟨⟨x+1,by omega⟩,by show L.length - (x+1)<L.length - x;omega,⟨⟨by omega,fun j hj hn=>(fu.keep j (by omega) hn).trans (fs.keep j hj hn),fun j h=>h.elim⟩,hBu⟩,by simp only[wHl,wHf]⟩
     ·have hd0:decide ((x:Int)>0)=true:=by simp;omega
      have hd0':=dT (i:=0) (n:=x) (by omega)
      obtain⟨y,hy⟩:∃ y,L[x - 1]? =some y:=⟨L[x - 1]'(by omega),by simp⟩
      have hgy:(rowM L)[x - 1]? =some (entMC y):=by simp[rowM,hy]
      have hlt':ltE y.2 z.2:=by
       have hss:=hs8.1
       rw[← hL]at hss
       obtain⟨g1,g2⟩:=List.getElem?_eq_some_iff.1 hy
       obtain⟨g3,g4⟩:=List.getElem?_eq_some_iff.1 hz
       have:=List.pairwise_iff_getElem.1 hss (x - 1) x (by simpa using g1) (by simpa using g3) (by omega)
       simpa [g2,g4]using this
      have hpq:y.2.p<z.2.p∨(y.2.p=z.2.p∧y.2.s<z.2.s):=by
       rcases ltE_iff.1 hlt' with h|h
       ·rw[hLk y (List.mem_of_getElem? hy),hLk z hzm,hcs]at h;omega
       ·exact h.2
      have hwx1:IntKind.i64.wrap ((x:Int) - 1)=((x - 1:Nat):Int):=by rw[wrap_i64 (by omega) (by omega)];omega
      have hif2:(((x - 1:Nat):Int)<(L.length:Int))=True:=eq_true (by omega)
      have hx1:=nnI (x - 1)
      have ht1:=dF (i:=z.2.p) (n:=y.2.p) (by omega)
      by_cases hpe:y.2.p=z.2.p
      ·have ht2:(((z.2.p:Nat):Int)==((y.2.p:Nat):Int))=true:=by simp;omega
       have ht3:decide ((z.2.s:Int)≤(y.2.s:Int))=false:=by simp;omega
       repeat' first|((with_reducible first|apply cs|apply ws|apply wd|apply wu)<;>intro h<;>try simp only[h])|simp only[↓wBA,tUg,convA,seval,pl4_12Ug,pl4_21Ug,pl4_28Ug,wH,wHl,hla,e1,hts,yts,hgz,entMC,hif,hx0,bgs,ygs,hsne,Bool.and_false,Bool.false_and,hd0,hd0',intV,hgy,hwx1,hif2,hx1,ht1,ht2,ht3]|(with_reducible first|refine dQ pl4_12Ug 14 (some 52) ?_|refine dQ pl4_21Ug 59 (some 101) ?_|refine dQ pl4_28Ug 25 (some 183) ?_)|with_reducible refine And.intro ?_ ?_
       refine awp_loopS (X:={ y:Nat // y≤key.length }) (fun y=>key.length - y.1) (fun y=>[(15,intV .i64 (y.1:Nat))]) [160,161,162,163,164,165,166,167,168,169,170,171,172,173,174,175,176] (fun y u=>Fr s u (fun j=>∃ z∈L,z.1=j) (fun _=>False)∧∀ z∈L,∃ B,u[z.1]? =some (some (.row 1 (bRow B)))∧B.length=key.length) (⟨0,by omega⟩) ?_ ?_ ?_ ?_
       ·simp only[wHl,wHf]
       ·exact⟨⟨Nat.le_refl _,fun _ _ _=>rfl,fun _ h=>h.elim⟩,hB⟩
       ·rintro _ _ ⟨h,_⟩;exact h.len
       ·intro w J3 u hI3
        simp only[wHl]
        obtain⟨jj,hjj⟩:=w
        obtain⟨fu,hBu⟩:=hI3
        dsimp only at*
        have lu:=fu.len
        obtain⟨B1,hB1',hB1l⟩:=hBu z hzm
        have qB:=at_lt hB1'
        have htu:=fu.get hts (fun ⟨z,hz,e⟩=>htq z hz e)
        have ytu:=at_lt htu
        have hbB:(bRow B1).length=key.length:=by simp[bRow,hB1l]
        by_cases hjlt:jj<key.length
        ·have e5:=dT hjlt
         obtain⟨c5,hc5⟩:∃ c,(bRow B1)[jj]? =some [.p (byteP c)]:=⟨B1[jj]'(by omega),by simp[bRow,hB1l,hjlt]⟩
         have hset5:(bRow B1).set jj [.p (.v (.int .u8 238))]=bRow (B1.set jj 238):=by simp only[bRow,map_set];rfl
         have v51:=nnI jj
         have v52:((jj:Int)<(key.length:Int))=True:=eq_true (by omega)
         have v53:=wI jj (by omega)
         repeat' first|((with_reducible first|apply cs|apply ws|apply wd|apply wu)<;>intro h<;>try simp only[h])|simp only[↓wBA,tUg,convA,seval,pl4_12Ug,pl4_21Ug,pl4_28Ug,wH,wHl,hla,htu,ytu,hgz,entMC,hzl,hkb,hif,hx0,e5,v51,v52,v53,Int.toNat_natCast,hB1',qB,hbB,hc5,hset5,byteP,intV]|(with_reducible first|refine dQ pl4_12Ug 14 (some 52) ?_|refine dQ pl4_21Ug 59 (some 101) ?_|refine dQ pl4_28Ug 25 (some 183) ?_)|with_reducible refine And.intro ?_ ?_
         refine⟨⟨jj+1,by omega⟩,by show key.length - (jj+1)<key.length - jj;omega,⟨⟨by simp;omega,fun j hj hn=> ?_,fun j h=>h.elim⟩,fun z2 hz2=> ?_⟩,by simp only[wHl,wHf]⟩
         ·rw[getElem?_set_ne (fun e=>hn ⟨z,hzm,e⟩)];exact fu.keep j hj hn
         ·by_cases e2:z.1=z2.1
          ·exact⟨B1.set jj 238,by rw[← e2,List.getElem?_set_self qB],by simp[hB1l]⟩
          ·obtain⟨B2,g1,g2⟩:=hBu z2 hz2
           exact⟨B2,by rw[getElem?_set_ne e2];exact g1,g2⟩
        ·obtain rfl:jj=key.length:=by omega
         have e5:=dF (i:=key.length) (n:=key.length) (by omega)
         repeat' first|((with_reducible first|apply cs|apply ws|apply wd|apply wu)<;>intro h<;>try simp only[h])|simp only[↓wBA,tUg,convA,seval,pl4_12Ug,pl4_21Ug,pl4_28Ug,wH,wHl,hla,htu,ytu,hgz,entMC,hzl,hkb,hif,hx0,e5,intV,hwx]|(with_reducible first|refine dQ pl4_12Ug 14 (some 52) ?_|refine dQ pl4_21Ug 59 (some 101) ?_|refine dQ pl4_28Ug 25 (some 183) ?_)|with_reducible refine And.intro ?_ ?_
         exact⟨⟨x+1,by omega⟩,by show L.length - (x+1)<L.length - x;omega,⟨⟨by omega,fun j hj hn=>(fu.keep j (by omega) hn).trans (fs.keep j hj hn),fun j h=>h.elim⟩,hBu⟩,by simp only[wHl,wHf]⟩
      ·have ht2:(((z.2.p:Nat):Int)==((y.2.p:Nat):Int))=false:=by simp;omega
       repeat' first|((with_reducible first|apply cs|apply ws|apply wd|apply wu)<;>intro h<;>try simp only[h])|simp only[↓wBA,tUg,convA,seval,pl4_12Ug,pl4_21Ug,pl4_28Ug,wH,wHl,hla,e1,hts,yts,hgz,entMC,hif,hx0,bgs,ygs,hsne,Bool.and_false,Bool.false_and,hd0,hd0',intV,hgy,hwx1,hif2,hx1,ht1,ht2]|(with_reducible first|refine dQ pl4_12Ug 14 (some 52) ?_|refine dQ pl4_21Ug 59 (some 101) ?_|refine dQ pl4_28Ug 25 (some 183) ?_)|with_reducible refine And.intro ?_ ?_
       refine awp_loopS (X:={ y:Nat // y≤key.length }) (fun y=>key.length - y.1) (fun y=>[(15,intV .i64 (y.1:Nat))]) [160,161,162,163,164,165,166,167,168,169,170,171,172,173,174,175,176] (fun y u=>Fr s u (fun j=>∃ z∈L,z.1=j) (fun _=>False)∧∀ z∈L,∃ B,u[z.1]? =some (some (.row 1 (bRow B)))∧B.length=key.length) (⟨0,by omega⟩) ?_ ?_ ?_ ?_
       ·simp only[wHl,wHf]
       ·exact⟨⟨Nat.le_refl _,fun _ _ _=>rfl,fun _ h=>h.elim⟩,hB⟩
       ·rintro _ _ ⟨h,_⟩;exact h.len
       ·intro w J3 u hI3
        simp only[wHl]
        obtain⟨jj,hjj⟩:=w
        obtain⟨fu,hBu⟩:=hI3
        dsimp only at*
        have lu:=fu.len
        obtain⟨B1,hB1',hB1l⟩:=hBu z hzm
        have qB:=at_lt hB1'
        have htu:=fu.get hts (fun ⟨z,hz,e⟩=>htq z hz e)
        have ytu:=at_lt htu
        have hbB:(bRow B1).length=key.length:=by simp[bRow,hB1l]
        by_cases hjlt:jj<key.length
        ·have e5:=dT hjlt
         obtain⟨c5,hc5⟩:∃ c,(bRow B1)[jj]? =some [.p (byteP c)]:=⟨B1[jj]'(by omega),by simp[bRow,hB1l,hjlt]⟩
         have hset5:(bRow B1).set jj [.p (.v (.int .u8 238))]=bRow (B1.set jj 238):=by simp only[bRow,map_set];rfl
         have v51:=nnI jj
         have v52:((jj:Int)<(key.length:Int))=True:=eq_true (by omega)
         have v53:=wI jj (by omega)
         repeat' first|((with_reducible first|apply cs|apply ws|apply wd|apply wu)<;>intro h<;>try simp only[h])|simp only[↓wBA,tUg,convA,seval,pl4_12Ug,pl4_21Ug,pl4_28Ug,wH,wHl,hla,htu,ytu,hgz,entMC,hzl,hkb,hif,hx0,e5,v51,v52,v53,Int.toNat_natCast,hB1',qB,hbB,hc5,hset5,byteP,intV]|(with_reducible first|refine dQ pl4_12Ug 14 (some 52) ?_|refine dQ pl4_21Ug 59 (some 101) ?_|refine dQ pl4_28Ug 25 (some 183) ?_)|with_reducible refine And.intro ?_ ?_
         refine⟨⟨jj+1,by omega⟩,by show key.length - (jj+1)<key.length - jj;omega,⟨⟨by simp;omega,fun j hj hn=> ?_,fun j h=>h.elim⟩,fun z2 hz2=> ?_⟩,by simp only[wHl,wHf]⟩
         ·rw[getElem?_set_ne (fun e=>hn ⟨z,hzm,e⟩)];exact fu.keep j hj hn
         ·by_cases e2:z.1=z2.1
          ·exact⟨B1.set jj 238,by rw[← e2,List.getElem?_set_self qB],by simp[hB1l]⟩
          ·obtain⟨B2,g1,g2⟩:=hBu z2 hz2
           exact⟨B2,by rw[getElem?_set_ne e2];exact g1,g2⟩
        ·obtain rfl:jj=key.length:=by omega
         have e5:=dF (i:=key.length) (n:=key.length) (by omega)
         repeat' first|((with_reducible first|apply cs|apply ws|apply wd|apply wu)<;>intro h<;>try simp only[h])|simp only[↓wBA,tUg,convA,seval,pl4_12Ug,pl4_21Ug,pl4_28Ug,wH,wHl,hla,htu,ytu,hgz,entMC,hzl,hkb,hif,hx0,e5,intV,hwx]|(with_reducible first|refine dQ pl4_12Ug 14 (some 52) ?_|refine dQ pl4_21Ug 59 (some 101) ?_|refine dQ pl4_28Ug 25 (some 183) ?_)|with_reducible refine And.intro ?_ ?_
         exact⟨⟨x+1,by omega⟩,by show L.length - (x+1)<L.length - x;omega,⟨⟨by omega,fun j hj hn=>(fu.keep j (by omega) hn).trans (fs.keep j hj hn),fun j h=>h.elim⟩,hBu⟩,by simp only[wHl,wHf]⟩
    ·have e1:=dF (i:=x) (n:=i - 1) hxl
     simp only[↓wBA,tUg,convA,seval,wH,wHl,hla,e1]
     have hBs:Bt s b p dd l kh U10 P10 v8:=hB10.frame fs fun j hj he=>by obtain⟨z,hz,e⟩:=he;exact hLU z hz (e▸hj)
     refine (atAllD hBs (hb10.mono (by omega)) (by rw[hp10];exact hD8)).mono ?_
     rintro _ s11 ⟨U11,P11,ea,rfl,f11,hB11,k11,hEa⟩
     have ls11:=f11.len
     rw[all_eq hO8.toT]at hEa
     have heq1:(((i - 1:Nat):Int)==((i - 1:Nat):Int))=true:=by simp
     rcases hEa with⟨h0,rfl⟩|⟨h0,rfl⟩
     ·rw[h0]at hl8
      have hi1:i - 1=0:=by rw[← hl8];rfl
      have hla2:lenA cx 40 (.p (.v (.slice none 0 0)))=some 0:=rfl
      rw[hi1]at hwl heq1
      repeat' first|((with_reducible first|apply cs|apply ws|apply wd|apply wu)<;>intro h<;>try simp only[h])|simp only[↓wBA,tUg,convA,seval,pl4_12Ug,pl4_21Ug,pl4_28Ug,wH,wHl,hwl,heq1,hla2]|(with_reducible first|refine dQ pl4_12Ug 14 (some 52) ?_|refine dQ pl4_21Ug 59 (some 101) ?_|refine dQ pl4_28Ug 25 (some 183) ?_)|with_reducible refine And.intro ?_ ?_
      all_goals refine ret_st ?_ (by first|exact Nat.le_refl _|(simp only[length_set,length_append];omega)|omega)
      all_goals simp only[resA.eq_1,resL.eq_1,resL.eq_2,resV.eq_1,resV.eq_2,↓wBA,tUg,convA,seval,wH]
     ·obtain⟨ee,es,hes⟩:∃ ee es,entsT h8 t8=ee::es:=by
       cases hq:entsT h8 t8 with
       |nil=>exact absurd hq h0
       |cons a b=>exact⟨a,b,rfl⟩
      have hek:=(he8 ee (by rw[hes];simp)).1
      have hla2:lenA cx 40 (.p (.sl 3 ((entsT h8 t8).map entP)))=some (i - 1):=by
       unfold lenA
       rw[ck_40]
       simp[elemsA,hl8]
      have hip:1≤i - 1:=by rw[← hl8,hes];simp
      have hz0:(((i - 1:Nat):Int)==0)=false:=by simp;omega
      have hcv:=convB_bx (y:=.sl 1 (encB key)) (r:=key) (.inl rfl)
      have hg0:((entsT h8 t8).map entP)[0]? =some (entP ⟨key,ee.p,ee.s⟩):=by rw[hes,←hek];rfl
      have hif0:((0:Int)<(((entsT h8 t8).map entP).length:Int))=True:=eq_true (by rw[length_map,hl8];omega)
      have hif1:((0:Int)<(((entsT h8 t8)).length:Int))=True:=eq_true (by rw[hl8];omega)
      have hse:binStr .eql (strS key) (strS key)=some (.bool true):=by simp[binStr]
      repeat' first|((with_reducible first|apply cs|apply ws|apply wd|apply wu)<;>intro h<;>try simp only[h])|simp only[↓wBA,tUg,convA,seval,pl4_12Ug,pl4_21Ug,pl4_28Ug,wH,wHl,hwl,heq1,hla2,hz0,hcv,hg0,hif0,hif1,entP,beq_self_eq_true,hse]|(with_reducible first|refine dQ pl4_12Ug 14 (some 52) ?_|refine dQ pl4_21Ug 59 (some 101) ?_|refine dQ pl4_28Ug 25 (some 183) ?_)|with_reducible refine And.intro ?_ ?_
      all_goals refine ret_st ?_ (by first|exact Nat.le_refl _|(simp only[length_set,length_append];omega)|omega)
      all_goals simp only[resA.eq_1,resL.eq_1,resL.eq_2,resV.eq_1,resV.eq_2,↓wBA,tUg,convA,seval,wH]
end Go.Proofs.YtockimhceppkbaaGreat
