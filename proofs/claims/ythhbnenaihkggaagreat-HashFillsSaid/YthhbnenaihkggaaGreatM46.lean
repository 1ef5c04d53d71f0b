/- Hash indexes: HashLimits. Hash indexes: HashFills. Hash indexes: arguments of the laws: numbers. -/
import Derived.Test.YthhbnenaihkggaaGreatM45
set_option linter.unusedSimpArgs false
set_option linter.unusedVariables false
set_option linter.defProp false
set_option maxRecDepth 100000
set_option maxHeartbeats 32000000
namespace Go.Proofs.YthhbnenaihkggaaGreat
open Go.RowKit
open List (length_append length_cons length_nil length_set mem_range)
def tXv:=aa wX <| aa wbu <| aa T3 <| aa T4 <| aa T5 <| aa T22 <| aa T23 <| aa T25 <| aa T28 <| aa T29 <| aa T45 <| aa T63 T65
theorem axfreeN {n:Int}(σ:St):ACalls Tryz.prog 18 [.p (.v (.pointer none)),intV .i64 n] σ fun r σ'=>Ap σ σ'∧r=intV .i64 2:=by
 refine acalls_of cx_ok dr_ok Tryz.func18 (by kernel_rfl) rfl (nt:=37) (rs:=[.tmp 4]) rfl rfl ?_
 repeat' first|((with_reducible first|apply cs|apply ws)<;>intro h<;>try simp only[h])|simp only[↓wBA,tXv,convA,seval,wH]
 all_goals refine ret_st ?_ (by first|exact Nat.le_refl _|(simp only[length_set,length_append];omega)|omega)
 all_goals simp only[resA.eq_1,resL.eq_1,resL.eq_2,resV.eq_1,resV.eq_2,↓wBA,tXv,convA,seval,wH]
 exact Ap.refl _
def cxE:Ctx:={ cx with muts:=[] }
theorem cxE_ok:cxE.ok Tryz.prog:=cx_ok
theorem drE_ok:DrawOk Tryz.prog (aDraw Tryz.prog cxE):=aDraw_ok cxE_ok (by kernel_rfl)
theorem kindE (t:TypeId):cxE.kind t=cx.kind t:=nr rfl
theorem tyE (t:TypeId):cxE.ty t=cx.ty t:=nr rfl
theorem eqsE (t:TypeId):cxE.eqs t=cx.eqs t:=nr rfl
theorem mutsE:cxE.muts=[]:=nr rfl
theorem lenE {T:TypeId}{x:AV}:lenA cxE T x=lenA cx T x:=nr rfl
theorem c4y:((4:Nat):Int)=4:=rfl
def zeroK (n:Nat):List UInt8:=List.replicate n 0
theorem ahashLimits (n:Nat)(hn:n<256)(pg sl:Int)(σ:St):ACalls Tryz.prog 5 [intV .u8 (n:Nat),intV .i64 pg,intV .i64 sl] σ fun r σ'=>r=boolV true:=by
 have hm5:((n:Nat):Int).tmod 5=((n % 5:Nat):Int):=by rw[Int.tmod_eq_emod_of_nonneg (by omega)];omega
 have hu5:IntKind.u8.wrap ((n % 5:Nat):Int)=((n % 5:Nat):Int):=by rw[IntKind.wrap_u8];omega
 have hw5:IntKind.i64.wrap ((n % 5:Nat):Int)=((n % 5:Nat):Int):=wrap_i64 (by omega) (by omega)
 have hw6:IntKind.i64.wrap (138+((n % 5:Nat):Int))=((138+n % 5:Nat):Int):=by rw[wrap_i64 (by omega) (by omega)];omega
 refine acalls_of cxE_ok drE_ok Tryz.func5 (by kernel_rfl) rfl (nt:=124) (rs:=[.tmp 6]) rfl rfl ?_
 repeat' first|((with_reducible first|apply cs|apply ws)<;>intro h<;>try simp only[h])|simp only[↓wBA,tXv,convA,seval,wH,kindE,tyE,eqsE,mutsE,lenE]|((with_reducible show ACalls _ _ _ _ _);refine (aawake8 _).mono ?_;rintro _ s0 ⟨a0,rfl⟩)
 refine (axindex (K:=[]) (.inr ⟨rfl,rfl⟩) (by simp) false _).mono ?_
 have l0:=a0.len
 rintro _ s1 ⟨b,root,p,dd,l,kh,U,P,v,T,bs,E,rfl,a1,h1,hU,hb,hE⟩
 obtain rfl:E=[]:=hE.eq_nil
 have l1:=a1.len
 obtain⟨N,hN⟩:∃ N,N=138+n % 5:=⟨_,rfl⟩
 rw[← hN]at hw6
 have c1:(1*((N:Nat):Int)≤140737488355328)=True:=eq_true (by omega)
 have c2:(((N:Nat):Int)≤(maxLen:Int))=True:=eq_true (by unfold maxLen;omega)
 have hze:encB (zeroK N)=List.replicate N [PV.v (Value.int IntKind.u8 0)]:=by unfold encB zeroK;rw[List.map_replicate];rfl
 have hzl:(zeroK N).length=N:=by simp[zeroK]
 have hw:∀ {t:Nat} (M:View) (u:Value),ARep M (.own t 1 (List.replicate N [PV.v (Value.int IntKind.u8 0)])) u→ARep M (.p (.sl 1 (encB (zeroK N)))) u:=fun M u h=>by rw[hze];exact own_pX h
 have rm:∀ j,j≤62→6+2*j+roomF (j / 8+1)<600:=fun j hj=>by
  have:roomF (j / 8+1)≤roomF 8:=roomF_mono (by omega)
  have:roomF 8=231:=by decide
  omega
 obtain⟨S1,hS1⟩:∃ S1,S1=s1++[some (Ob.right 5 (N*1))]:=⟨_,rfl⟩
 have aS:Ap s1 S1:=⟨_,hS1⟩
 have lS:=aS.len
 have i1:=weak3 (hw (t:=s1.length)) (ahxIns (h1.ap aS) (by omega) (by omega) (rm 60 (by omega)) (hb.mono (by omega)) (zeroK N) pg sl)
 by_cases hl:140<N
 ·have e140:decide (((N:Nat):Int)>140)=true:=by simp only[decide_eq_true_eq];omega
  have hins:insE [] (zeroK N) pg sl=(4,[]):=by unfold insE;rw[if_pos (by rw[hzl];exact hl)]
  rw[hins]at i1
  repeat' first|((with_reducible first|apply cs|apply ws)<;>intro h<;>try simp only[h])|simp only[↓wBA,tXv,convA,seval,wH,kindE,tyE,eqsE,mutsE,lenE,hm5,hu5,hw5,hw6,c1,c2,←hN,hS1.symm]
  all_goals
   refine i1.mono ?_
   rintro _ s2 ⟨rfl,U2,P2,v2,T2,bs2,f2,k2,_,h2⟩
   have l2:=f2.len
   have i2:=weak3 (hw (t:=s1.length)) (ahxDel h2 (by omega) (hb.kp (k:=1) k2 (by omega)) (zeroK N) 0 0)
   rw[show delE [] (zeroK N) 0 0=(1,[]) from by unfold delE;rw[if_neg (by simp)]]at i2
   repeat' first|((with_reducible first|apply cs|apply ws)<;>intro h<;>try simp only[h])|simp only[↓wBA,tXv,convA,seval,wH,kindE,tyE,eqsE,mutsE,lenE,List.length_replicate,e140,c4y,beq_self_eq_true]
   refine i2.mono ?_
   rintro _ s3 ⟨rfl,U3,P3,v3,f3,k3,h3⟩
   have l3:=f3.len
   repeat' first|((with_reducible first|apply cs|apply ws)<;>intro h<;>try simp only[h])|simp only[↓wBA,tXv,convA,seval,wH,kindE,tyE,eqsE,mutsE,lenE,c1y,beq_self_eq_true]
   all_goals refine ret_st ?_ (by first|exact Nat.le_refl _|(simp only[length_set,length_append];omega)|omega)
   all_goals simp only[resA.eq_1,resL.eq_1,resL.eq_2,resV.eq_1,resV.eq_2,↓wBA,tXv,convA,seval,wH,kindE,tyE,eqsE,mutsE,lenE,Bool.and_self]
 ·have e140:decide (((N:Nat):Int)>140)=false:=by simp only[decide_eq_false_iff_not];omega
  by_cases ho:okE (zeroK N) pg sl
  rotate_left
  ·have hins:insE [] (zeroK N) pg sl=(1,[]):=by unfold insE;rw[if_neg (by rw[hzl];exact hl),if_neg (fun q=>ho q.1)]
   rw[hins]at i1
   have hbad:¬ (0≤pg∧0≤sl∧pg<65536∧sl<65536):=fun q=>ho ⟨by rw[hzl];omega,q⟩
   repeat' first|((with_reducible first|apply cs|apply ws)<;>intro h<;>try simp only[h])|simp only[↓wBA,tXv,convA,seval,wH,kindE,tyE,eqsE,mutsE,lenE,hm5,hu5,hw5,hw6,c1,c2,←hN,hS1.symm]
   all_goals
    refine i1.mono ?_
    rintro _ s2 ⟨rfl,U2,P2,v2,T2,bs2,f2,k2,_,h2⟩
    have l2:=f2.len
    repeat' first|((with_reducible first|apply cs|apply ws)<;>intro h<;>try simp only[h])|simp only[↓wBA,tXv,convA,seval,wH,kindE,tyE,eqsE,mutsE,lenE,List.length_replicate,e140,c1y,beq_self_eq_true]
   all_goals first|(exfalso;simp_all;done)|(exfalso;simp only[decide_eq_true_eq,Bool.not_eq_true',Bool.not_eq_false',Bool.not_true,Bool.not_false]at *;omega)|skip
   all_goals refine ret_st ?_ (by first|exact Nat.le_refl _|(simp only[length_set,length_append];omega)|omega)
   all_goals simp only[resA.eq_1,resL.eq_1,resL.eq_2,resV.eq_1,resV.eq_2,↓wBA,tXv,convA,seval,wH,kindE,tyE,eqsE,mutsE,lenE,Bool.and_self]
  ·have ho2:=ho.2
   have d1:decide (pg≥0)=true:=by simp only[decide_eq_true_eq];omega
   have d2:decide (pg≤65535)=true:=by simp only[decide_eq_true_eq];omega
   have d3:decide (sl≥0)=true:=by simp only[decide_eq_true_eq];omega
   have d4:decide (sl≤65535)=true:=by simp only[decide_eq_true_eq];omega
   obtain⟨e,he⟩:∃ e,e=mkE (zeroK N) pg sl:=⟨_,rfl⟩
   have q1:pg=(e.p:Int):=by rw[he];unfold mkE;simp only;omega
   have q2:sl=(e.s:Int):=by rw[he];unfold mkE;simp only;omega
   have hek:e.k=zeroK N:=by rw[he];rfl
   have hins:insE [] (zeroK N) pg sl=(0,[e]):=by unfold insE;rw[if_neg (by rw[hzl];exact hl),if_pos ⟨ho,by simp⟩,he]
   have hins2:insE [e] (zeroK N) pg sl=(1,[e]):=by unfold insE;rw[if_neg (by rw[hzl];exact hl),if_neg (fun q=>q.2 (by rw[← he];simp))]
   have hdel:delE [e] (zeroK N) pg sl=(0,[]):=by unfold delE;rw[if_pos ⟨ho,by rw[← he];simp⟩,←he];simp
   have hdel2:delE [] (zeroK N) pg sl=(1,[]):=by unfold delE;rw[if_neg (by simp)]
   rw[hins]at i1
   repeat' first|((with_reducible first|apply cs|apply ws)<;>intro h<;>try simp only[h])|simp only[↓wBA,tXv,convA,seval,wH,kindE,tyE,eqsE,mutsE,lenE,hm5,hu5,hw5,hw6,c1,c2,←hN,hS1.symm,d1,d2,d3,d4]
   refine i1.mono ?_
   rintro _ s2 ⟨rfl,U2,P2,v2,T2,bs2,f2,k2,_,h2⟩
   have l2:=f2.len
   have hb2:=hb.kp (k:=100) k2 (by omega)
   have i2:=weak3 (hw (t:=s1.length)) (ahxFind h2 (by omega) (hb2.mono (by omega)) (zeroK N) (by rw[hzl];omega))
   repeat' first|((with_reducible first|apply cs|apply ws)<;>intro h<;>try simp only[h])|simp only[↓wBA,tXv,convA,seval,wH,kindE,tyE,eqsE,mutsE,lenE,List.length_replicate,e140]
   refine i2.mono ?_
   rintro _ s3 ⟨av,R,U3,P3,rfl,hmu,hR1,hR2,f3,k3,h3,hms⟩
   have l3:=f3.len
   have hb3:=hb2.kp (k:=90) k3 (by omega)
   obtain rfl:R=[(e.p,e.s)]:=by
    refine leXY_eq (hR1.trans ?_) hR2 (by simp)
    rw[List.filter_cons,if_pos (by rw[hek];simp)]
    exact List.Perm.refl _
   obtain⟨t,rfl,_,ht⟩:∃ t,av= .ms t 2 0 1∧_∧s3[t]? =some (some (.row 2 (([(e.p,e.s)]:List (Nat×Nat)).map ridC))):=by
    rcases hmu with⟨_,h⟩|h
    ·cases h
    ·exact h
   have ht':s3[t]? =some (some (.row 2 [[.p (.v (.int .i64 pg)),.p (.v (.int .i64 sl))]])):=by rw[q1,q2];exact ht
   have yt:=at_lt ht'
   obtain⟨ht1,ht2⟩:=hms t rfl
   have i4:=weak3 (hw (t:=s1.length)) (ahxIns h3 (by omega) (by omega) (rm 61 (by omega)) (hb3.mono (by omega)) (zeroK N) pg sl)
   rw[hins2]at i4
   repeat' first|((with_reducible first|apply cs|apply ws)<;>intro h<;>try simp only[h])|simp only[↓wBA,tXv,convA,seval,wH,kindE,tyE,eqsE,mutsE,lenE,ht',yt,beq_self_eq_true,Bool.and_self]
   refine i4.mono ?_
   rintro _ s4 ⟨rfl,U4,P4,v4,T4,bs4,f4,k4,_,h4⟩
   have l4:=f4.len
   have hb4:=hb3.kp (k:=80) k4 (by omega)
   have ht4:=f4.get ht' ht2
   have y4:=at_lt ht4
   have w4:¬ U4 t:=fun e=>(f4.own _ e).elim ht2 fun e=>by omega
   have i5:=weak3 (hw (t:=s1.length)) (ahxDel h4 (by omega) (hb4.mono (by omega)) (zeroK N) pg sl)
   rw[hdel]at i5
   repeat' first|((with_reducible first|apply cs|apply ws)<;>intro h<;>try simp only[h])|simp only[↓wBA,tXv,convA,seval,wH,kindE,tyE,eqsE,mutsE,lenE,ht4,y4,c1y,beq_self_eq_true,Bool.and_self]
   refine i5.mono ?_
   rintro _ s5 ⟨rfl,U5,P5,v5,f5,k5,h5⟩
   have l5:=f5.len
   have hb5:=hb4.kp (k:=70) k5 (by omega)
   have ht5:=f5.get ht4 w4
   have y5:=at_lt ht5
   have i6:=weak3 (hw (t:=s1.length)) (ahxDel h5 (by omega) (hb5.mono (by omega)) (zeroK N) pg sl)
   rw[hdel2]at i6
   repeat' first|((with_reducible first|apply cs|apply ws)<;>intro h<;>try simp only[h])|simp only[↓wBA,tXv,convA,seval,wH,kindE,tyE,eqsE,mutsE,lenE,ht5,y5,c1y,beq_self_eq_true,Bool.and_self]
   refine i6.mono ?_
   rintro _ s6 ⟨rfl,U6,P6,v6,f6,k6,h6⟩
   have l6:=f6.len
   repeat' first|((with_reducible first|apply cs|apply ws)<;>intro h<;>try simp only[h])|simp only[↓wBA,tXv,convA,seval,wH,kindE,tyE,eqsE,mutsE,lenE,c1y,beq_self_eq_true,Bool.and_self]
   refine (axfreeN _).mono ?_
   rintro _ s7 ⟨a7,rfl⟩
   have l7:=a7.len
   repeat' first|((with_reducible first|apply cs|apply ws)<;>intro h<;>try simp only[h])|simp only[↓wBA,tXv,convA,seval,wH,kindE,tyE,eqsE,mutsE,lenE,c1y,beq_self_eq_true,Bool.and_self]
   all_goals refine ret_st ?_ (by first|exact Nat.le_refl _|(simp only[length_set,length_append];omega)|omega)
   all_goals simp only[resA.eq_1,resL.eq_1,resL.eq_2,resV.eq_1,resV.eq_2,↓wBA,tXv,convA,seval,wH,kindE,tyE,eqsE,mutsE,lenE,Bool.and_self]
def pl16_16Xy:Plan:=(.det 0 (.det 1 (.det 2 (.det 3 (.det 4 (.det 5 (.det 6 (.det 9 (.det 10 (.two 7 (.two 8 (.two 11 (.two 12 (.det 13 (.det 14 (.det 15 (.act 16 (.fin 17 (.det 18 .done)))))) 16 (.fin 12 (.det 13 (.det 14 (.det 15 (.fin 17 (.det 18 .done))))))) 16 (.fin 11 (.fin 12 (.det 13 (.det 14 (.det 15 (.fin 17 (.det 18 .done)))))))) 16 (.act 8 (.fin 11 (.fin 12 (.det 13 (.det 14 (.det 15 (.fin 17 (.det 18 .done))))))))) 16 (.act 7 (.act 8 (.fin 11 (.fin 12 (.det 13 (.det 14 (.det 15 (.fin 17 (.det 18 .done)))))))))))))))))))
def tXy:=aa wX <| aa wbu <| aa T3 <| aa T4 <| aa T5 <| aa T23 <| aa T25 <| aa T28 <| aa T29 <| aa T36 <| aa T39 <| aa T45 <| aa T63 <| aa T65 <| aa T97 T111
theorem axinsN {n:Int}{x:PV}(σ:St):ACalls Tryz.prog 16 [.p (.v (.pointer none)),intV .i64 n,.p x,.agg [intV .i64 0,intV .i64 0]] σ fun r σ'=>Ap σ σ'∧r=intV .i64 2:=by
 refine acalls_of cx_ok dr_ok Tryz.func16 (by kernel_rfl) rfl (nt:=94) (rs:=[.tmp 8]) rfl rfl ?_
 repeat' first|((with_reducible first|apply cs|apply ws|apply wd|apply wu)<;>intro h<;>try simp only[h])|simp only[↓wBA,tXy,convA,seval,pl16_16Xy,wH]|(with_reducible refine dQ pl16_16Xy 19 (some 60) ?_)|with_reducible refine And.intro ?_ ?_
 all_goals refine ret_st ?_ (by first|exact Nat.le_refl _|(simp only[length_set,length_append];omega)|omega)
 all_goals simp only[resA.eq_1,resL.eq_1,resL.eq_2,resV.eq_1,resV.eq_2,↓wBA,tXy,convA,seval,wH]
 exact Ap.app _ _
theorem amakeN (σ:St):ACalls Tryz.prog 39 [.p (.v (.pointer none))] σ fun r σ'=>Ap σ σ'∧r= .tup [intV .i64 0,intV .i64 2]:=by
 refine acalls_of cx_ok dr_ok Tryz.func39 (by kernel_rfl) rfl (nt:=30) (rs:=[.tmp 2,.tmp 3]) rfl rfl ?_
 repeat' first|((with_reducible first|apply cs|apply ws)<;>intro h<;>try simp only[h])|simp only[↓wBA,tXy,convA,seval,wH]
 all_goals refine ret_st ?_ (by first|exact Nat.le_refl _|(simp only[length_set,length_append];omega)|omega)
 all_goals simp only[resA.eq_1,resL.eq_1,resL.eq_2,resV.eq_1,resV.eq_2,↓wBA,tXy,convA,seval,wH]
 exact Ap.refl _
theorem axmakeN (σ:St):ACalls Tryz.prog 15 [.p (.v (.pointer none))] σ fun r σ'=>Ap σ σ'∧r= .tup [intV .i64 0,intV .i64 2]:=by
 refine acalls_of cx_ok dr_ok Tryz.func15 (by kernel_rfl) rfl (nt:=43) (rs:=[.tmp 2,.tmp 3]) rfl rfl ?_
 repeat' first|((with_reducible first|apply cs|apply ws)<;>intro h<;>try simp only[h])|simp only[↓wBA,tXy,convA,seval,wH]
 refine (amakeN _).mono ?_
 rintro _ s1 ⟨a1,rfl⟩
 have l1:=a1.len
 repeat' first|((with_reducible first|apply cs|apply ws)<;>intro h<;>try simp only[h])|simp only[↓wBA,tXy,convA,seval,wH]
 all_goals refine ret_st ?_ (by first|exact Nat.le_refl _|(simp only[length_set,length_append];omega)|omega)
 all_goals simp only[resA.eq_1,resL.eq_1,resL.eq_2,resV.eq_1,resV.eq_2,↓wBA,tXy,convA,seval,wH]
 exact a1
def keyF (i:Nat):List UInt8:=[107,UInt8.ofNat i]
def entF (i:Nat):HEn:=⟨keyF i,i,2*i⟩
theorem keyF_inj {i j:Nat}(hi:i<256)(hj:j<256)(h:keyF i=keyF j):i=j:=by
 unfold keyF at h
 simp only[List.cons.injEq,true_and,and_true]at h
 have:=congrArg UInt8.toNat h
 simp only[UInt8.toNat_ofNat']at this
 omega
theorem entF_inj {i j:Nat}(h:entF i=entF j):i=j:=congrArg HEn.p h
def fillE (c:Nat)(S:Nat→Bool):List HEn:=((List.range c).filter S).map entF
theorem mem_fillE {c i:Nat}{S:Nat→Bool}:entF i∈fillE c S↔i<c∧S i=true:=by
 unfold fillE
 rw[List.mem_map]
 constructor
 ·rintro⟨j,hj,he⟩
  obtain rfl:=entF_inj he
  have:=List.mem_filter.1 hj
  exact⟨mem_range.1 this.1,this.2⟩
 ·exact fun h=>⟨i,List.mem_filter.2 ⟨mem_range.2 h.1,h.2⟩,rfl⟩
theorem nd_range:∀ c:Nat,(List.range c).Nodup:=fun c=>List.nodup_range
theorem nd_map {α β:Type}{f:α→β}(hf:∀ a b,f a=f b→a=b):∀ {l:List α},l.Nodup→(l.map f).Nodup
 |[],_=>List.nodup_nil
 |a::l,h=>by
  obtain⟨h1,h2⟩:=List.nodup_cons.1 h
  rw[List.map_cons]
  refine List.nodup_cons.2 ⟨fun hm=> ?_,nd_map hf h2⟩
  obtain⟨b,hb,he⟩:=List.mem_map.1 hm
  exact h1 (hf _ _ he▸hb)
theorem nd_fillE (c:Nat)(S:Nat→Bool):(fillE c S).Nodup:=nd_map (fun a b h=>entF_inj h) ((nd_range c).sublist List.filter_sublist)
theorem fill_one:∀ (c i:Nat),(List.range c).filter (fun j=>decide (j=i))=if i<c then [i]else []
 |0,i=>by simp
 |c+1,i=>by
  rw[List.range_succ,List.filter_append,fill_one c i]
  by_cases h:i=c
  ·subst h;simp
  ·by_cases h2:i<c
   ·have h3:i<c+1:=by omega
    have h4:¬ c=i:=fun e=>h e.symm
    simp[h2,h3,h4]
   ·have h3:¬ i<c+1:=by omega
    have h4:¬ c=i:=fun e=>h e.symm
    simp[h2,h3,h4]
theorem fill_find {c i:Nat}{S:Nat→Bool}(hc:c≤200)(hi:i<200):((fillE c S).filter fun e=>e.k==keyF i)=if i<c∧S i=true then [entF i]else []:=by
 unfold fillE
 rw[List.filter_map,List.filter_filter]
 have:(List.range c).filter (fun j=>((fun e:HEn=>e.k==keyF i)∘entF) j&&S j)=((List.range c).filter (fun j=>decide (j=i))).filter S:=by
  rw[List.filter_filter]
  refine List.filter_congr fun j hj=> ?_
  have hjc:=mem_range.1 hj
  simp only[Function.comp,entF]
  by_cases e:j=i
  ·subst e;simp
  ·have:(keyF j==keyF i)=false:=by
    rw[beq_eq_false_iff_ne];exact fun h=>e (keyF_inj (by omega) (by omega) h)
   simp[this,e]
 rw[this,fill_one]
 by_cases h1:i<c
 ·rw[if_pos h1]
  by_cases h2:S i=true
  ·rw[if_pos ⟨h1,h2⟩];simp[h2]
  ·rw[if_neg (fun h=>h2 h.2)];simp[h2]
 ·rw[if_neg h1,if_neg (fun h=>h1 h.1)];simp
theorem mkE_fill {i:Nat}:mkE (keyF i) (i:Nat) ((2*i:Nat):Int)=entF i:=by
 unfold mkE entF
 simp only[Int.toNat_natCast]
theorem okE_fill {i:Nat}(h:i<200):okE (keyF i) (i:Nat) ((2*i:Nat):Int):=⟨by simp[keyF],by omega,by omega,by omega,by omega⟩
theorem ins_fill {E:List HEn}{i:Nat}(hi:i<200)(hE:E.Perm (fillE i fun _=>true)):insE E (keyF i) (i:Nat) ((2*i:Nat):Int)=(0,entF i::E)∧(entF i::E).Perm (fillE (i+1) fun _=>true):=by
 have hn:entF i∉E:=fun h=>by have:=mem_fillE.1 (hE.mem_iff.1 h);omega
 constructor
 ·unfold insE
  rw[if_neg (by simp[keyF]),mkE_fill,if_pos ⟨okE_fill hi,hn⟩]
 ·have:fillE (i+1) (fun _=>true)=fillE i (fun _=>true)++[entF i]:=by
   unfold fillE;rw[List.range_succ,List.filter_append,List.map_append];simp
  rw[this]
  exact (hE.cons _).trans (List.perm_append_singleton _ _).symm
def leftS (k i j:Nat):Bool:=decide (i≤j)||decide (j % k=0)
theorem del_fill {E:List HEn}{c k i:Nat}(hi:i<c)(hc:c≤200)(hk:¬ i % k=0)(hE:E.Perm (fillE c (leftS k i))):delE E (keyF i) (i:Nat) ((2*i:Nat):Int)=(0,E.erase (entF i))∧(E.erase (entF i)).Perm (fillE c (leftS k (i+1))):=by
 have hin:entF i∈E:=hE.mem_iff.2 (mem_fillE.2 ⟨hi,by simp[leftS]⟩)
 constructor
 ·unfold delE
  rw[mkE_fill,if_pos ⟨okE_fill (by omega),hin⟩]
 ·refine (hE.erase _).trans (List.Perm.of_eq ?_)
  rw[erase_filter (nd_fillE _ _)]
  unfold fillE
  rw[List.filter_map,List.filter_filter]
  congr 1
  refine List.filter_congr fun j hj=> ?_
  simp only[Function.comp,leftS]
  by_cases e:j=i
  ·subst e;simp[hk]
  ·have h1:¬ entF j=entF i:=fun h=>e (entF_inj h)
   have h2:(i≤j)=(i+1≤j):=by rw[eq_iff_iff];omega
   simp[h1,h2]
theorem skip_fill {c k i:Nat}(hk:i % k=0):fillE c (leftS k (i+1))=fillE c (leftS k i):=by
 unfold fillE
 congr 1
 refine List.filter_congr fun j hj=> ?_
 simp only[leftS]
 by_cases e:j=i
 ·subst e;simp[hk]
 ·have h2:(i≤j)=(i+1≤j):=by rw[eq_iff_iff];omega
  simp[h2]
theorem MutR.lenX {q:St}{av:AV}{R:List (Nat×Nat)}(h:MutR q av 2 (R.map ridC)):lenA cx 28 av=some R.length:=by
 rcases h with⟨rfl,h⟩|⟨t,rfl,h1,h2⟩
 ·have:R=[]:=by simpa using h
  subst this
  unfold lenA;rw[ck_28];rfl
 ·unfold lenA;rw[ck_28];simp[elemsA]
theorem ahashFills (n lf:Nat)(hn:n<256)(hlf:lf<256)(σ:St):ACalls Tryz.prog 4 [intV .u8 (n:Nat),intV .u8 (lf:Nat)] σ fun r σ'=>r=boolV true:=by
 have hm1:((n:Nat):Int).tmod 120=((n % 120:Nat):Int):=by rw[Int.tmod_eq_emod_of_nonneg (by omega)];omega
 have hu1:IntKind.u8.wrap ((n % 120:Nat):Int)=((n % 120:Nat):Int):=by rw[IntKind.wrap_u8];omega
 have hw1:IntKind.i64.wrap ((n % 120:Nat):Int)=((n % 120:Nat):Int):=wrap_i64 (by omega) (by omega)
 have hm2:((lf:Nat):Int).tmod 7=((lf % 7:Nat):Int):=by rw[Int.tmod_eq_emod_of_nonneg (by omega)];omega
 have hu2:IntKind.u8.wrap ((lf % 7:Nat):Int)=((lf % 7:Nat):Int):=by rw[IntKind.wrap_u8];omega
 have hw2:IntKind.i64.wrap ((lf % 7:Nat):Int)=((lf % 7:Nat):Int):=wrap_i64 (by omega) (by omega)
 have hw3:=wI (lf % 7) (by omega)
 obtain⟨c,hc⟩:∃ c,c=n % 120:=⟨_,rfl⟩
 obtain⟨k,hk⟩:∃ k,k=lf % 7+1:=⟨_,rfl⟩
 rw[← hc]at hm1 hu1 hw1
 rw[← hk]at hw3
 refine acalls_of cx_ok dr_ok Tryz.func4 (by kernel_rfl) rfl (nt:=185) (rs:=[.tmp 4]) rfl rfl ?_
 repeat' first|((with_reducible first|apply cs|apply ws)<;>intro h<;>try simp only[h])|simp only[↓wBA,tXy,convA,seval,wH]|((with_reducible show ACalls _ _ _ _ _);refine (aawake8 _).mono ?_;rintro _ s0 ⟨a0,rfl⟩)
 refine (adnew 8800 (by omega) _).mono ?_
 rintro _ s1 ⟨dd,Fd,rfl,a1,hd,hFd⟩
 repeat' first|((with_reducible first|apply cs|apply ws)<;>intro h<;>try simp only[h])|simp only[↓wBA,tXy,convA,seval,wH]
 refine (adnew 30000 (by omega) _).mono ?_
 rintro _ s2 ⟨dl,Fl,rfl,a2,hl,hFl⟩
 have hd2:=hd.ap a2
 have l0:=a0.len;have l1:=a1.len;have l2:=a2.len
 repeat' first|((with_reducible first|apply cs|apply ws)<;>intro h<;>try simp only[h])|simp only[↓wBA,tXy,convA,seval,wH]
 refine (aopenN2 hd2 hl (fun t h1 h2=>by have:=hd.lt t h1;have:=hFl t h2;omega) (by omega) (by omega) 8 (by omega) (by omega)).mono ?_
 rintro _ s3 ⟨p,lg,kh,G,P,rfl,a3,hP,p1,p2,p3,p4,p5,p6,p7,p8,p9⟩
 have hpg:P.pages=1100:=by rw[p1];rfl
 have l3:=a3.len
 have hbud:Bud P 50000000:=⟨by omega,by omega,by omega⟩
 repeat' first|((with_reducible first|apply cs|apply ws)<;>intro h<;>try simp only[h])|simp only[↓wBA,tXy,convA,seval,wH,bne_self_eq_false]|((with_reducible show ACalls _ _ _ _ _);refine (abBatch hP).mono ?_;rintro _ s4 ⟨rfl,a4,h4⟩)
 have l4:=a4.len
 refine (ahxMake h4 hpg (by rw[p8];exact tk_new (by omega)) (by omega) (by omega) (hbud.mono (by omega))).mono ?_
 rintro r s5 ⟨U5,P5,v5,T5,root,bs5,rfl,f5,k5,h5,n5⟩
 have l5:=f5.len
 have hb5:=hbud.kp0 k5
 clear h4 hP hd hd2 hl
 repeat' first|((with_reducible first|apply cs|apply ws)<;>intro h<;>try simp only[h])|simp only[↓wBA,tXy,convA,seval,wH,hm1,hu1,hw1]
 have hwf:∀ {i t:Nat} (M:View) (u:Value),ARep M (.own t 1 [[.v (.int .u8 107)],[.v (.int .u8 ((UInt8.ofNat i).toNat:Int))]]) u→ARep M (.p (.sl 1 (encB (keyF i)))) u:=fun M u h=>own_pX h
 have hcb:c≤119:=by omega
 have h50:Bud P5 50000000:=hb5
 refine awp_loopS (X:={ i:Nat // i≤c }) (fun i=>c - i.1) (fun i=>[(11,intV .i64 (i.1:Nat))]) [4,43,44,45,46,47,48,49,50,51,52,53,54,55,56,57,58] (fun i s=>s5.length≤s.length∧∃ U P v T bs E,HxS s s3.length p dd lg kh root U P v T bs E 1100 i.1∧E.Perm (fillE i.1 fun _=>true)∧Bud P 50000000) (⟨0,by omega⟩) ?_ ?_ ?_ ?_
 ·simp only[wHl,wHf]
 ·exact⟨Nat.le_refl _,U5,P5,v5,T5,bs5,[],h5,List.Perm.refl _,h50⟩
 ·rintro _ _ ⟨h,_⟩;exact h
 ·intro y J s hI
  clear h5 f5 k5 hb5 h50 n5
  simp only[wHl]
  obtain⟨i,hi⟩:=y
  obtain⟨hsl,U1,P1,v1,T1,bs1,E1,h1,hE1,hb1⟩:=hI
  dsimp only at*
  have hwi:=wI i (by omega)
  by_cases hlt:i<c
  ·have e1:=dT (i:=i) (n:=c) hlt
   have hu:IntKind.u8.wrap (i:Int)=((UInt8.ofNat i).toNat:Int):=by rw[IntKind.wrap_u8,UInt8.toNat_ofNat'];omega
   have hm:IntKind.i64.wrap (2*(i:Int))=((2*i:Nat):Int):=by rw[wrap_i64 (by omega) (by omega)];omega
   obtain⟨hin,hpn⟩:=ins_fill (by omega) hE1
   have hrm:6+2*i+roomF (i / 8+1)<1100:=by
    have:roomF (i / 8+1)≤roomF 15:=roomF_mono (by omega)
    have:roomF 15=854:=by decide
    omega
   have i1:=weak3 (hwf (i:=i) (t:=s.length)) (ahxIns (h1.ap (Ap.app s [some (Ob.right 5 2)])) (by omega) (by omega) hrm (hb1.mono (by omega)) (keyF i) (i:Nat) ((2*i:Nat):Int))
   rw[hin]at i1
   repeat' first|((with_reducible first|apply cs|apply ws)<;>intro h<;>try simp only[h])|simp only[↓wBA,tXy,convA,seval,wH,wHl,e1,hu,hm]
   refine i1.mono ?_
   rintro _ s6 ⟨rfl,U6,P6,v6,T6,bs6,f6,k6,_,h6⟩
   have l6:=f6.len
   simp only[length_append,length_cons,length_nil]at l6
   repeat' first|((with_reducible first|apply cs|apply ws)<;>intro h<;>try simp only[h])|simp only[↓wBA,tXy,convA,seval,wH,wHl,hwi,bne_self_eq_false]
   exact⟨⟨i+1,by omega⟩,by show c - (i+1)<c - i;omega,⟨by omega,U6,P6,v6,T6,bs6,_,h6,hpn,hb1.kp0 k6⟩,by simp only[wHl,wHf]⟩
  obtain rfl:i=c:=by omega
  have e1:=dF (i:=i) (n:=i) hlt
  repeat' first|((with_reducible first|apply cs|apply ws)<;>intro h<;>try simp only[h])|simp only[↓wBA,tXy,convA,seval,wH,wHl,e1]
  refine awp_loopS (X:={ j:Nat // j≤130 }) (fun j=>130 - j.1) (fun j=>[(12,intV .i64 (j.1:Nat))]) [4,13,14,59,60,61,62,63,64,65,66,67,68,69,70,71,72,73,74,75,76,77,78,79,80,81,82,83,84,85,86,87,88,89,90,91,92,93,94,95,96,97,98,99,100,101,102] (fun j q=>s.length≤q.length∧∃ U P,HxS q s3.length p dd lg kh root U P v1 T1 bs1 E1 1100 i∧Bud P 50000000) (⟨0,by omega⟩) ?_ ?_ ?_ ?_
  ·simp only[wHl,wHf]
  ·exact⟨Nat.le_refl _,U1,P1,h1,hb1⟩
  ·rintro _ _ ⟨h,_⟩;exact h
  ·intro y J2 q hI2
   clear h1 hb1
   simp only[wHl]
   obtain⟨j,hj⟩:=y
   obtain⟨hql,U2,P2,h2,hb2⟩:=hI2
   dsimp only at*
   have hwj:=wI j (by omega)
   by_cases hlt2:j<130
   ·have e2:decide ((j:Int)<130)=true:=by simp only[decide_eq_true_eq];omega
    have hu:IntKind.u8.wrap (j:Int)=((UInt8.ofNat j).toNat:Int):=by rw[IntKind.wrap_u8,UInt8.toNat_ofNat'];omega
    have hm:IntKind.i64.wrap (2*(j:Int))=((2*j:Nat):Int):=by rw[wrap_i64 (by omega) (by omega)];omega
    have i2:=weak3 (hwf (i:=j) (t:=q.length)) (ahxFind (h2.ap (Ap.app q [some (Ob.right 5 2)])) (by omega) (hb2.mono (by omega)) (keyF j) (by simp[keyF]))
    repeat' first|((with_reducible first|apply cs|apply ws)<;>intro h<;>try simp only[h])|simp only[↓wBA,tXy,convA,seval,wH,wHl,e2,hu]
    refine i2.mono ?_
    rintro _ s6 ⟨av,R,U6,P6,rfl,hmu,hp,ho,f6,k6,h6,hms⟩
    have l6:=f6.len
    simp only[length_append,length_cons,length_nil]at l6
    have hla:=hmu.lenX
    have hff:=fill_find (c:=i) (i:=j) (S:=fun _=>true) (by omega) (by omega)
    have hp2:=hp.trans (((hE1.filter _).map _).trans (List.Perm.of_eq (congrArg (List.map fun e:HEn=>(e.p,e.s)) hff)))
    by_cases hji:j<i
    ·rw[if_pos ⟨hji,rfl⟩]at hp2
     obtain rfl:R=[(j,2*j)]:=leXY_eq hp2 ho (by simp[entF])
     obtain⟨t,rfl,_,ht⟩:∃ t,av= .ms t 2 0 1∧_∧s6[t]? =some (some (.row 2 (([(j,2*j)]:List (Nat×Nat)).map ridC))):=by
      rcases hmu with⟨_,h⟩|h
      ·cases h
      ·exact h
     have ht':s6[t]? =some (some (.row 2 [[.p (.v (.int .i64 (j:Nat))),.p (.v (.int .i64 (2*j:Nat)))]])):=ht
     have yt:=at_lt ht'
     have e3:=dT (i:=j) (n:=i) hji
     repeat' first|((with_reducible first|apply cs|apply ws)<;>intro h<;>try simp only[h])|simp only[↓wBA,tXy,convA,seval,wH,wHl,bne_self_eq_false,beq_self_eq_true,Bool.and_self,Bool.not_true,e3,ht',yt,hm,hwj]
     exact⟨⟨j+1,by omega⟩,by show 130 - (j+1)<130 - j;omega,⟨by omega,U6,P6,h6,hb2.kp0 k6⟩,by simp only[wHl,wHf]⟩
    ·rw[if_neg (fun h=>hji h.1)]at hp2
     obtain rfl:R=[]:=hp2.eq_nil
     obtain rfl:av= .p (.v (.slice none 0 0)):=by
      rcases hmu with⟨h,_⟩|⟨_,_,h,_⟩
      ·exact h
      ·exact absurd rfl h
     have e3:=dF (i:=j) (n:=i) hji
     repeat' first|((with_reducible first|apply cs|apply ws)<;>intro h<;>try simp only[h])|simp only[↓wBA,tXy,convA,seval,wH,wHl,bne_self_eq_false,beq_self_eq_true,Bool.and_self,Bool.not_true,e3,hwj]
     exact⟨⟨j+1,by omega⟩,by show 130 - (j+1)<130 - j;omega,⟨by omega,U6,P6,h6,hb2.kp0 k6⟩,by simp only[wHl,wHf]⟩
   obtain rfl:j=130:=by omega
   have e2:decide (((130:Nat):Int)<130)=false:=by decide
   have c130:((130:Nat):Int)=130:=rfl
   rw[c130]at e2
   repeat' first|((with_reducible first|apply cs|apply ws)<;>intro h<;>try simp only[h])|simp only[↓wBA,tXy,convA,seval,wH,wHl,c130,e2,hm2,hu2,hw2,hw3]
   have hl0:fillE i (leftS k 0)=fillE i (fun _=>true):=by
    unfold fillE
    rw[show leftS k 0=fun _=>true from funext fun j=>by simp[leftS]]
   have hk0:((k:Int)=0)=False:=eq_false (by omega)
   have hk0':((k:Int)==0)=false:=by simp;omega
   refine awp_loopS (X:={ m:Nat // m≤i }) (fun m=>i - m.1) (fun m=>[(16,intV .i64 (m.1:Nat))]) [4,107,108,109,110,111,112,113,114,115,116,117,118,119,120,121,122,123,124,125,126,127,128] (fun m r=>q.length≤r.length∧∃ U P v T bs E,HxS r s3.length p dd lg kh root U P v T bs E 1100 i∧E.Perm (fillE i (leftS k m.1))∧Bud P 50000000) (⟨0,by omega⟩) ?_ ?_ ?_ ?_
   ·simp only[wHl,wHf]
   ·exact⟨Nat.le_refl _,U2,P2,v1,T1,bs1,E1,h2,by rw[hl0];exact hE1,hb2⟩
   ·rintro _ _ ⟨h,_⟩;exact h
   ·intro y J3 r hI3
    clear h2 hb2 hE1
    simp only[wHl]
    obtain⟨m,hm'⟩:=y
    obtain⟨hrl,U3,P3,v3,T3,bs3,E3,h3,hE3,hb3⟩:=hI3
    dsimp only at*
    have hwm:=wI m (by omega)
    have hr1:(m:Int).tmod (k:Int)=((m % k:Nat):Int):=by rw[Int.tmod_eq_emod_of_nonneg (by omega)];omega
    have hr2:IntKind.i64.wrap ((m % k:Nat):Int)=((m % k:Nat):Int):=by
     have:=Nat.mod_le m k
     exact wrap_i64 (by omega) (by omega)
    by_cases hlt3:m<i
    ·have e3:=dT (i:=m) (n:=i) hlt3
     by_cases hmk:m % k=0
     ·have eb:(((m % k:Nat):Int) != 0)=false:=by rw[hmk];rfl
      repeat' first|((with_reducible first|apply cs|apply ws)<;>intro h<;>try simp only[h])|simp only[↓wBA,tXy,convA,seval,wH,wHl,e3,hk0,hk0',hr1,hr2,eb,hwm]
      exact⟨⟨m+1,by omega⟩,by show i - (m+1)<i - m;omega,⟨hrl,U3,P3,v3,T3,bs3,E3,h3,by rw[skip_fill hmk];exact hE3,hb3⟩,by simp only[wHl,wHf]⟩
     ·have eb:(((m % k:Nat):Int) != 0)=true:=by simp;omega
      have hu:IntKind.u8.wrap (m:Int)=((UInt8.ofNat m).toNat:Int):=by rw[IntKind.wrap_u8,UInt8.toNat_ofNat'];omega
      have hm:IntKind.i64.wrap (2*(m:Int))=((2*m:Nat):Int):=by rw[wrap_i64 (by omega) (by omega)];omega
      obtain⟨hde,hpe⟩:=del_fill hlt3 (by omega) hmk hE3
      have i3:=weak3 (hwf (i:=m) (t:=r.length)) (ahxDel (h3.ap (Ap.app r [some (Ob.right 5 2)])) (by omega) (hb3.mono (by omega)) (keyF m) (m:Nat) ((2*m:Nat):Int))
      rw[hde]at i3
      repeat' first|((with_reducible first|apply cs|apply ws)<;>intro h<;>try simp only[h])|simp only[↓wBA,tXy,convA,seval,wH,wHl,e3,hk0,hk0',hr1,hr2,eb,hu,hm]
      refine i3.mono ?_
      rintro _ s6 ⟨rfl,U6,P6,v6,f6,k6,h6⟩
      have l6:=f6.len
      simp only[length_append,length_cons,length_nil]at l6
      repeat' first|((with_reducible first|apply cs|apply ws)<;>intro h<;>try simp only[h])|simp only[↓wBA,tXy,convA,seval,wH,wHl,bne_self_eq_false,hwm]
      exact⟨⟨m+1,by omega⟩,by show i - (m+1)<i - m;omega,⟨by omega,U6,P6,v6,T3,bs3,_,h6,hpe,hb3.kp0 k6⟩,by simp only[wHl,wHf]⟩
    obtain rfl:m=i:=by omega
    have e3:=dF (i:=m) (n:=m) hlt3
    repeat' first|((with_reducible first|apply cs|apply ws)<;>intro h<;>try simp only[h])|simp only[↓wBA,tXy,convA,seval,wH,wHl,e3]
    refine awp_loopS (X:={ j:Nat // j≤m }) (fun j=>m - j.1) (fun j=>[(17,intV .i64 (j.1:Nat))]) [4,18,19,129,130,131,132,133,134,135,136,137,138,139,140,141,142,143,144,145,146,147,148,149,150,151,152,153,154] (fun j z=>r.length≤z.length∧∃ U P,HxS z s3.length p dd lg kh root U P v3 T3 bs3 E3 1100 m∧Bud P 50000000) (⟨0,by omega⟩) ?_ ?_ ?_ ?_
    ·simp only[wHl,wHf]
    ·exact⟨Nat.le_refl _,U3,P3,h3,hb3⟩
    ·rintro _ _ ⟨h,_⟩;exact h
    ·intro y J4 z hI4
     clear h3 hb3
     simp only[wHl]
     obtain⟨j,hj⟩:=y
     obtain⟨hzl,U4,P4,h4,hb4⟩:=hI4
     dsimp only at*
     have hwj:=wI j (by omega)
     have hr1:(j:Int).tmod (k:Int)=((j % k:Nat):Int):=by rw[Int.tmod_eq_emod_of_nonneg (by omega)];omega
     have hr2:IntKind.i64.wrap ((j % k:Nat):Int)=((j % k:Nat):Int):=by
      have:=Nat.mod_le j k
      exact wrap_i64 (by omega) (by omega)
     by_cases hlt4:j<m
     ·have e4:=dT (i:=j) (n:=m) hlt4
      have hu:IntKind.u8.wrap (j:Int)=((UInt8.ofNat j).toNat:Int):=by rw[IntKind.wrap_u8,UInt8.toNat_ofNat'];omega
      have i2:=weak3 (hwf (i:=j) (t:=z.length)) (ahxFind (h4.ap (Ap.app z [some (Ob.right 5 2)])) (by omega) (hb4.mono (by omega)) (keyF j) (by simp[keyF]))
      repeat' first|((with_reducible first|apply cs|apply ws)<;>intro h<;>try simp only[h])|simp only[↓wBA,tXy,convA,seval,wH,wHl,e4,hu]
      refine i2.mono ?_
      rintro _ s6 ⟨av,R,U6,P6,rfl,hmu,hp,ho,f6,k6,h6,hms⟩
      have l6:=f6.len
      simp only[length_append,length_cons,length_nil]at l6
      have hla:=hmu.lenX
      have hff:=fill_find (c:=m) (i:=j) (S:=leftS k m) (by omega) (by omega)
      have hp2:=hp.trans (((hE3.filter _).map _).trans (List.Perm.of_eq (congrArg (List.map fun e:HEn=>(e.p,e.s)) hff)))
      by_cases hjk:j % k=0
      ·have eb:(((j % k:Nat):Int)==0)=true:=by rw[hjk];rfl
       rw[if_pos ⟨hlt4,by simp[leftS,hjk]⟩]at hp2
       obtain rfl:R=[(j,2*j)]:=leXY_eq hp2 ho (by simp[entF])
       obtain⟨t,rfl,_,ht⟩:∃ t,av= .ms t 2 0 1∧_∧s6[t]? =some (some (.row 2 (([(j,2*j)]:List (Nat×Nat)).map ridC))):=by
        rcases hmu with⟨_,h⟩|h
        ·cases h
        ·exact h
       repeat' first|((with_reducible first|apply cs|apply ws)<;>intro h<;>try simp only[h])|simp only[↓wBA,tXy,convA,seval,wH,wHl,bne_self_eq_false,beq_self_eq_true,hk0,hk0',hr1,hr2,eb,hwj]
       exact⟨⟨j+1,by omega⟩,by show m - (j+1)<m - j;omega,⟨by omega,U6,P6,h6,hb4.kp0 k6⟩,by simp only[wHl,wHf]⟩
      ·have eb:(((j % k:Nat):Int)==0)=false:=by simp;omega
       rw[if_neg (fun h=>by have:=h.2;simp[leftS,hjk]at this;omega)]at hp2
       obtain rfl:R=[]:=hp2.eq_nil
       obtain rfl:av= .p (.v (.slice none 0 0)):=by
        rcases hmu with⟨h,_⟩|⟨_,_,h,_⟩
        ·exact h
        ·exact absurd rfl h
       repeat' first|((with_reducible first|apply cs|apply ws)<;>intro h<;>try simp only[h])|simp only[↓wBA,tXy,convA,seval,wH,wHl,bne_self_eq_false,beq_self_eq_true,hk0,hk0',hr1,hr2,eb,hwj]
       exact⟨⟨j+1,by omega⟩,by show m - (j+1)<m - j;omega,⟨by omega,U6,P6,h6,hb4.kp0 k6⟩,by simp only[wHl,wHf]⟩
     obtain rfl:j=m:=by omega
     have e4:=dF (i:=j) (n:=j) hlt4
     obtain⟨g1,g2⟩:=h4.lens (by omega)
     repeat' first|((with_reducible first|apply cs|apply ws)<;>intro h<;>try simp only[h])|simp only[↓wBA,tXy,convA,seval,wH,wHl,e4]
     refine (axfree h4.bt (by rw[h4.pg];exact h4.tk) (by rw[h4.pg];omega) (by rw[h4.pg];exact h4.ix) (hb4.mono (by omega)) (by omega)).mono ?_
     rintro _ s7 ⟨rfl,U7,P7,v7,T7,f7,h7,k7,hv7,hT7,hTt7⟩
     have l7:=f7.len
     have hb7:=hb4.kp0 k7
     rw[h4.pg]at hT7
     have hpg7:P7.pages=1100:=k7.pages.trans h4.pg
     have hT70:T7=fun m=>m==0:=by
      funext q
      rw[hTt7]
      by_cases hq0:q=0
      ·subst hq0
       have hn0:(0:Nat)∉root::bs3.flatten:=fun hm0=>by
        rcases List.mem_cons.1 hm0 with h9|h9
        ·have:=h4.ix.rt.1;omega
        ·obtain⟨b2,hb2,hm2⟩:=List.mem_flatten.1 h9
         exact h4.ix.ne0 hb2 hm2 rfl
       rw[h4.t0];simp[hn0]
      ·cases hTq:T3 q with
       |false=>simp[hq0]
       |true=>
        have hm1:q∈root::bs3.flatten:=by
         rcases h4.only q hTq with h9|h9|h9
         ·exact absurd h9 hq0
         ·rw[h9];simp
         ·simp[h9]
        simp[hm1,hq0]
     subst hT70
     repeat' first|((with_reducible first|apply cs|apply ws)<;>intro h<;>try simp only[h])|simp only[↓wBA,tXy,convA,seval,wH,wHl,bne_self_eq_false]
     have hcn1:cnt (fun n=>n==0) 1100=1:=cnt_one 1100 (by omega)
     refine awp_loopS (X:={ x:Nat×Nat // (x.2=0∧x.1≤1099)∨(x.2=20∧x.1=1100) }) (fun x=>1101 - x.1.1) (fun x=>[(6,intV .i64 (x.1.2:Nat)),(20,intV .i64 (x.1.1:Nat))]) [159,160,161,162,163,164,165,166,167] (fun x w=>s7.length≤w.length∧∃ U P v T,Bt w s3.length p dd lg kh U P v∧P.pages=1100∧Tk (v 0) 1100 T∧T 0=true∧(x.1.2=0→cnt T 1100=1+x.1.1)∧Bud P 50000000) (⟨(0,0),by omega⟩) ?_ ?_ ?_ ?_
     ·simp only[wHl,wHf]
     ·exact⟨Nat.le_refl _,U7,P7,v7,_,h7,hpg7,hT7,rfl,fun _=>hcn1,hb7⟩
     ·rintro _ _ ⟨h,_⟩;exact h
     ·intro y J5 w hI5
      clear h4 hb4 h7 hb7 hT7 hTt7
      simp only[wHl]
      obtain⟨⟨fr,er⟩,hx⟩:=y
      obtain⟨hwl,U8,P8,v8,T8,h8,hpg8,hT8,h80,hcn8,hb8⟩:=hI5
      dsimp only at*
      have hwr:=wI fr (by omega)
      have hx':(er=0∧fr≤1099)∨(er=20∧fr=1100):=hx
      rcases hx' with⟨rfl,hfr⟩|⟨rfl,rfl⟩
      ·have hcn:=hcn8 rfl
       have c0y:((0:Nat):Int)=0:=rfl
       repeat' first|((with_reducible first|apply cs|apply ws)<;>intro h<;>try simp only[h])|simp only[↓wBA,tXy,convA,seval,wH,wHl,c0y,beq_self_eq_true]
       refine (abAlloc (T:=T8) h8 (by rw[hpg8];exact hT8) (by rw[hpg8];omega) (by rw[hpg8];omega) h80 (hb8.mono (by omega))).mono ?_
       rintro _ s9 ⟨U9,P9,v9,f9,h9,k9,hc9⟩
       have l9:=f9.len
       have hpg9:P9.pages=1100:=k9.pages.trans hpg8
       have hb9:=hb8.kp0 k9
       rw[hpg8]at hc9
       rcases hc9 with⟨nn,n1,n2,hTn,rfl,_,_,hT9⟩|⟨hall,rfl,rfl⟩
       ·have hc2:=cnt_true hTn 1100 n2
        have hc3:=cnt_le (updT T8 nn true) 1100
        have h90:updT T8 nn true 0=true:=by unfold updT;rw[if_neg (by omega)];exact h80
        repeat' first|((with_reducible first|apply cs|apply ws)<;>intro h<;>try simp only[h])|simp only[↓wBA,tXy,convA,seval,wH,wHl,hwr]
        exact⟨⟨(fr+1,0),.inl ⟨rfl,by omega⟩⟩,by show 1101 - (fr+1)<1101 - fr;omega,⟨by omega,U9,P9,v9,_,h9,hpg9,hT9,h90,fun _=>by show cnt (updT T8 nn true) 1100=1+(fr+1);omega,hb9⟩,by simp only[wHl,wHf,c0y]⟩
       ·have hc2:=cnt_all 1100 hall
        obtain rfl:fr=1099:=by omega
        have c20:((20:Nat):Int)=20:=rfl
        repeat' first|((with_reducible first|apply cs|apply ws)<;>intro h<;>try simp only[h])|simp only[↓wBA,tXy,convA,seval,wH,wHl,hwr]
        exact⟨⟨(1100,20),.inr ⟨rfl,rfl⟩⟩,by show 1101 - 1100<1101 - 1099;omega,⟨by omega,U9,P9,_,T8,h9,hpg9,hT8,h80,fun h=>(by cases h),hb9⟩,by simp only[wHl,wHf,c20,show IntKind.i64.wrap 1100=1100 from by decide,show ((1100:Nat):Int)=1100 from rfl]⟩
      ·have c20:((20:Nat):Int)=20:=rfl
       have c11:((1100:Nat):Int)=1100:=rfl
       repeat' first|((with_reducible first|apply cs|apply ws)<;>intro h<;>try simp only[h])|simp only[↓wBA,tXy,convA,seval,wH,wHl,c20,c11]
       refine (axmakeN _).mono ?_
       rintro _ s9 ⟨a9,rfl⟩
       have l9:=a9.len
       repeat' first|((with_reducible first|apply cs|apply ws)<;>intro h<;>try simp only[h])|simp only[↓wBA,tXy,convA,seval,wH,wHl,beq_self_eq_true]
       refine (axinsN _).mono ?_
       rintro _ s10 ⟨a10,rfl⟩
       have l10:=a10.len
       repeat' first|((with_reducible first|apply cs|apply ws)<;>intro h<;>try simp only[h])|simp only[↓wBA,tXy,convA,seval,wH,wHl,beq_self_eq_true]
       all_goals refine ret_st ?_ (by first|exact Nat.le_refl _|(simp only[length_set,length_append];omega)|omega)
       all_goals simp only[resA.eq_1,resL.eq_1,resL.eq_2,resV.eq_1,resV.eq_2,↓wBA,tXy,convA,seval,wH]
theorem u8_wf {c:Int}(hw:(Lit.int .u8 c).wf=true):∃ n:Nat,c=n∧n<256:=by
 have hb:0≤c∧c≤255:=by
  simp[Lit.wf,IntKind.min,IntKind.max,IntKind.signed,IntKind.bits]at hw
  omega
 exact⟨c.toNat,by omega,by omega⟩
theorem limits_law (c d e:Int)(W:World)(hw:(Lit.int .u8 c).wf=true):Calls Tryz.prog 5 #[.int .u8 c,.int .i64 d,.int .i64 e] W fun e W'=>e= .returned (.bool true)∧Below W.heap.size W W':=by
 obtain⟨n,rfl,hn⟩:=u8_wf hw
 exact law_calls2 (W:=W) (vs:=[.int .u8 (n:Nat),.int .i64 d,.int .i64 e]) (ahashLimits n hn d e []) (by
  simp only[ARepL]
  exact⟨_,_,rfl,rep_mk rfl,_,_,rfl,rep_mk rfl,_,_,rfl,rep_mk rfl,rfl⟩)
theorem fills_law (c d:Int)(W:World)(hw:(Lit.int .u8 c).wf=true)(hw':(Lit.int .u8 d).wf=true):Calls Tryz.prog 4 #[.int .u8 c,.int .u8 d] W fun e W'=>e= .returned (.bool true)∧Below W.heap.size W W':=by
 obtain⟨n,rfl,hn⟩:=u8_wf hw
 obtain⟨k,rfl,hk⟩:=u8_wf hw'
 exact law_calls2 (W:=W) (vs:=[.int .u8 (n:Nat),.int .u8 (k:Nat)]) (ahashFills n k hn hk []) (by
  simp only[ARepL]
  exact⟨_,_,rfl,rep_mk rfl,_,_,rfl,rep_mk rfl,rfl⟩)
end Go.Proofs.YthhbnenaihkggaaGreat
