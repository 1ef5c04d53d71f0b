/- Logs: an empty one is opened. Logs: one that has records is opened. -/
import Derived.Test.YtockimhceppkbaaGreatM19
set_option linter.unusedSimpArgs false
set_option linter.unusedVariables false
set_option linter.defProp false
set_option maxRecDepth 100000
set_option maxHeartbeats 32000000
namespace Go.Proofs.YtockimhceppkbaaGreat
open Go.RowKit
def pl27_12Wo:Plan:=(.det 0 (.det 2 (.two 1 (.two 3 (.det 4 (.fin 5 (.fin 6 .done))) 5 (.fin 3 (.det 4 (.fin 6 .done)))) 5 (.fin 1 (.fin 3 (.det 4 (.fin 6 .done)))))))
def pl27_13Wo:Plan:=(.det 0 (.det 1 (.det 2 (.det 3 (.det 4 (.det 5 (.det 6 (.det 7 .done))))))))
def pl27_16Wo:Plan:=(.det 0 (.det 1 (.det 2 (.det 3 (.det 5 (.two 4 (.act 6 (.det 7 (.det 8 .done))) 6 (.det 7 (.act 4 (.det 8 .done)))))))))
def pl27_19Wo:Plan:=(.det 0 (.det 1 (.det 2 (.det 3 (.det 4 (.det 5 (.det 6 (.det 7 (.det 8 (.det 9 (.det 10 (.det 11 .done))))))))))))
def pl27_24Wo:Plan:=(.det 0 (.det 1 (.det 2 (.det 3 (.det 4 (.det 5 (.fin 6 (.det 7 (.det 8 (.fin 9 .done))))))))))
def pl27_25Wo:Plan:=(.det 0 (.det 1 (.det 2 (.det 3 (.det 4 (.det 5 (.det 6 (.det 7 (.det 8 (.det 9 (.det 10 (.det 11 (.det 12 (.fin 13 .done))))))))))))))
def tWo:=aa wX <| aa wbu <| aa T3 <| aa T4 <| aa T22 <| aa T25 <| aa T28 <| aa T35 <| aa T66 <| aa T116 <| aa T118 <| aa T120 T122
theorem anumberS {σ:St}{t e:Nat}(s:List UInt8)(o n:Nat)(ht:σ[t]? =some (some (.row e [pageC s])))(hn:n≤8)(ho:o+n≤s.length):
 ACalls Tryz.prog 56 [.bs t e 0 o n] σ fun r σ'=>σ'=σ∧r= .p (.v (.int .u64 (numB ((s.drop o).take n):Nat))):=by
 have hl:((s.drop o).take n).length=n:=by simp;omega
 have:=anumber (o:=o) ((s.drop o).take n) ht (by omega) (fun i hi=>by
  have h1:o+i<s.length:=by omega
  simp only[pageC,List.getElem?_map,List.getElem?_eq_getElem h1,Option.map_some,List.getElem_take,List.getElem_drop])
 rw[hl]at this
 exact this
theorem arecs0 (σ:St):ACalls Tryz.prog 58 [.p (.v (.slice none 0 0))] σ fun r σ'=>σ'=σ∧r= .tup [.p (.v (.slice none 0 0)),boolV true]:=by
 refine acalls_of cx_ok dr_ok Tryz.func58 (by kernel_rfl) rfl (nt:=37) (rs:=[.tmp 2,.tmp 3]) rfl rfl ?_
 repeat' first|((with_reducible first|apply cs|apply ws)<;>intro h<;>try simp only[h])|simp only[↓wBA,tWo,convA,seval,wH]
 refine awp_loopS (X:=Nat) (fun i=>0) (fun i=>[(0,.p (.v (.slice none 0 0))),(4,.p (.v (.slice none 0 0)))]) [2,3,5,6,7,8,9,10,11,12,13,14,15,16,17,18,19,20,21,22,23,24,25,26,27,28,29,30,31,32,33,34,35,36] (fun i s=>s=σ) (0) ?_ ?_ ?_ ?_
 ·simp only[wHl,wHf]
 ·rfl
 ·rintro _ _ rfl;exact Nat.le_refl _
 ·intro x J s hI
  simp only[wHl]
  subst hI
  repeat' first|((with_reducible first|apply cs|apply ws)<;>intro h<;>try simp only[h])|simp only[↓wBA,tWo,convA,seval,wH,wHl]
  all_goals refine ret_st ?_ (by first|exact Nat.le_refl _|(simp only[List.length_set,List.length_append];omega)|omega)
  all_goals simp only[resA.eq_1,resL.eq_1,resL.eq_2,resV.eq_1,resV.eq_2,↓wBA,tWo,convA,seval,wH]
def hdN (m:List (Nat×List UInt8)):Nat→Nat×Nat
 |0=>(0,0)
 |1=>if 0<(headB (secAt m 0)).1 then headB (secAt m 0)else (0,0)
 |_=>headD m
theorem hdN_succ (m:List (Nat×List UInt8))(i:Nat)(hi:i<2):hdN m (i+1)=if (hdN m i).1<(headB (secAt m i)).1 then headB (secAt m i)else hdN m i:=by
 match i,hi with
 |0,_=>rfl
 |1,_=>rfl
theorem awopen {σ:St}{d:Nat}{F:Nat→Prop}{D:DiskV}(h:DiskAt σ d F D)(hz:3≤D.size)(c:Nat)(hh:Heads D.now c 0)(hs:∀ k,(secAt D.now k).length=64)(hw:D.wait=[]):
 ACalls Tryz.prog 27 [.mp d 6 0 0] σ fun r σ'=>r= .tup [.mp σ.length 5 0 0,.p (.v (.slice none 0 0)),intV .i64 0]∧Ap σ σ'∧LogAt σ' σ.length (fun t=>t=σ.length∨F t) { d:=d,disk:=D,ctr:=c,len:=0,str:=[],wait:=0 }:=by
 have hsz:=adsize h
 have hb2:D.size≤65536:=by obtain⟨kn,kk,w',a',es,hd,hF⟩:=h;exact hd.big
 have e0:decide ((D.size:Int)<3)=false:=by simp;omega
 refine acalls_of cx_ok dr_ok Tryz.func27 (by kernel_rfl) rfl (nt:=120) (rs:=[.tmp 2,.tmp 3,.tmp 4]) rfl rfl ?_
 repeat' first|((with_reducible first|apply cs|apply ws|apply wd|apply wu)<;>intro h<;>try simp only[h])|simp only[↓wBA,tWo,convA,seval,pl27_12Wo,pl27_13Wo,pl27_16Wo,pl27_19Wo,pl27_24Wo,pl27_25Wo,wH,e0]|((with_reducible show ACalls _ _ _ _ _);refine hsz.eq ?_)|(with_reducible first|refine dQ pl27_12Wo 7 (some 37) ?_|refine dQ pl27_13Wo 8 (some 42) ?_|refine dQ pl27_16Wo 9 (some 55) ?_|refine dQ pl27_19Wo 12 (some 64) ?_|refine dQ pl27_24Wo 10 (some 87) ?_|refine dQ pl27_25Wo 14 (some 96) ?_)|with_reducible refine And.intro ?_ ?_
 refine awp_loopS (X:={ i:Nat // i≤2 }) (fun i=>2 - i.1) (fun i=>[(25,intV .i64 (i.1:Nat))]) [2,3,4,6,7,8,9,26,27,28,29,30,31,32,33,34,35,36,37,38,39,40,41,42,43,44,45,46,47,48,49,50,51,52,53,54] (fun i s=>Ap σ s∧s[σ.length]? =some (some (.row 5 [[.mp d 6 0 0,.p (.v (.int .u64 ((hdN D.now i.1).1:Nat))),.p (.v (.int .u64 ((hdN D.now i.1).2:Nat))),.p (.v (.slice none 0 0)),intV .i64 0]]))) (⟨0,by omega⟩) ?_ ?_ ?_ ?_
 ·simp only[wHl,wHf]
 ·exact⟨Ap.app _ _,by simp only[wH,wHe,hdN,cz]⟩
 ·rintro _ _ ⟨_,hl⟩;have:=at_lt hl;simp;omega
 ·intro x J s hI
  simp only[wHl]
  obtain⟨i,hi⟩:=x
  obtain⟨ha,hl⟩:=hI
  dsimp only at*
  have l0:=at_lt hl
  by_cases hlt:i<2
  ·have hdec:decide ((i:Int)<2)=true:=by simp;omega
   have hw1:=wI i (by omega)
   repeat' first|((with_reducible first|apply cs|apply ws|apply wd|apply wu)<;>intro h<;>try simp only[h])|simp only[↓wBA,tWo,convA,seval,pl27_12Wo,pl27_13Wo,pl27_16Wo,pl27_19Wo,pl27_24Wo,pl27_25Wo,wH,wHl,hl,l0,hdec]|(with_reducible first|refine dQ pl27_12Wo 7 (some 37) ?_|refine dQ pl27_13Wo 8 (some 42) ?_|refine dQ pl27_16Wo 9 (some 55) ?_|refine dQ pl27_19Wo 12 (some 64) ?_|refine dQ pl27_24Wo 10 (some 87) ?_|refine dQ pl27_25Wo 14 (some 96) ?_)|with_reducible refine And.intro ?_ ?_
   refine (adread (h.ap ha) i (by omega) (hs i)).mono ?_
   rintro _ s1 ⟨ha1,rfl⟩
   have hl1:=ha1.get hl
   have l1:=at_lt hl1
   have ha2:=ha.trans ha1
   have q64:=pageC_64 (hs i)
   have e64:=pageC_64 len_zero64
   have q1:numB (List.take 8 (secAt D.now i))=(headB (secAt D.now i)).1:=rfl
   have q2:numB (List.take 4 (List.drop 8 (secAt D.now i)))=(headB (secAt D.now i)).2:=rfl
   have n0:(σ.length=s1.length)=False:=nf (by omega)
   have n1:(s1.length=σ.length)=False:=nf (by omega)
   by_cases hgt:(hdN D.now i).1<(headB (secAt D.now i)).1
   ·have hd2:decide (((headB (secAt D.now i)).1:Int)>((hdN D.now i).1:Int))=true:=by simp;omega
    repeat' first|((with_reducible first|apply cs|apply ws|apply wd|apply wu)<;>intro h<;>try simp only[h])|simp only[↓wBA,tWo,convA,seval,pl27_12Wo,pl27_13Wo,pl27_16Wo,pl27_19Wo,pl27_24Wo,pl27_25Wo,wH,wHl,hl1,l1,q64,zB_64,boundA,n0,n1,q1,q2,hd2,hw1,pageA,e64]|((with_reducible show ACalls _ _ _ _ _);first|(refine (anumberS (secAt D.now i) 0 8 (by simp only[wH,wHe,Nat.reduceAdd,Nat.reduceLT]) (by omega) (by rw[hs];omega)).eq ?_)|(refine (anumberS (secAt D.now i) 8 4 (by simp only[wH,wHe,Nat.reduceAdd,Nat.reduceLT]) (by omega) (by rw[hs];omega)).eq ?_))|(with_reducible first|refine dQ pl27_12Wo 7 (some 37) ?_|refine dQ pl27_13Wo 8 (some 42) ?_|refine dQ pl27_16Wo 9 (some 55) ?_|refine dQ pl27_19Wo 12 (some 64) ?_|refine dQ pl27_24Wo 10 (some 87) ?_|refine dQ pl27_25Wo 14 (some 96) ?_)|with_reducible refine And.intro ?_ ?_
    all_goals exact⟨⟨i+1,by omega⟩,by show 2 - (i+1)<2 - i;omega,⟨((ha2.set (Nat.le_refl _) _).more _).more _,by simp only[hdN_succ D.now i hlt,if_pos hgt]⟩,rfl⟩
   ·have hd2:decide (((headB (secAt D.now i)).1:Int)>((hdN D.now i).1:Int))=false:=by simp;omega
    repeat' first|((with_reducible first|apply cs|apply ws|apply wd|apply wu)<;>intro h<;>try simp only[h])|simp only[↓wBA,tWo,convA,seval,pl27_12Wo,pl27_13Wo,pl27_16Wo,pl27_19Wo,pl27_24Wo,pl27_25Wo,wH,wHl,hl1,l1,q64,zB_64,boundA,n0,n1,q1,q2,hd2,hw1,pageA,e64]|((with_reducible show ACalls _ _ _ _ _);first|(refine (anumberS (secAt D.now i) 0 8 (by simp only[wH,wHe,Nat.reduceAdd,Nat.reduceLT]) (by omega) (by rw[hs];omega)).eq ?_)|(refine (anumberS (secAt D.now i) 8 4 (by simp only[wH,wHe,Nat.reduceAdd,Nat.reduceLT]) (by omega) (by rw[hs];omega)).eq ?_))|(with_reducible first|refine dQ pl27_12Wo 7 (some 37) ?_|refine dQ pl27_13Wo 8 (some 42) ?_|refine dQ pl27_16Wo 9 (some 55) ?_|refine dQ pl27_19Wo 12 (some 64) ?_|refine dQ pl27_24Wo 10 (some 87) ?_|refine dQ pl27_25Wo 14 (some 96) ?_)|with_reducible refine And.intro ?_ ?_
    all_goals exact⟨⟨i+1,by omega⟩,by show 2 - (i+1)<2 - i;omega,⟨(ha2.more _).more _,by simp only[hdN_succ D.now i hlt,if_neg hgt]⟩,rfl⟩
  ·have he:i=2:=by omega
   subst he
   have hL:LogAt s σ.length (fun t=>t=σ.length∨F t) { d:=d,disk:=D,ctr:=c,len:=0,str:=[],wait:=0 }:=by
    have e1:hdN D.now 2=(c,0):=hh.says
    rw[e1]at hl
    exact⟨d,F,none,_,⟨hl,h.ap ha,.inl ⟨rfl,rfl,rfl⟩,fun hF=>Nat.lt_irrefl _ (h.lt _ hF),fun t ht=>(by cases ht),hz,by simp,Nat.le_refl _,hh,hs,hw,rfl,fun k hk=>absurd hk (Nat.not_lt_zero _),fun _=>rfl⟩,fun t=>by simp⟩
   have hr:=awroom hL
   have e1:hdN D.now 2=(c,0):=hh.says
   rw[e1]at hl
   have u1:IntKind.u64.wrap (((D.size - 2)*64:Nat):Int)=(((D.size - 2)*64:Nat):Int):=IntKind.wrap_u64 _▸(by omega)
   have u2:decide ((0:Int)>(((D.size - 2)*64:Nat):Int))=false:=by simp only[decide_eq_false_iff_not];omega
   repeat' first|((with_reducible first|apply cs|apply ws|apply wd|apply wu)<;>intro h<;>try simp only[h])|simp only[↓wBA,tWo,convA,seval,pl27_12Wo,pl27_13Wo,pl27_16Wo,pl27_19Wo,pl27_24Wo,pl27_25Wo,wH,wHl,hl,l0,cz,u1,u2]|((with_reducible show ACalls _ _ _ _ _);refine hr.eq ?_)|(with_reducible first|refine dQ pl27_12Wo 7 (some 37) ?_|refine dQ pl27_13Wo 8 (some 42) ?_|refine dQ pl27_16Wo 9 (some 55) ?_|refine dQ pl27_19Wo 12 (some 64) ?_|refine dQ pl27_24Wo 10 (some 87) ?_|refine dQ pl27_25Wo 14 (some 96) ?_)|with_reducible refine And.intro ?_ ?_
   all_goals
    refine awp_loopS (X:=Nat) (fun i=>0) (fun i=>[(10,intV .i64 2)]) [2,3,4,11,12,64,65,66,67,68,69,70,71,72,73,74,75,76,77,78,79,80,81,82,83,84,85,86,87,88,89,90,91,92,93,94,95] (fun i q=>q=s) (0) ?_ ?_ ?_ ?_
    ·simp only[wHl,wHf]
    ·rfl
    ·rintro _ _ rfl;exact Nat.le_refl _
    ·intro x J' q hI
     simp only[wHl]
     subst hI
     have u3:IntKind.i64.wrap 0=0:=wz0
     repeat' first|((with_reducible first|apply cs|apply ws|apply wd|apply wu)<;>intro h<;>try simp only[h])|simp only[↓wBA,tWo,convA,seval,pl27_12Wo,pl27_13Wo,pl27_16Wo,pl27_19Wo,pl27_24Wo,pl27_25Wo,wH,wHl,hl,l0,cz,u3,boundA,sliceA,elemsA]|((with_reducible show ACalls _ _ _ _ _);refine (arecs0 _).eq ?_)|(with_reducible first|refine dQ pl27_12Wo 7 (some 37) ?_|refine dQ pl27_13Wo 8 (some 42) ?_|refine dQ pl27_16Wo 9 (some 55) ?_|refine dQ pl27_19Wo 12 (some 64) ?_|refine dQ pl27_24Wo 10 (some 87) ?_|refine dQ pl27_25Wo 14 (some 96) ?_)|with_reducible refine And.intro ?_ ?_
     all_goals refine ret_st ?_ (by first|exact Nat.le_refl _|(simp only[List.length_set,List.length_append];omega)|omega)
     all_goals simp only[resA.eq_1,resL.eq_1,resL.eq_2,resV.eq_1,resV.eq_2,↓wBA,tWo,convA,seval,wH]
     all_goals exact⟨ha,hL⟩
end Go.Proofs.YtockimhceppkbaaGreat
