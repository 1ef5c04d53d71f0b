/- Logs: an empty one is opened. Logs: one that has records is opened. -/
import Derived.Test.YtpoigihfeehehaaGreatDoorM22
set_option linter.all false
set_option maxRecDepth 100000
set_option maxHeartbeats 32000000
namespace Go.Proofs.YtpoigihfeehehaaGreatDoor
open Go.RowKit
def Ks:Cq:=(.det 0 (.det 2 (.two 1 (.two 3 (.det 4 (.fin 5 (.fin 6 .done))) 5 (.fin 3 (.det 4 (.fin 6 .done)))) 5 (.fin 1 (.fin 3 (.det 4 (.fin 6 .done)))))))
def Kt:Cq:=(.det 0 (.det 1 (.det 2 (.det 3 (.det 4 (.det 5 (.det 6 (.det 7 .done))))))))
def Xg:Cq:=(.det 0 (.det 1 (.det 2 (.det 3 (.det 5 (.two 4 (.act 6 (.det 7 (.det 8 .done))) 6 (.det 7 (.act 4 (.det 8 .done)))))))))
def Xh:Cq:=(.det 0 (.det 1 (.det 2 (.det 3 (.det 4 (.det 5 (.det 6 (.det 7 (.det 8 (.det 9 (.det 10 (.det 11 .done))))))))))))
def Xi:Cq:=(.det 0 (.det 1 (.det 2 (.det 3 (.det 4 (.det 5 (.det 6 (.det 7 (.det 8 (.det 9 (.det 10 (.det 11 (.det 12 (.fin 13 .done))))))))))))))
def tWo:=aa wX <| aa wbu <| aa T3 <| aa T4 <| aa T29 <| aa T32 <| aa T70 <| aa T80 <| aa T81 <| aa T137 <| aa T140 <| aa T142 T144
theorem N7 {σ:St}{t e:Nat}(s:List UInt8)(o n:Nat)(ht:σ[t]? =some (some (.row e [Aq s])))(hn:n≤8)(ho:o+n≤s.length):
 Aa Tryz.prog 61 [.bs t e 0 o n] σ fun r σ'=>σ'=σ∧r= .p (.v (.int .u64 (Ja ((s.drop o).take n):Nat))):=by
 have hl:((s.drop o).take n).length=n:=by simp;omega
 have:=Apy (o:=o) ((s.drop o).take n) ht (by omega) (fun i hi=>by
  have h1:o+i<s.length:=by omega
  simp only[Aq,QR,QN h1,XR,List.getElem_take,List.getElem_drop])
 rw[hl]at this
 exact this
theorem Avm (σ:St):Aa Tryz.prog 63 [.p (.v (.slice none 0 0))] σ fun r σ'=>σ'=σ∧r= .tup [.p (.v (.slice none 0 0)),Av true]:=by
 refine Ab Am An Tryz.func63 (by kernel_rfl) rfl (nt:=37) (rs:=[.tmp 2,.tmp 3]) rfl rfl ?_
 repeat' simp only[↓wBA,tWo,seval]
 refine Ar (X:=Nat) (fun i=>0) (fun i=>[(0,.p (.v (.slice none 0 0))),(4,.p (.v (.slice none 0 0)))]) [2,3,5,6,7,8,9,10,11,12,13,14,15,16,17,18,19,20,21,22,23,24,25,26,27,28,29,30,31,32,33,34,35,36] (fun i s=>s=σ) (0) ?_ ?_ ?_ ?_
 ·simp only[wHl,wHf]
 ·rfl
 ·rintro _ _ rfl;exact QH _
 ·intro x J s hI
  simp only[wHl]
  subst hI
  repeat' simp only[↓wBA,tWo,seval,wHl]
  all_goals refine rtS ?_
  all_goals simp only[wRe,tWo,seval]
def hdN (m:List (Nat×List UInt8)):Nat→Nat×Nat
 |0=>(0,0)
 |1=>if 0<(Ga (A3 m 0)).1 then Ga (A3 m 0)else (0,0)
 |_=>Ae1 m
theorem Ab3 (m:List (Nat×List UInt8))(i:Nat)(hi:i<2):hdN m (i+1)=if (hdN m i).1<(Ga (A3 m i)).1 then Ga (A3 m i)else hdN m i:=by
 match i,hi with
 |0,_=>rfl
 |1,_=>rfl
theorem Avn {σ:St}{d:Nat}{F:Nat→Prop}{D:F9}(h:Bf σ d F D)(hz:3≤D.size)(c:Nat)(hh:Nu D.now c 0)(hs:∀ k,(A3 D.now k).length=64)(hw:D.wait=[]):
 Aa Tryz.prog 28 [.mp d 6 0 0] σ fun r σ'=>r= .tup [.mp σ.length 5 0 0,.p (.v (.slice none 0 0)),Ad .i64 0]∧Ap σ σ'∧Er σ' σ.length (fun t=>t=σ.length∨F t) { d:=d,disk:=D,ctr:=c,len:=0,str:=[],wait:=0 }:=by
 have hsz:=Abz h
 have hb2:D.size≤65536:=by obtain⟨kn,kk,w',a',es,hd,hF⟩:=h;exact hd.big
 have e0:decide ((D.size:Int)<3)=false:=by simp;omega
 refine Ab Am An Tryz.func28 (by kernel_rfl) rfl (nt:=120) (rs:=[.tmp 2,.tmp 3,.tmp 4]) rfl rfl ?_
 repeat' first|simp only[↓wBA,tWo,seval,wH,e0]|((with_reducible show Aa _ _ _ _ _);refine hsz.eq ?_)|with_reducible refine And.intro ?_ ?_
 refine Ar (X:={ i:Nat // i≤2 }) (fun i=>2 - i.1) (fun i=>[(25,Ad .i64 (i.1:Nat))]) [2,3,4,6,7,8,9,26,27,28,29,30,31,32,33,34,35,36,37,38,39,40,41,42,43,44,45,46,47,48,49,50,51,52,53,54] (fun i s=>Ap σ s∧s[σ.length]? =some (some (.row 5 [[.mp d 6 0 0,.p (.v (.int .u64 ((hdN D.now i.1).1:Nat))),.p (.v (.int .u64 ((hdN D.now i.1).2:Nat))),.p (.v (.slice none 0 0)),Ad .i64 0]]))) (⟨0,by omega⟩) ?_ ?_ ?_ ?_
 ·simp only[wHl,wHf]
 ·exact⟨Ap.app _ _,by simp only[wH,wHe,hdN,cz]⟩
 ·rintro _ _ ⟨_,hl⟩;have:=Ac hl;simp;omega
 ·intro x J s hI
  simp only[wHl]
  obtain⟨i,hi⟩:=x
  obtain⟨ha,hl⟩:=hI
  dsimp only at*
  have l0:=Ac hl
  by_cases hlt:i<2
  ·have hdec:decide ((i:Int)<2)=true:=by simp;omega
   have hw1:=wI i (by omega)
   repeat' first|simp only[↓wBA,tWo,seval,wHl,hdec]|with_reducible refine And.intro ?_ ?_
   refine (Aoi (h.ap ha) i (by omega) (hs i)).mono ?_
   rintro _ s1 ⟨ha1,rfl⟩
   have hl1:=ha1.get hl
   have l1:=Ac hl1
   have ha2:=ha.trans ha1
   have q64:=Eb (hs i)
   have e64:=Eb Ew
   have q1:Ja (List.take 8 (A3 D.now i))=(Ga (A3 D.now i)).1:=rfl
   have q2:Ja (List.take 4 (List.drop 8 (A3 D.now i)))=(Ga (A3 D.now i)).2:=rfl
   have n0:(σ.length=s1.length)=False:=nf (by omega)
   have n1:(s1.length=σ.length)=False:=nf (by omega)
   by_cases hgt:(hdN D.now i).1<(Ga (A3 D.now i)).1
   ·have hd2:decide (((Ga (A3 D.now i)).1:Int)>((hdN D.now i).1:Int))=true:=by simp;omega
    repeat' first|simp only[↓wBA,tWo,seval,Ks,Kt,wH,wHl,hl1,l1,q64,Z3,Bh,q1,q2,hd2,hw1,A6,e64]|((with_reducible show Aa _ _ _ _ _);first|(refine (N7 (A3 D.now i) 0 8 (by simp only[wH,wHe,Nat.reduceLT]) (by omega) (by rw[hs];omega)).eq ?_)|(refine (N7 (A3 D.now i) 8 4 (by simp only[wH,wHe,Nat.reduceLT]) (by omega) (by rw[hs];omega)).eq ?_))|(with_reducible first|refine dQ Ks 7 (some 37) ?_|refine dQ Kt 8 (some 42) ?_)|with_reducible refine And.intro ?_ ?_
    all_goals exact⟨⟨i+1,by omega⟩,by show 2 - (i+1)<2 - i;omega,⟨((ha2.set (QH _) _).more _).more _,by simp only[Ab3 D.now i hlt,if_pos hgt]⟩,rfl⟩
   ·have hd2:decide (((Ga (A3 D.now i)).1:Int)>((hdN D.now i).1:Int))=false:=by simp;omega
    repeat' first|simp only[↓wBA,tWo,seval,Ks,Kt,wH,wHl,hl1,l1,q64,Z3,Bh,q1,q2,hd2,hw1,A6,e64]|((with_reducible show Aa _ _ _ _ _);first|(refine (N7 (A3 D.now i) 0 8 (by simp only[wH,wHe,Nat.reduceLT]) (by omega) (by rw[hs];omega)).eq ?_)|(refine (N7 (A3 D.now i) 8 4 (by simp only[wH,wHe,Nat.reduceLT]) (by omega) (by rw[hs];omega)).eq ?_))|(with_reducible first|refine dQ Ks 7 (some 37) ?_|refine dQ Kt 8 (some 42) ?_)|with_reducible refine And.intro ?_ ?_
    all_goals exact⟨⟨i+1,by omega⟩,by show 2 - (i+1)<2 - i;omega,⟨(ha2.more _).more _,by simp only[Ab3 D.now i hlt,if_neg hgt]⟩,rfl⟩
  ·have he:i=2:=by omega
   subst he
   have hL:Er s σ.length (fun t=>t=σ.length∨F t) { d:=d,disk:=D,ctr:=c,len:=0,str:=[],wait:=0 }:=by
    have e1:hdN D.now 2=(c,0):=hh.says
    rw[e1]at hl
    exact⟨d,F,none,_,⟨hl,h.ap ha,.inl ⟨rfl,rfl,rfl⟩,fun hF=>ZJ _ (h.lt _ hF),fun t ht=>(by cases ht),hz,by simp,QH _,hh,hs,hw,rfl,fun k hk=>absurd hk (VF _),fun _=>rfl⟩,fun t=>by simp⟩
   have hr:=Avj hL
   have e1:hdN D.now 2=(c,0):=hh.says
   rw[e1]at hl
   have u1:IntKind.u64.wrap (((D.size - 2)*64:Nat):Int)=(((D.size - 2)*64:Nat):Int):=IntKind.wrap_u64 _▸(by omega)
   have u2:decide ((0:Int)>(((D.size - 2)*64:Nat):Int))=false:=by simp only[decide_eq_false_iff_not];omega
   repeat' first|simp only[↓wBA,tWo,Cv,seval,Xg,wHl,hl,cz,u1,u2]|((with_reducible show Aa _ _ _ _ _);refine hr.eq ?_)|(with_reducible refine dQ Xg 9 (some 55) ?_)|with_reducible refine And.intro ?_ ?_
   all_goals
    refine Ar (X:=Nat) (fun i=>0) (fun i=>[(10,Ad .i64 2)]) [2,3,4,11,12,64,65,66,67,68,69,70,71,72,73,74,75,76,77,78,79,80,81,82,83,84,85,86,87,88,89,90,91,92,93,94,95] (fun i q=>q=s) (0) ?_ ?_ ?_ ?_
    ·simp only[wHl,wHf]
    ·rfl
    ·rintro _ _ rfl;exact QH _
    ·intro x J' q hI
     simp only[wHl]
     subst hI
     have u3:IntKind.i64.wrap 0=0:=wz0
     repeat' first|simp only[↓wBA,tWo,Cv,seval,Xh,Xi,wH,wHl,hl,cz,u3,Bh,Bl,Bp]|((with_reducible show Aa _ _ _ _ _);refine (Avm _).eq ?_)|(with_reducible first|refine dQ Xh 12 (some 64) ?_|refine dQ Xi 14 (some 96) ?_)|with_reducible refine And.intro ?_ ?_
     all_goals refine rtS ?_
     all_goals simp only[wRe,tWo,seval]
     all_goals exact⟨ha,hL⟩
