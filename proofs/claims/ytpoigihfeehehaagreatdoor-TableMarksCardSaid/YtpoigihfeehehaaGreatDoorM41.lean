/- How numbers are compared, as the world sees it. How versions are compared, as the world sees it. Expressions as trees, and their cells. Values, rows, and what expressions come to over a row, as the program reckons it. Small functions of values and of expressions. A number's bytes, the lowest first. Values written. Do values fit into a record? Values' bytes, as lists of bytes. Values are read. -/
import Derived.Test.YtpoigihfeehehaaGreatDoorM15
import Derived.Sort.Grow
import Derived.Lib.Small
import Derived.StillTailTactics
import Derived.Test.YtpoigihfeehehaaGreatDoorM19
import Derived.Test.YtpoigihfeehehaaGreatDoorM14
import Derived.Test.YtpoigihfeehehaaGreatDoorM20
import Derived.Lib.Replace
import Derived.Test.YtpoigihfeehehaaGreatDoorM22
set_option linter.all false
set_option maxRecDepth 100000
set_option maxHeartbeats 32000000
namespace Go.Proofs.YtpoigihfeehehaaGreatDoor
open Go.RowKit Go.Sort
theorem Awv (x:Int)(w:World):Calls Tryz.prog 142 #[.int .i64 x] w fun e w'=>e= .returned (.bool false)∧w'=w:=by
 go_enter Tryz.func142,Tryz.ntmps142
 go_wp2
 go_ret
 exact⟨by simp,rfl⟩
theorem Ao2 (x y:Int)(w:World):Calls Tryz.prog 95 #[.int .i64 x,.int .i64 y] w fun e w'=>e= .returned (.int .i64 (Lib.compareInt x y))∧w'=w:=by
 go_enter Tryz.func95,Tryz.ntmps95
 go_wp2_with (go_at_call 142;refine (Awv _ _).mono ?_;rintro e w' ⟨rfl,hw⟩;rw[hw])
 all_goals (go_ret;refine⟨?_,rfl⟩;unfold Lib.compareInt;(repeat' split)<;>first|rfl|(exfalso;omega))
theorem A13 (x y:Int)(b c:Nat)(w:World)(h0:w.cell? ⟨b,0,none⟩=some (.int .i64 x))(h1:w.cell? ⟨b,1,none⟩=some (.int .i64 y)):
 Calls Tryz.prog 94 #[.slice (some ⟨b,0,none⟩) (2:Nat) c] w fun e w'=>e= .returned (.int .i64 (if x=0 then y else x))∧w'=w:=by
 have H0:=Lib.hid h0;have H1:=Lib.hid h1;clear h0 h1
 go_enter Tryz.func94,Tryz.ntmps94
 go_wp2
 go_loop [8] (fun i=>∃ k:Nat,k≤2∧i= .int .i64 k∧(1≤k→x=0)∧(2≤k→y=0)) (fun i=>2 - (intOf i).toNat)
 case atStart=>exact⟨0,by omega,rfl,by omega,by omega⟩
 case round=>
  obtain⟨k,hk,rfl,hx,hy⟩:=hrel
  have hk3:k=0∨k=1∨k=2:=by omega
  rcases hk3 with rfl|rfl|rfl
  ·have g0:w.cell? ⟨b,0+0,none⟩=some (.int .i64 x):=H0.out
   by_cases hz:x=0
   ·subst hz
    go_wp2
    go_round
    case rel=>exact⟨1,by omega,by go_num,fun _=>trivial,by omega⟩
    case measure=>simp[intOf]
   ·go_wp2
    go_ret
    exact⟨by simp[],rfl⟩
  ·obtain rfl:x=0:=hx (by omega)
   have g1:w.cell? ⟨b,0+1,none⟩=some (.int .i64 y):=H1.out
   by_cases hz:y=0
   ·subst hz
    go_wp2
    go_round
    case rel=>exact⟨2,by omega,by go_num,fun _=>trivial,fun _=>trivial⟩
    case measure=>simp[intOf]
   ·go_wp2
    go_ret
    exact⟨by simp,rfl⟩
  ·obtain rfl:x=0:=hx (by omega)
   obtain rfl:y=0:=hy (by omega)
   go_wp2
   go_ret
   exact⟨by simp,rfl⟩
end Go.Proofs.YtpoigihfeehehaaGreatDoor
namespace Go.Proofs.YtpoigihfeehehaaGreatDoor
open Go.RowKit Go.Sort
abbrev Amj:={ u:Value // u.oneCell'=true }
instance:Inhabited Amj:=⟨.slice none 0 0,rfl⟩
abbrev VerW:=(Nat×Nat)×(Nat×Nat)×Amj
def encW (x:VerW):List Value:=[.int .i64 (x.1.1:Nat),.int .i64 (x.1.2:Nat),.int .i64 (x.2.1.1:Nat),.int .i64 (x.2.1.2:Nat),x.2.2.1]
def cfW (x y:VerW):Int:=if Lib.compareInt x.1.1 y.1.1=0 then Lib.compareInt x.1.2 y.1.2 else Lib.compareInt x.1.1 y.1.1
theorem Aww (x y:VerW)(W:World):Calls Tryz.prog 93 (#[.agg (encW x).toArray,.agg (encW y).toArray]++ #[]) W fun e w'=>e= .returned (.int .i64 (cfW x y))∧∃ q os',w'=grow (W.drewN q) os':=by
 unfold cfW encW
 generalize (x.1.1:Int)=x1
 generalize (x.1.2:Int)=x2
 generalize (x.2.1.1:Int)=x3
 generalize (x.2.1.2:Int)=x4
 generalize x.2.2.1=x5
 generalize (y.1.1:Int)=y1
 generalize (y.1.2:Int)=y2
 generalize (y.2.1.1:Int)=y3
 generalize (y.2.1.2:Int)=y4
 generalize y.2.2.1=y5
 show Calls Tryz.prog 93 #[.agg #[.int .i64 x1,.int .i64 x2,.int .i64 x3,.int .i64 x4,x5],.agg #[.int .i64 y1,.int .i64 y2,.int .i64 y3,.int .i64 y4,y5]] W _
 have hc1:=fun W'=>Ao2 x1 y1 W'
 have hc2:=fun W'=>Ao2 x2 y2 W'
 generalize Lib.compareInt x1 y1=r1 at*
 generalize Lib.compareInt x2 y2=r2 at*
 generalize hz:(if r1=0 then r2 else r1)=z
 go_enter Tryz.func93,Tryz.ntmps93
 go_wp2
 obtain⟨A,hA⟩:∃ A,A=Obj.cells #[.int .i64 x1,.int .i64 x2,.int .i64 x3,.int .i64 x4,x5] 62:=⟨_,rfl⟩
 obtain⟨B,hB⟩:∃ B,B=Obj.cells #[.int .i64 y1,.int .i64 y2,.int .i64 y3,.int .i64 y4,y5] 62:=⟨_,rfl⟩
 obtain⟨W3,hW3⟩:∃ W3,W3=((W.alloc A).alloc B).drew:=⟨_,rfl⟩
 have g0:W3.heap[W.heap.size]? =some A:=by rw[hW3];exact heap_alloc2_old W A B
 have g1:W3.heap[W.heap.size+1]? =some B:=by rw[hW3];exact heap_alloc2_new W A B
 have c0:W3.cell? ⟨W.heap.size,0,none⟩=some (.int .i64 x1):=by rw[hA]at g0;unfold World.cell?;simp only[g0];rfl
 have c1:W3.cell? ⟨W.heap.size,1,none⟩=some (.int .i64 x2):=by rw[hA]at g0;unfold World.cell?;simp only[g0];rfl
 have c2:W3.cell? ⟨W.heap.size+1,0,none⟩=some (.int .i64 y1):=by rw[hB]at g1;unfold World.cell?;simp only[g1];rfl
 have c3:W3.cell? ⟨W.heap.size+1,1,none⟩=some (.int .i64 y2):=by rw[hB]at g1;unfold World.cell?;simp only[g1];rfl
 rw[← hA,←hB]
 refine wp_region_still_tail 14 (by kernel_rfl) (by kernel_rfl) ?_
 simp only[XJ,XH,YM,XA]
 change wpStill _ _ ((W.alloc A).alloc B).drew (fun a'=>wpList _ _ _ _ a' ((W.alloc A).alloc B).drew) _ _
 rw[← hW3]
 have H3:=Lib.hid hW3
 clear hW3 g0 g1
 repeat still_step
 still_call (hc1 _)
 repeat still_step
 still_call (hc2 _)
 refine wpStill_nil ?_
 obtain⟨C,hC⟩:∃ C,C=Obj.cells #[.int .i64 r1,.int .i64 r2] 3:=⟨_,rfl⟩
 have hn:(W3.alloc C).heap[W3.heap.size]? =some (.cells #[.int .i64 r1,.int .i64 r2] 3 (0,0)):=by rw[hC];exact heap_alloc_new _ _
 have hor:=A13 r1 r2 W3.heap.size 2 (W3.alloc C) (by unfold World.cell?;simp only[hn];rfl) (by unfold World.cell?;simp only[hn];rfl)
 rw[hC,hz]at hor
 clear hz
 clear hn
 go_wp2_with (go_at_call 94;refine hor.mono ?_;rintro e w' ⟨rfl,rfl⟩)
 go_ret
 refine⟨rfl,1,#[A,B,C],?_⟩
 rw[H3.out,←hC]
 show (((W.drew).alloc A).alloc B).alloc C=_
 rw[alloc_eq_grow,alloc_eq_grow,alloc_eq_grow,grow_grow,grow_grow]
 rfl
end Go.Proofs.YtpoigihfeehehaaGreatDoor
namespace Go.Proofs.YtpoigihfeehehaaGreatDoor
open Go.RowKit
def emp:ByteArray:=⟨#[]⟩
abbrev Va:=Int×Int×ByteArray
def vaC (v:Va):List PV:=[.v (.int .i64 v.1),.v (.int .i64 v.2.1),.v (.string v.2.2)]
def vaA (v:Va):AV:=.agg ((vaC v).map .p)
def enV (l:List Va):List (List PV):=l.map vaC
theorem Ea (l:List Va):(enV l).length=l.length:=by simp[enV]
theorem Ji (l:List Va)(i:Nat)(h:i<l.length):(enV l)[i]? =some (vaC l[i]):=by simp[enV,h]
theorem Aq2 (l m:List Va):enV (l++m)=enV l++enV m:=by simp[enV]
def enVV (l:List (List Va)):List (List PV):=l.map fun r=>[.sl 3 (enV r)]
theorem Acu (l:List (List Va)):(enVV l).length=l.length:=by simp[enVV]
theorem Amk (l:List (List Va))(i:Nat)(h:i<l.length):(enVV l)[i]? =some [.sl 3 (enV l[i])]:=by simp[enVV,h]
def okV (v:Va):Bool:=
 if v.1=0 then decide (v.2.1=0)&&(v.2.2.toList==emp.toList)
 else if v.1=1 then v.2.2.toList==emp.toList
 else if v.1=2 then (v.2.1.fdiv 2==0)&&(v.2.2.toList==emp.toList)
 else (v.1==3)&&(v.2.1==0)&&decide ((v.2.2.size:Int)≤64)
def cmpI (a b:Int):Int:=if a<b then -1 else if a>b then 1 else 0
def cmpS (a b:ByteArray):Int:=if Op.bytesLess a.toList b.toList then -1 else if a.toList==b.toList then 0 else 1
def cmpV (a b:Va):Int:=if cmpI a.1 b.1≠0 then cmpI a.1 b.1 else if cmpI a.2.1 b.2.1≠0 then cmpI a.2.1 b.2.1 else cmpS a.2.2 b.2.2
def tVo:=aa wX <| aa wbu <| aa T2 <| aa T3 <| aa T9 T24
theorem sh1:(2:Int) ^ (min 1 IntKind.i64.bits)=2:=nr (by decide)
theorem aokV (v:Va)(σ:St):Aa Tryz.prog 37 [vaA v] σ fun r s=>s=σ∧r=Av (okV v):=by
 refine Aa.pureF (R:=fun r=>r=Av (okV v)) ?_ rfl σ
 obtain⟨k,n,t⟩:=v
 refine Ab Am An Tryz.func37 (by kernel_rfl) rfl (nt:=44) (rs:=[.tmp 2]) rfl rfl ?_
 simp only[vaA,vaC,QK,ZB]
 repeat' first|((with_reducible first|apply cs|apply ws)<;>intro h<;>try simp only[h])|simp only[↓wBA,tVo,seval,Oi,sh1]
 all_goals refine Cc (a:=_) ?_ rfl rfl
 all_goals simp only[tVo,seval]
 all_goals simp_all [wS,okV,emp]
def tEi:=aa wX <| aa wbu <| aa T3 <| aa T5 <| aa T70 T140
def eiB (u:Int)(i:Nat):List PV:=[.v (.int .u8 (IntKind.u8.wrap (u.fdiv (2 ^ (8*i)))))]
def Hb (u:Int)(n:Nat):List (List PV):=(List.range n).map (eiB u)
theorem Ij (u:Int)(n:Nat):(Hb u n).length=n:=by simp[Hb]
theorem Qk (u:Int)(n:Nat):Hb u (n+1)=Hb u n++[eiB u n]:=by simp[Hb,WY]
theorem Acv (u:Int)(σ:St):Aa Tryz.prog 75 [.p (.v (.int .u64 u)),Av false] σ fun r s=>s=σ∧r= .p (.sl 1 (Hb u 8)):=by
 obtain⟨l8,hl8⟩:∃ l8,l8=Hb u 8:=⟨_,rfl⟩
 rw[← hl8]
 refine Aa.pureF (R:=fun r=>r= .p (.sl 1 l8)) ?_ rfl σ
 refine Ab Am An Tryz.func75 (by kernel_rfl) rfl (nt:=21) (rs:=[.tmp 4]) rfl rfl ?_
 repeat' simp only[↓wBA,tEi,seval]
 refine Hs (8) (fun i=>[(5,.nown 0 1 (Hb u i)),(7,Ad .i64 (i:Nat)),(6,.any),(8,.any),(9,.any),(10,.any),(11,.any),(12,.any),(13,.any),(14,.any),(15,.any),(16,.any),(17,.any),(18,.any),(19,.any),(20,.any),(21,.any)]) (fun i=>[(0,.nright 5 (i*1))]) (fun i=>True) ?_ ?_ ?_
 ·trivial
 ·skip
  simp only[wR,reduceIte]
  simp[wW,Hb]
 ·intro i hi _
  simp only[wR,reduceIte]
  by_cases hlt:i<8
  ·have hdec:decide ((i:Int)<8)=true:=by simp;omega
   have hw:=wI i (by omega)
   have hm:IntKind.i64.wrap (8*(i:Int))=((8*i:Nat):Int):=by rw[wrap_i64 (by omega) (by omega)];simp
   have hs0:(((8*i:Nat):Int)<0)=False:=eq_false (by omega)
   have hmin:min (8*i) 64=8*i:=by omega
   have hst:=Qk u i
   have htl:=Ij u i
   have hlim1:=tL (n:=(i+1)*1) (by omega)
   have hlim2:=lM (n:=i+1) (by omega)
   simp only[eiB]at hst
   repeat' simp only[↓wBA,tEi,Cv,seval,hdec,hw,hm,hs0,htl,hlim1,hlim2,A2,Ey,QE,IntKind.bits,hmin]
   refine⟨⟨i+1,by omega,?_⟩,by show 8 - (i+1)<8 - i;omega,?_⟩
   ·trivial
   ·simp only[hst]
    simp[wW]
  ·have hi8:i=8:=by omega
   subst hi8
   simp only[← hl8]
   have hdec:decide (((8:Nat):Int)<8)=false:=by decide
   repeat' simp only[↓wBA,tEi,seval]
   all_goals refine Cc (a:=_) ?_ rfl rfl
   all_goals simp only[tEi,seval]
   all_goals simp_all [wS]
def Ye:Cq:=(.det 0 (.det 1 (.det 2 (.det 3 (.det 4 (.det 7 (.det 8 (.act 5 (.act 6 (.fin 9 (.det 10 .done)))))))))))
def tPv:=aa wX <| aa wbu <| aa T2 <| aa T3 <| aa T4 <| aa T5 <| aa T9 <| aa T24 <| aa T54 <| aa T70 T140
def byP (n:Int):List PV:=[.v (.int .u8 (IntKind.u8.wrap n))]
def putV (v:Va):List (List PV):=byP v.1::(if v.1=1 then Hb (IntKind.u64.wrap v.2.1) 8 else if v.1=2 then [byP v.2.1]else if v.1=3 then byP (v.2.2.size:Nat)::G9 v.2.2 else [])
def Mr (n:Nat)(l:List Va):List (List PV):=byP (n:Nat)::(l.map putV).flatten
def putR (l:List Va):List (List PV)×Int:=if l.length>255 then ([],3)else if l.all okV=true then (Mr l.length l,0)else ([],1)
theorem Ms (s:ByteArray):(G9 s).length=s.size:=by unfold G9;rw[QL,YK];rfl
theorem Acw (v:Va)(h:okV v=true):(putV v).length≤66:=by
 obtain⟨k,n,t⟩:=v
 simp only[putV,okV]at*
 split
 ·simp[Ij]
 ·split
  ·simp
  ·split
   ·rename_i h1 h2 h3
    subst h3
    simp at h
    simp[Ms]
    omega
   ·simp
theorem Acx (n:Nat):∀ l:List Va,(∀ v∈l,okV v=true)→(Mr n l).length≤1+l.length*66
 |[],_=>by simp[Mr]
 |v::l,h=>by
  have:=Acx n l fun x hx=>h x (by simp[hx])
  have h1:=Acw v (h v (by simp))
  simp only[Mr,QK,XE,QF,QE]at*
  omega
theorem Ajv (n:Nat)(l:List Va)(i:Nat)(h:i<l.length):Mr n (l.take (i+1))=Mr n (l.take i)++putV l[i]:=by
 rw[YC h]
 simp only[Mr,ZH,List.flatten_append,QK,ZB,XE,List.flatten_nil,ZT,ZN]
theorem Awx (l:List Va)(σ:St):Aa Tryz.prog 39 [.p (.sl 3 (enV l))] σ fun r s=>s=σ∧r= .tup [.p (.sl 1 (putR l).1),Ad .i64 (putR l).2]:=by
 refine Aa.pureF (R:=fun r=>r= .tup [.p (.sl 1 (putR l).1),Ad .i64 (putR l).2]) ?_ rfl σ
 refine Ab Am An Tryz.func39 (by kernel_rfl) rfl (nt:=60) (rs:=[.tmp 2,.tmp 3]) rfl rfl ?_
 unfold putR
 by_cases h255:l.length>255
 ·have hd:decide ((l.length:Int)>255)=true:=by simp;omega
  rw[if_pos h255]
  repeat' simp only[↓wBA,tPv,seval,Ea,hd]
  all_goals refine Cc (a:=_) ?_ rfl rfl
  all_goals simp only[tPv,seval]
  all_goals simp_all [wS]
 ·have hd:decide ((l.length:Int)>255)=false:=by simp;omega
  rw[if_neg h255]
  repeat' simp only[↓wBA,tPv,Cv,seval,Ea,hd]
  refine Hs (l.length) (fun i=>[(4,.own 0 1 (Mr l.length (l.take i))),(16,Ad .i64 (i:Nat)),(2,.any),(3,.any),(6,.any),(17,.any),(18,.any),(19,.any),(20,.any),(21,.any),(22,.any),(23,.any),(24,.any),(25,.any),(26,.any),(27,.any),(28,.any),(29,.any),(30,.any),(31,.any),(32,.any),(33,.any),(34,.any),(35,.any),(36,.any),(37,.any),(38,.any),(39,.any),(40,.any),(41,.any),(42,.any),(43,.any),(44,.any),(45,.any),(46,.any),(47,.any),(48,.any),(49,.any),(50,.any),(51,.any),(52,.any),(53,.any),(54,.any),(55,.any),(56,.any),(57,.any),(58,.any),(59,.any)]) (fun i=>[(0,.right 5 ((Mr l.length (l.take i)).length*1))]) (fun i=>∀ v∈l.take i,okV v=true) ?_ ?_ ?_
  ·simp
  ·skip
   simp only[wR,Nat.reduceLT,reduceIte]
   simp[wW,Mr,byP]
  ·intro i hi hI
   simp only[wR,Nat.reduceLT,reduceIte]
   by_cases hlt:i<l.length
   ·have hdec:=dT (i:=i) (n:=l.length) (by omega)
    have hi0:=nnI i
    have hw:=wI i (by omega)
    have hg:=Ji l i hlt
    have hst:=Ajv l.length l i hlt
    have hpl:=Acx l.length (l.take i) hI
    have htl:(l.take i).length=i:=by simp;omega
    rw[htl]at hpl
    have hnext:okV l[i]=true→∀ v∈l.take (i+1),okV v=true:=fun h v hv=>by
     rw[YC hlt]at hv
     rcases QS.1 hv with h1|h1
     ·exact hI v h1
     ·simp at h1;subst h1;exact h
    have hbad:okV l[i]=false→l.all okV=false:=fun h=>by
     rw[List.all_eq_false];exact⟨_,XU hlt,by simp[h]⟩
    have hvl:=Acw l[i]
    have hok:=aokV l[i]
    generalize hcur:Mr l.length (l.take i)=cur at*
    generalize hvi:l[i]=v at*
    obtain⟨k,n,t⟩:=v
    simp only[vaA,vaC,QK,ZB]at hok hg
    cases hb:okV (k,n,t)with
    |false=>
     rw[hb]at hok
     have hf:=hbad hb
     simp only[hf,XB,if_false]
     repeat' first|simp only[↓wBA,tPv,seval,hdec,hi0,hg]|((with_reducible show Aa _ _ _ _ _);refine (hok _).eq ?_)
     all_goals refine Cc (a:=_) ?_ rfl rfl
     all_goals simp only[tPv,seval]
     all_goals simp_all [wS]
    |true=>
     rw[hb]at hok
     have hv66:=hvl hb
     have hA1:=tL (n:=(cur.length+1)*1) (by omega)
     have hB1:=lM (n:=cur.length+1) (by omega)
     have hA2:=tL (n:=(cur.length+2)*1) (by omega)
     have hB2:=lM (n:=cur.length+2) (by omega)
     have hA9:=tL (n:=(cur.length+9)*1) (by omega)
     have hB9:=lM (n:=cur.length+9) (by omega)
     by_cases h1:k=1
     ·subst h1
      simp only[putV,Int.reduceEq,if_true,if_false]at hst
      repeat' first|simp only[↓wBA,tPv,Cv,seval,hdec,hi0,hg,hw,hA1,hB1,hA9,hB9,Ij,A2,Ey,QE,ZY]|((with_reducible show Aa _ _ _ _ _);first|refine (hok _).eq ?_|refine (Acv _ _).eq ?_)
      refine⟨⟨i+1,by omega,?_⟩,by show l.length - (i+1)<l.length - i;omega,?_⟩
      ·exact hnext hb
      ·simp only[hst]
       simp[wW,byP,QX,Ij]
     by_cases h2:k=2
     ·subst h2
      simp only[putV,Int.reduceEq,if_true,if_false]at hst
      repeat' first|simp only[↓wBA,tPv,Cv,seval,hdec,hi0,hg,hw,hA1,hB1,hA2,hB2,A2,Ey,QE,ZY,Int.reduceBEq]|((with_reducible show Aa _ _ _ _ _);first|refine (hok _).eq ?_|refine (Acv _ _).eq ?_)
      refine⟨⟨i+1,by omega,?_⟩,by show l.length - (i+1)<l.length - i;omega,?_⟩
      ·exact hnext hb
      ·simp only[hst]
       simp[wW,byP,QX]
     by_cases h3:k=3
     ·subst h3
      simp only[putV,Int.reduceEq,if_true,if_false]at hst
      have ht64:t.size≤64:=by simp[okV]at hb;omega
      have hA3:=tL (n:=(cur.length+(2+t.size))*1) (by omega)
      have hB3:=lM (n:=cur.length+(2+t.size)) (by omega)
      repeat' first|simp only[↓wBA,tPv,Cv,seval,Ye,hdec,hi0,hg,hw,hA1,hB1,hA2,hB2,A2,Ey,QE,ZY,Int.reduceBEq,hA3,hB3,Ms,Ma,Agd,ne_eq,not_false_eq_true]|((with_reducible show Aa _ _ _ _ _);first|refine (hok _).eq ?_|refine (Acv _ _).eq ?_)|(with_reducible refine dQ Ye 11 (some 49) ?_)
      refine⟨⟨i+1,by omega,?_⟩,by show l.length - (i+1)<l.length - i;omega,?_⟩
      ·exact hnext hb
      ·simp only[hst]
       simp[wW,byP,QX,Ms,ZY]
       omega
     simp only[putV,h1,h2,h3,if_false]at hst
     have e1:(k==1)=false:=by simpa using h1
     have e2:(k==2)=false:=by simpa using h2
     have e3:(k==3)=false:=by simpa using h3
     repeat' first|simp only[↓wBA,tPv,Cv,seval,hdec,hi0,hg,hw,hA1,hB1,A2,Ey,QE,e1,e2,e3]|((with_reducible show Aa _ _ _ _ _);first|refine (hok _).eq ?_|refine (Acv _ _).eq ?_)
     refine⟨⟨i+1,by omega,?_⟩,by show l.length - (i+1)<l.length - i;omega,?_⟩
     ·exact hnext hb
     ·simp only[hst]
      simp[wW,byP]
   ·have hdec:=dF (i:=i) (n:=l.length) (by omega)
    have ht:l.take i=l:=ZF (by omega)
    rw[ht]at hI
    have hall:l.all okV=true:=ZA.2 hI
    simp only[ht,hall,if_true]
    repeat' simp only[↓wBA,tPv,seval,hdec]
    all_goals refine Cc (a:=_) ?_ rfl rfl
    all_goals simp only[tPv,seval]
    all_goals simp_all [wS]
def tFt:=aa wX <| aa wbu <| aa T3 <| aa T29 <| aa T54 T70
def Ajw (l:List Va):Bool:=decide ((putR l).2=0)&&decide ((putR l).1.length≤392)
theorem Awy (l:List Va)(σ:St):Aa Tryz.prog 22 [.p (.sl 3 (enV l))] σ fun r s=>s=σ∧r=Av (Ajw l):=by
 refine Aa.pureF (R:=fun r=>r=Av (Ajw l)) ?_ rfl σ
 have hP:=Awx l
 unfold Ajw
 generalize putR l=q at*
 obtain⟨b,e⟩:=q
 simp only at hP
 refine Ab Am An Tryz.func22 (by kernel_rfl) rfl (nt:=16) (rs:=[.tmp 2]) rfl rfl ?_
 by_cases he:e=0
 ·subst he
  repeat' first|simp only[↓wBA,tFt,seval]|((with_reducible show Aa _ _ _ _ _);refine (hP _).eq ?_)
  all_goals refine Cc (a:=_) ?_ rfl rfl
  all_goals simp only[tFt,seval]
  all_goals simp_all [wS]
  all_goals (try simp)
  all_goals (try omega)
 ·have he':(e==0)=false:=by simpa using he
  repeat' first|simp only[↓wBA,tFt,seval,he']|((with_reducible show Aa _ _ _ _ _);refine (hP _).eq ?_)
  all_goals refine Cc (a:=_) ?_ rfl rfl
  all_goals simp only[tFt,seval]
  all_goals simp_all [wS]
  all_goals (try simp[he])
def okW (v:Va):Prop:=okV v=true∧ -9223372036854775808≤v.2.1∧v.2.1≤9223372036854775807
def valB (v:Va):List UInt8:=UInt8.ofNat v.1.toNat::(if v.1=1 then leB (IntKind.u64.wrap v.2.1).toNat 8 else if v.1=2 then [UInt8.ofNat v.2.1.toNat]else if v.1=3 then UInt8.ofNat v.2.2.size::v.2.2.data.toList else [])
def rwB (l:List Va):List UInt8:=UInt8.ofNat l.length::l.flatMap valB
theorem E7 {n:Nat}(h:n<256):(UInt8.ofNat n).toNat=n:=by rw[YQ];exact YL h
theorem Uu {n:Int}(h0:0≤n)(h1:n<256):IntKind.u8.wrap n=n:=IntKind.wrap_u8 _▸(by omega)
theorem Jj {n:Nat}(h:n<256):byP (n:Int)=[Bo (UInt8.ofNat n)]:=by
 unfold byP Bo
 rw[Uu (by omega) (by omega),E7 h]
theorem Yf {u:Nat}(hu:u<18446744073709551616):∀ n,n≤8→Hb (u:Int) n=Ax (leB u n)
 |0,_=>rfl
 |n+1,h=>by
  rw[Qk,Yf hu n (by omega),leB,Ax,Ax,ZH]
  congr 1
  simp only[QK,ZB,eiB,Bo]
  rw[G0 u n hu (by omega)]
theorem Ql (n:Int):0≤IntKind.u64.wrap n∧IntKind.u64.wrap n<18446744073709551616:=by
 rw[IntKind.wrap_u64];omega
theorem okW.kinds {v:Va}(h:okW v):v.1=0∨v.1=1∨v.1=2∨v.1=3:=by
 obtain⟨h,_⟩:=h
 obtain⟨k,n,t⟩:=v
 simp only[okV]at h ⊢
 split at h
 ·omega
 ·split at h
  ·omega
  ·split at h
   ·omega
   ·simp at h;omega
theorem Ajx {t:ByteArray}(h:t.toList=emp.toList):t=emp:=by
 rw[ByteArray.toList_eq,ByteArray.toList_eq]at h
 exact ByteArray.ext (Array.toList_inj.1 h)
theorem okW.zero {n:Int}{t:ByteArray}(h:okW (0,n,t)):n=0∧t=emp:=by
 have:=h.1
 simp[okV]at this
 exact⟨this.1,Ajx this.2⟩
theorem okW.one {n:Int}{t:ByteArray}(h:okW (1,n,t)):t=emp:=by
 have:=h.1
 simp[okV]at this
 exact Ajx this
theorem okW.two {n:Int}{t:ByteArray}(h:okW (2,n,t)):(n=0∨n=1)∧t=emp:=by
 have:=h.1
 simp[okV]at this
 refine⟨?_,Ajx this.2⟩
 have h1:=this.1
 rw[XP _ (by omega)]at h1
 omega
theorem okW.three {n:Int}{t:ByteArray}(h:okW (3,n,t)):n=0∧t.size≤64:=by
 have:=h.1
 simp[okV]at this
 exact⟨this.1,by omega⟩
theorem Aml {v:Va}(h:okW v):putV v=Ax (valB v):=by
 obtain⟨k,n,t⟩:=v
 have hk:=h.kinds
 simp only at hk
 rcases hk with rfl|rfl|rfl|rfl
 ·show byP ((0:Nat):Int)::[]=_
  rw[Jj (by omega)];rfl
 ·obtain⟨h0,h1⟩:=Ql n
  have e:IntKind.u64.wrap n=(((IntKind.u64.wrap n).toNat:Nat):Int):=by omega
  show byP ((1:Nat):Int)::Hb (IntKind.u64.wrap n) 8=Ax (_::leB _ 8)
  rw[Jj (by omega),e,Yf (by omega) 8 (by omega)];rfl
 ·obtain⟨hn,_⟩:=h.two
  show byP ((2:Nat):Int)::[byP n]=_
  have e:n=((n.toNat:Nat):Int):=by omega
  rw[Jj (by omega),e,Jj (by omega)];rfl
 ·obtain⟨_,ht⟩:=h.three
  show byP ((3:Nat):Int)::byP ((t.size:Nat):Int)::G9 t=_
  rw[Jj (by omega),Jj (by omega)];rfl
theorem Ajy {l:List Va}(h:∀ v∈l,okW v)(hl:l.length≤255):Mr l.length l=Ax (rwB l):=by
 unfold Mr rwB
 rw[Jj (by omega)]
 show _::_=_::Ax _
 congr 1
 clear hl
 induction l with
 |nil=>rfl
 |cons v l ih=>
  rw[QK,XE,YA,Aml (h v (by simp)),ih fun x hx=>h x (by simp[hx])]
  unfold Ax
  rw[ZH]
theorem okW.all {l:List Va}(h:∀ v∈l,okW v):l.all okV=true:=ZA.2 fun v hv=>(h v hv).1
theorem Ajz {l:List Va}(h:∀ v∈l,okW v)(hl:l.length≤255):putR l=(Ax (rwB l),0):=by
 unfold putR
 rw[if_neg (by omega),if_pos (okW.all h),Ajy h hl]
theorem Acy {l:List Va}(h:∀ v∈l,okW v)(hl:l.length≤255):Ajw l=decide ((rwB l).length≤392):=by
 unfold Ajw
 rw[Ajz h hl]
 simp[Ax]
def rcB (made taken:Nat)(l:List Va):List UInt8:=leB made 4++(leB taken 4++rwB l)
def esc:List UInt8→List UInt8
 |[]=>[]
 |b::l=>if b=0 then 0::255::esc l else b::esc l
def beB (u:Nat):List UInt8:=(List.range 8).map fun j=>UInt8.ofNat (u / 256 ^ (7 - j) % 256)
def Gj (v:Va):List UInt8:=UInt8.ofNat v.1.toNat::(if v.1=1 then beB (IntKind.u64.wrap (v.2.1+9223372036854775808)).toNat else if v.1=2 then [UInt8.ofNat v.2.1.toNat]else if v.1=3 then esc v.2.2.data.toList++[0,0]else [])
theorem Aaj:∀ l:List UInt8,(esc l).length≤2*l.length
 |[]=>QH _
 |b::l=>by
  have:=Aaj l
  rw[esc]
  split<;>simp only[QF]<;>omega
theorem Acz:∀ l:List UInt8,Lib.replaceK [0] [0,255] (Lib.count l [0]) l=esc l
 |[]=>by rw[Lib.count_one];rfl
 |b::l=>by
  have ih:=Acz l
  by_cases h:b=0
  ·subst h
   have hix:Lib.index (0::l) [0]=((0:Nat):Int):=by rw[Lib.index];simp[List.isPrefixOf]
   rw[Lib.count_cons_eq,VI,Lib.replaceK_hit _ _ _ _ 0 hix,esc,if_pos rfl]
   simp only[XH,ZQ,QF,QI,ZC,YM,XA,ZN]
   rw[ih]
  ·rw[Lib.count_cons_ne _ _ _ h,esc,if_neg h,←ih]
   cases hk:Lib.count l [0]with
   |zero=>rfl
   |succ k=>
    obtain⟨j,hj⟩:=Lib.index_of_count (s:=l) (old:=[0]) (by omega)
    have hp:([0]:List UInt8).isPrefixOf (b::l)=false:=by simp[List.isPrefixOf,Ne.symm h]
    have hix:Lib.index (b::l) [0]=((j+1:Nat):Int):=by
     rw[Lib.index,hp]
     simp only[XB,if_false]
     rw[if_neg (fun e=>by have:=beq_iff_eq.1 e;omega),hj];omega
    rw[Lib.replaceK_hit _ _ _ _ _ hix,Lib.replaceK_hit _ _ _ _ _ hj]
    simp only[XJ,QF,QI,ZC,YM,ZN]
theorem Aq3 (l:List UInt8):Lib.replaceAll l [0] [0,255]=esc l:=by
 unfold Lib.replaceAll Lib.replace Lib.replaceNum
 rw[if_neg (by decide),if_pos (.inl (by omega)),Acz]
theorem Uv {v:Va}(h:okW v):(Gj v).length≤131:=by
 obtain⟨k,n,x⟩:=v
 have hk:=h.kinds
 simp only at hk
 rcases hk with rfl|rfl|rfl|rfl
 ·exact (by decide:1≤131)
 ·exact (by decide:9≤131)
 ·exact (by decide:2≤131)
 ·obtain⟨_,hx⟩:=h.three
  have h1:=Aaj x.data.toList
  have h2:x.data.toList.length=x.size:=by rw[YK];rfl
  show (_::(esc x.data.toList++[0,0])).length≤131
  simp only[QF,QE,QI]
  omega
def tTb:=aa wX <| aa wbu <| aa T2 <| aa T3 <| aa T4 <| aa T5 <| aa T9 <| aa T24 <| aa T29 <| aa T70 <| aa T140 <| aa T242 T244
theorem Aj0 (l:List UInt8)(n:Nat):(Ax l).take n=Ax (l.take n):=by simp[Ax,WO]
theorem Aj1 (l:List UInt8)(n:Nat):(Ax l).drop n=Ax (l.drop n):=by simp[Ax,VA]
theorem A14 (l:List UInt8){n:Nat}(h:n≤l.length):Bl cx 70 (.p (.sl 1 (Ax l))) none (some (.p (.v (.int .i64 (n:Nat)))))=some (.p (.sl 1 (Ax (l.take n)))):=by
 unfold Bl
 rw[E3]
 simp only[Bp,Bh,Hi]
 rw[if_pos ⟨trivial,Int.le_refl _,by omega,by rw[B6];omega⟩,ZZ,Aj0]
 rfl
theorem Amm (l:List UInt8){n:Nat}(h:n≤l.length):Bl cx 70 (.p (.sl 1 (Ax l))) (some (.p (.v (.int .i64 (n:Nat))))) none=some (.p (.sl 1 (Ax (l.drop n)))):=by
 unfold Bl
 rw[E3]
 simp only[Bp,Bh,Hi]
 rw[if_pos ⟨trivial,by omega,by rw[B6];omega,Int.le_refl _⟩,ZZ,ZZ,ZS,Aj1]
theorem Nq:∀ l:List UInt8,Fa (Ax l)=some l
 |[]=>rfl
 |b::l=>by
  have h:=Nq l
  have hb:Gk (.int .u8 (b.toNat:Int))=some b:=by
   have h2:(b.toNat:Int)<256:=by have:=b.toNat_lt;omega
   show (if (0:Int)≤(b.toNat:Int)∧(b.toNat:Int)<256 then some (UInt8.ofNat (b.toNat:Int).toNat)else none)=some b
   rw[if_pos ⟨by omega,h2⟩]
   simp
  show (match Gk (.int .u8 (b.toNat:Int)),Fa (Ax l)with|some b,some bs=>some (b::bs)|_,_=>none)=_
  rw[hb,h]
theorem cvS (r:List UInt8):Adu cx 70 9 (.p (.sl 1 (Ax r)))=some (.p (.v (.string ⟨r.toArray⟩))):=by
 unfold Adu
 rw[E3,ck_9]
 simp only[ck_5]
 simp only[Bp,Nq];rfl
theorem Lj (r:List UInt8):Ba cx 70 (.p (.sl 1 (Ax r)))=some r.length:=by
 show (match cx.kind 70 with|some (.slice ..)=>some (Ax r).length|_=>none)=_
 rw[E3];simp[Ax]
theorem A15 (l:List UInt8)(hl:l.length≤8)(σ:St):
 Aa Tryz.prog 173 [.p (.sl 1 (Ax l)),Av false] σ fun r σ'=>σ'=σ∧r= .p (.v (.int .u64 (Ja l:Nat))):=by
 have hln:=B6 l
 refine Ab Am An Tryz.func173 (by kernel_rfl) rfl (nt:=31) (rs:=[.tmp 4]) rfl rfl ?_
 repeat' simp only[↓wBA,tTb,seval,hln]
 refine Ar (X:={ i:Nat // i≤l.length }) (fun i=>l.length - i.1) (fun i=>[(5,.p (.v (.int .u64 (Ja (l.take i.1):Nat)))),(9,Ad .i64 (i.1:Nat))]) [6,10,11,12,13,14,15,16,17,18,19,20,21,22,23,24,25,26,27,28,29,30,31] (fun i s=>s=σ) (⟨0,by omega⟩) ?_ ?_ ?_ ?_
 ·simp only[wHl,wHf,XH,Ja]
 ·rfl
 ·rintro _ _ rfl;exact QH _
 ·intro x J s hI
  simp only[wHl]
  obtain⟨i,hi⟩:=x
  subst hI
  dsimp only
  by_cases hlt:i<l.length
  ·have hdec:=dT (i:=i) (n:=l.length) (by omega)
   have hi0:=nnI i
   have hw1:=wI i (by omega)
   have hg:(Ax l)[i]? =some [Bo l[i]]:=by simp[Ax,hlt]
   have hor:=Aoj hlt (by omega)
   have hbd:((i:Int)<(l.length:Int))=True:=eq_true (by omega)
   have hm:IntKind.i64.wrap (8*(i:Int))=((8*i:Nat):Int):=by rw[wrap_i64 (by omega) (by omega)];simp
   have hu:IntKind.u64.wrap ((l[i]).toNat:Int)=((l[i]).toNat:Int):=by have:=(l[i]).toNat_lt;exact IntKind.wrap_u64 _▸(by omega)
   have hmn:min (8*i) IntKind.u64.bits=8*i:=YO (by show 8*i≤64;omega)
   have hng:(((8*i:Nat):Int)<0)=False:=eq_false (by omega)
   repeat' simp only[↓wBA,tTb,Cv,seval,wHl,hi0,hg,hbd,hw1,hm,hu,hmn,hng,hor,Bo]
   all_goals exact⟨⟨i+1,by omega⟩,by show l.length - (i+1)<l.length - i;omega,rfl⟩
  ·have hdec:=dF (i:=i) (n:=l.length) (by omega)
   have he:i=l.length:=by omega
   subst he
   repeat' simp only[↓wBA,tTb,seval,wHl,hdec]
   all_goals refine rtS ?_
   all_goals simp only[wRe,tTb,seval,ZS]
section
variable {σ:St} {t:Nat}
abbrev rdO (l:List UInt8):Option Ob:=some (.row 2 [[.p (.sl 1 (Ax l)),.p (.v (.int .i64 0))]])
theorem Aj2 {l:List UInt8}{n:Nat}(hn:n≤l.length)(ht:σ[t]? =some (rdO l)):
 Aa Tryz.prog 137 [.mp t 2 0 0,Ad .i64 (n:Nat)] σ fun r s=>s=σ.set t (rdO (l.drop n))∧r= .p (.sl 1 (Ax (l.take n))):=by
 have y:=Ac ht
 have hln:=Lj l
 have e1:=dF (i:=l.length) (n:=n) (by omega)
 have h1:=A14 l hn
 have h2:=Amm l hn
 refine Ab Am An Tryz.func137 (by kernel_rfl) rfl (nt:=44) (rs:=[.tmp 4]) rfl rfl ?_
 repeat' simp only[↓wBA,tTb,seval,wH,ht,hln,e1,h1,h2]
 all_goals refine rtS ?_
 all_goals simp only[wRe,tTb,seval]
theorem Qn {l:List UInt8}(ht:σ[t]? =some (rdO l)):Aa Tryz.prog 139 [.mp t 2 0 0,Av true] σ fun r s=>s=σ∧r= .tup []:=by
 have y:=Ac ht
 refine Ab Am An Tryz.func139 (by kernel_rfl) rfl (nt:=14) (rs:=[]) rfl rfl ?_
 repeat' simp only[↓wBA,tTb,seval,ht]
 all_goals refine rtS ?_
 all_goals simp only[wRe,tTb,seval]
theorem Jk {b:UInt8}{l:List UInt8}(ht:σ[t]? =some (rdO (b::l))):
 Aa Tryz.prog 137 [.mp t 2 0 0,.p (.v (.int .i64 1))] σ fun r s=>s=σ.set t (rdO l)∧r= .p (.sl 1 [[Bo b]]):=Aj2 (n:=1) (by simp) ht
theorem Aq4 {n:Nat}{l:List UInt8}(ht:σ[t]? =some (rdO (leB n 8++l))):
 Aa Tryz.prog 137 [.mp t 2 0 0,.p (.v (.int .i64 8))] σ fun r s=>s=σ.set t (rdO l)∧r= .p (.sl 1 (Ax (leB n 8))):=by
 refine (Aj2 (n:=8) (by rw[QE,B0];omega) ht).mono ?_
 rintro r s ⟨rfl,rfl⟩
 have e:=B0 n 8
 exact⟨by rw[List.drop_append_of_le_length (by omega),List.drop_of_length_le (by omega),ZQ],by rw[XY (by omega),ZF (by omega)]⟩
theorem Amn {n:Int}(h0: -9223372036854775808≤n)(h1:n≤9223372036854775807):IntKind.i64.wrap ((Ja (leB (IntKind.u64.wrap n).toNat 8):Nat):Int)=n:=by
 obtain⟨g0,g1⟩:=Ql n
 rw[Ko,YL (by omega),Int.toNat_of_nonneg g0,IntKind.wrap_u64,IntKind.wrap_i64]
 omega
theorem wk1:IntKind.i64.wrap 1=1:=nr (by decide)
theorem wk2:IntKind.i64.wrap 2=2:=nr (by decide)
theorem wk3:IntKind.i64.wrap 3=3:=nr (by decide)
theorem rdx {σ τ:St}{t:Nat}{x:Option Ob}(y:t<σ.length):(σ.set t x++τ)[t]? =some x:=by
 rw[QD (by rw[ZW];exact y),XW y]
theorem rdx2 {σ τ τ':St}{t:Nat}{x:Option Ob}(y:t<σ.length):(σ.set t x++τ++τ')[t]? =some x:=by
 rw[QD (by rw[QE,ZW];omega),rdx y]
theorem kA {k:Int}(h:k≤3):decide (k≤3)=true:=decide_eq_true h
theorem A16 {v:Va}(hv:okW v){rest:List UInt8}(ht:σ[t]? =some (rdO (valB v++rest))):
 Aa Tryz.prog 138 [.mp t 2 0 0] σ fun r s=>r=vaA v∧Ap (σ.set t (rdO rest)) s:=by
 have y:=Ac ht
 obtain⟨k,n,x⟩:=v
 have hk:=hv.kinds
 simp only at hk
 have a0:∀ τ:St,(σ++τ)[t]? =σ[t]? :=fun τ=>QD y
 have d0:=kA (k:=0) (by omega)
 have d1:=kA (k:=1) (by omega)
 have d2:=kA (k:=2) (by omega)
 have d3:=kA (k:=3) (by omega)
 rcases hk with rfl|rfl|rfl|rfl
 ·obtain⟨rfl,rfl⟩:=hv.zero
  have ht0:σ[t]? =some (rdO (0::rest)):=ht
  have b0:((0:UInt8).toNat:Int)=0:=nr rfl
  refine Ab Am An Tryz.func138 (by kernel_rfl) rfl (nt:=54) (rs:=[.cell 2 24]) rfl rfl ?_
  repeat' simp only[↓wBA,tTb,seval]
  refine (Jk ((a0 _).trans ht0)).mono ?_
  rintro _ s1 ⟨rfl,rfl⟩
  repeat' simp only[↓wBA,tTb,Cv,seval,wH,y,Bo,wz0]
  refine (Qn (l:=rest) (rdx2 y)).mono ?_
  rintro _ s2 ⟨rfl,rfl⟩
  repeat' simp only[↓wBA,tTb,seval,wH]
  all_goals refine rtS ?_
  all_goals simp only[wRe,tTb,seval,wH]
  exact⟨rfl,(Ap.app _ _).more _⟩
 ·obtain rfl:=hv.one
  obtain⟨-,g0,g1⟩:=hv
  simp only at g0 g1
  have hb:=Amn g0 g1
  obtain⟨u,hu⟩:∃ u,u=(IntKind.u64.wrap n).toNat:=⟨_,rfl⟩
  rw[← hu]at hb
  have ht0:σ[t]? =some (rdO (1::(leB u 8++rest))):=by rw[hu];exact ht
  have b0:((1:UInt8).toNat:Int)=1:=nr rfl
  refine Ab Am An Tryz.func138 (by kernel_rfl) rfl (nt:=54) (rs:=[.cell 2 24]) rfl rfl ?_
  repeat' simp only[↓wBA,tTb,seval]
  refine (Jk ((a0 _).trans ht0)).mono ?_
  rintro _ s1 ⟨rfl,rfl⟩
  repeat' simp only[↓wBA,tTb,Cv,seval,wH,y,Bo,wk1]
  refine (Qn (l:=leB u 8++rest) (rdx2 y)).mono ?_
  rintro _ s2 ⟨rfl,rfl⟩
  repeat' simp only[↓wBA,tTb,seval,wH]
  refine (Aq4 (rdx2 y)).mono ?_
  rintro _ s3 ⟨rfl,rfl⟩
  repeat' first|simp only[↓wBA,tTb,Cv,seval,wH,y,hb]|((with_reducible show Aa _ _ _ _ _);refine (A15 (leB u 8) (by rw[B0];omega) _).mono ?_;rintro _ _ ⟨rfl,rfl⟩)
  all_goals refine rtS ?_
  all_goals simp only[wRe,tTb,seval,wH]
  exact⟨rfl,(Ap.app _ _).more _⟩
 ·obtain⟨hn,rfl⟩:=hv.two
  obtain⟨m,rfl⟩:∃ m:UInt8,n=(m.toNat:Int):=by
   rcases hn with rfl|rfl
   ·exact⟨0,rfl⟩
   ·exact⟨1,rfl⟩
  have hw:IntKind.i64.wrap (m.toNat:Int)=(m.toNat:Int):=by rw[wrap_i64 (by omega) (by omega)]
  have dn:decide ((m.toNat:Int)≤1)=true:=decide_eq_true (by omega)
  have ht0:σ[t]? =some (rdO (2::m::rest)):=by
   have e:UInt8.ofNat ((m.toNat:Int).toNat)=m:=by simp
   rw[ht]
   show some (rdO (2::UInt8.ofNat ((m.toNat:Int).toNat)::rest))=_
   rw[e]
  have b0:((2:UInt8).toNat:Int)=2:=nr rfl
  refine Ab Am An Tryz.func138 (by kernel_rfl) rfl (nt:=54) (rs:=[.cell 2 24]) rfl rfl ?_
  repeat' simp only[↓wBA,tTb,seval]
  refine (Jk ((a0 _).trans ht0)).mono ?_
  rintro _ s1 ⟨rfl,rfl⟩
  repeat' simp only[↓wBA,tTb,Cv,seval,wH,y,Bo,wk2]
  refine (Qn (l:=m::rest) (rdx2 y)).mono ?_
  rintro _ s2 ⟨rfl,rfl⟩
  repeat' simp only[↓wBA,tTb,seval,wH]
  refine (Jk (rdx2 y)).mono ?_
  rintro _ s3 ⟨rfl,rfl⟩
  repeat' simp only[↓wBA,tTb,Cv,seval,wH,y,Bo,hw,dn]
  refine (Qn (l:=rest) (rdx2 y)).mono ?_
  rintro _ s4 ⟨rfl,rfl⟩
  repeat' simp only[↓wBA,tTb,seval,wH]
  all_goals refine rtS ?_
  all_goals simp only[wRe,tTb,seval,wH]
  exact⟨rfl,(Ap.app _ _).more _⟩
 ·obtain⟨rfl,hx⟩:=hv.three
  obtain⟨m,hm⟩:∃ m:UInt8,m=UInt8.ofNat x.size:=⟨_,rfl⟩
  have hmx:m.toNat=x.size:=by rw[hm];exact E7 (by omega)
  obtain⟨xs,hxs⟩:∃ xs,xs=x.data.toList:=⟨_,rfl⟩
  have hxl:xs.length=x.size:=by rw[hxs,YK];rfl
  have hcv:=cvS xs
  have hxe:(⟨xs.toArray⟩:ByteArray)=x:=by rw[hxs]
  rw[hxe]at hcv
  have hw:IntKind.i64.wrap (m.toNat:Int)=((xs.length:Nat):Int):=by rw[wrap_i64 (by omega) (by omega)];omega
  have dn:decide (((xs.length:Nat):Int)≤64)=true:=decide_eq_true (by omega)
  have ht0:σ[t]? =some (rdO (3::m::(xs++rest))):=by rw[hm,hxs];exact ht
  have b0:((3:UInt8).toNat:Int)=3:=nr rfl
  refine Ab Am An Tryz.func138 (by kernel_rfl) rfl (nt:=54) (rs:=[.cell 2 24]) rfl rfl ?_
  repeat' simp only[↓wBA,tTb,seval]
  refine (Jk ((a0 _).trans ht0)).mono ?_
  rintro _ s1 ⟨rfl,rfl⟩
  repeat' simp only[↓wBA,tTb,Cv,seval,wH,y,Bo,wk3]
  refine (Qn (l:=m::(xs++rest)) (rdx2 y)).mono ?_
  rintro _ s2 ⟨rfl,rfl⟩
  repeat' simp only[↓wBA,tTb,seval,wH]
  refine (Jk (rdx2 y)).mono ?_
  rintro _ s3 ⟨rfl,rfl⟩
  repeat' simp only[↓wBA,tTb,Cv,seval,wH,y,Bo,hw,dn]
  refine (Qn (l:=xs++rest) (rdx2 y)).mono ?_
  rintro _ s4 ⟨rfl,rfl⟩
  repeat' simp only[↓wBA,tTb,seval]
  refine (Aj2 (n:=xs.length) (l:=xs++rest) (by simp) (rdx2 y)).mono ?_
  rintro _ s5 ⟨rfl,rfl⟩
  have e1:(xs++rest).take xs.length=xs:=List.take_left
  have e2:(xs++rest).drop xs.length=rest:=List.drop_left
  rw[e1,e2]
  repeat' simp only[↓wBA,tTb,Cv,seval,wH,y,hcv]
  all_goals refine rtS ?_
  all_goals simp only[wRe,tTb,seval,wH]
  exact⟨rfl,(Ap.app _ _).more _⟩
end
