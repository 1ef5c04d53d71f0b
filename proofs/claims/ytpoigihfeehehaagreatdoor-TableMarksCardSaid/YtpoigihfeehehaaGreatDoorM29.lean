/- Batches: the bits. slices.Chunk, one chunk: walked. mark, from its loop on: walked. Batches: mark, what goes ahead of its loop. -/
import Derived.Test.YtpoigihfeehehaaGreatDoorM28
import Derived.Test.YtpoigihfeehehaaGreatDoorM16
import Derived.RangeFuncNested
import Derived.RangeFuncBound
import Derived.RangeFuncCalls
import Derived.RangeFuncLeaves
import Derived.Shelf.Abstract
import Derived.Shelf.RegionOpen
import Derived.WalkKit
import Derived.OwnWalkIn
import Derived.TacticsInMore
import Derived.LoopNIn
import Derived.LoopIn
import Derived.BigRegionIn
import Derived.Test.YtpoigihfeehehaaGreatDoorM20
set_option linter.all false
set_option maxRecDepth 100000
set_option maxHeartbeats 32000000
namespace Go.Proofs.YtpoigihfeehehaaGreatDoor
open Go.RowKit
def tBe:=aa wX <| aa wbu <| aa T3 <| aa T5 <| aa T28 <| aa T29 <| aa T38 <| aa T70 <| aa T98 Y1
def Jc (pg:List UInt8):Nat→List UInt8
 |0=>[]
 |k+1=>Jc pg k++(Ip pg (k:Nat)).getD []
def Z9 (pg:List UInt8):List UInt8:=Jc pg (Au pg).length
def rawB (pg:List UInt8)(nb:Nat):List UInt8:=(Z9 pg).take nb++List.replicate (nb - (Z9 pg).length) 0
def hV (t:Nat)(l:List UInt8):AV:=if l=[]then .p (.v (.slice none 0 0))else .own t 1 (Ax l)
theorem Ug (pg:List UInt8)(nb:Nat):(rawB pg nb).length=nb:=by simp[rawB];omega
theorem Aql {C : Ctx} {tk : Nat} {T : TypeId} {l c : Operand} {ρ : Operand → AV} {σ : St} : Su C true tk T l c ρ σ = (match C.kind T with
    | some (.slice E es eb ez) => (match Hi (ρ l) with
      | some (_, n) => (match Hi (ρ c) with
        | some (_, m) => if n = m ∧ 0 ≤ n ∧ eb * n ≤ 140737488355328 ∧ n ≤ maxLen then some (.ms tk es 0 n.toNat, σ.put tk (.row es (List.replicate n.toNat (Co ez)))) else none
        | none => none)
      | none => none)
    | _ => none) := by
  unfold Su
  cases C.kind T with
  | none => rfl
  | some k => cases k <;> cases Hi (ρ l) <;> cases Hi (ρ c) <;> rfl
def OwnL (q:St)(n:Nat)(av:AV)(l:List UInt8):Prop:=(av= .p (.v (.slice none 0 0))∧l=[])∨∃ t,av= .own t 1 (Ax l)∧l≠[]∧q[t]? =some (some (.right 5 l.length))∧n≤t
theorem Uh (q:St)(g:Option (List UInt8)):Lx q 1 (.p (recP g))=some (Ax (g.getD [])):=by
 cases g<;>rfl
theorem Aln {q:St}{n:Nat}{av:AV}{l:List UInt8}{g:Option (List UInt8)}(h:OwnL q n av l)(hn:n≤q.length)(hb:(l++g.getD []).length≤1000000):
 ∃ av' q',A2 cx q.length 70 av (.p (recP g)) q=some (av',q')∧(∀ S:St,S.length=n→Ap S q→Ap S q')∧q.length≤q'.length∧OwnL q' n av' (l++g.getD []):=by
 obtain⟨r,hr⟩:∃ r,g.getD []=r:=⟨_,rfl⟩
 have hk:=E3
 simp only[QE,hr]at hb
 have hm:(Ax r).length≤1000000:=by rw[B6];omega
 have c1:(Ax r).length*1≤140737488355328∧(Ax r).length≤maxLen:=⟨by omega,by unfold maxLen;omega⟩
 rcases h with⟨rfl,rfl⟩|⟨t,rfl,hl,ht,htn⟩
 ·cases r with
  |nil=>
   refine⟨_,q,?_,fun S _ h=>h,QH _,.inl ⟨rfl,by rw[hr];rfl⟩⟩
   unfold A2
   rw[hk]
   simp only[Uh,hr]
   rfl
  |cons c r=>
   refine⟨.own q.length 1 (Ax (c::r)),q++[some (.right 5 (c::r).length)],?_,fun S _ h=>h.more _,by simp,.inr ⟨q.length,by rw[hr];rfl,by rw[hr];simp,by rw[hr];simp,hn⟩⟩
   unfold A2
   rw[hk]
   simp only[Uh,hr]
   rw[if_pos c1]
   simp only[Ax,QK,I8 rfl]
   simp
 ·have htl:=Ac ht
  refine⟨.own t 1 (Ax (l++r)),q.set t (some (.right 5 (l++r).length)),?_,fun S hS h=>h.set (by omega) _,by simp,.inr ⟨t,by rw[hr],by rw[hr];simp[hl],by rw[hr];simp[htl],htn⟩⟩
  unfold A2
  rw[hk]
  simp only[Uh,hr]
  rw[if_pos ⟨trivial,by rw[B6,B6];omega,by rw[B6,B6];unfold maxLen;omega⟩,ht]
  simp only[B6,XK,and_self,if_true,Ud]
theorem Aiq {q:St}{n t nb:Nat}{av:AV}{l:List UInt8}(h:OwnL q n av l)(ht:q[t]? =some (some (.row 1 (Cy (List.replicate nb 0))))):
 Qv cx 70 (.ms t 1 0 nb) av q=some (Ad .i64 ((min nb l.length:Nat)),q.set t (some (.row 1 (Cy (l.take nb++List.replicate (nb - l.length) 0))))):=by
 have hs:srcC q av=some (Aq l):=by
  rcases h with⟨rfl,rfl⟩|⟨t',rfl,_,_,_⟩
  ·rfl
  ·show (match Bp (.own t' 1 (Ax l))with|some (e,ls)=>if e=1 then some (ls.flatten.map AV.p)else none|_=>none)=_
   simp only[Bp,if_true,Xe,Hv]
 unfold Qv
 rw[E3,hs]
 simp only[if_true,ht,Aib,XC,ZC,QH,and_self,QB,QJ]
 refine⟨by simp[F8],?_⟩
 congr 3
 simp only[XH,ZQ,QZ,Cy,ZH,WL,List.drop_replicate,WO,Aq,XV]
 congr 1
 congr 1
 simp only[QL]
 omega
theorem Air (c:UInt8):BitVec.ofInt IntKind.u8.bits (c.toNat:Int)=c.toBitVec:=by
 rw[WA]
 apply BitVec.eq_of_toNat_eq
 rw[WK]
 exact YL c.toNat_lt
theorem Aaa (x:BitVec 8):IntKind.u8.wrap (x.toNat:Int)=((UInt8.ofBitVec x).toNat:Int):=by
 have:=x.isLt
 rw[IntKind.wrap_u8]
 show _=(x.toNat:Int)
 omega
theorem or_one (c:UInt8):IntKind.u8.wrap ((BitVec.ofInt IntKind.u8.bits (c.toNat:Int) ||| BitVec.ofInt IntKind.u8.bits 1).toNat:Int)=((c ||| 1).toNat:Int):=by
 rw[Air]
 exact Aaa _
theorem Avy {σ:St}{b p np:Nat}{pg:List UInt8}{R:St→Prop}(hpg:pg.length=512)(hnp:np≤100000)(hnp1:1≤np)(hh:(Z9 pg).length≤1000000)(hk:∀ k,k≤(Au pg).length→(Jc pg k).length≤1000000)
 (hread:Aa Tryz.prog 120 [.mp b 2 0 0,Ad .i64 0] σ fun r s=>r= .tup [A6 pg,Ad .i64 0]∧R s)
 (hR:∀ s,R s→σ.length≤s.length∧(∃ a,s[b]? =some (some (.row 2 [[.mp p 6 0 0,a]])))∧∃ dd l kh G P,Cj s p dd l kh G P∧P.pages=np):
 Aa Tryz.prog 113 [.mp b 2 0 0] σ fun r s'=>∃ s t,R s∧Ap s s'∧s.length≤t∧r= .tup [.ms t 1 0 ((np+7) / 8),Ad .i64 0]∧∃ c0 l0,rawB pg ((np+7) / 8)=c0::l0∧s'[t]? =some (some (.row 1 (Cy ((c0 ||| 1)::l0)))):=by
 have z5:=Ao A7
 have pc:=Ao hpg
 refine Ab Am An Tryz.func113 (by kernel_rfl) rfl (nt:=50) (rs:=[.tmp 2,.tmp 3]) rfl rfl ?_
 repeat' simp only[↓wBA,tBe,seval]
 refine hread.mono ?_
 rintro _ s ⟨rfl,hs⟩
 obtain⟨hls,⟨a,k0⟩,dd,l,kh,G,P,hP,hPn⟩:=hR s hs
 have q0:=Ac k0
 have w1:IntKind.i64.wrap ((P.pages:Int)+7)=((P.pages+7:Nat):Int):=by rw[wrap_i64 (by omega) (by omega)];simp
 have w2:IntKind.i64.wrap (((P.pages+7:Nat):Int).tdiv 8)=(((P.pages+7) / 8:Nat):Int):=by
  rw[XQ (by omega),wrap_i64 (by omega) (by omega)];omega
 obtain⟨nb,hnb⟩:∃ nb,(P.pages+7) / 8=nb:=⟨_,rfl⟩
 have hnb1:1≤nb:=by omega
 have hnb2:nb≤100000:=by omega
 rw[hnb]at w2
 have hnb3:(np+7) / 8=nb:=by rw[← hPn,hnb]
 rw[hnb3]
 have tl1:((nb:Int)≤140737488355328)=True:=eq_true (by omega)
 have hl2:((nb:Int)≤((maxLen:Nat):Int))=True:=eq_true (Int.ofNat_le.2 (by unfold maxLen;omega))
 have hrep:List.replicate nb [AV.p (.v (.int .u8 0))]=Cy (List.replicate nb 0):=by simp only[Cy,WL];rfl
 repeat' first|simp only[↓wBA,tBe,seval,wH,C6,z5,pc,A6,k0,q0,w1,w2,tl1,hl2,hrep,Int.one_mul,Aql,Co]|((with_reducible show Aa _ _ _ _ _);first|refine (Aio (hP.ap (Ap.app _ _))).eq ?_|refine (Ps pg hpg _).eq ?_)
 obtain⟨S1,hS1⟩:∃ S1,S1=s++[some (.row 512 [Aq pg])]++[some (.row 1 (Cy (List.replicate nb 0)))]:=⟨_,rfl⟩
 rw[← hS1]
 have hA1:Ap s S1:=by rw[hS1];exact (Ap.app _ _).more _
 have hsl:S1.length=s.length+2:=by rw[hS1];simp
 have hpgo:S1[s.length]? =some (some (.row 512 [Aq pg])):=by rw[hS1];simp
 have hbo:S1[s.length+1]? =some (some (.row 1 (Cy (List.replicate nb 0)))):=by rw[hS1];simp
 refine Ar (X:={ k:Nat // k≤(Au pg).length }×AV) (fun i=>(Au pg).length - i.1.1) (fun i=>[(29,Ad .i64 (i.1.1:Nat)),(7,i.2)]) [8,9,10,30,31,32,33,34,35,36,37,38,39,40,41] (fun i q=>Ap S1 q∧OwnL q S1.length i.2 (Jc pg i.1.1)) ((⟨0,by omega⟩,.p (.v (.slice none 0 0)))) ?_ ?_ ?_ ?_
 ·simp only[wHl,wHf]
 ·exact⟨Ap.refl _,.inl ⟨rfl,rfl⟩⟩
 ·rintro _ _ ⟨hf,_⟩;have:=hf.len;omega
 ·intro y J q hI
  simp only[wHl]
  obtain⟨⟨k,hkk⟩,av⟩:=y
  obtain⟨ha,ho⟩:=hI
  dsimp only at*
  have hlen':=ha.len
  have m0:=ha.get hpgo
  have r0:=Ac m0
  have m1:=ha.get hbo
  have r1:=Ac m1
  by_cases hlt:k<(Au pg).length
  ·have b1:=dT (i:=k) (n:=(Au pg).length) (by omega)
   have hkb:=hk (k+1) (by omega)
   have hsb:(Au pg).length≤124:=by simp[Au];omega
   have hw1:=wI k (by omega)
   obtain⟨g,hg⟩:∃ g,Ip pg (k:Nat)=g:=⟨_,rfl⟩
   have hks:Jc pg (k+1)=Jc pg k++g.getD []:=by simp only[Jc,hg]
   obtain⟨av',q',happ,g1,g2,g3⟩:=Aln (g:=g) ho hlen' (by rw[← hks];exact hkb)
   repeat' first|simp only[↓wBA,tBe,seval,wHl,b1,m0,pc,hg,happ,hw1]|((with_reducible show Aa _ _ _ _ _);refine (aget pg k hpg _).eq ?_)
   exact⟨(⟨k+1,by omega⟩,av'),by show (Au pg).length - (k+1)<(Au pg).length - k;omega,⟨g1 S1 rfl ha,hks▸g3⟩,rfl⟩
  ·have he:k=(Au pg).length:=by omega
   subst he
   have b1:=dF (i:=(Au pg).length) (n:=(Au pg).length) (by omega)
   repeat' simp only[↓wBA,tBe,seval,wHl,b1]
   have hcp:=Aiq ho m1
   obtain⟨c0,l0,hc⟩:∃ c0 l0,rawB pg nb=c0::l0:=by
    cases hr:rawB pg nb with
    |nil=>have:=Ug pg nb;rw[hr]at this;simp at this;omega
    |cons c l=>exact⟨c,l,rfl⟩
   have hc':(Jc pg (Au pg).length).take nb++List.replicate (nb - (Jc pg (Au pg).length).length) 0=c0::l0:=hc
   rw[hc']at hcp
   have hb0:Cy (c0::l0)=[.p (Bo c0)]::Cy l0:=rfl
   have b4:((0:Int)<(nb:Int))=True:=eq_true (by omega)
   repeat' simp only[↓wBA,tBe,seval,wH,wHl,hcp,r1,hb0,b4,Bo,or_one]
   have hq:=((hA1.trans ha).set (t:=s.length+1) (by omega) (some (.row 1 ([.p (.v (.int .u8 ((c0 ||| 1).toNat:Nat)))]::Cy l0))))
   have hlen:=hq.len
   all_goals refine rtS ?_
   all_goals simp only[wRe,tBe,seval]
   exact⟨s,s.length+1,hs,hq,Nat.le_succ _,rfl,c0,l0,hc,by simp[r1];rfl⟩
end Go.Proofs.YtpoigihfeehehaaGreatDoor
namespace Go.Proofs.YtpoigihfeehehaaGreatDoor
open Go.RowKit Go.Shelf
attribute [local go_sem] Oper.semAt_some
theorem Alo (F:Fence)(n:Nat)(hf:F.fn 154)(hro:F.round=none)(a:Option Addr)(len cap:Nat)(w:World):
 CallsIn F n Tryz.prog 154 #[.slice a len cap,.int .i64 400] w fun e w'=>e= .returned (.func (.func 186) #[] #[.pointer (some ⟨w.heap.size,0,none⟩),.pointer (some ⟨w.heap.size+1,0,none⟩)])∧w'=(w.alloc (.cells #[.slice a len cap] 70)).alloc (.cells #[.int .i64 400] 3):=by
 refine callsIn_of_wp Tryz.func154 rfl hf ?_ hro
 simp only[Tryz.ntmps154,YV,QF,QI,Nat.reduceAdd,Nat.reduceSub,Array.replicate_succ,Array.replicate_zero,List.push_toArray,List.append_toArray,ZQ,ZN]
 gi_wp2
 go_ret
 exact⟨rfl,rfl⟩
theorem Ais (F:Fence)(n:Nat)(hf:F.fn 186)(hro:F.round=none)(hn:1≤n)(l Bs Bn b len cap:Nat)(hlen:1≤len)(hle:len<400∨len=400)(hcap:len≤cap)(J Jx:List Unit→World→Prop)(hJd:∀ pre W,J pre W→J pre W.drew)
 (hY:∀ pre x W,J pre W→pre.length<1→YieldAt F (n - 1) Tryz.prog l #[.slice (some ⟨b,0,none⟩) len len] W fun e W'=>
  (e= .returned (.bool true)∧J (pre++[x]) W'∧((W.cell? ⟨Bs,0,none⟩=some (.slice (some ⟨b,0,none⟩) len cap)→W'.cell? ⟨Bs,0,none⟩=some (.slice (some ⟨b,0,none⟩) len cap))∧(W.cell? ⟨Bn,0,none⟩=some (.int .i64 400)→W'.cell? ⟨Bn,0,none⟩=some (.int .i64 400))))∨(e= .returned (.bool false)∧Jx (pre++[x]) W'))
 (W:World) (hBs:W.cell? ⟨Bs,0,none⟩=some (.slice (some ⟨b,0,none⟩) len cap)) (hBn:W.cell? ⟨Bn,0,none⟩=some (.int .i64 400)) (h0:J [] W):
 CallsIn F n Tryz.prog 186 #[.func (.yield l) #[] #[],.pointer (some ⟨Bs,0,none⟩),.pointer (some ⟨Bn,0,none⟩)] W fun e W'=>(∃ v,e= .returned v)∧(J [()] W'∨Jx [()] W'):=by
 refine callsIn_of_wp Tryz.func186 rfl hf ?_ hro
 simp only[Tryz.ntmps186,YV,QF,QI,Nat.reduceAdd,Nat.reduceSub,Array.replicate_succ,Array.replicate_zero,List.push_toArray,List.append_toArray,ZQ,ZN]
 gi_wp2
 gi_loopw [4] (fun i wr=>((i= .int .i64 0∧J [] wr)∨(i= .int .i64 400∧J [()] wr))∧wr.cell? ⟨Bs,0,none⟩=some (.slice (some ⟨b,0,none⟩) len cap)∧wr.cell? ⟨Bn,0,none⟩=some (.int .i64 400))
  (fun i _=>400 - (intOf i).toNat)
 case atStart=>exact⟨.inl ⟨rfl,h0⟩,hBs,hBn⟩
 case round=>
  obtain⟨(⟨rfl,hJ0⟩|⟨rfl,hJ1⟩),hs,hnn⟩:=hrel
  ·obtain⟨fn,tmps,assign,body,hy,hR⟩:=hY [] () wr.drew (hJd _ _ hJ0) (by simp)
   have hs':wr.drew.cell? ⟨Bs,0,none⟩=some (.slice (some ⟨b,0,none⟩) len cap):=hs
   have hnn':wr.drew.cell? ⟨Bn,0,none⟩=some (.int .i64 400):=hnn
   rcases hle with hle|rfl
   ·have hli:(len:Int)<400:=by omega
    gi_wp2
    gi_region
    gi_wp2
    all_goals refine hR.mono ?_
    all_goals rintro e W3 (⟨rfl,hJ3,hk3,hk4⟩|⟨rfl,hJx3⟩)
    all_goals gi_wp2
    all_goals first
     |exact⟨⟨.inr ⟨rfl,hJ3⟩,hk3 hs',hk4 hnn'⟩,by simp[intOf]⟩
     |(refine bodyPost_ret (results_none rfl _ _ _) rfl ?_;exact⟨⟨_,rfl⟩,.inr hJx3⟩)
   ·gi_wp2
    gi_region
    gi_wp2
    all_goals refine hR.mono ?_
    all_goals rintro e W3 (⟨rfl,hJ3,hk3,hk4⟩|⟨rfl,hJx3⟩)
    all_goals gi_wp2
    all_goals first
     |exact⟨⟨.inr ⟨rfl,hJ3⟩,hk3 hs',hk4 hnn'⟩,by simp[intOf]⟩
     |(refine bodyPost_ret (results_none rfl _ _ _) rfl ?_;exact⟨⟨_,rfl⟩,.inr hJx3⟩)
  ·have hno:¬ (400:Int)<(len:Int):=by omega
   gi_wp2
   all_goals trace_state
   go_end0
   exact⟨⟨_,rfl⟩,.inl hJ1⟩
end Go.Proofs.YtpoigihfeehehaaGreatDoor
namespace Go.Proofs.YtpoigihfeehehaaGreatDoor
open Go.RowKit Go.Shelf
attribute [local go_sem] Oper.semAt_some
theorem Aab (F:Fence)(n:Nat)(hf:F.fn 186)(hro:F.round=none)(hn:1≤n)(Bs Bn b len cap:Nat)(hlen:1≤len)(hle:len≤400)(hcap:len≤cap)(w:World)(h1:Bs<w.heap.size)(h2:Bn<w.heap.size)
 (hBs:w.cell? ⟨Bs,0,none⟩=some (.slice (some ⟨b,0,none⟩) len cap)) (hBn:w.cell? ⟨Bn,0,none⟩=some (.int .i64 400)):
 SeqStopsK F n Tryz.prog 186 #[.pointer (some ⟨Bs,0,none⟩),.pointer (some ⟨Bn,0,none⟩)] (fun _:Unit=> #[.slice (some ⟨b,0,none⟩) len len])
  (fun W W'=>(W.cell? ⟨Bs,0,none⟩=some (.slice (some ⟨b,0,none⟩) len cap)→W'.cell? ⟨Bs,0,none⟩=some (.slice (some ⟨b,0,none⟩) len cap))∧(W.cell? ⟨Bn,0,none⟩=some (.int .i64 400)→W'.cell? ⟨Bn,0,none⟩=some (.int .i64 400)))
  (fun xs=>xs=[()]) (fun pre=>pre=[()]) 1 w:=fun l J Jx W hW hJ hJx hY h0=>by
 refine (Ais F n hf hro hn l Bs Bn b len cap hlen (by omega) hcap J Jx (fun pre W' h=>hJ pre W' W'.drew none h ⟨rfl,rfl,rfl,QH _,fun _ _ _=>rfl⟩ (fun r e=>by cases e)) hY W ((hW.cell (p:=⟨Bs,0,none⟩) h1).trans hBs) ((hW.cell (p:=⟨Bn,0,none⟩) h2).trans hBn) h0).mono ?_
 rintro e W' ⟨he,h|h⟩
 ·exact⟨he,.inl ⟨_,rfl,h⟩⟩
 ·exact⟨he,.inr ⟨_,rfl,h⟩⟩
section
variable {F:Fence} {n:Nat} {ops:Array Oper} {rest:List Oper} {o:Oper} {a:Act} {w:World} {Q:Exit→Act→World→Prop}
theorem Qa {l:List UInt8}{g:Nat}(hl:l.length=512)(hg:w.heap[g]? =some (.cells (Ae l) 151 (0,0)))(hgd:o.guard=none)(x:Operand)(ho:o.op= .load 151 x)
 (hx:a.eval x= .pointer (some ⟨g,0,none⟩)) (h:wpListIn F n Tryz.prog ops Q rest (a.put o.dst (.agg (Ae l))) w):wpListIn F n Tryz.prog ops Q (o::rest) a w:=by
 refine wpListIn_plain hgd fun K hK'=> ?_
 unfold Oper.wpIn
 refine⟨by simp[Oper.about,ho],?_⟩
 rw[Oper.semAt_plain F _ _ (by rw[ho];intro c hc;cases hc)]
 unfold execOp
 simp only[ho,hx,Instr.loadAt,Instr.sureAddr,Sem.run_bind,Sem.run_pure,Result.andThen_ok,run_loadVar_row w g _ 151 _ _ _ hg Tryz.underlying151 rfl (Aw _ hl)]
 exact hK' _ _ h
theorem Nl {l z:List UInt8}{g:Nat}(hl:l.length=512)(hz:z.length=512)(hg:w.heap[g]? =some (.cells (Ae z) 151 (0,0)))(hgd:o.guard=none)(x y:Operand)(ho:o.op= .store 151 x y)
 (hx:a.eval x= .pointer (some ⟨g,0,none⟩)) (hy:a.eval y= .agg (Ae l)) (h:wpListIn F n Tryz.prog ops Q rest (a.put o.dst undef) (w.setRow g (Ae l))):wpListIn F n Tryz.prog ops Q (o::rest) a w:=by
 refine wpListIn_plain hgd fun K hK'=> ?_
 unfold Oper.wpIn
 refine⟨by simp[Oper.about,ho],?_⟩
 rw[Oper.semAt_plain F _ _ (by rw[ho];intro c hc;cases hc)]
 unfold execOp
 simp only[ho,hx,hy,Instr.storeAt,Instr.sureAddr,Sem.run_bind,Sem.run_pure,Result.andThen_ok,run_storeVar_row w g _ 151 _ _ hg (Aw _ hl) (by rw[A1,A1,hl,hz]) (Bd _)]
 exact hK' _ _ h
theorem Nv {l z:List UInt8}(hl:l.length=512)(hz:z.length=512)(hgd:o.guard=none)(x y:Operand)(ho:o.op= .store 151 x y)
 (hx:a.eval x= .pointer (some ⟨w.heap.size,0,none⟩)) (hy:a.eval y= .agg (Ae l)) (h:wpListIn F n Tryz.prog ops Q rest (a.put o.dst undef) (w.alloc (.cells (Ae l) 151))):
 wpListIn F n Tryz.prog ops Q (o::rest) a (w.alloc (.cells (Ae z) 151)):=by
 refine Nl hl hz (heap_alloc_new w _) hgd x y ho hx hy ?_
 rw[World.setRow_alloc_new]
 exact h
end
noncomputable def Aca:Code:=match Tryz.f114.body with
 |some (.seq _ (.seq _ z))=>z
 |_=>.skip
theorem Ait {w0:World}{bt cap nb:Nat}{bits:List UInt8}(hnb:bits.length=nb)(h1:1≤nb)(h4:nb≤400)(hcap:nb≤cap)(hlt:bt<w0.heap.size)(hby:∀ j c,bits[j]? =some c→w0.cell? ⟨bt,0+j,none⟩=some (.int .u8 c.toNat))(u0 u2 u3 u4 u5 u6 u7 u8 u9 u10 u11 u12 u13 u14 u15 u16 u17 u18 u19 u20 u21 u22 u23 u24 u25 u26 u27 u28 u29 u30 u31 u32 u33 u34 u35 u36 u37 u38 u39 u40 u41 u42 u43 u44:Value){Rw:Ending→World→Prop}
 (hw:∀ w1,Below w0.heap.size w0 w1→Calls Tryz.prog 115 #[u0,.int .i64 0,.agg (Ae (He (Fg 255) bits).1)] w1 fun e w'=>∃ v,e= .returned v∧∀ D,w0.heap.size≤D→w1.heap[D]? =some (.deferred (some []))→w'.heap[D]? =some (.deferred (some []))∧∀ o,Rw (.returned (.tuple #[])) (w'.putObj D o)):
 Aca.wpIn Fence.wide 10 Tryz.prog (bodyPostM Fence.wide 10 Tryz.prog Tryz.f114 Rw) { tmps:= #[u0,.slice (some ⟨bt,0,none⟩) nb cap,u2,u3,u4,u5,u6,u7,u8,u9,u10,u11,u12,u13,u14,u15,u16,u17,u18,u19,u20,u21,u22,u23,u24,u25,u26,u27,u28,u29,u30,u31,u32,u33,u34,u35,u36,u37,u38,u39,u40,u41,u42,u43,u44],defers:=[] } w0:=by
 have hl0:=Dc 255
 have hz:=Eg
 obtain⟨Qm,hQm⟩:∃ Q,Q=bodyPostM Fence.wide 10 Tryz.prog Tryz.f114 Rw:=⟨_,rfl⟩
 rw[← hQm]
 unfold Aca Tryz.f114
 dsimp only
 gi_wp2_with (first|(refine⟨trivial,?_⟩;gi_at_call 71;refine (callsIn_wide.2 (Ahe 255 _)).mono ?_;rintro e w1 ⟨rfl,hb1⟩)|(refine Nv hl0 Ai rfl _ _ rfl rfl rfl ?_)|(refine⟨trivial,?_⟩;gi_at_call 154;refine (Alo Fence.wide _ trivial rfl _ _ _ _).mono ?_;rintro e w2 ⟨rfl,rfl⟩))
 have hlp:(He (Fg 255) bits).1.length=512:=D8 _ _
 obtain⟨w2,hw2⟩:∃ w2,w2=((w1.alloc (.cells (Ae (Fg 255)) 151)).alloc (.cells #[.slice (some ⟨bt,0,none⟩) nb cap] 70)).alloc (.cells #[.int .i64 400] 3):=⟨_,rfl⟩
 have hs2:w2.heap.size=w1.heap.size+3:=by rw[hw2];simp
 have hb2:Below w0.heap.size w0 w2:=by rw[hw2];exact ((hb1.alloc hb1.size _).alloc (by have:=hb1.size;simp;omega) _).alloc (by have:=hb1.size;simp;omega) _
 have hpg:w2.heap[w1.heap.size]? =some (.cells (Ae (Fg 255)) 151 (0,0)):=by
  rw[hw2];exact Gy _ (Gy _ (heap_alloc_new _ _))
 have hbx:w2.cell? ⟨w1.heap.size+1,0,none⟩=some (.slice (some ⟨bt,0,none⟩) nb cap):=by
  have:w2.heap[w1.heap.size+1]? =some (.cells #[.slice (some ⟨bt,0,none⟩) nb cap] 70 (0,0)):=by
   rw[hw2];refine Gy _ ?_
   have:=heap_alloc_new (w1.alloc (.cells (Ae (Fg 255)) 151)) (.cells #[.slice (some ⟨bt,0,none⟩) nb cap] 70)
   rwa [World.size_alloc]at this
  simp[World.cell?,this]
 have hbn:w2.cell? ⟨w1.heap.size+1+1,0,none⟩=some (.int .i64 400):=by
  have:w2.heap[w1.heap.size+1+1]? =some (.cells #[.int .i64 400] 3 (0,0)):=by
   rw[hw2]
   have:=heap_alloc_new ((w1.alloc (.cells (Ae (Fg 255)) 151)).alloc (.cells #[.slice (some ⟨bt,0,none⟩) nb cap] 70)) (.cells #[.int .i64 400] 3)
   rwa [World.size_alloc,World.size_alloc]at this
  simp[World.cell?,this]
 rw[← hw2]
 have hs1:=hb1.size
 have hpage:∀ (B:World) (W:World) (row:Option Nat) (l:List UInt8),W.heap[w1.heap.size]? =some (.cells (Ae l) 151 (0,0))→W.grownBy B row→(∀ r,row=some r→w2.heap.size≤r∧∃ o:Obj,W.heap[r]? =some o∧o.isCells=false)→B.heap[w1.heap.size]? =some (.cells (Ae l) 151 (0,0)):=fun B W row l h hg hr=>
  (hg.block _ (QU.1 h).1 (fun e=>by have:=(hr _ e.symm).1;omega)).trans h
 refine wpIn_rangeFunc_ownF rfl (by omega) (gf:=186) (lb:= #[.pointer (some ⟨w1.heap.size+1,0,none⟩),.pointer (some ⟨w1.heap.size+1+1,0,none⟩)]) rfl trivial (enters_of Tryz.func186 (by kernel_rfl) rfl)
  (Aab Fence.wide _ trivial rfl (by omega) (w1.heap.size+1) (w1.heap.size+1+1) bt nb cap h1 h4 hcap w2 (by omega) (by omega) hbx hbn)
  (fun h k=>⟨fun e=>k.1 (h.1 e),fun e=>k.2 (h.2 e)⟩)
  (fun W l o o' hl ho hc hw=>⟨fun e=>(World.cell?_of_block (World.putObj_heap_other (by show w1.heap.size+1≠l;omega))).trans e,fun e=>(World.cell?_of_block (World.putObj_heap_other (by show w1.heap.size+1+1≠l;omega))).trans e⟩)
  (Below.refl _ _) (fun _=>rfl)
  (fun pre W=>W.heap[w1.heap.size]? =some (.cells (Ae (if pre=[]then Fg 255 else (He (Fg 255) bits).1)) 151 (0,0))∧Below w0.heap.size w0 W∧w2.heap.size≤W.heap.size)
  (fun _ _ _=>False)
  (OwnFrom.and (fun pre W B row h hg hr=>hpage B W row _ h hg hr) (OwnFrom.and (ownFrom_below (QH _) (by omega)) (fun pre W B row h hg hr=>ZO h hg.size)))
  (fun _ _ _ _ _ h _ _=>h)
  ⟨by simpa using hpg,hb2,QH _⟩
  (fun _=>{ tmps:= #[u0,.slice (some ⟨bt,0,none⟩) nb cap,u2,u3,u4,u5,u6,u7,.pointer (some ⟨w1.heap.size,0,none⟩),.slice (some ⟨bt,0,none⟩) nb nb,u10,u11,u12,u13,u14,u15,u16,u17,u18,u19,u20,u21,u22,u23,u24,u25,u26,u27,u28,u29,u30,.agg (Ae (Fg 255)),.slice (some ⟨bt,0,none⟩) nb cap,.func (.func 186) #[] #[.pointer (some ⟨w1.heap.size+1,0,none⟩),.pointer (some ⟨w1.heap.size+1+1,0,none⟩)],.slice (some ⟨bt,0,none⟩) nb nb,u35,u36,u37,u38,u39,u40,u41,u42,u43,u44],defers:=[] }) ?assign ?body ?done ?stop
 case assign=>
  intro l x W K hK
  gi_wp2
  exact hK
 case body=>
  rintro l pre x W ⟨hpW,hbW,hWs⟩ hlen
  have hpre:pre=[]:=by cases pre with|nil=>rfl|cons _ _=>simp at hlen
  subst hpre
  simp only[if_true]at hpW
  have hby':D2 W (.slice (some ⟨bt,0,none⟩) nb nb) bits:=by
   subst hnb
   exact Fu fun j c hc=>(hbW.cell (p:=⟨bt,0+j,none⟩) hlt).trans (hby j c hc)
  gi_wp2_with (first|(refine Qa hl0 hpW rfl _ rfl rfl ?_)|(refine⟨trivial,?_⟩;gi_at_call 70;refine (CallsIn.inRound l (callsIn_wide.2 (Zm (Fg 255) bits _ _ hl0 hby' (by omega)))).mono ?_;rintro e W3 ⟨rfl,hb3⟩)|(refine Nl hlp hl0 ((hb3.block _ (QU.1 hpW).1).trans hpW) rfl _ _ rfl rfl rfl ?_))
  have hp3:W3.heap[w1.heap.size]? =some (.cells (Ae (Fg 255)) 151 (0,0)):=(hb3.block _ (QU.1 hpW).1).trans hpW
  have hk:∀ k,k<W.heap.size→k≠w1.heap.size→(W3.setRow w1.heap.size (Ae (He (Fg 255) bits).1)).heap[k]? =W.heap[k]? :=fun k h1 h2=>(setRow_other _ _ _ _ h2).trans (hb3.block k h1)
  refine⟨⟨by simpa using hb3.size,fun k o hk' ho=> ?_⟩,⟨fun e=> ?_,fun e=> ?_⟩,?_,?_,by have:=hb3.size;simp;omega⟩
  ·have hne:k≠w1.heap.size:=fun e=>by subst e;rw[hpW]at hk';cases hk';simp[Obj.isCells]at ho
   exact (hk k (QU.1 hk').1 hne).trans hk'
  ·exact (World.cell?_of_block (hk _ (by show w1.heap.size+1<_;omega) (by show w1.heap.size+1≠_;omega))).trans e
  ·exact (World.cell?_of_block (hk _ (by show w1.heap.size+1+1<_;omega) (by show w1.heap.size+1+1≠_;omega))).trans e
  ·simpa using setRow_heap _ _ _ _ _ _ hp3
  ·exact below_setRow (hbW.trans (hb3.mono hbW.size)) hs1 _
 case done=>
  rintro D ys W hD rfl ⟨hpW,hbW,hWs⟩ hK
  have hpW':W.heap[w1.heap.size]? =some (.cells (Ae (He (Fg 255) bits).1) 151 (0,0)):=by simpa using hpW
  gi_wp2_with (first|(refine Qa hlp hpW' rfl _ rfl rfl ?_)|(refine⟨trivial,?_⟩;gi_at_call 115;refine (callsIn_wide.2 (hw W hbW)).mono ?_;rintro e W3 ⟨v,rfl,hv⟩))
  rw[hQm]
  obtain⟨hK3,hR⟩:=hv D (by have:=hb2.size;omega) hK
  refine⟨by simp,.inl ⟨_,_,rfl,run_takeDeferred hK3,?_⟩⟩
  exact⟨_,results_none rfl _ _ _,hR _⟩
 case stop=>
  rintro D c pre W _ _ h _
  exact h.elim
end Go.Proofs.YtpoigihfeehehaaGreatDoor
namespace Go.Proofs.YtpoigihfeehehaaGreatDoor
open Go.RowKit
def Xo:Cq:=(.det 0 (.det 1 (.det 2 (.det 3 (.det 4 (.det 5 (.det 6 (.det 7 (.det 8 (.det 9 (.fin 10 .done)))))))))))
def Xp:Cq:=(.det 0 (.det 1 (.det 2 (.det 3 (.det 4 (.det 5 (.det 6 (.det 7 (.det 8 (.det 9 (.fin 10 .done)))))))))))
def tMa:=aa wX <| aa wbu <| aa T3 <| aa T5 <| aa T38 <| aa T70 Y1
theorem seqW {P:Program}{C:Ctx}{D:Array Oper→List AV→St→(List AV→St→Prop)→Prop}{x y rest:Code}{fr:List AV}{σ:St}{QA:Exit→List AV→St→Prop}(hC:C.ok P)(hD:Ho P D)(hn:∀ e fr σ,QA e fr σ→e= .normal)(h:AWp P C D (.seq x y) fr σ QA){M:Az}{a:Act}(hM:Al M σ)(hF:Cx M a fr){Q:Exit→Act→World→Prop}
 (k:∀ M' a' fr' σ',Ext M σ M' σ'→Al M' σ'→Cx M' a' fr'→AWp P C D y fr' σ' QA→rest.wp P Q a' M'.w):(Code.seq x rest).wp P Q a M.w:=
 wp_seq (Ee hC hD x a fr M σ _ _ hM hF h fun e M' a' fr' σ' h1 h2 h3 h4 h5=>by
  cases e with
  |normal=>exact k M' a' fr' σ' h1 h2 h3 h5
  |_=>exact absurd (hn _ _ _ h5) (by simp))
theorem Alp {M:Az}{args:List AV}{vs:List Value}{nt nn:Nat}(hv:Af M args vs)(hnt:nn - args.length=nt):Cx M { tmps:=vs.toArray++Array.replicate (nn - vs.toArray.size) undef,defers:=[] } (args++List.replicate nt (.tup [])):=by
 subst hnt
 have hlen:=hv.len
 refine⟨?_,rfl⟩
 have:(vs.toArray++Array.replicate (nn - vs.toArray.size) undef).toList=vs++List.replicate (nn - args.length) undef:=by simp[hlen]
 rw[this]
 refine hv.append (Bc.2 ⟨by simp,fun i x u hx hu=> ?_⟩)
 rw[WU]at hx hu
 split at hx
 ·simp at hx;subst hx
  rename_i hi
  rw[if_pos hi]at hu;simp at hu;subst hu
  exact F4
 ·simp at hx
def A1n (P:Program)(fn:Func)(M:Az)(σ:St)(R:AV→St→Prop):Exit→Act→World→Prop:=
 bodyPostM Fence.wide 10 P fn fun e w'=>∃ v r σ' M',e= .returned v∧M'.w=w'∧Ext M σ M' σ'∧Al M' σ'∧Ag M' r v∧σ.length≤σ'.length∧R r σ'
theorem Aqm {P:Program}{C:Ctx}{D:Array Oper→List AV→St→(List AV→St→Prop)→Prop}{f:FuncId}{fn:Func}{r0 r1 c rest:Code}{args:List AV}{σ:St}{R:AV→St→Prop}{nt:Nat}{QA:Exit→List AV→St→Prop}(hC:C.ok P)(hD:Ho P D)(hf:P.funcs[f]? =some fn)(hname:(fn.name== "runtime.NumGoroutine")=false)
 (hb:fn.body=some (.seq r0 (.seq (.seq r1 c) rest))) (hnt:fn.ntmps - args.length=nt) (hn:∀ e fr σ,QA e fr σ→e= .normal)
 (h:AWp P C D (.seq r0 (.seq (.seq r1 c) .skip)) (args++List.replicate nt (.tup [])) σ QA)
 (k:∀ M M' a' fr' σ',Al M σ→Ext M σ M' σ'→Al M' σ'→Cx M' a' fr'→QA .normal fr' σ'→rest.wpIn Fence.wide 10 P (A1n P fn M σ R) a' M'.w):
 Aa P f args σ R:=by
 refine⟨⟨fn,hf,hname,by simp[hb]⟩,fun M vs hM hv=>callsIn_wide.1 (callsIn_of_wp_marks (n:=10) hf hb trivial (wpIn_wide.2 ?_) rfl)⟩
 have hF:=Alp (nn:=fn.ntmps) hv hnt
 refine seqW hC hD hn h hM hF fun M1 a1 fr1 σ1 e1 m1 f1 h1=> ?_
 refine seqW hC hD hn h1 m1 f1 fun M2 a2 fr2 σ2 e2 m2 f2 h2=> ?_
 exact wpIn_wide.1 (k M M2 a2 fr2 σ2 hM (e1.trans e2) m2 f2 (by simpa [AWp]using h2))
def bitU (k:Nat):UInt8:=UInt8.ofBitVec (1#8 <<< k)
theorem Avz {k:Nat}(h:k<8):IntKind.u8.wrap (1*2 ^ k)=((bitU k).toNat:Int):=by
 rcases k with _|_|_|_|_|_|_|_|k
 all_goals first|rfl|omega
def clrU (c:UInt8)(k:Nat):UInt8:=UInt8.ofBitVec (c.toBitVec &&& ~~~(bitU k).toBitVec)
def setU (c:UInt8)(k:Nat):UInt8:=UInt8.ofBitVec (c.toBitVec ||| (bitU k).toBitVec)
theorem Av0 (c:UInt8)(k:Nat):IntKind.u8.wrap ((BitVec.ofInt IntKind.u8.bits (c.toNat:Int) &&& ~~~BitVec.ofInt IntKind.u8.bits ((bitU k).toNat:Int)).toNat:Int)=((clrU c k).toNat:Int):=by
 rw[Air,Air];exact Aaa _
theorem Av1 (c:UInt8)(k:Nat):IntKind.u8.wrap ((BitVec.ofInt IntKind.u8.bits (c.toNat:Int) ||| BitVec.ofInt IntKind.u8.bits ((bitU k).toNat:Int)).toNat:Int)=((setU c k).toNat:Int):=by
 rw[Air,Air];exact Aaa _
theorem Aiu (l:List UInt8)(i:Nat)(c:UInt8):(Cy l).set i [.p (.v (.int .u8 (c.toNat:Int)))]=Cy (l.set i c):=by simp only[Cy,List.map_set];rfl
def mkU (c:UInt8)(k:Nat)(v:Bool):UInt8:=if v then setU (clrU c k) k else clrU c k
def Cn (l:List UInt8)(n:Nat)(v:Bool):List UInt8:=l.set (n / 8) (mkU (l.getD (n / 8) 0) (n % 8) v)
def MkQ (σ:St)(b t nb:Nat)(bits:List UInt8)(fr:List AV)(s:St):Prop:=fr.length=45∧fr[0]? =some (.mp b 2 0 0)∧fr[1]? =some (.ms t 1 0 nb)∧s=σ.set t (some (.row 1 (Cy bits)))
theorem Al.below {N:Az}{σ:St}{w1:World}(hM:Al N σ)(hb:Below N.w.heap.size N.w w1):Al { N with w:=w1 } σ∧Ext N σ { N with w:=w1 } σ:=by
 have hcell:∀ b o,N.I b o→w1.cell? ⟨b,o,none⟩=N.w.cell? ⟨b,o,none⟩:=fun b o ho=>hb.cell (p:=⟨b,o,none⟩) (hM.imm b o ho)
 have hL:Later N { N with w:=w1 }:=⟨fun _ _ h h'=>⟨h,h',rfl⟩,C5 (fun _=>rfl) (fun _=>rfl) (fun _=>rfl),fun _ _ h=>h,hcell⟩
 have hE:Ext N σ { N with w:=w1 } σ:=⟨hL.mu,hL.own,hL.imm,hcell,fun b hlt _=>⟨hb.block b hlt,fun _ h=>h⟩,fun t ob b h1 h2=>.inr ⟨t,ob,h1,h2⟩,hb.size,hb.os,hb.tape,hb.output⟩
 exact⟨⟨fun t ob ht=>(hM.obj t ob ht).later hL rfl rfl rfl fun b hbb=>⟨hb.block b (hM.lt t b hbb),fun _ h=>h⟩,hM.inj,hM.fresh,fun t b hbb=>ZE (hM.lt t b hbb) hb.size,fun b o ho=>ZE (hM.imm b o ho) hb.size,hM.glob.ext hE⟩,hE⟩
theorem Ext.putD {N M2:Az}{σ σ2:St}{D:Nat}{o:Obj}(h:Ext N σ M2 σ2)(hI:∀ b q,N.I b q→b<N.w.heap.size)(hD:N.w.heap.size≤D):Ext N σ { M2 with w:=M2.w.putObj D o } σ2:=
 ⟨h.mu,h.own,h.imm,fun b q hq=>(World.cell?_of_block (World.putObj_heap_other (by show b≠D;have:=hI b q hq;omega))).trans (h.cell b q hq),fun b hlt hn=>⟨(World.putObj_heap_other (by omega)).trans (h.keep b hlt hn).1,(h.keep b hlt hn).2⟩,h.new,by simpa using h.size,h.os,h.tape,h.output⟩
theorem Al.putD {M2:Az}{σ2:St}{D:Nat}{o:Obj}(hM:Al M2 σ2)(h1:∀ t ob,σ2.at t ob→M2.mu t≠some D)(h2:∀ q,¬ M2.I D q)(h3:Glob { M2 with w:=M2.w.putObj D o } σ2):Al { M2 with w:=M2.w.putObj D o } σ2:=by
 have hcell:∀ b q,M2.I b q→(M2.w.putObj D o).cell? ⟨b,q,none⟩=M2.w.cell? ⟨b,q,none⟩:=fun b q hq=>World.cell?_of_block (World.putObj_heap_other (by show b≠D;intro e;subst e;exact h2 q hq))
 have hL:Later M2 { M2 with w:=M2.w.putObj D o }:=⟨fun _ _ h h'=>⟨h,h',rfl⟩,C5 (fun _=>rfl) (fun _=>rfl) (fun _=>rfl),fun _ _ h=>h,hcell⟩
 exact⟨fun t ob ht=>(hM.obj t ob ht).later hL rfl rfl rfl fun b hbb=>⟨World.putObj_heap_other (fun e=>h1 t ob ht (e▸hbb)),fun _ h=>h⟩,hM.inj,hM.fresh,fun t b hbb=>by simpa using hM.lt t b hbb,fun b q hq=>by simpa using hM.imm b q hq,h3⟩
def mkP (bits:List UInt8):List UInt8:=(He (Fg 255) bits).1
theorem Av2 {σ:St}{b t n nb:Nat}{bits:List UInt8}{v:Bool}{T:St→Prop}(ht:σ[t]? =some (some (.row 1 (Cy bits))))(hnb:bits.length=nb)(hn:n<8*nb)(hnb1:nb≤400)
 (hw:Aa Tryz.prog 115 [.mp b 2 0 0,Ad .i64 0,A6 (mkP (Cn bits n v))] (σ.set t (some (.row 1 (Cy (Cn bits n v))))) fun r s=>r= .tup []∧T s):
 Aa Tryz.prog 114 [.mp b 2 0 0,.ms t 1 0 nb,Ad .i64 (n:Nat),Av v] σ fun r s=>r= .tup []∧T s:=by
 have lt:=Ac ht
 have w1:IntKind.i64.wrap ((n:Int).tdiv 8)=((n / 8:Nat):Int):=by
  rw[XQ (by omega),wrap_i64 (by omega) (by omega)];omega
 have w2:(n:Int).tmod 8=((n % 8:Nat):Int):=by rw[WR (by omega)];omega
 have b1:(((n / 8:Nat):Int)<(nb:Int))=True:=eq_true (by omega)
 have b2:=nnI (n / 8)
 obtain⟨c,hc⟩:∃ c,bits[n / 8]? =some c:=⟨bits[n / 8]'(by omega),by simp⟩
 have hmk:Cn bits n v=bits.set (n / 8) (mkU c (n % 8) v):=by simp[Cn,QM,hc]
 have hlt:n / 8<bits.length:=by omega
 have hk8:n % 8<8:=WW _ (by omega)
 generalize hk:n % 8=k at*
 have w3:((k:Int)<0)=False:=eq_false (by omega)
 have w4:min k IntKind.u8.bits=k:=YO (by show k≤8;omega)
 have w5:=Avz hk8
 have g1:(Cy bits)[n / 8]? =some [.p (.v (.int .u8 (c.toNat:Nat)))]:=by simp[Cy,hc,Bo]
 have g2:(Cy (bits.set (n / 8) (clrU c k)))[n / 8]? =some [.p (.v (.int .u8 ((clrU c k).toNat:Nat)))]:=by simp[Cy,Bo,hlt]
 have g3:(bits.set (n / 8) (clrU c k)).set (n / 8) (setU (clrU c k) k)=bits.set (n / 8) (setU (clrU c k) k):=VH ..
 refine Aqm (QA:=fun e fr s=>e= .normal∧MkQ σ b t nb (Cn bits n v) fr s) Am An Tryz.func114 (by kernel_rfl) rfl (nt:=41) rfl (fun e fr s h=>h.1) ?_ ?_
 ·cases v
  all_goals
   repeat' first|simp only[↓wBA,tMa,seval,Xo,Xp,wH,lt,ht,w1,w2,w3,w4,w5,b1,b2,g1,g2,g3,Av0,Av1,Aiu]|(with_reducible first|refine dQ Xo 11 (some 10) ?_|refine dQ Xp 11 (some 21) ?_)
   exact⟨rfl,rfl,rfl,by rw[hmk];rfl⟩
 ·rintro M N a' fr' σ' hM hE hM' hF ⟨_,hq1,hq2,hq3,rfl⟩
  obtain⟨⟨l⟩,ds⟩:=a'
  obtain rfl:ds=[]:=hF.defers
  have hlen:l.length=45:=by have:=hF.tmps.len;simp only at this;omega
  have hrep:=(Bc.1 hF.tmps).2
  rcases l with _|⟨u0,l⟩
  ·simp at hlen
  rcases l with _|⟨u1,l⟩
  ·simp at hlen
  rcases l with _|⟨u2,l⟩
  ·simp at hlen
  rcases l with _|⟨u3,l⟩
  ·simp at hlen
  rcases l with _|⟨u4,l⟩
  ·simp at hlen
  rcases l with _|⟨u5,l⟩
  ·simp at hlen
  rcases l with _|⟨u6,l⟩
  ·simp at hlen
  rcases l with _|⟨u7,l⟩
  ·simp at hlen
  rcases l with _|⟨u8,l⟩
  ·simp at hlen
  rcases l with _|⟨u9,l⟩
  ·simp at hlen
  rcases l with _|⟨u10,l⟩
  ·simp at hlen
  rcases l with _|⟨u11,l⟩
  ·simp at hlen
  rcases l with _|⟨u12,l⟩
  ·simp at hlen
  rcases l with _|⟨u13,l⟩
  ·simp at hlen
  rcases l with _|⟨u14,l⟩
  ·simp at hlen
  rcases l with _|⟨u15,l⟩
  ·simp at hlen
  rcases l with _|⟨u16,l⟩
  ·simp at hlen
  rcases l with _|⟨u17,l⟩
  ·simp at hlen
  rcases l with _|⟨u18,l⟩
  ·simp at hlen
  rcases l with _|⟨u19,l⟩
  ·simp at hlen
  rcases l with _|⟨u20,l⟩
  ·simp at hlen
  rcases l with _|⟨u21,l⟩
  ·simp at hlen
  rcases l with _|⟨u22,l⟩
  ·simp at hlen
  rcases l with _|⟨u23,l⟩
  ·simp at hlen
  rcases l with _|⟨u24,l⟩
  ·simp at hlen
  rcases l with _|⟨u25,l⟩
  ·simp at hlen
  rcases l with _|⟨u26,l⟩
  ·simp at hlen
  rcases l with _|⟨u27,l⟩
  ·simp at hlen
  rcases l with _|⟨u28,l⟩
  ·simp at hlen
  rcases l with _|⟨u29,l⟩
  ·simp at hlen
  rcases l with _|⟨u30,l⟩
  ·simp at hlen
  rcases l with _|⟨u31,l⟩
  ·simp at hlen
  rcases l with _|⟨u32,l⟩
  ·simp at hlen
  rcases l with _|⟨u33,l⟩
  ·simp at hlen
  rcases l with _|⟨u34,l⟩
  ·simp at hlen
  rcases l with _|⟨u35,l⟩
  ·simp at hlen
  rcases l with _|⟨u36,l⟩
  ·simp at hlen
  rcases l with _|⟨u37,l⟩
  ·simp at hlen
  rcases l with _|⟨u38,l⟩
  ·simp at hlen
  rcases l with _|⟨u39,l⟩
  ·simp at hlen
  rcases l with _|⟨u40,l⟩
  ·simp at hlen
  rcases l with _|⟨u41,l⟩
  ·simp at hlen
  rcases l with _|⟨u42,l⟩
  ·simp at hlen
  rcases l with _|⟨u43,l⟩
  ·simp at hlen
  rcases l with _|⟨u44,l⟩
  ·simp at hlen
  rcases l with _|⟨x,l⟩
  rotate_left
  ·simp at hlen
  have r0:=hrep 0 _ u0 hq2 rfl
  have r1:=hrep 1 _ u1 hq3 rfl
  simp only[Ag]at r1
  obtain⟨bt,cap,hbm,hbl,rfl,hcap,hc2⟩:=r1
  have htl:St.at (σ.set t (some (.row 1 (Cy (Cn bits n v))))) t (.row 1 (Cy (Cn bits n v))):=by unfold St.at;simp[lt]
  obtain⟨_,bt',cur,Tc,hb',hh,hIc,hr,hcs⟩:=hM'.obj t _ htl
  have:bt'=bt:=by rw[hbm]at hb';simpa using hb'.symm
  subst this
  have hltb:=hM'.lt t bt' hbm
  have hby:∀ j c,(Cn bits n v)[j]? =some c→N.w.cell? ⟨bt',0+j,none⟩=some (.int .u8 c.toNat):=fun j c hc=>by
   obtain⟨_,h4⟩:=hr j [.p (Bo c)] (by simp[Cy,hc])
   obtain⟨_,x,h5,h6⟩:=h4 0 (.p (Bo c)) rfl
   have hx:x= .int .u8 c.toNat:=by simp only[Bo]at h6;exact Bi h6
   subst hx
   simp only[XK,XD]at h5
   simp[World.cell?,hh,h5]
  have hnb':(Cn bits n v).length=nb:=by simp[Cn,hnb]
  refine Ait (bits:=Cn bits n v) hnb' (by omega) hnb1 hcap hltb hby u0 u2 u3 u4 u5 u6 u7 u8 u9 u10 u11 u12 u13 u14 u15 u16 u17 u18 u19 u20 u21 u22 u23 u24 u25 u26 u27 u28 u29 u30 u31 u32 u33 u34 u35 u36 u37 u38 u39 u40 u41 u42 u43 u44 ?_
  intro w1 hb1
  obtain⟨hm1,he1⟩:=hM'.below hb1
  refine (hw.2 { N with w:=w1 } [u0,.int .i64 0,.agg (Ae (mkP (Cn bits n v)))] hm1 ?_).mono ?_
  ·refine Bc.2 ⟨rfl,fun i x u hx hu=> ?_⟩
   rcases i with _|_|_|i
   ·simp at hx hu;subst hx;subst hu;exact r0.later he1.later
   ·simp at hx hu;subst hx;subst hu;exact Bb rfl
   ·simp at hx hu;subst hx;subst hu;exact Pq _
   ·simp at hx
  ·rintro e w' ⟨v',r,σ2,M2,rfl,rfl,e2,m2,rr,hl2,rfl,hT⟩
   refine⟨v',rfl,fun D hD hK=> ?_⟩
   have hDl:D<w1.heap.size:=(QU.1 hK).1
   have hno:∀ q ob,St.at (σ.set t (some (.row 1 (Cy (Cn bits n v))))) q ob→N.mu q≠some D:=fun q ob h e=>by have:=hM'.lt q D e;omega
   refine⟨(e2.keep D hDl hno).1.trans hK,fun o=>⟨_,.tup [],σ2,{ M2 with w:=M2.w.putObj D o },rfl,rfl,hE.trans ((he1.trans e2).putD hM'.imm hD),?_,F4,?_,rfl,hT⟩⟩
   ·refine m2.putD (fun t ob h e=> ?_) (fun q hq=> ?_) ?_
    ·rcases e2.new t ob D h e with h|⟨t0,ob0,h1,h2⟩
     ·have:w1.heap.size≤D:=h;omega
     ·exact hno t0 ob0 h1 h2
    ·have:=hM'.imm D q ((e2.keep D hDl hno).2 q hq);omega
    ·exact hM'.glob.ext ((he1.trans e2).putD hM'.imm hD)
   ·simpa using hl2
