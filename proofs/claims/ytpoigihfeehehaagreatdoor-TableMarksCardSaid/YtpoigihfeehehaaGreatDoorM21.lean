/- Disks: what they are in a state. Disks: walks. Disks: walks, more. Disks: made, brought up. -/
import Derived.Test.YtpoigihfeehehaaGreatDoorM20
set_option linter.all false
set_option maxRecDepth 100000
set_option maxHeartbeats 32000000
namespace Go.Proofs.YtpoigihfeehehaaGreatDoor
open Go.RowKit
def lkM {β:Type}:List (Nat×β)→Nat→Option β
 |[],_=>none
 |(j,x)::m,k=>if j=k then some x else lkM m k
def Dq {β:Type}:List (Nat×β)→Nat→β→List (Nat×β)
 |[],k,y=>[(k,y)]
 |(j,x)::m,k,y=>if j=k then (k,y)::m else (j,x)::Dq m k y
theorem I9 {β:Type}(k:Nat)(y:β)(i:Nat):∀ m:List (Nat×β),lkM (Dq m k y) i=if i=k then some y else lkM m i
 |[]=>by simp only[Dq,lkM,eq_comm]
 |(j,x)::m=>by
  simp only[Dq]
  by_cases h:j=k
  ·subst h
   simp only[if_true,lkM]
   by_cases h2:j=i
   ·subst h2;simp
   ·have:¬ i=j:=fun e=>h2 e.symm
    simp[h2,this]
  ·simp only[if_neg h,lkM,I9 k y i m]
   by_cases h2:j=i
   ·subst h2;simp[h]
   ·simp[h2]
def Nj {β:Type}(f:β→AV)(m:List (Nat×β)):List (Value×AV):=m.map fun q=>(.int .i64 q.1,f q.2)
def ixM {β:Type}:List (Nat×β)→Nat→Nat→Option (Nat×β)
 |[],_,_=>none
 |(j,x)::m,k,i=>if j=k then some (i,x)else ixM m k (i+1)
theorem Alc (a b:Int):Instr.sameNow (.int .i64) (.int .i64 a) (.int .i64 b)=some (a==b):=by simp[Instr.sameNow]
theorem N5 {β:Type}(f:β→AV)(k:Nat):∀ (m:List (Nat×β)) (i:Nat),Jr (.int .i64) (.int .i64 k) (Nj f m) i=some ((ixM m k i).map fun q=>(q.1,f q.2))
 |[],i=>rfl
 |(j,x)::m,i=>by
  have ih:=N5 f k m (i+1)
  simp only[Nj,QK,Jr,Alc,ixM]at ih ⊢
  by_cases h:j=k
  ·subst h
   simp
  ·have h':((k:Int)==(j:Int))=false:=by simp;omega
   simp only[h',if_neg h,ih]
theorem Ah4 {β:Type}(k:Nat)(y:β):∀ (m:List (Nat×β)) (i:Nat),ixM m k i=none→lkM m k=none∧Dq m k y=m++[(k,y)]
 |[],i,_=>⟨rfl,rfl⟩
 |(j,x)::m,i,h=>by
  simp only[ixM]at h
  by_cases e:j=k
  ·rw[if_pos e]at h;cases h
  ·rw[if_neg e]at h
   obtain⟨h1,h2⟩:=Ah4 k y m _ h
   simp only[lkM,Dq,if_neg e,h1,h2,ZN,and_self]
theorem Avd {β:Type}(k:Nat):∀ (m:List (Nat×β)) (i:Nat),ixM m k i=none→lkM m k=none
 |[],i,_=>rfl
 |(j,x)::m,i,h=>by
  simp only[ixM]at h
  by_cases e:j=k
  ·rw[if_pos e]at h;cases h
  ·rw[if_neg e]at h
   simp only[lkM,if_neg e,Avd k m _ h]
theorem Z1 {β:Type}(k:Nat):∀ (m:List (Nat×β)) (i j:Nat) (x:β),ixM m k i=some (j,x)→i≤j∧lkM m k=some x∧∀ (f:β→AV) (y:β),(Nj f m).set (j - i) (.int .i64 k,f y)=Nj f (Dq m k y)
 |[],i,j,x,h=>by simp[ixM]at h
 |(q,z)::m,i,j,x,h=>by
  simp only[ixM]at h
  by_cases e:q=k
  ·subst e
   simp only[if_true,QB,QJ]at h
   obtain⟨rfl,rfl⟩:=h
   exact⟨QH _,by simp[lkM],fun f y=>by simp[Nj,Dq]⟩
  ·rw[if_neg e]at h
   obtain⟨h1,h2,h3⟩:=Z1 k m _ j x h
   refine⟨by omega,by simp only[lkM,if_neg e,h2],fun f y=> ?_⟩
   have:=h3 f y
   rw[show j - i=(j - (i+1))+1 by omega]
   simp only[Nj,Dq,if_neg e,QK,YF]at this ⊢
   rw[this]
theorem T8 {β:Type}(f:β→AV)(m:List (Nat×β))(k:Nat)(y:β):updK (.int .i64) (.int .i64 (k:Int)) (f y) (Nj f m)=some (Nj f (Dq m k y)):=by
 unfold updK
 rw[if_pos (by simp[Vk]),N5]
 cases hl:ixM m k 0 with
 |none=>simp[(Ah4 k y m 0 hl).2,Nj]
 |some q=>
  obtain⟨j,x⟩:=q
  simpa using (Z1 k m 0 j x hl).2.2 f y
theorem Ua {β : Type} (f : β → AV) (m : List (Nat × β)) (k : Nat) (z : Value) (ok : Bool) : Sv (.int .i64) z (.int .i64 (k : Int)) ok (Nj f m) = match lkM m k with
    | some x => some (if ok = true then .tup [f x, Av true] else f x)
    | none => (zAV z).map fun a => if ok = true then .tup [a, Av false] else a := by
  unfold Sv
  rw [if_pos (by simp [Vk]), N5]
  cases hl : ixM m k 0 with
  | none => simp [Avd k m 0 hl]
  | some q =>
    obtain ⟨j, x⟩ := q
    simp [(Z1 k m 0 j x hl).2.1]
def Fh:List UInt8:=List.replicate 64 0
def A3 (m:List (Nat×List UInt8))(k:Nat):List UInt8:=(lkM m k).getD Fh
theorem Ald:zAV (.agg ⟨zB 64⟩)=some (A6 Fh):=by
 have h:(zB 64).all plain=true:=by simp[zB,plain]
 simp only[zAV,h,if_true,QB]
 simp only[A6,Aq,Fh,Co,zB,Bo,WL]
 rfl
theorem Ale (m:List (Nat×List UInt8))(k:Nat):Sv (.int .i64) (.agg ⟨zB 64⟩) (.int .i64 (k:Int)) false (Nj A6 m)=some (A6 (A3 m k)):=by
 rw[Ua]
 unfold A3
 cases lkM m k with
 |none=>simp[Ald]
 |some x=>rfl
def ovr (v:Nat→List UInt8):List (Nat×List UInt8)→Nat→List UInt8
 |[],m=>v m
 |q::ch,m=>ovr (fun m=>if m=q.1 then q.2 else v m) ch m
theorem Z2 (v:Nat→List UInt8)(q:Nat×List UInt8)(m:Nat):∀ ch,ovr v (ch++[q]) m=if m=q.1 then q.2 else ovr v ch m:=by
 intro ch
 induction ch generalizing v with
 |nil=>rfl
 |cons r ch ih=>exact ih _
theorem Ah5 {v v':Nat→List UInt8}(h:∀ m,v m=v' m)(m:Nat):∀ ch,ovr v ch m=ovr v' ch m:=by
 intro ch
 have:v=v':=funext h
 rw[this]
structure F9 where
 size:Nat
 now:List (Nat×List UInt8)
 wait:List (Nat×List UInt8)
 kept:Nat→List UInt8
def Pv (W:List (Nat×List UInt8)):List (List PV):=W.map fun q=>.v (.int .i64 q.1)::q.2.map Bo
theorem Xb (W:List (Nat×List UInt8)):(Pv W).length=W.length:=by simp[Pv]
def Aoh (σ:St)(a:AV)(w:Option Nat)(W:List (Nat×List UInt8)):Prop:=
 (a= .p (.v (.slice none 0 0))∧w=none∧W=[])∨∃ t,a= .own t 65 (Pv W)∧w=some t∧W≠[]∧σ[t]? =some (some (.right 139 (W.length*65)))
theorem Apv {v:Nat→List UInt8}{n:Nat}:∀ ch:List (Nat×List UInt8),(∀ k,(v k).length=n)→(∀ q∈ch,q.2.length=n)→∀ k,(ovr v ch k).length=n:=by
 intro ch
 induction ch generalizing v with
 |nil=>intro h _ k;exact h k
 |cons r ch ih=>
  intro h hc k
  refine ih (fun m=> ?_) (fun q hq=>hc q (YG _ hq)) k
  split
  ·exact hc r (by simp)
  ·exact h m
def Q3 (es:List (Value×AV))(f:Nat→List UInt8):Prop:=∃ km:List (Nat×List UInt8),es=Nj A6 km∧∀ k,A3 km k=f k
theorem Mg (m:List (Nat×List UInt8))(k:Nat)(s:List UInt8)(j:Nat):A3 (Dq m k s) j=if j=k then s else A3 m j:=by
 unfold A3
 rw[I9]
 split<;>rfl
theorem Q3.upd {es:List (Value×AV)}{f:Nat→List UInt8}(h:Q3 es f)(k:Nat)(s:List UInt8):∃ es',updK (.int .i64) (.int .i64 (k:Int)) (A6 s) es=some es'∧Q3 es' fun m=>if m=k then s else f m:=by
 obtain⟨km,rfl,hf⟩:=h
 exact⟨_,T8 A6 km k s,Dq km k s,rfl,fun j=>by rw[Mg,hf]⟩
theorem Q3.congr {es:List (Value×AV)}{f g:Nat→List UInt8}(h:Q3 es f)(he:∀ k,f k=g k):Q3 es g:=by
 have:f=g:=funext he
 rw[← this];exact h
structure Ave (σ:St)(d kn kk:Nat)(w:Option Nat)(a:AV)(es:List (Value×AV))(D:F9):Prop where
 d:σ[d]? =some (some (.row 6 [[Ad .i64 (D.size:Nat),.mmap kn,.mmap kk,a,Av false,Ad .i64 (-1)]]))
 now:σ[kn]? =some (some (.map (Nj A6 D.now)))
 kept:σ[kk]? =some (some (.map es))
 keys:Q3 es D.kept
 ne:kn≠kk
 wt:Aoh σ a w D.wait
 len:∀ q∈D.wait,q.2.length=64
 big:D.size≤65536
 ov:∀ k,A3 D.now k=ovr D.kept D.wait k
 kl:∀ k,(D.kept k).length=64
def Bf (σ:St)(d:Nat)(F:Nat→Prop)(D:F9):Prop:=∃ kn kk w a es,Ave σ d kn kk w a es D∧∀ t,F t↔(t=d∨t=kn∨t=kk∨w=some t)
theorem Bf.mk' {σ:St}{d kn kk:Nat}{w:Option Nat}{a:AV}{es:List (Value×AV)}{z:Nat}{now W:List (Nat×List UInt8)}{kept:Nat→List UInt8}(h0:σ[d]? =some (some (.row 6 [[Ad .i64 (z:Nat),.mmap kn,.mmap kk,a,Av false,Ad .i64 (-1)]])))
 (h1:σ[kn]? =some (some (.map (Nj A6 now)))) (h2:σ[kk]? =some (some (.map es))) (hk:Q3 es kept) (hn:kn≠kk) (hw:Aoh σ a w W) (hl:∀ q∈W,q.2.length=64) (hb:z≤65536) (hov:∀ k,A3 now k=ovr kept W k) (hkl:∀ k,(kept k).length=64):Bf σ d (fun t=>t=d∨t=kn∨t=kk∨w=some t) ⟨z,now,W,kept⟩:=
 ⟨kn,kk,w,a,es,⟨h0,h1,h2,hk,hn,hw,hl,hb,hov,hkl⟩,fun t=>Iff.rfl⟩
theorem Aby {W:List (Nat×List UInt8)}(h:∀ q∈W,q.2.length=64){n:Nat}{s:List UInt8}(hs:s.length=64):∀ q∈W++[(n,s)],q.2.length=64:=fun q hq=>by
 rcases QS.1 hq with hq|hq
 ·exact h q hq
 ·simp at hq;subst hq;exact hs
theorem Ah6 (W:List (Nat×List UInt8))(n:Nat)(s:List UInt8):Pv W++[.v (.int .i64 (n:Int))::s.map Bo]=Pv (W++[(n,s)]):=by simp[Pv]
theorem Bf.lt {σ:St}{d:Nat}{F:Nat→Prop}{D:F9}(h:Bf σ d F D):∀ t,F t→t<σ.length:=by
 obtain⟨kn,kk,w,a,es,h,hF⟩:=h
 intro t ht
 rcases (hF t).1 ht with rfl|rfl|rfl|hw
 ·exact Ac h.d
 ·exact Ac h.now
 ·exact Ac h.kept
 ·rcases h.wt with⟨_,h1,_⟩|⟨t',_,h1,_,h2⟩
  ·rw[h1]at hw;cases hw
  ·rw[h1]at hw;simp only[QB]at hw;subst hw;exact Ac h2
theorem Bf.same {σ σ':St}{d:Nat}{F:Nat→Prop}{D:F9}(h:Bf σ d F D)(hs:∀ t,F t→σ'[t]? =σ[t]?):Bf σ' d F D:=by
 obtain⟨kn,kk,w,a,es,h,hF⟩:=h
 refine⟨kn,kk,w,a,es,⟨?_,?_,?_,h.keys,h.ne,?_,h.len,h.big,h.ov,h.kl⟩,hF⟩
 ·rw[hs _ ((hF d).2 (.inl rfl))];exact h.d
 ·rw[hs _ ((hF kn).2 (.inr (.inl rfl)))];exact h.now
 ·rw[hs _ ((hF kk).2 (.inr (.inr (.inl rfl))))];exact h.kept
 ·rcases h.wt with h1|⟨t,h1,h2,h3,h4⟩
  ·exact .inl h1
  ·exact .inr ⟨t,h1,h2,h3,by rw[hs _ ((hF t).2 (.inr (.inr (.inr h2))))];exact h4⟩
theorem Bf.frame {σ σ':St}{d:Nat}{F G G':Nat→Prop}{D:F9}(h:Bf σ d F D)(hf:Fr σ σ' G G')(hd:∀ t,F t→G t→False):Bf σ' d F D:=
 h.same fun t ht=>hf.keep t (h.lt t ht) fun hg=>hd t ht hg
theorem Bf.app {σ:St}{d:Nat}{F:Nat→Prop}{D:F9}(h:Bf σ d F D)(τ:St):Bf (σ++τ) d F D:=
 h.same fun t ht=>QD (h.lt t ht)
theorem Ao {l:List UInt8}(h:l.length=512):(Aq l).length=512:=by simp[Aq,h]
theorem Eb {l:List UInt8}(h:l.length=64):(Aq l).length=64:=by simp[Aq,h]
theorem Z3:(List.map (fun x=>AV.p (PV.v x)) (zB 64))=Aq Fh:=by
 simp only[Aq,Fh,zB,Bo,WL];rfl
theorem Ew:Fh.length=64:=rfl
theorem Bf.root {σ:St}{d:Nat}{F:Nat→Prop}{D:F9}(h:Bf σ d F D):F d:=by
 obtain⟨kn,kk,w,a,es,h,hF⟩:=h
 exact (hF d).2 (.inl rfl)
def Km:Cq:=(.det 0 (.det 1 (.det 2 (.det 3 (.det 4 (.det 5 (.fin 6 .done)))))))
def Kn:Cq:=(.det 0 (.det 1 (.det 2 (.det 3 (.det 4 (.det 5 (.det 6 (.det 7 (.act 8 (.fin 9 (.det 10 (.det 11 (.fin 12 .done)))))))))))))
def tDk:=aa wX <| aa wbu <| aa T3 <| aa T4 <| aa T29 <| aa T32 <| aa T93 <| aa T94 <| aa T96 <| aa T137 T139
theorem Abz {σ:St}{d:Nat}{F:Nat→Prop}{D:F9}(h:Bf σ d F D):Aa Tryz.prog 27 [.mp d 6 0 0] σ fun r σ'=>σ'=σ∧r=Ad .i64 (D.size:Nat):=by
 obtain⟨kn,kk,w,a,es,hd,hF⟩:=h
 have h0:=hd.d
 refine Ab Am An Tryz.func27 (by kernel_rfl) rfl (nt:=8) (rs:=[.tmp 2]) rfl rfl ?_
 repeat' simp only[↓wBA,tDk,seval,h0]
 all_goals refine R6 ?_ (QH _)
 all_goals simp only[wS]
 all_goals simp
theorem Apw {σ:St}{d:Nat}{F:Nat→Prop}{D:F9}(h:Bf σ d F D)(n:Nat)(hn:n<D.size∨n=0):Aa Tryz.prog 106 [.mp d 6 0 0,Ad .i64 (n:Nat)] σ fun r σ'=>σ'=σ∧r=Ad .i64 0:=by
 obtain⟨kn,kk,w,a,es,hd,hF⟩:=h
 have h0:=hd.d
 have e1:decide ((n:Int)<0)=false:=by simp
 refine Ab Am An Tryz.func106 (by kernel_rfl) rfl (nt:=26) (rs:=[.tmp 4]) rfl rfl ?_
 repeat' first|((with_reducible first|apply cs|apply ws)<;>intro h<;>try simp only[h])|simp only[↓wBA,tDk,seval,h0,e1]
 all_goals try (exfalso;simp_all;omega)
 all_goals refine R6 ?_ (QH _)
 all_goals simp only[wS]
 all_goals simp
theorem N6 {σ:St}{d:Nat}{c0 c1 c2 c3 c4:AV}(h0:σ[d]? =some (some (.row 6 [[c0,c1,c2,c3,c4,.p (.v (.int .i64 (-1)))]]))):Aa Tryz.prog 112 [.mp d 6 0 0] σ fun r σ'=>σ'=σ∧r= .tup []:=by
 refine Ab Am An Tryz.func112 (by kernel_rfl) rfl (nt:=21) (rs:=[]) rfl rfl ?_
 repeat' simp only[↓wBA,tDk,seval,h0]
 all_goals refine R6 ?_ (QH _)
 all_goals simp only[wS]
 all_goals simp
theorem Aoi {σ:St}{d:Nat}{F:Nat→Prop}{D:F9}(h:Bf σ d F D)(n:Nat)(hn:n<D.size)(hs:(A3 D.now n).length=64):Aa Tryz.prog 60 [.mp d 6 0 0,Ad .i64 (n:Nat)] σ fun r σ'=>Ap σ σ'∧r= .tup [A6 (A3 D.now n),Ad .i64 0]:=by
 have hm:=fun τ=>Apw (h.app τ) n (.inl hn)
 obtain⟨kn,kk,w,a,es,hd,hF⟩:=h
 have h0:=hd.d
 have h1:=hd.now
 have l0:=Ac h0
 have l1:=Ac h1
 have e1:decide ((n:Int)≥(D.size:Int))=false:=by simp;omega
 have e2:=Ale D.now n
 have e3:=Eb hs
 have e4:=Eb Ew
 refine Ab Am An Tryz.func60 (by kernel_rfl) rfl (nt:=29) (rs:=[.cell 4 137,.tmp 5]) rfl rfl ?_
 repeat' first|simp only[↓wBA,tDk,seval,wH,h0,h1,l0,l1,e1,e2,e3,e4,Z3,A6]|((with_reducible show Aa _ _ _ _ _);refine (hm _).eq ?_)
 all_goals refine rtS ?_
 all_goals simp only[wRe,tDk,seval,wH,e3]
 all_goals exact Ap.app _ _
theorem Z4 {σ:St}{d:Nat}{F:Nat→Prop}{D:F9}(h:Bf σ d F D)(n:Nat)(hn:n<D.size)(s:List UInt8)(hs:s.length=64)(hw:D.wait.length≤1000000000000):
 Aa Tryz.prog 104 [.mp d 6 0 0,Ad .i64 (n:Nat),A6 s] σ fun r σ'=>r=Ad .i64 0∧∃ F',Fr σ σ' F F'∧Bf σ' d F' { D with now:=Dq D.now n s,wait:=D.wait++[(n,s)] }:=by
 have hm:=fun τ=>Apw (h.app τ) n (.inl hn)
 obtain⟨kn,kk,w,a,es,hd,hF⟩:=h
 have h0:=hd.d
 have h1:=hd.now
 have l0:=Ac h0
 have l1:=Ac h1
 have e1:decide ((n:Int)≥(D.size:Int))=false:=by simp;omega
 have e2:=T8 A6 D.now n s
 have e3:=Eb hs
 simp only[A6]at e2
 have n0:(d=kn)=False:=nf (Ay h0 h1 (by simp))
 have n1:(kn=d)=False:=nf (Ay h1 h0 (by simp))
 have hl1:=tL (n:=(D.wait.length+1)*72) (by omega)
 have hl2:=lM (n:=D.wait.length+1) (by omega)
 refine Ab Am An Tryz.func104 (by kernel_rfl) rfl (nt:=41) (rs:=[.tmp 6]) rfl rfl ?_
 have hl3:=lM (n:=1) (by omega)
 have h3:=hd.kept
 have l3:=Ac h3
 have n2:(d=kk)=False:=nf (Ay h0 h3 (by simp))
 have n3:(kn=kk)=False:=nf hd.ne
 rcases hd.wt with⟨rfl,rfl,hW⟩|⟨t,rfl,rfl,hW,h2⟩
 ·skip
  repeat' first|simp only[↓wBA,tDk,seval,Km,Kn,wH,h0,h1,l0,l1,e1,e2,e3,A6,n1,wZt,A2,Ey,hl3]|((with_reducible show Aa _ _ _ _ _);first|refine (hm _).eq ?_|(refine (N6 (by simp only[wH,l0];rfl)).eq ?_))|(with_reducible first|refine dQ Km 7 (some 24) ?_|refine dQ Kn 13 (some 30) ?_)
  all_goals refine rtS ?_
  all_goals simp only[wRe,tDk,seval]
  refine⟨_,?_,Bf.mk' (kn:=kn) (kk:=kk) (w:=some (σ.length+2)) (a:=.own (σ.length+2) 65 (Pv (D.wait++[(n,s)]))) (es:=es) ?_ ?_ ?_ hd.keys hd.ne (.inr ⟨_,rfl,rfl,by simp,?_⟩) (Aby hd.len hs) hd.big (fun j=>by rw[Mg,Z2,hd.ov]) hd.kl⟩
  ·refine (((((((Fr.refl σ F).set _ ((hF kn).2 (by simp))).set _ ((hF d).2 (by simp))).app _).app _).app _).to fun t ht=> ?_)
   rcases ht with rfl|rfl|rfl|h
   ·exact .inl ((hF _).2 (by simp))
   ·exact .inl ((hF _).2 (by simp))
   ·exact .inl ((hF _).2 (by simp))
   ·simp at h;omega
  ·simp only[wH,l0,hW,ZQ,Pv,QK,ZB,Ad,Av]
  ·simp only[wH,l1,n0]
  ·simp only[wH,l3,n2,n3,h3]
  ·simp only[wH,hW,QF,QI,ZC,Nat.reduceAdd,Nat.reduceMul]
 ·have l2:=Ac h2
  have n4:(t=kn)=False:=nf (Ay h2 h1 (by simp))
  have n5:(kn=t)=False:=nf (Ay h1 h2 (by simp))
  have n6:(t=d)=False:=nf (Ay h2 h0 (by simp))
  have n7:(d=t)=False:=nf (Ay h0 h2 (by simp))
  have n8:(t=kk)=False:=nf (Ay h2 h3 (by simp))
  repeat' first|simp only[↓wBA,tDk,seval,Km,Kn,wH,h0,h1,h2,l0,l1,l2,e1,e2,e3,A6,n1,n5,n6,wZt,A2,Ey,Xb,hl1,hl2]|((with_reducible show Aa _ _ _ _ _);first|refine (hm _).eq ?_|(refine (N6 (by simp only[wH,l0];rfl)).eq ?_))|(with_reducible first|refine dQ Km 7 (some 24) ?_|refine dQ Kn 13 (some 30) ?_)
  all_goals refine rtS ?_
  all_goals simp only[wRe,tDk,seval]
  refine⟨_,?_,Bf.mk' (kn:=kn) (kk:=kk) (w:=some t) (a:=.own t 65 (Pv (D.wait++[(n,s)]))) (es:=es) ?_ ?_ ?_ hd.keys hd.ne (.inr ⟨_,rfl,rfl,by simp,?_⟩) (Aby hd.len hs) hd.big (fun j=>by rw[Mg,Z2,hd.ov]) hd.kl⟩
  ·refine ((((((Fr.refl σ F).set _ ((hF kn).2 (by simp))).set _ ((hF t).2 (by simp))).set _ ((hF d).2 (by simp))).app _).app _).to fun t ht=> ?_
   exact .inl ((hF _).2 ht)
  ·simp only[wH,l0,Ah6,Ad,Av]
  ·simp only[wH,l1,n0,n4]
  ·simp only[wH,l3,n2,n3,n8,h3]
  ·simp only[wH,l2,n7,QF,QI]
def Ab0:Cq:=(.det 0 (.det 1 (.det 2 (.det 3 (.det 4 (.det 5 (.det 6 (.det 7 (.fin 8 .done)))))))))
def tDs:=aa wX <| aa wbu <| aa T3 <| aa T29 <| aa T32 <| aa T93 <| aa T94 <| aa T96 <| aa T137 T139
theorem Ah7 {σ:St}{d:Nat}{F:Nat→Prop}{D:F9}(h:Bf σ d F D)(hw:D.wait.length≤1000000000000):
 Aa Tryz.prog 67 [.mp d 6 0 0] σ fun r σ'=>r=Ad .i64 0∧∃ F',Fr σ σ' F F'∧Bf σ' d F' { D with wait:=[],kept:=A3 D.now }:=by
 have hm:=Apw h 0 (.inr rfl)
 obtain⟨kn,kk,w,a,es,hd,hF⟩:=h
 have h0:=hd.d
 have h1:=hd.now
 have h3:=hd.kept
 have l0:=Ac h0
 have l1:=Ac h1
 have l3:=Ac h3
 have n0:(d=kn)=False:=nf (Ay h0 h1 (by simp))
 have n1:(kn=d)=False:=nf (Ay h1 h0 (by simp))
 have n2:(d=kk)=False:=nf (Ay h0 h3 (by simp))
 have n3:(kn=kk)=False:=nf hd.ne
 have n4:(kk=d)=False:=nf (Ay h3 h0 (by simp))
 have n5:(kk=kn)=False:=nf hd.ne.symm
 have hnl:∀ k,(A3 D.now k).length=64:=fun k=>by rw[hd.ov];exact Apv _ hd.kl hd.len k
 have hm:Aa Tryz.prog 106 [.mp d 6 0 0,.p (.v (.int .i64 0))] σ fun r σ'=>σ'=σ∧r=Ad .i64 0:=hm
 refine Ab Am An Tryz.func67 (by kernel_rfl) rfl (nt:=33) (rs:=[.tmp 2]) rfl rfl ?_
 rcases hd.wt with⟨rfl,rfl,hW⟩|⟨t,rfl,rfl,hW,h2⟩
 ·skip
  repeat' first|simp only[↓wBA,tDs,seval,h0]|((with_reducible show Aa _ _ _ _ _);refine hm.eq ?_)
  refine Ar (X:=Nat) (fun i=>0) (fun i=>[(16,Ad .i64 0)]) [5,17,18,19,20,21,22,23,24,25,26,27,28] (fun i s=>s=σ) (0) ?_ ?_ ?_ ?_
  ·simp only[wHl,wHf]
  ·rfl
  ·rintro _ _ rfl;exact QH _
  ·rintro i J s rfl
   simp only[wHl]
   repeat' first|simp only[↓wBA,tDs,seval,wH,wHl,h0]|((with_reducible show Aa _ _ _ _ _);refine (N6 (by simp only[h0];rfl)).eq ?_)
   all_goals refine rtS ?_
   all_goals simp only[wRe,tDs,seval]
   exact⟨_,Fr.refl _ _,kn,kk,none,_,es,⟨h0,h1,h3,hd.keys.congr fun k=>by have:=hd.ov k;rw[hW]at this;exact this.symm,hd.ne,.inl ⟨rfl,rfl,rfl⟩,by simp,hd.big,fun k=>rfl,hnl⟩,hF⟩
 ·have l2:=Ac h2
  repeat' first|simp only[↓wBA,tDs,seval,h0,Xb]|((with_reducible show Aa _ _ _ _ _);refine hm.eq ?_)
  refine Ar (X:={ i:Nat // i≤D.wait.length }) (fun i=>D.wait.length - i.1) (fun i=>[(16,Ad .i64 (i.1:Nat))]) [5,17,18,19,20,21,22,23,24,25,26,27,28] (fun i s=>Fr σ s F F∧s[d]? =σ[d]? ∧s[kn]? =σ[kn]? ∧∃ es',s[kk]? =some (some (.map es'))∧Q3 es' (ovr D.kept (D.wait.take i.1))) (⟨0,by omega⟩) ?_ ?_ ?_ ?_
  ·simp only[wHl,wHf]
  ·exact⟨Fr.refl _ _,rfl,rfl,es,h3,hd.keys⟩
  ·rintro _ _ ⟨h,_⟩;exact h.len
  ·intro x J s hI
   simp only[wHl]
   obtain⟨i,hi⟩:=x
   obtain⟨hf,g0,g1,es',g3,hk⟩:=hI
   dsimp only
   rw[h0]at g0;rw[h1]at g1
   have hfl:=hf.len
   have k0:=Ac g0
   have k1:=Ac g1
   have k3:=Ac g3
   by_cases hlt:i<D.wait.length
   ·have hdec:=dT (i:=i) (n:=D.wait.length) (by omega)
    have hi0:=nnI i
    have hg:(Pv D.wait)[i]? =some (.v (.int .i64 ((D.wait[i]).1:Nat))::(D.wait[i]).2.map Bo):=by simp[Pv,hlt]
    have hq:=hd.len _ (XU hlt)
    have e1:=Eb hq
    have hw1:=wI i (by omega)
    obtain⟨es2,u1,u2⟩:=hk.upd (D.wait[i]).1 (D.wait[i]).2
    simp only[A6]at u1
    have u3:Q3 es2 (ovr D.kept (D.wait.take (i+1))):=u2.congr fun k=>by
     rw[YU,QN hlt]
     exact (Z2 _ _ _ _).symm
    repeat' first|simp only[↓wBA,tDs,seval,Ab0,wH,wHl,g0,g1,g3,k0,k1,k3,hdec,hi0,hg,n4,n5,e1,hq,u1,hw1,wZt]|(with_reducible refine dQ Ab0 9 (some 20) ?_)
    refine⟨⟨i+1,by omega⟩,by show D.wait.length - (i+1)<D.wait.length - i;omega,⟨(hf.set _ ((hF _).2 (by simp))).app _,h0.symm,h1.symm,es2,rfl,u3⟩,rfl⟩
   ·have hdec:=dF (i:=i) (n:=D.wait.length) (by omega)
    repeat' first|simp only[↓wBA,tDs,seval,wH,wHl,g0,hdec]|((with_reducible show Aa _ _ _ _ _);refine (N6 (by simp only[wH,k0];rfl)).eq ?_)
    all_goals refine rtS ?_
    all_goals simp only[wRe,tDs,seval]
    refine⟨_,(hf.set _ ((hF _).2 (by simp))).to fun t ht=>.inl ((hF t).2 ?_),Bf.mk' (kn:=kn) (kk:=kk) (w:=none) (es:=es') ?_ ?_ ?_ (hk.congr fun k=>by rw[ZF (show D.wait.length≤i by omega)];exact (hd.ov k).symm) hd.ne (.inl ⟨rfl,rfl,rfl⟩) (by simp) hd.big (fun k=>rfl) hnl⟩
    ·rcases ht with h|h|h|h
     ·exact .inl h
     ·exact .inr (.inl h)
     ·exact .inr (.inr (.inl h))
     ·cases h
    ·simp only[wH,k0,Ad,Av]
    ·simp only[wH,n0,g1]
    ·simp only[wH,n2,g3]
def tDn:=aa wX <| aa wbu <| aa T3 <| aa T4 <| aa T32 <| aa T93 <| aa T94 <| aa T96 <| aa T135 <| aa T137 T139
theorem Alf (n:Nat)(hn:n≤65536)(σ:St):Aa Tryz.prog 9 [Ad .i64 (n:Nat)] σ fun r σ'=>∃ d F,r= .mp d 6 0 0∧Ap σ σ'∧Bf σ' d F ⟨n,[],[],fun _=>Fh⟩∧∀ t,F t→σ.length≤t:=by
 have e1:(if (0:Int)>(n:Int)then 0 else (n:Int))=n:=by split<;>omega
 have e2:(if (65536:Int)<(n:Int)then 65536 else (n:Int))=n:=by split<;>omega
 refine Ab Am An Tryz.func9 (by kernel_rfl) rfl (nt:=11) (rs:=[.tmp 2]) rfl rfl ?_
 repeat' simp only[↓wBA,tDn,seval,wH,e1,e2]
 all_goals refine rtS ?_
 all_goals simp only[wRe,tDn,seval]
 refine⟨_,_,rfl,?_,Bf.mk' (kn:=σ.length) (kk:=σ.length+1) (w:=none) (a:=.p (.v (.slice none 0 0))) (es:=[]) ?_ ?_ ?_ ⟨[],rfl,fun _=>rfl⟩ (by omega) (.inl ⟨rfl,rfl,rfl⟩) (by simp) hn (fun _=>rfl) (fun _=>rfl),fun t ht=> ?_⟩
 ·exact ((Ap.app _ _).trans (Ap.app _ _)).trans (Ap.app _ _)
 ·skip
  simp only[wH,wHe,Nat.reduceAdd]
 ·skip
  simp only[wH,wHe,Nat.reduceAdd,Nat.reduceLT,Nj,ZB]
 ·skip
  simp only[wH,wHe,Nat.reduceAdd,Nat.reduceLT]
 ·rcases ht with rfl|rfl|rfl|h
  ·omega
  ·exact QH _
  ·omega
  ·cases h
