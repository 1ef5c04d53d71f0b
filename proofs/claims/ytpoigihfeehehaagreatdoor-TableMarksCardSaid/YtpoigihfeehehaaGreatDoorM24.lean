/- Frames and their heap: what they are in a state. Frames: the heap's methods. Frames: the heap goes up and down. Frames: the heap's Fix, Pop, Push. Pools: what they are in a state. -/
import Derived.Test.YtpoigihfeehehaaGreatDoorM23
set_option linter.all false
set_option maxRecDepth 100000
set_option maxHeartbeats 32000000
namespace Go.Proofs.YtpoigihfeehehaaGreatDoor
open Go.RowKit
structure B7 where
 n:Nat
 pg:List UInt8
 dirty:Bool
 used:Int
def Gc (v:B7)(i:Nat):Option Ob:=some (.row 516 [frR v.n v.pg v.dirty v.used i])
def Fi (fs:List Nat):List (List AV):=fs.map fun f=>[.mp f 516 0 0]
structure Hf (σ:St)(o:Nat)(fs:List Nat)(V:Nat→B7):Prop where
 o:∃ ls,σ[o]? =some (some (.row 1 ls))∧ls.take fs.length=Fi fs∧fs.length≤ls.length
 f:∀ (i f:Nat),fs[i]? =some f→σ[f]? =some (Gc (V f) i)
 nd:fs.Nodup
 pg:∀ f∈fs,(V f).pg.length=512
 big:fs.length≤1000000
theorem Ae4 (fs:List Nat):(Fi fs).length=fs.length:=by simp[Fi]
theorem Jb {fs:List Nat}{ls:List (List AV)}(h:ls.take fs.length=Fi fs){i f:Nat}(hi:fs[i]? =some f):ls[i]? =some [.mp f 516 0 0]:=by
 have hl:=(QC.1 hi).1
 have:(ls.take fs.length)[i]? =some [.mp f 516 0 0]:=by rw[h];simp[Fi,hi]
 rwa [QT,if_pos hl]at this
def Mh (fs:List Nat)(i j:Nat):List Nat:=(fs.set i (fs.getD j 0)).set j (fs.getD i 0)
theorem E4 (fs:List Nat)(i j:Nat):(Mh fs i j).length=fs.length:=by simp[Mh]
theorem Hw {fs:List Nat}{i j:Nat}(hi:i<fs.length)(hj:j<fs.length)(k:Nat):(Mh fs i j)[k]? =if k=j then fs[i]? else if k=i then fs[j]? else fs[k]? :=by
 unfold Mh
 rw[QW,QW]
 simp only[ZW,QM]
 by_cases h1:k=j
 ·subst h1;simp[hi,hj]
 ·have h1':¬ j=k:=fun e=>h1 e.symm
  by_cases h2:k=i
  ·subst h2;simp[hi,hj,h1,h1']
  ·have h2':¬ i=k:=fun e=>h2 e.symm
   simp[h1,h1',h2,h2']
theorem Gd {fs:List Nat}{i j:Nat}(hi:i<fs.length)(hj:j<fs.length):(Mh fs i j).Perm fs:=by
 have e1:fs.getD j 0=fs[j]:=by simp[hj]
 have e2:fs.getD i 0=fs[i]:=by simp[hi]
 unfold Mh
 rw[e1,e2]
 exact List.set_set_perm (by simpa using hi) hj
theorem Z7 {fs:List Nat}{ls:List (List AV)}{i j fi fj:Nat}(h:ls.take fs.length=Fi fs)(hi:fs[i]? =some fi)(hj:fs[j]? =some fj):
 ((ls.set i [.mp fj 516 0 0]).set j [.mp fi 516 0 0]).take (Mh fs i j).length=Fi (Mh fs i j):=by
 have li:=(QC.1 hi).1
 have lj:=(QC.1 hj).1
 rw[E4]
 apply XM
 intro k
 rw[QT,Fi,QR,Hw li lj]
 have hk:∀ f,fs[k]? =some f→ls[k]? =some [.mp f 516 0 0]:=fun f hf=>Jb h hf
 have hll:fs.length≤ls.length:=by
  have:=congrArg List.length h
  rw[Ae4,QZ]at this
  omega
 split
 ·rename_i hlt
  rw[QW,QW]
  have hkl:k<ls.length:=by omega
  by_cases h1:k=j
  ·subst h1;simp[hi,hkl]
  ·have h1':¬ j=k:=fun e=>h1 e.symm
   by_cases h2:k=i
   ·subst h2;simp[hj,hkl,h1,h1']
   ·have h2':¬ i=k:=fun e=>h2 e.symm
    rw[if_neg h1',if_neg h2',if_neg h1,if_neg h2,hk _ (QN hlt),QN hlt]
    rfl
 ·rename_i hge
  rw[if_neg (by omega),if_neg (by omega),ZG (by omega)]
  rfl
theorem Ae5 {fs:List Nat}{i:Nat}(hi:i<fs.length):Mh fs i i=fs:=by
 apply XM
 intro k
 rw[Hw hi hi]
 by_cases hk:k=i
 ·subst hk;simp
 ·simp[hk]
theorem Hf.swap {σ s:St}{o i j fi fj:Nat}{fs:List Nat}{V:Nat→B7}{ls:List (List AV)}(h:Hf σ o fs V)(h2:ls.take fs.length=Fi fs)(h3:fs.length≤ls.length)(gi:fs[i]? =some fi)(gj:fs[j]? =some fj)(hij:i≠j)
 (so:s[o]? =some (some (.row 1 ((ls.set i [.mp fj 516 0 0]).set j [.mp fi 516 0 0])))) (si:s[fi]? =some (Gc (V fi) j)) (sj:s[fj]? =some (Gc (V fj) i)) (sk:∀ t,t≠o→t≠fi→t≠fj→s[t]? =σ[t]?):
 Hf s o (Mh fs i j) V:=by
 have li:=(QC.1 gi).1
 have lj:=(QC.1 gj).1
 obtain⟨ls',ho,_,_⟩:=h.o
 refine⟨⟨_,so,Z7 h2 gi gj,by rw[E4];simpa using h3⟩,fun k f hk=> ?_,(Gd li lj).nodup_iff.2 h.nd,fun f hf=>h.pg f ((Gd li lj).mem_iff.1 hf),by rw[E4];exact h.big⟩
 rw[Hw li lj]at hk
 split at hk
 ·rename_i e;subst e
  rw[gi]at hk;cases hk;exact si
 ·split at hk
  ·rename_i e;subst e
   rw[gj]at hk;cases hk;exact sj
  ·rename_i h4 h5
   have hf:=h.f k f hk
   rw[sk f (Ay hf ho (by simp[Gc])) (fun e=> ?_) (fun e=> ?_)]
   ·exact hf
   ·subst e
    exact h5 ((VB (QC.1 hk).1 h.nd).1 (hk.trans gi.symm))
   ·subst e
    exact h4 ((VB (QC.1 hk).1 h.nd).1 (hk.trans gj.symm))
def Xj:Cq:=(.det 0 (.det 1 (.det 2 (.det 3 (.det 4 (.det 5 (.det 6 (.det 7 (.det 8 (.det 9 (.det 10 (.det 11 (.det 12 (.det 13 (.det 14 (.det 15 .done))))))))))))))))
def Ku:Cq:=(.det 0 (.det 1 (.det 2 (.det 3 (.det 4 (.det 5 (.det 6 (.det 7 (.det 8 (.det 9 (.det 10 (.det 11 (.det 12 (.fin 13 (.det 14 (.fin 15 .done))))))))))))))))
def Kv:Cq:=(.det 0 (.det 1 (.det 2 (.det 3 (.det 4 (.det 5 (.det 6 (.det 7 (.det 8 (.det 9 (.det 10 (.det 11 (.fin 12 (.det 13 (.det 14 (.fin 15 .done))))))))))))))))
def tHa:=aa wX <| aa wbu <| aa T3 <| aa T86 <| aa T154 T158
theorem Ap3 {σ:St}{o i j:Nat}{fs:List Nat}{V:Nat→B7}(h:Hf σ o fs V)(hi:i<fs.length)(hj:j<fs.length):
 Aa Tryz.prog 256 [.ms o 1 0 fs.length,Ad .i64 (i:Nat),Ad .i64 (j:Nat)] σ fun r σ'=>σ'=σ∧∃ b,r=Av b:=by
 obtain⟨ls,h1,h2,h3⟩:=h.o
 have l1:=Ac h1
 have gi:=QN hi
 have gj:=QN hj
 have k1:=Jb h2 gi
 have k2:=Jb h2 gj
 have f1:=h.f _ _ gi
 have f2:=h.f _ _ gj
 have p1:=h.pg _ (QG gi)
 have p2:=h.pg _ (QG gj)
 have b1:=dT (i:=i) (n:=fs.length) (by omega)
 have b2:=dT (i:=j) (n:=fs.length) (by omega)
 have d1:((i:Int)<(fs.length:Int))=True:=eq_true (by omega)
 have d2:((j:Int)<(fs.length:Int))=True:=eq_true (by omega)
 have i1:=nnI i
 have i2:=nnI j
 generalize fs[i]=fi at gi k1 f1 p1
 generalize fs[j]=fj at gj k2 f2 p2
 have q1:=Ac f1
 have q2:=Ac f2
 simp only[Gc]at f1 f2
 refine Ab Am An Tryz.func256 (by kernel_rfl) rfl (nt:=19) (rs:=[.tmp 6]) rfl rfl ?_
 repeat' first|simp only[↓wBA,tHa,seval,Xj,wFr,h1,k1,k2,f1,f2,p1,p2,d1,d2,i1,i2]|(with_reducible refine dQ Xj 16 (some 7) ?_)
 all_goals refine rtS ?_
 all_goals simp only[wRe,tHa,seval]
 exact⟨_,rfl⟩
theorem Aig {α:Type}{ls:List α}{i:Nat}{x:α}(h:ls[i]? =some x):ls.set i x=ls:=by
 apply XM
 intro k
 rw[QW]
 split
 ·rename_i e;subst e;rw[if_pos (QC.1 h).1,h]
 ·rfl
theorem Alg {σ:St}{o i j:Nat}{fs:List Nat}{V:Nat→B7}(h:Hf σ o fs V)(hi:i<fs.length)(hj:j<fs.length):
 Aa Tryz.prog 257 [.ms o 1 0 fs.length,Ad .i64 (i:Nat),Ad .i64 (j:Nat)] σ fun r σ'=>r= .tup []∧Hf σ' o (Mh fs i j) V∧Fr σ σ' (fun t=>t=o∨t∈fs) (fun t=>t=o∨t∈fs):=by
 obtain⟨ls,h1,h2,h3⟩:=h.o
 have l1:=Ac h1
 have gi:=QN hi
 have gj:=QN hj
 have k1:=Jb h2 gi
 have k2:=Jb h2 gj
 have f1:=h.f _ _ gi
 have f2:=h.f _ _ gj
 have p1:=h.pg _ (QG gi)
 have p2:=h.pg _ (QG gj)
 have b1:=dT (i:=i) (n:=fs.length) (by omega)
 have b2:=dT (i:=j) (n:=fs.length) (by omega)
 have d1:((i:Int)<(fs.length:Int))=True:=eq_true (by omega)
 have d2:((j:Int)<(fs.length:Int))=True:=eq_true (by omega)
 have i1:=nnI i
 have i2:=nnI j
 generalize fs[i]=fi at gi k1 f1 p1
 generalize fs[j]=fj at gj k2 f2 p2
 have q1:=Ac f1
 have q2:=Ac f2
 have n1:(o=fi)=False:=nf (Ay h1 f1 (by simp[Gc]))
 have n2:(fi=o)=False:=nf (Ay f1 h1 (by simp[Gc]))
 have n3:(o=fj)=False:=nf (Ay h1 f2 (by simp[Gc]))
 have n4:(fj=o)=False:=nf (Ay f2 h1 (by simp[Gc]))
 simp only[Gc]at f1 f2
 by_cases hij:i=j
 ·subst hij
  rw[gi]at gj
  cases gj
  have e0:ls.set i [.mp fi 516 0 0]=ls:=Aig k1
  refine Ab Am An Tryz.func257 (by kernel_rfl) rfl (nt:=31) (rs:=[]) rfl rfl ?_
  repeat' first|simp only[↓wBA,tHa,seval,Ku,Kv,wH,wFr,h1,k1,f1,p1,d1,i1,e0]|(with_reducible first|refine dQ Ku 16 (some 6) ?_|refine dQ Kv 16 (some 20) ?_)
  all_goals refine rtS ?_
  all_goals simp only[wRe,tHa,seval]
  rw[Ae5 hi]
  exact⟨h,Fr.refl _ _⟩
 ·have n5:(fi=fj)=False:=nf (fun e=>hij (by
   subst e
   exact (VB hi h.nd).1 (gi.trans gj.symm)))
  have n6:(fj=fi)=False:=nf (fun e=>(of_eq_false n5) e.symm)
  have li:i<ls.length:=by omega
  have lj:j<ls.length:=by omega
  have hij':¬ j=i:=fun e=>hij e.symm
  have e1:(ls.set i [.mp fj 516 0 0])[j]? =some [.mp fj 516 0 0]:=by rw[QO hij];exact k2
  have e2:((ls.set i [.mp fj 516 0 0]).set j [.mp fi 516 0 0])[i]? =some [.mp fj 516 0 0]:=by rw[QO hij'];simp[li]
  have e3:((ls.set i [.mp fj 516 0 0]).set j [.mp fi 516 0 0])[j]? =some [.mp fi 516 0 0]:=by simp[lj]
  refine Ab Am An Tryz.func257 (by kernel_rfl) rfl (nt:=31) (rs:=[]) rfl rfl ?_
  repeat' first|simp only[↓wBA,tHa,seval,Ku,Kv,wH,wFr,h1,l1,k1,k2,f1,f2,p1,p2,d1,d2,i1,i2,n1,n3,n6,e1,e2,e3]|(with_reducible first|refine dQ Ku 16 (some 6) ?_|refine dQ Kv 16 (some 20) ?_)
  all_goals refine rtS ?_
  all_goals simp only[wRe,tHa,seval]
  have hm:∀ k f,fs[k]? =some f→f=o∨f∈fs:=fun k f e=>.inr (QG e)
  refine⟨h.swap h2 h3 gi gj hij ?_ ?_ ?_ ?_,(((Fr.refl σ _).set _ (.inl rfl)).set _ (hm _ _ ‹_›)).set _ (hm _ _ ‹_›)⟩
  ·simp only[wH,l1,n2,n4]
  ·simp only[wH,q1,Gc]
  ·simp only[wH,n5,q2,Gc]
  ·intro t ht hi hj
   have m1:=nf ht
   have m2:=nf hi
   have m3:=nf hj
   simp only[wH,nf (Ne.symm ht),nf (Ne.symm hi),nf (Ne.symm hj)]
def tHb:=aa wX <| aa wbu <| aa T3 T4
def oF (o:Nat)(fs:List Nat)(t:Nat):Prop:=t=o∨t∈fs
theorem Mi {o:Nat}{fs fs':List Nat}(h:fs'.Perm fs):oF o fs'=oF o fs:=funext fun t=>propext (or_congr Iff.rfl h.mem_iff)
theorem p_no {σ:St}{p o:Nat}{fs:List Nat}{V:Nat→B7}{c:List AV}(h:Hf σ o fs V)(h0:σ[p]? =some (some (.row 6 [c]))):¬ oF o fs p:=fun e=>by
 rcases e with rfl|e
 ·obtain⟨ls,ho,_⟩:=h.o
  rw[ho]at h0;simp at h0
 ·obtain⟨i,hi⟩:=YH e
  have:=h.f _ _ hi
  rw[this]at h0;simp[Gc]at h0
theorem aup {σ:St}{p o j:Nat}{fs:List Nat}{V:Nat→B7}{c0 c1 c2 c4 c5:AV}(h:Hf σ o fs V)(h0:σ[p]? =some (some (.row 6 [[c0,c1,c2,.ms o 1 0 fs.length,c4,c5]])))(hj:j<fs.length):
 Aa Tryz.prog 153 [.dyn 208 (.mp p 6 0 3),Ad .i64 (j:Nat)] σ fun r σ'=>r= .tup []∧∃ fs',fs'.Perm fs∧Hf σ' o fs' V∧Fr σ σ' (oF o fs) (oF o fs):=by
 have hp:=p_no h h0
 refine Ab Am An Tryz.func153 (by kernel_rfl) rfl (nt:=21) (rs:=[]) rfl rfl ?_
 repeat' simp only[↓wBA,tHb,seval]
 refine Ar (X:={ j:Nat // j<fs.length }) (fun j=>j.1) (fun j=>[(1,Ad .i64 (j.1:Nat))]) [4,5,6,7,8,9,10,11,12,13,14,15,16,17,18,19,20,21,22] (fun j s=>∃ fs',fs'.Perm fs∧Hf s o fs' V∧Fr σ s (oF o fs) (oF o fs)) (⟨j,hj⟩) ?_ ?_ ?_ ?_
 ·simp only[wHl,wHf]
 ·exact⟨fs,.refl _,h,Fr.refl _ _⟩
 ·rintro _ _ ⟨_,_,_,hf⟩;exact hf.len
 ·intro x J s hI
  simp only[wHl]
  obtain⟨j,hj⟩:=x
  obtain⟨fs',hP,h',hf⟩:=hI
  have k0:=hf.get h0 hp
  have q0:=Ac k0
  have hl:=hP.length_eq
  have hb:=h.big
  dsimp only
  rw[← hl]at k0
  have e1:IntKind.i64.wrap ((j:Int) - 1)=(j:Int) - 1:=wrap_i64 (by omega) (by omega)
  have e2:IntKind.i64.wrap (((j:Int) - 1).tdiv 2)=(((j - 1) / 2:Nat):Int):=by
   by_cases h0:j=0
   ·subst h0;decide
   ·rw[XQ (by omega),wrap_i64 (by omega) (by omega)];omega
  have hi':(j - 1) / 2<fs'.length:=by omega
  repeat' first|((with_reducible first|apply cs|apply ws)<;>intro h<;>try simp only[h])|simp only[↓wBA,tHb,seval,wH,wHl,k0,e1,e2]|((with_reducible show Aa _ _ _ _ _);first|(refine (Ap3 h' (by omega) hi').mono ?_;rintro _ _ ⟨rfl,b,rfl⟩)|(refine (Alg h' hi' (by omega)).mono ?_;rintro _ s2 ⟨rfl,h2,hf2⟩))
  all_goals have hlen:=hf.len
  ·skip
   all_goals refine rtS ?_
   all_goals simp only[wRe,tHb,seval]
   exact⟨fs',hP,h',hf⟩
  ·have hj0:j≠0:=fun e=>by subst e;simp_all
   refine⟨⟨(j - 1) / 2,by omega⟩,by show (j - 1) / 2<j;omega,⟨_,(Gd hi' (by omega)).trans hP,h2,?_⟩,?_⟩
   ·have:=Mi (o:=o) hP
    exact hf.trans (this▸hf2)
   ·simp only[]
  ·skip
   all_goals refine rtS ?_
   all_goals simp only[wRe,tHb,seval]
   exact⟨fs',hP,h',hf⟩
theorem Aih {fs:List Nat}{i j n:Nat}(hi:i<n)(hj:j<n)(hn:n≤fs.length)(k:Nat)(hk:n≤k):(Mh fs i j)[k]? =fs[k]? :=by
 rw[Hw (by omega) (by omega),if_neg (by omega),if_neg (by omega)]
theorem Avo {σ:St}{p o i0 n:Nat}{fs:List Nat}{V:Nat→B7}{c0 c1 c2 c4 c5:AV}(h:Hf σ o fs V)(h0:σ[p]? =some (some (.row 6 [[c0,c1,c2,.ms o 1 0 fs.length,c4,c5]])))(hi:i0≤1000000)(hn:n≤fs.length):
 Aa Tryz.prog 152 [.dyn 208 (.mp p 6 0 3),Ad .i64 (i0:Nat),Ad .i64 (n:Nat)] σ fun r σ'=>(∃ b,r=Av b)∧∃ fs',fs'.Perm fs∧Hf σ' o fs' V∧Fr σ σ' (oF o fs) (oF o fs)∧∀ k,n≤k→fs'[k]? =fs[k]? :=by
 have hp:=p_no h h0
 refine Ab Am An Tryz.func152 (by kernel_rfl) rfl (nt:=45) (rs:=[.tmp 6]) rfl rfl ?_
 repeat' simp only[↓wBA,tHb,seval]
 refine Ar (X:={ i:Nat // i≤1000000 }) (fun i=>n - i.1) (fun i=>[(7,Ad .i64 (i.1:Nat))]) [8,9,10,12,13,14,15,16,17,18,19,20,21,22,23,24,25,26,27,28,29,30,31,32,33,34,35,36,37,38,39,40,41,42,43,44] (fun i s=>∃ fs',fs'.Perm fs∧Hf s o fs' V∧Fr σ s (oF o fs) (oF o fs)∧∀ k,n≤k→fs'[k]? =fs[k]?) (⟨i0,hi⟩) ?_ ?_ ?_ ?_
 ·simp only[wHl,wHf]
 ·exact⟨fs,.refl _,h,Fr.refl _ _,fun _ _=>rfl⟩
 ·rintro _ _ ⟨_,_,_,hf,_⟩;exact hf.len
 ·intro x J s hI
  simp only[wHl]
  obtain⟨i,hi⟩:=x
  obtain⟨fs',hP,h',hf,hk⟩:=hI
  have k0:=hf.get h0 hp
  have q0:=Ac k0
  have hl:=hP.length_eq
  have hb:=h.big
  have hlen:=hf.len
  dsimp only
  rw[← hl]at k0
  have e1:IntKind.i64.wrap (2*(i:Int))=2*(i:Int):=wrap_i64 (by omega) (by omega)
  have e2:IntKind.i64.wrap (2*(i:Int)+1)=((2*i+1:Nat):Int):=by rw[wrap_i64 (by omega) (by omega)];simp
  have e3:IntKind.i64.wrap (((2*i+1:Nat):Int)+1)=((2*i+2:Nat):Int):=by rw[wrap_i64 (by omega) (by omega)];simp;omega
  by_cases hn1:2*i+1<n
  ·have e4:decide (((2*i+1:Nat):Int)≥(n:Int))=false:=by simp;omega
   have e5:decide (((2*i+1:Nat):Int)<0)=false:=by simp;omega
   have hj:∀ j,i<j→j<n→∀ s2,Hf s2 o (Mh fs' i j) V→Fr s s2 (oF o fs') (oF o fs')→j≤1000000∧n - j<n - i∧∃ fs',fs'.Perm fs∧Hf s2 o fs' V∧Fr σ s2 (oF o fs) (oF o fs)∧∀ k,n≤k→fs'[k]? =fs[k]? :=fun j h1 h2 s2 h3 h4=>by
    refine⟨by omega,by omega,_,(Gd (by omega) (by omega)).trans hP,h3,hf.trans ((Mi (o:=o) hP)▸h4),fun k h5=> ?_⟩
    rw[Aih (n:=n) (by omega) (by omega) (by omega) k h5,hk k h5]
   by_cases hn2:2*i+2<n
   ·have e6:decide (((2*i+2:Nat):Int)<(n:Int))=true:=by simp;omega
    repeat' first|((with_reducible apply cs)<;>intro h<;>try simp only[h])|simp only[↓wBA,tHb,seval,wH,wHl,k0,e1,e2,e3,e4,e5,e6]|((with_reducible show Aa _ _ _ _ _);first|(refine (Ap3 h' (by omega) (by omega)).mono ?_;rintro _ _ ⟨rfl,b,rfl⟩)|(refine (Alg h' (by omega) (by omega)).mono ?_;rintro _ s2 ⟨rfl,h2,hf2⟩))
    ·skip
     all_goals refine rtS ?_
     all_goals simp only[wRe,tHb,seval]
     exact⟨⟨_,rfl⟩,fs',hP,h',hf,hk⟩
    ·obtain⟨j1,j2,j3⟩:=hj _ (by omega) (by omega) s2 h2 hf2
     refine⟨⟨_,j1⟩,j2,j3,?_⟩
     simp only[]
    ·skip
     all_goals refine rtS ?_
     all_goals simp only[wRe,tHb,seval]
     exact⟨⟨_,rfl⟩,fs',hP,h',hf,hk⟩
    ·obtain⟨j1,j2,j3⟩:=hj _ (by omega) (by omega) s2 h2 hf2
     refine⟨⟨_,j1⟩,j2,j3,?_⟩
     simp only[]
   ·have e6:decide (((2*i+2:Nat):Int)<(n:Int))=false:=by simp;omega
    repeat' first|((with_reducible apply cs)<;>intro h<;>try simp only[h])|simp only[↓wBA,tHb,seval,wH,wHl,k0,e1,e2,e3,e4,e5,e6]|((with_reducible show Aa _ _ _ _ _);first|(refine (Ap3 h' (by omega) (by omega)).mono ?_;rintro _ _ ⟨rfl,b,rfl⟩)|(refine (Alg h' (by omega) (by omega)).mono ?_;rintro _ s2 ⟨rfl,h2,hf2⟩))
    ·skip
     all_goals refine rtS ?_
     all_goals simp only[wRe,tHb,seval]
     exact⟨⟨_,rfl⟩,fs',hP,h',hf,hk⟩
    ·obtain⟨j1,j2,j3⟩:=hj _ (by omega) (by omega) s2 h2 hf2
     refine⟨⟨_,j1⟩,j2,j3,?_⟩
     simp only[]
  ·have e4:decide (((2*i+1:Nat):Int)≥(n:Int))=true:=by simp;omega
   repeat' simp only[↓wBA,tHb,seval,wH,wHl,e1,e2,e4]
   all_goals refine rtS ?_
   all_goals simp only[wRe,tHb,seval]
   exact⟨⟨_,rfl⟩,fs',hP,h',hf,hk⟩
def Kw:Cq:=(.det 0 (.det 2 (.det 3 (.det 4 (.det 5 (.act 1 (.det 6 (.det 7 (.fin 8 .done)))))))))
def Kx:Cq:=(.det 0 (.det 1 (.det 2 (.det 3 (.det 4 (.act 5 (.act 6 (.fin 7 (.det 8 (.fin 9 .done))))))))))
def tHc:=aa wX <| aa wbu <| aa T3 <| aa T4 <| aa T86 <| aa T154 T158
theorem Ap4 {σ:St}{o n:Nat}:Aa Tryz.prog 255 [.ms o 1 0 n] σ fun r σ'=>σ'=σ∧r=Ad .i64 (n:Nat):=by
 refine Ab Am An Tryz.func255 (by kernel_rfl) rfl (nt:=4) (rs:=[.tmp 2]) rfl rfl ?_
 repeat' simp only[↓wBA,tHc,seval]
 all_goals refine rtS ?_
 all_goals simp only[wRe,tHc,seval]
theorem afix {σ:St}{p o i:Nat}{fs:List Nat}{V:Nat→B7}{c0 c1 c2 c4 c5:AV}(h:Hf σ o fs V)(h0:σ[p]? =some (some (.row 6 [[c0,c1,c2,.ms o 1 0 fs.length,c4,c5]])))(hi:i<fs.length):
 Aa Tryz.prog 151 [.dyn 208 (.mp p 6 0 3),Ad .i64 (i:Nat)] σ fun r σ'=>r= .tup []∧∃ fs',fs'.Perm fs∧Hf σ' o fs' V∧Fr σ σ' (oF o fs) (oF o fs):=by
 have l0:=Ac h0
 have hb:=h.big
 have hp:=p_no h h0
 refine Ab Am An Tryz.func151 (by kernel_rfl) rfl (nt:=11) (rs:=[]) rfl rfl ?_
 repeat' first|((with_reducible apply cs)<;>intro h<;>try simp only[h])|simp only[↓wBA,tHc,seval,h0]|((with_reducible show Aa _ _ _ _ _);first|refine Ap4.eq ?_|(refine (Avo h h0 (by omega) (QH _)).mono ?_;rintro _ s ⟨⟨b,rfl⟩,fs',hP,h',hf,hk⟩))
 ·have k0:=hf.get h0 hp
  have q0:=Ac k0
  have hl:=hP.length_eq
  rw[← hl]at k0
  repeat' first|simp only[↓wBA,tHc,seval]|((with_reducible show Aa _ _ _ _ _);refine (aup h' k0 (by omega)).mono ?_;rintro _ s2 ⟨rfl,fs2,hP2,h2,hf2⟩)
  have hlen:=(hf.trans (Mi (o:=o) hP▸hf2)).len
  all_goals refine rtS ?_
  all_goals simp only[wRe,tHc,seval]
  exact⟨fs2,hP2.trans hP,h2,hf.trans (Mi (o:=o) hP▸hf2)⟩
 ·have hlen:=hf.len
  all_goals refine rtS ?_
  all_goals simp only[wRe,tHc,seval]
  exact⟨fs',hP,h',hf⟩
theorem A1e {σ:St}{p o f:Nat}{fs:List Nat}{V:Nat→B7}{c0 c1 c2 c4 c5:AV}(h:Hf σ o (fs++[f]) V)(h0:σ[p]? =some (some (.row 6 [[c0,c1,c2,.ms o 1 0 (fs.length+1),c4,c5]]))):
 Aa Tryz.prog 258 [.mp p 6 0 3] σ fun r σ'=>r= .dyn 154 (.mp f 516 0 0)∧σ'=σ.set p (some (.row 6 [[c0,c1,c2,.ms o 1 0 fs.length,c4,c5]])):=by
 have l0:=Ac h0
 obtain⟨ls,h1,h2,h3⟩:=h.o
 have k1:=Jb h2 (i:=fs.length) (f:=f) (by simp)
 have l1:=Ac h1
 have hb:=h.big
 simp only[QE,QF,QI]at h3 hb
 have e1:IntKind.i64.wrap (((fs.length+1:Nat):Int) - 1)=(fs.length:Int):=by rw[wrap_i64 (by omega) (by omega)];omega
 have d1:((fs.length:Int)<((fs.length+1:Nat):Int))=True:=eq_true (by omega)
 have d2:((fs.length:Int)≤((fs.length+1:Nat):Int))=True:=eq_true (by omega)
 have i1:=nnI fs.length
 refine Ab Am An Tryz.func258 (by kernel_rfl) rfl (nt:=22) (rs:=[.tmp 2]) rfl rfl ?_
 repeat' simp only[↓wBA,tHc,seval,wH,h0,h1,k1,e1,d1,d2,i1,Bl,Bp,Bh]
 all_goals refine rtS ?_
 all_goals simp only[wRe,tHc,seval]
theorem Hf.same {σ s:St}{o:Nat}{fs:List Nat}{V:Nat→B7}(h:Hf σ o fs V)(hs:∀ t,oF o fs t→s[t]? =σ[t]?):Hf s o fs V:=
 ⟨by rw[hs o (.inl rfl)];exact h.o,fun i f hi=>by rw[hs f (.inr (QG hi))];exact h.f i f hi,h.nd,h.pg,h.big⟩
theorem Hf.front {σ:St}{o f:Nat}{fs:List Nat}{V:Nat→B7}(h:Hf σ o (fs++[f]) V):Hf σ o fs V:=by
 obtain⟨ls,h1,h2,h3⟩:=h.o
 simp only[QE,QF,QI]at h2 h3
 refine⟨⟨ls,h1,?_,by omega⟩,fun i g hi=>h.f i g (by rw[QD (QC.1 hi).1];exact hi),(ZD.1 h.nd).1,fun g hg=>h.pg g (by simp[hg]),by have:=h.big;simp at this;omega⟩
 have:=congrArg (List.take fs.length) h2
 rw[List.take_take,YO (by omega)]at this
 rw[this]
 simp[Fi]
theorem Ap5 {fs:List Nat}{n f:Nat}(hl:fs.length=n+1)(h:fs[n]? =some f):fs=fs.dropLast++[f]:=by
 have hne:fs≠[]:=fun e=>by simp[e]at hl
 have:=List.dropLast_concat_getLast hne
 rw[List.getLast_eq_getElem]at this
 have hg:fs[fs.length - 1]=f:=by
  have:=QC.1 h
  obtain⟨hn,e⟩:=this
  simp only[hl,Nat.add_sub_cancel,e]
 rw[hg]at this
 exact this.symm
theorem apop {σ:St}{p o f0:Nat}{fs:List Nat}{V:Nat→B7}{c0 c1 c2 c4 c5:AV}(h:Hf σ o fs V)(h0:σ[p]? =some (some (.row 6 [[c0,c1,c2,.ms o 1 0 fs.length,c4,c5]])))(hf0:fs[0]? =some f0):
 Aa Tryz.prog 110 [.dyn 208 (.mp p 6 0 3)] σ fun r σ'=>r= .dyn 154 (.mp f0 516 0 0)∧(∃ i,σ'[f0]? =some (Gc (V f0) i))∧∃ fs',(f0::fs').Perm fs∧Hf σ' o fs' V∧σ'[p]? =some (some (.row 6 [[c0,c1,c2,.ms o 1 0 fs'.length,c4,c5]]))∧Fr σ σ' (fun t=>t=p∨oF o fs t) (fun t=>t=p∨oF o fs t):=by
 have l0:=Ac h0
 have hb:=h.big
 have hp:=p_no h h0
 have hl:=(QC.1 hf0).1
 obtain⟨n,hn⟩:∃ n,fs.length=n+1:=⟨fs.length - 1,by omega⟩
 have e1:IntKind.i64.wrap ((fs.length:Int) - 1)=(n:Int):=by rw[wrap_i64 (by omega) (by omega)];omega
 have hs:=Alg h (i:=0) (j:=n) hl (by omega)
 simp only[cz]at hs
 refine Ab Am An Tryz.func110 (by kernel_rfl) rfl (nt:=14) (rs:=[.tmp 2]) rfl rfl ?_
 repeat' first|simp only[↓wBA,tHc,seval,h0,e1]|((with_reducible show Aa _ _ _ _ _);first|refine Ap4.eq ?_|(refine hs.mono ?_;rintro _ s ⟨rfl,h1,hf1⟩))
 have k0:=hf1.get h0 hp
 have q0:=Ac k0
 rw[← E4 fs 0 n]at k0
 have hd:=Avo h1 k0 (i0:=0) (n:=n) (by omega) (by rw[E4];omega)
 simp only[cz]at hd
 repeat' first|simp only[↓wBA,tHc,seval]|((with_reducible show Aa _ _ _ _ _);refine hd.mono ?_;rintro _ s2 ⟨⟨b,rfl⟩,fs2,hP2,h2,hf2,hk⟩)
 have hP1:=Gd (fs:=fs) (i:=0) (j:=n) hl (by omega)
 have j0:=hf2.get k0 (by rw[Mi hP1];exact hp)
 have p0:=Ac j0
 have hl2:fs2.length=n+1:=by rw[hP2.length_eq,E4,hn]
 have hlast:=hk n (QH _)
 rw[Hw hl (by omega),if_pos rfl,hf0]at hlast
 have he:=Ap5 hl2 hlast
 rw[E4,hn]at j0
 have hl3:fs2.dropLast.length=n:=by simp[hl2]
 rw[he]at h2
 have hpp:=A1e (p:=p) (c0:=c0) (c1:=c1) (c2:=c2) (c4:=c4) (c5:=c5) h2 (by rw[hl3];exact j0)
 rw[hl3]at hpp
 have hff:Fr σ s2 (oF o fs) (oF o fs):=by
  have:=hf2
  rw[Mi hP1]at this
  exact Fr.trans hf1 this
 have hlen:=hff.len
 repeat' first|simp only[↓wBA,tHc,seval]|((with_reducible show Aa _ _ _ _ _);refine hpp.mono ?_;rintro _ _ ⟨rfl,rfl⟩)
 all_goals refine rtS ?_
 all_goals simp only[wRe,tHc,seval,wH,p0]
 have hpn:=p_no h2 j0
 have hfl:=h2.f n f0 (by rw[QY (by omega),hl3];simp)
 refine⟨⟨n,(QO fun e=>hpn (by subst e;exact .inr (by simp))).trans hfl⟩,fs2.dropLast,?_,h2.front.same fun t ht=> ?_,?_,?_⟩
 ·have h5:(fs2.dropLast++[f0]).Perm (f0::fs2.dropLast):=List.perm_append_comm
  exact h5.symm.trans (he▸(hP2.trans hP1))
 ·exact QO fun e=>hpn (by subst e;exact ht.imp id (fun h=>by simp[h]))
 ·simp only[hl3]
 ·exact Fr.set (F:=fun t=>t=p∨oF o fs t) (F':=fun t=>t=p∨oF o fs t) ⟨hff.len,fun t ht hn=>hff.keep t ht fun h=>hn (.inr h),fun t ht=>.inl ht⟩ _ (.inl rfl)
theorem Hf.push {s:St}{o' f:Nat}{fs:List Nat}{V:Nat→B7}(hnd:(fs++[f]).Nodup)(hb:fs.length+1≤1000000)(ho:s[o']? =some (some (.row 1 (Fi (fs++[f])))))(hfs:∀ (i g:Nat),fs[i]? =some g→s[g]? =some (Gc (V g) i))(hf:s[f]? =some (Gc (V f) fs.length))(hpg:∀ g∈fs++[f],(V g).pg.length=512):
 Hf s o' (fs++[f]) V:=by
 refine⟨⟨_,ho,ZF (by simp[Fi]),by simp[Fi]⟩,fun i g hi=> ?_,hnd,hpg,by simp;omega⟩
 by_cases h:i<fs.length
 ·rw[QD h]at hi
  exact hfs i g hi
 ·have hl:=(QC.1 hi).1
  simp at hl
  have:i=fs.length:=by omega
  subst this
  simp at hi
  subst hi
  exact hf
inductive Ord (σ:St)(V:Nat→B7):AV→Option Nat→List Nat→Prop
 |nil:Ord σ V (.p (.v (.slice none 0 0))) none []
 |hp {o fs}:Hf σ o fs V→Ord σ V (.ms o 1 0 fs.length) (some o) fs
def oG (w:Option Nat)(fs:List Nat)(t:Nat):Prop:=w=some t∨t∈fs
theorem Avp {σ:St}{p f:Nat}{w:Option Nat}{fs:List Nat}{V:Nat→B7}{a c0 c1 c2 c4 c5:AV}{i0:Nat}(h:Ord σ V a w fs)(h0:σ[p]? =some (some (.row 6 [[c0,c1,c2,a,c4,c5]])))(hf:σ[f]? =some (Gc (V f) i0))(hfn:f∉fs)(hpf:(V f).pg.length=512)(hb:fs.length+1≤1000000):
 Aa Tryz.prog 259 [.mp p 6 0 3,.dyn 154 (.mp f 516 0 0)] σ fun r σ'=>r= .tup []∧∃ o',Hf σ' o' (fs++[f]) V∧σ'[p]? =some (some (.row 6 [[c0,c1,c2,.ms o' 1 0 (fs.length+1),c4,c5]]))∧(w=some o'∨σ.length≤o')∧Fr σ σ' (fun t=>t=p∨t=f∨oG w fs t) (fun t=>t=p∨t=f∨oG (some o') fs t):=by
 have l0:=Ac h0
 have lf:=Ac hf
 have n0:(p=f)=False:=nf (Ay h0 hf (by simp[Gc]))
 have n1:(f=p)=False:=nf (Ay hf h0 (by simp[Gc]))
 simp only[Gc]at hf
 cases h with
 |nil=>
  have hl4:=lM (n:=1) (by omega)
  refine Ab Am An Tryz.func259 (by kernel_rfl) rfl (nt:=19) (rs:=[]) rfl rfl ?_
  repeat' first|simp only[↓wBA,tHc,seval,Kw,Kx,wH,wFr,h0,l0,hf,n1,hpf,cz,Ey,Da,srcM,hl4]|(with_reducible first|refine dQ Kw 9 (some 4) ?_|refine dQ Kx 10 (some 12) ?_)
  all_goals refine rtS ?_
  all_goals simp only[wRe,tHc,seval]
  refine⟨_,Hf.push (fs:=[]) (V:=V) (f:=f) (by simp) hb ?_ (by simp) ?_ (by simpa using hpf),?_,.inr (Nat.le_succ _),?_⟩
  ·simp only[wH,QF,QI,ZC];rfl
  ·simp only[wH,lf,n0,QF,QI,ZC];rfl
  ·simp only[wH,l0,QF,QI,ZC]
  ·refine ((((Fr.refl σ _).set _ (.inr (.inl rfl))).set _ (.inl rfl)).app _).app _ |>.to fun t ht=> ?_
   rcases ht with rfl|rfl|ht|ht
   ·exact .inl (.inl rfl)
   ·exact .inl (.inr (.inl rfl))
   ·simp at ht;omega
   ·simp at ht
 |hp h=>
  obtain⟨ls,h1,h2,h3⟩:=h.o
  rename_i o
  have l1:=Ac h1
  have n2:(o=f)=False:=nf (Ay h1 hf (by simp))
  have n3:(f=o)=False:=nf (Ay hf h1 (by simp))
  have n4:(o=p)=False:=nf (Ay h1 h0 (by simp))
  have n5:(p=o)=False:=nf (Ay h0 h1 (by simp))
  have hl1:=tL (n:=(fs.length+1)*8) (by omega)
  have hl2:=lM (n:=fs.length+1) (by omega)
  have hl3:=eq_true h3
  refine Ab Am An Tryz.func259 (by kernel_rfl) rfl (nt:=19) (rs:=[]) rfl rfl ?_
  repeat' first|simp only[↓wBA,tHc,seval,Kw,Kx,wH,wFr,h0,l0,hf,n1,n3,n4,hpf,h1,l1,h2,Ey,Da,srcM,hl1,hl2,hl3]|(with_reducible first|refine dQ Kw 9 (some 4) ?_|refine dQ Kx 10 (some 12) ?_)
  all_goals refine rtS ?_
  all_goals simp only[wRe,tHc,seval]
  refine⟨_,Hf.push (fs:=fs) (V:=V) (f:=f) (ZD.2 ⟨h.nd,by simp,fun a ha b hb e=>by simp at hb;subst hb;subst e;exact hfn ha⟩) hb ?_ (fun i g hi=> ?_) ?_ (fun g hg=> ?_),?_,.inr (Nat.le_succ _),?_⟩
  ·simp only[wH,QF,QI,ZC,Fi,ZH,QK,ZB]
  ·have hg:=h.f i g hi
   have m1:(f=g)=False:=nf fun e=>hfn (e▸QG hi)
   have m2:(o=g)=False:=nf (Ay h1 hg (by simp[Gc]))
   have m3:(p=g)=False:=nf (Ay h0 hg (by simp[Gc]))
   simp only[wH,m1,m2,m3,hg,Ac hg]
  ·simp only[wH,lf,n0,n2,QF,QI,ZC];rfl
  ·rcases QS.1 hg with hg|hg
   ·exact h.pg g hg
   ·simp at hg;subst hg;exact hpf
  ·simp only[wH,l0,QF,QI,ZC]
  ·refine (((((Fr.refl σ _).set _ (.inr (.inl rfl))).set _ (.inr (.inr (.inl rfl)))).set _ (.inl rfl)).app _).app _ |>.to fun t ht=> ?_
   rcases ht with rfl|rfl|ht|ht
   ·exact .inl (.inl rfl)
   ·exact .inl (.inr (.inl rfl))
   ·simp at ht;omega
   ·exact .inl (.inr (.inr (.inr ht)))
theorem A1f {σ:St}{p f:Nat}{w:Option Nat}{fs:List Nat}{V:Nat→B7}{a c0 c1 c2 c4 c5:AV}{i0:Nat}(h:Ord σ V a w fs)(h0:σ[p]? =some (some (.row 6 [[c0,c1,c2,a,c4,c5]])))(hf:σ[f]? =some (Gc (V f) i0))(hfn:f∉fs)(hpf:(V f).pg.length=512)(hb:fs.length+1≤1000000):
 Aa Tryz.prog 111 [.dyn 208 (.mp p 6 0 3),.dyn 154 (.mp f 516 0 0)] σ fun r σ'=>r= .tup []∧∃ o' fs',fs'.Perm (fs++[f])∧Hf σ' o' fs' V∧σ'[p]? =some (some (.row 6 [[c0,c1,c2,.ms o' 1 0 fs'.length,c4,c5]]))∧Fr σ σ' (fun t=>t=p∨t=f∨oG w fs t) (fun t=>t=p∨oF o' fs' t):=by
 have l0:=Ac h0
 refine Ab Am An Tryz.func111 (by kernel_rfl) rfl (nt:=10) (rs:=[]) rfl rfl ?_
 repeat' first|simp only[↓wBA,tHc,seval]|((with_reducible show Aa _ _ _ _ _);refine (Avp h h0 hf hfn hpf hb).mono ?_;rintro _ s ⟨rfl,o',h1,k0,ho,hf1⟩)
 have q0:=Ac k0
 have e1:IntKind.i64.wrap (((fs.length+1:Nat):Int) - 1)=(fs.length:Int):=by rw[wrap_i64 (by omega) (by omega)];omega
 have hl:(fs++[f]).length=fs.length+1:=by simp
 have hu:=aup h1 (hl▸k0) (j:=fs.length) (by simp)
 repeat' first|simp only[↓wBA,tHc,seval,k0,e1]|((with_reducible show Aa _ _ _ _ _);first|refine Ap4.eq ?_|(refine hu.mono ?_;rintro _ s2 ⟨rfl,fs2,hP,h2,hf2⟩))
 have hF:Fr σ s2 (fun t=>t=p∨t=f∨oG w fs t) (fun t=>t=p∨oF o' fs2 t):=by
  refine⟨ZO hf1.len hf2.len,fun t ht hn=> ?_,fun t ht=> ?_⟩
  ·rw[hf2.keep t (ZE ht hf1.len) ?_,hf1.keep t ht hn]
   rintro (rfl|h5)
   ·rcases ho with rfl|ho
    ·exact hn (.inr (.inr (.inl rfl)))
    ·omega
   ·rcases QS.1 h5 with h5|h5
    ·exact hn (.inr (.inr (.inr h5)))
    ·simp at h5;exact hn (.inr (.inl h5))
  ·rcases ht with rfl|rfl|h5
   ·exact .inl (.inl rfl)
   ·exact ho.imp (fun h=>.inr (.inr (.inl h))) id
   ·rcases QS.1 (hP.mem_iff.1 h5)with h5|h5
    ·exact .inl (.inr (.inr (.inr h5)))
    ·simp at h5;exact .inl (.inr (.inl h5))
 have hlen:=hF.len
 have j0:=hf2.get (hl▸k0) (p_no h1 (hl▸k0))
 all_goals refine rtS ?_
 all_goals simp only[wRe,tHc,seval]
 exact⟨o',fs2,hP,h2,hP.length_eq▸j0,hF⟩
def Q4 {β:Type}:List (Nat×β)→Nat→List (Nat×β)
 |[],_=>[]
 |(j,x)::m,k=>if j=k then m else (j,x)::Q4 m k
theorem Aol {β:Type}(f:β→AV)(k:Nat):∀ (m:List (Nat×β)) (i:Nat),(ixM m k i=none→Q4 m k=m)∧∀ j x,ixM m k i=some (j,x)→i≤j∧(Nj f m).eraseIdx (j - i)=Nj f (Q4 m k)
 |[],i=>⟨fun _=>rfl,fun j x h=>by simp[ixM]at h⟩
 |(q,z)::m,i=>by
  obtain⟨h1,h2⟩:=Aol f k m (i+1)
  by_cases e:q=k
  ·subst e
   refine⟨fun h=>by simp[ixM]at h,fun j x h=> ?_⟩
   simp only[ixM,if_true,QB,QJ]at h
   obtain⟨rfl,rfl⟩:=h
   simp[Nj,Q4]
  ·refine⟨fun h=> ?_,fun j x h=> ?_⟩
   ·simp only[ixM,if_neg e]at h
    simp only[Q4,if_neg e,h1 h]
   ·simp only[ixM,if_neg e]at h
    obtain⟨h3,h4⟩:=h2 j x h
    refine⟨by omega,?_⟩
    rw[show j - i=(j - (i+1))+1 by omega]
    simp only[Nj,Q4,if_neg e,QK,List.eraseIdx_cons_succ]at h4 ⊢
    rw[h4]
theorem Ap6 {β:Type}(f:β→AV)(m:List (Nat×β))(k:Nat):delK (.int .i64) (.int .i64 (k:Int)) (Nj f m)=some (Nj f (Q4 m k)):=by
 unfold delK
 rw[if_pos (by simp[Vk]),N5]
 obtain⟨h1,h2⟩:=Aol f k m 0
 cases hl:ixM m k 0 with
 |none=>simp[h1 hl]
 |some q=>
  obtain⟨j,x⟩:=q
  simpa using (h2 j x hl).2
theorem Aii {β:Type}(k:Nat):∀ m:List (Nat×β),k∉m.map Prod.fst→lkM m k=none
 |[],h=>rfl
 |(j,x)::m,h=>by
  simp at h
  have:¬ j=k:=fun e=>h.1 e.symm
  simp only[lkM,if_neg this]
  exact Aii k m (by simpa using h.2)
theorem Ue {β:Type}(k i:Nat):∀ m:List (Nat×β),(m.map Prod.fst).Nodup→lkM (Q4 m k) i=if i=k then none else lkM m i
 |[],_=>by simp[Q4,lkM]
 |(j,x)::m,h=>by
  simp only[QK,ZU]at h
  simp only[Q4]
  by_cases e:j=k
  ·subst e
   simp only[if_true,lkM]
   by_cases h2:i=j
   ·subst h2;simp[Aii _ m h.1]
   ·have:¬ j=i:=fun e=>h2 e.symm
    simp[h2,this]
  ·simp only[if_neg e,lkM,Ue k i m h.2]
   by_cases h2:j=i
   ·subst h2;simp[e]
   ·simp[h2]
theorem Ab4 {β:Type}(k:Nat)(y:β):∀ m:List (Nat×β),(Dq m k y).map Prod.fst=if k∈m.map Prod.fst then m.map Prod.fst else m.map Prod.fst++[k]
 |[]=>by simp[Dq]
 |(j,x)::m=>by
  simp only[Dq]
  by_cases e:j=k
  ·subst e;simp
  ·have e':¬ k=j:=fun h=>e h.symm
   simp only[if_neg e,QK,Ab4 k y m,QP,e',false_or]
   split<;>simp
theorem Ky {β:Type}(k:Nat)(y:β)(m:List (Nat×β))(h:(m.map Prod.fst).Nodup):((Dq m k y).map Prod.fst).Nodup:=by
 rw[Ab4]
 split
 ·exact h
 ·rename_i hk
  exact ZD.2 ⟨h,by simp,fun a ha b hb e=>by simp at hb;subst hb;subst e;exact hk ha⟩
theorem Ab5 {β:Type}(k:Nat):∀ m:List (Nat×β),((Q4 m k).map Prod.fst).Sublist (m.map Prod.fst)
 |[]=>List.Sublist.refl _
 |(j,x)::m=>by
  simp only[Q4]
  split
  ·simp
  ·simpa using Ab5 k m
theorem Aij {β:Type}(k:Nat)(m:List (Nat×β))(h:(m.map Prod.fst).Nodup):((Q4 m k).map Prod.fst).Nodup:=h.sublist (Ab5 k m)
def secs (m:List (Nat×List UInt8))(n k:Nat):List UInt8:=(List.range k).flatMap fun i=>A3 m (8*n+i)
theorem Ge (m:List (Nat×List UInt8))(n k:Nat):secs m n (k+1)=secs m n k++A3 m (8*n+k):=by simp[secs,WY]
theorem Ie {m:List (Nat×List UInt8)}(h:∀ k,(A3 m k).length=64)(n:Nat):∀ k,(secs m n k).length=64*k
 |0=>rfl
 |k+1=>by rw[Ge,QE,Ie h n k,h];omega
def Bq (m:List (Nat×List UInt8))(n:Nat):List UInt8:=secs m n 8
theorem Mj {m:List (Nat×List UInt8)}(h:∀ k,(A3 m k).length=64)(n:Nat):(Bq m n).length=512:=Ie h n 8
def C3:List UInt8:=List.replicate 512 0
def pgz (l:List UInt8):List UInt8:=if l=C3 then Fg 0 else l
theorem Aik {l:List UInt8}(h:l.length=512):(pgz l).length=512:=by
 unfold pgz
 split
 ·exact Dc 0
 ·exact h
def wrPg (m:List (Nat×List UInt8))(n:Nat)(pg:List UInt8):Nat→List (Nat×List UInt8)
 |0=>m
 |k+1=>Dq (wrPg m n pg k) (8*n+k) ((pg.drop (64*k)).take 64)
def wrW (n:Nat)(pg:List UInt8)(k:Nat):List (Nat×List UInt8):=(List.range k).map fun i=>(8*n+i,(pg.drop (64*i)).take 64)
theorem Ab6 (m:List (Nat×List UInt8))(n:Nat)(pg:List UInt8)(j:Nat):∀ k,A3 (wrPg m n pg k) j=if 8*n≤j∧j<8*n+k then (pg.drop (64*(j - 8*n))).take 64 else A3 m j
 |0=>by rw[if_neg (by omega)];rfl
 |k+1=>by
  rw[wrPg,Dd,Ab6 m n pg j k]
  by_cases h:j=8*n+k
  ·subst h
   rw[if_pos rfl,if_pos (by omega)]
   congr 3;omega
  ·rw[if_neg h]
   by_cases h2:8*n≤j∧j<8*n+k
   ·rw[if_pos h2,if_pos (by omega)]
   ·rw[if_neg h2,if_neg (by omega)]
theorem Ail {pg:List UInt8}(h:pg.length=512)(m:List (Nat×List UInt8))(n:Nat)(hm:∀ i,i<8→A3 m (8*n+i)=(pg.drop (64*i)).take 64):∀ k,k≤8→secs m n k=pg.take (64*k)
 |0,_=>rfl
 |k+1,hk=>by
  rw[Ge,Ail h m n hm k (by omega),hm k (by omega),show 64*(k+1)=64*k+64 by omega,List.take_add]
theorem Ap7 {pg:List UInt8}(h:pg.length=512)(m:List (Nat×List UInt8))(n:Nat):Bq (wrPg m n pg 8) n=pg:=by
 unfold Bq
 rw[Ail h _ n (fun i hi=> ?_) 8 (QH _)]
 ·exact ZF (by omega)
 ·rw[Ab6,if_pos (by omega)];congr 3;omega
theorem R8 (m m':List (Nat×List UInt8))(n:Nat):∀ k,(∀ i,i<k→A3 m (8*n+i)=A3 m' (8*n+i))→secs m n k=secs m' n k
 |0,_=>rfl
 |k+1,h=>by rw[Ge,Ge,R8 m m' n k (fun i hi=>h i (by omega)),h k (by omega)]
theorem Ab7 (m:List (Nat×List UInt8))(n n':Nat)(pg:List UInt8)(hn:n'≠n):Bq (wrPg m n pg 8) n'=Bq m n':=by
 refine R8 _ _ _ 8 fun i hi=> ?_
 rw[Ab6,if_neg (by omega)]
structure Ak where
 data:F9
 log:LogV
 most:Nat
 tick:Int
 fs:List Nat
 V:Nat→B7
 hm:List (Nat×Nat)
def Ak.pages (P:Ak):Nat:=min (P.data.size / 8) 3840
def Ak.view (P:Ak)(n:Nat):List UInt8:=match lkM P.hm n with
 |some f=>(P.V f).pg
 |none=>pgz (Bq P.data.now n)
structure Mk (σ:St)(p dd l kh:Nat)(Fd Gl:Nat→Prop)(w:Option Nat)(a:AV)(P:Ak):Prop where
 o:σ[p]? =some (some (.row 6 [[.mp dd 6 0 0,.mp l 5 0 0,Ad .i64 (P.most:Nat),a,.mmap kh,Ad .i64 P.tick]]))
 data:Bf σ dd Fd P.data
 log:Er σ l Gl P.log
 ord:Ord σ P.V a w P.fs
 has:σ[kh]? =some (some (.map (Nj (fun f=>.mp f 516 0 0) P.hm)))
 dl:∀ t,Fd t→Gl t→False
 od:∀ t,oG w P.fs t→Fd t→False
 ol:∀ t,oG w P.fs t→Gl t→False
 pd:¬ Fd p
 pl:¬ Gl p
 kd:¬ Fd kh
 kl:¬ Gl kh
structure Px (P:Ak):Prop where
 keys:∀ n f,lkM P.hm n=some f↔f∈P.fs∧(P.V f).n=n
 kn:(P.hm.map Prod.fst).Nodup
 m1:1≤P.most
 mb:P.most≤100000
 len:P.fs.length≤P.most
 fn:∀ f∈P.fs,(P.V f).n<P.pages
 nz:∀ f∈P.fs,pgz (P.V f).pg=(P.V f).pg
 cl:∀ f∈P.fs,(P.V f).dirty=false→pgz (Bq P.data.now (P.V f).n)=(P.V f).pg
 secs:∀ k,(A3 P.data.now k).length=64
 size:16≤P.data.size
def Bg (σ:St)(p dd l kh:Nat)(G:Nat→Prop)(P:Ak):Prop:=Px P∧∃ Fd Gl w a,Mk σ p dd l kh Fd Gl w a P∧∀ t,G t↔(t=p∨t=kh∨Fd t∨Gl t∨oG w P.fs t)
theorem Ord.big {σ:St}{V:Nat→B7}{a:AV}{w:Option Nat}{fs:List Nat}(h:Ord σ V a w fs):(∀ f∈fs,(V f).pg.length=512)∧fs.Nodup:=by
 cases h with
 |nil=>exact⟨by simp,by simp⟩
 |hp h=>exact⟨h.pg,h.nd⟩
theorem Ord.same {σ s:St}{V:Nat→B7}{a:AV}{w:Option Nat}{fs:List Nat}(h:Ord σ V a w fs)(hs:∀ t,oG w fs t→s[t]? =σ[t]?):Ord s V a w fs:=by
 cases h with
 |nil=>exact .nil
 |hp h=>exact .hp (h.same fun t ht=>hs t (ht.imp (fun e=>by rw[e]) id))
theorem Ord.lt {σ:St}{V:Nat→B7}{a:AV}{w:Option Nat}{fs:List Nat}(h:Ord σ V a w fs):∀ t,oG w fs t→t<σ.length:=by
 cases h with
 |nil=>intro t ht;rcases ht with ht|ht<;>simp at ht
 |hp h=>
  intro t ht
  rcases ht with ht|ht
  ·simp only[QB]at ht;subst ht
   obtain⟨ls,ho,_⟩:=h.o
   exact Ac ho
  ·obtain⟨i,hi⟩:=YH ht
   exact Ac (h.f _ _ hi)
theorem Ord.not {σ:St}{V:Nat→B7}{a:AV}{w:Option Nat}{fs:List Nat}(h:Ord σ V a w fs){t:Nat}{x:Option Ob}(ht:σ[t]? =some x)(h1:∀ ls,x≠some (.row 1 ls))(h2:∀ c,x≠some (.row 516 c)):¬ oG w fs t:=by
 cases h with
 |nil=>intro e;rcases e with e|e<;>simp at e
 |hp h=>
  rintro (e|e)
  ·simp only[QB]at e;subst e
   obtain⟨ls,ho,_⟩:=h.o
   rw[ho]at ht;simp only[QB]at ht;exact h1 _ ht.symm
  ·obtain⟨i,hi⟩:=YH e
   have:=h.f _ _ hi
   rw[this]at ht;simp only[QB]at ht;exact h2 _ ht.symm
theorem Mk.np {σ:St}{p dd l kh:Nat}{Fd Gl:Nat→Prop}{w:Option Nat}{a:AV}{P:Ak}(h:Mk σ p dd l kh Fd Gl w a P):¬ oG w P.fs p:=h.ord.not h.o (by simp) (by simp)
theorem Mk.nk {σ:St}{p dd l kh:Nat}{Fd Gl:Nat→Prop}{w:Option Nat}{a:AV}{P:Ak}(h:Mk σ p dd l kh Fd Gl w a P):¬ oG w P.fs kh:=h.ord.not h.has (by simp) (by simp)
theorem Mk.pk {σ:St}{p dd l kh:Nat}{Fd Gl:Nat→Prop}{w:Option Nat}{a:AV}{P:Ak}(h:Mk σ p dd l kh Fd Gl w a P):p≠kh:=Ay h.o h.has (by simp)
theorem Bg.lt {σ:St}{p dd l kh:Nat}{G:Nat→Prop}{P:Ak}(h:Bg σ p dd l kh G P):∀ t,G t→t<σ.length:=by
 obtain⟨_,Fd,Gl,w,a,h,hG⟩:=h
 intro t ht
 rcases (hG t).1 ht with rfl|rfl|ht|ht|ht
 ·exact Ac h.o
 ·exact Ac h.has
 ·exact h.data.lt t ht
 ·exact h.log.lt t ht
 ·exact h.ord.lt t ht
theorem Bg.same {σ s:St}{p dd l kh:Nat}{G:Nat→Prop}{P:Ak}(h:Bg σ p dd l kh G P)(hs:∀ t,G t→s[t]? =σ[t]?):Bg s p dd l kh G P:=by
 obtain⟨hk,Fd,Gl,w,a,h,hG⟩:=h
 exact⟨hk,Fd,Gl,w,a,⟨by rw[hs p ((hG p).2 (.inl rfl))];exact h.o,h.data.same fun t ht=>hs t ((hG t).2 (.inr (.inr (.inl ht)))),h.log.same fun t ht=>hs t ((hG t).2 (.inr (.inr (.inr (.inl ht))))),h.ord.same fun t ht=>hs t ((hG t).2 (.inr (.inr (.inr (.inr ht))))),by rw[hs kh ((hG kh).2 (.inr (.inl rfl)))];exact h.has,h.dl,h.od,h.ol,h.pd,h.pl,h.kd,h.kl⟩,hG⟩
theorem Bg.frame {σ s:St}{p dd l kh:Nat}{G K K':Nat→Prop}{P:Ak}(h:Bg σ p dd l kh G P)(hf:Fr σ s K K')(hd:∀ t,G t→K t→False):Bg s p dd l kh G P:=
 h.same fun t ht=>hf.keep t (h.lt t ht) fun hg=>hd t ht hg
theorem Bg.ap {σ s:St}{p dd l kh:Nat}{G:Nat→Prop}{P:Ak}(h:Bg σ p dd l kh G P)(hs:Ap σ s):Bg s p dd l kh G P:=by
 obtain⟨τ,rfl⟩:=hs
 exact h.same fun t ht=>QD (h.lt t ht)
theorem Bg.root {σ:St}{p dd l kh:Nat}{G:Nat→Prop}{P:Ak}(h:Bg σ p dd l kh G P):G p:=by
 obtain⟨_,Fd,Gl,w,a,h,hG⟩:=h
 exact (hG p).2 (.inl rfl)
def Ak.dirt (P:Ak):Nat:=P.fs.countP fun f=>(P.V f).dirty
def Ak.ct (P:Ak):Nat:=P.log.ctr+min P.log.wait 1
def Ak.dq (P:Ak):Nat:=P.data.wait.length+8*P.dirt
theorem Ap8 {P P':Ak}(hp:P'.fs.Perm P.fs)(hV:∀ g∈P.fs,(P'.V g).dirty=(P.V g).dirty):P'.dirt=P.dirt:=by
 unfold Ak.dirt
 rw[hp.countP_eq]
 exact List.countP_congr fun g hg=>by rw[hV g hg]
theorem A1g {P P':Ak}(hw:P'.data.wait=P.data.wait)(hp:P'.fs.Perm P.fs)(hV:∀ g∈P.fs,(P'.V g).dirty=(P.V g).dirty)(k:Nat):P'.dq≤P.dq+k:=by
 unfold Ak.dq
 rw[hw,Ap8 hp hV];omega
theorem Alh {P P':Ak}(hl:P'.log=P.log)(k:Nat):P'.ct≤P.ct+k:=by unfold Ak.ct;rw[hl];omega
structure Kp (P P':Ak)(k:Nat):Prop where
 size:P'.data.size=P.data.size
 most:P'.most=P.most
 ls:P'.log.disk.size=P.log.disk.size
 ld:P'.log.d=P.log.d
 str:P'.log.str=P.log.str
 wait:P'.log.wait≤P.log.wait
 ctr:P'.ct≤P.ct+k
 dw:P'.dq≤P.dq+8*k
 view:∀ n,P'.view n=P.view n
 kept:P'.data.kept=P.data.kept:=by rfl
theorem Kp.refl (P:Ak)(k:Nat):Kp P P k:=⟨rfl,rfl,rfl,rfl,rfl,QH _,by omega,by omega,fun _=>rfl,rfl⟩
theorem Kp.trans {P P' P'':Ak}{k k':Nat}(h:Kp P P' k)(h':Kp P' P'' k'):Kp P P'' (k+k'):=
 ⟨h'.size.trans h.size,h'.most.trans h.most,h'.ls.trans h.ls,h'.ld.trans h.ld,h'.str.trans h.str,ZO h'.wait h.wait,by have:=h.ctr;have:=h'.ctr;omega,by have:=h.dw;have:=h'.dw;omega,fun n=>(h'.view n).trans (h.view n),h'.kept.trans h.kept⟩
theorem Kp.pages {P P':Ak}{k:Nat}(h:Kp P P' k):P'.pages=P.pages:=by unfold Ak.pages;rw[h.size]
