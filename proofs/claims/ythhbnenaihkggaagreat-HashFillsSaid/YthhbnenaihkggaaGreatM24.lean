/- Frames and their heap: what they are in a state. Frames: the heap's methods. Frames: the heap goes up and down. Frames: the heap's Fix, Pop, Push. -/
import Derived.Test.YthhbnenaihkggaaGreatM23
set_option linter.unusedSimpArgs false
set_option linter.unusedVariables false
set_option linter.defProp false
set_option maxRecDepth 100000
set_option maxHeartbeats 32000000
namespace Go.Proofs.YthhbnenaihkggaaGreat
open Go.RowKit
open List (getElem?_eq_getElem getElem?_set getElem?_set_ne length_append length_cons length_nil length_set mem_append mem_of_getElem?)
structure FrameV where
 n:Nat
 pg:List UInt8
 dirty:Bool
 used:Int
def frOb (v:FrameV)(i:Nat):Option Ob:=some (.row 516 [frR v.n v.pg v.dirty v.used i])
def ordRow (fs:List Nat):List (List AV):=fs.map fun f=>[.mp f 516 0 0]
structure HpIn (σ:St)(o:Nat)(fs:List Nat)(V:Nat→FrameV):Prop where
 o:∃ ls,σ[o]? =some (some (.row 1 ls))∧ls.take fs.length=ordRow fs∧fs.length≤ls.length
 f:∀ (i f:Nat),fs[i]? =some f→σ[f]? =some (frOb (V f) i)
 nd:fs.Nodup
 pg:∀ f∈fs,(V f).pg.length=512
 big:fs.length≤1000000
theorem ordRow_len (fs:List Nat):(ordRow fs).length=fs.length:=by simp[ordRow]
theorem ord_get {fs:List Nat}{ls:List (List AV)}(h:ls.take fs.length=ordRow fs){i f:Nat}(hi:fs[i]? =some f):ls[i]? =some [.mp f 516 0 0]:=by
 have hl:=(List.getElem?_eq_some_iff.1 hi).1
 have:(ls.take fs.length)[i]? =some [.mp f 516 0 0]:=by rw[h];simp[ordRow,hi]
 rwa [List.getElem?_take,if_pos hl]at this
def swapL (fs:List Nat)(i j:Nat):List Nat:=(fs.set i (fs.getD j 0)).set j (fs.getD i 0)
theorem swapL_len (fs:List Nat)(i j:Nat):(swapL fs i j).length=fs.length:=by simp[swapL]
theorem swapL_get {fs:List Nat}{i j:Nat}(hi:i<fs.length)(hj:j<fs.length)(k:Nat):(swapL fs i j)[k]? =if k=j then fs[i]? else if k=i then fs[j]? else fs[k]? :=by
 unfold swapL
 rw[getElem?_set,getElem?_set]
 simp only[length_set,List.getD_eq_getElem?_getD]
 by_cases h1:k=j
 ·subst h1;simp[hi,hj]
 ·have h1':¬ j=k:=fun e=>h1 e.symm
  by_cases h2:k=i
  ·subst h2;simp[hi,hj,h1,h1']
  ·have h2':¬ i=k:=fun e=>h2 e.symm
   simp[h1,h1',h2,h2']
theorem swapL_perm {fs:List Nat}{i j:Nat}(hi:i<fs.length)(hj:j<fs.length):(swapL fs i j).Perm fs:=by
 have e1:fs.getD j 0=fs[j]:=by simp[hj]
 have e2:fs.getD i 0=fs[i]:=by simp[hi]
 unfold swapL
 rw[e1,e2]
 exact List.set_set_perm (by simpa using hi) hj
theorem ordRow_swap {fs:List Nat}{ls:List (List AV)}{i j fi fj:Nat}(h:ls.take fs.length=ordRow fs)(hi:fs[i]? =some fi)(hj:fs[j]? =some fj):
 ((ls.set i [.mp fj 516 0 0]).set j [.mp fi 516 0 0]).take (swapL fs i j).length=ordRow (swapL fs i j):=by
 have li:=(List.getElem?_eq_some_iff.1 hi).1
 have lj:=(List.getElem?_eq_some_iff.1 hj).1
 rw[swapL_len]
 apply List.ext_getElem?
 intro k
 rw[List.getElem?_take,ordRow,List.getElem?_map,swapL_get li lj]
 have hk:∀ f,fs[k]? =some f→ls[k]? =some [.mp f 516 0 0]:=fun f hf=>ord_get h hf
 have hll:fs.length≤ls.length:=by
  have:=congrArg List.length h
  rw[ordRow_len,List.length_take]at this
  omega
 split
 ·rename_i hlt
  rw[getElem?_set,getElem?_set]
  have hkl:k<ls.length:=by omega
  by_cases h1:k=j
  ·subst h1;simp[hi,hkl]
  ·have h1':¬ j=k:=fun e=>h1 e.symm
   by_cases h2:k=i
   ·subst h2;simp[hj,hkl,h1,h1']
   ·have h2':¬ i=k:=fun e=>h2 e.symm
    rw[if_neg h1',if_neg h2',if_neg h1,if_neg h2,hk _ (getElem?_eq_getElem hlt),getElem?_eq_getElem hlt]
    rfl
 ·rename_i hge
  rw[if_neg (by omega),if_neg (by omega),List.getElem?_eq_none (by omega)]
  rfl
theorem swapL_self {fs:List Nat}{i:Nat}(hi:i<fs.length):swapL fs i i=fs:=by
 apply List.ext_getElem?
 intro k
 rw[swapL_get hi hi]
 by_cases hk:k=i
 ·subst hk;simp
 ·simp[hk]
theorem HpIn.swap {σ s:St}{o i j fi fj:Nat}{fs:List Nat}{V:Nat→FrameV}{ls:List (List AV)}(h:HpIn σ o fs V)(h2:ls.take fs.length=ordRow fs)(h3:fs.length≤ls.length)(gi:fs[i]? =some fi)(gj:fs[j]? =some fj)(hij:i≠j)
 (so:s[o]? =some (some (.row 1 ((ls.set i [.mp fj 516 0 0]).set j [.mp fi 516 0 0])))) (si:s[fi]? =some (frOb (V fi) j)) (sj:s[fj]? =some (frOb (V fj) i)) (sk:∀ t,t≠o→t≠fi→t≠fj→s[t]? =σ[t]?):
 HpIn s o (swapL fs i j) V:=by
 have li:=(List.getElem?_eq_some_iff.1 gi).1
 have lj:=(List.getElem?_eq_some_iff.1 gj).1
 obtain⟨ls',ho,_,_⟩:=h.o
 refine⟨⟨_,so,ordRow_swap h2 gi gj,by rw[swapL_len];simpa using h3⟩,fun k f hk=> ?_,(swapL_perm li lj).nodup_iff.2 h.nd,fun f hf=>h.pg f ((swapL_perm li lj).mem_iff.1 hf),by rw[swapL_len];exact h.big⟩
 rw[swapL_get li lj]at hk
 split at hk
 ·rename_i e;subst e
  rw[gi]at hk;cases hk;exact si
 ·split at hk
  ·rename_i e;subst e
   rw[gj]at hk;cases hk;exact sj
  ·rename_i h4 h5
   have hf:=h.f k f hk
   rw[sk f (ne_of_ob hf ho (by simp[frOb])) (fun e=> ?_) (fun e=> ?_)]
   ·exact hf
   ·subst e
    exact h5 ((List.getElem?_inj (List.getElem?_eq_some_iff.1 hk).1 h.nd).1 (hk.trans gi.symm))
   ·subst e
    exact h4 ((List.getElem?_inj (List.getElem?_eq_some_iff.1 hk).1 h.nd).1 (hk.trans gj.symm))
def pl148_1Ha:Plan:=(.det 0 (.det 1 (.det 2 (.det 3 (.det 4 (.det 5 (.det 6 (.det 7 (.det 8 (.det 9 (.det 10 (.det 11 (.det 12 (.det 13 (.det 14 (.det 15 .done))))))))))))))))
def pl149_0Ha:Plan:=(.det 0 (.det 1 (.det 2 (.det 3 (.det 4 (.det 5 (.det 6 (.det 7 (.det 8 (.det 9 (.det 10 (.det 11 (.det 12 (.fin 13 (.det 14 (.fin 15 .done))))))))))))))))
def pl149_1Ha:Plan:=(.det 0 (.det 1 (.det 2 (.det 3 (.det 4 (.det 5 (.det 6 (.det 7 (.det 8 (.det 9 (.det 10 (.det 11 (.fin 12 (.det 13 (.det 14 (.fin 15 .done))))))))))))))))
def tHa:=aa wX <| aa wbu <| aa T3 <| aa T84 <| aa T139 T143
theorem aless {σ:St}{o i j:Nat}{fs:List Nat}{V:Nat→FrameV}(h:HpIn σ o fs V)(hi:i<fs.length)(hj:j<fs.length):
 ACalls Tryz.prog 148 [.ms o 1 0 fs.length,intV .i64 (i:Nat),intV .i64 (j:Nat)] σ fun r σ'=>σ'=σ∧∃ b,r=boolV b:=by
 obtain⟨ls,h1,h2,h3⟩:=h.o
 have l1:=at_lt h1
 have gi:=getElem?_eq_getElem hi
 have gj:=getElem?_eq_getElem hj
 have k1:=ord_get h2 gi
 have k2:=ord_get h2 gj
 have f1:=h.f _ _ gi
 have f2:=h.f _ _ gj
 have p1:=h.pg _ (mem_of_getElem? gi)
 have p2:=h.pg _ (mem_of_getElem? gj)
 have b1:=dT (i:=i) (n:=fs.length) (by omega)
 have b2:=dT (i:=j) (n:=fs.length) (by omega)
 have d1:((i:Int)<(fs.length:Int))=True:=eq_true (by omega)
 have d2:((j:Int)<(fs.length:Int))=True:=eq_true (by omega)
 have i1:=nnI i
 have i2:=nnI j
 generalize fs[i]=fi at gi k1 f1 p1
 generalize fs[j]=fj at gj k2 f2 p2
 have q1:=at_lt f1
 have q2:=at_lt f2
 simp only[frOb]at f1 f2
 refine acalls_of cx_ok dr_ok Tryz.func148 (by kernel_rfl) rfl (nt:=19) (rs:=[.tmp 6]) rfl rfl ?_
 repeat' first|((with_reducible first|apply cs|apply ws|apply wd|apply wu)<;>intro h<;>try simp only[h])|simp only[↓wBA,tHa,convA,seval,pl148_1Ha,wH,wFr,h1,l1,k1,k2,f1,f2,p1,p2,b1,b2,d1,d2,i1,i2,q1,q2]|(with_reducible refine dQ pl148_1Ha 16 (some 7) ?_)
 all_goals refine ret_st ?_ (by first|exact Nat.le_refl _|(simp only[length_set,length_append];omega)|omega)
 all_goals simp only[resA.eq_1,resL.eq_1,resL.eq_2,resV.eq_1,resV.eq_2,↓wBA,tHa,convA,seval,wH]
 exact⟨_,rfl⟩
theorem list_back {α:Type}{ls:List α}{i:Nat}{x:α}(h:ls[i]? =some x):ls.set i x=ls:=by
 apply List.ext_getElem?
 intro k
 rw[getElem?_set]
 split
 ·rename_i e;subst e;rw[if_pos (List.getElem?_eq_some_iff.1 h).1,h]
 ·rfl
theorem aswap {σ:St}{o i j:Nat}{fs:List Nat}{V:Nat→FrameV}(h:HpIn σ o fs V)(hi:i<fs.length)(hj:j<fs.length):
 ACalls Tryz.prog 149 [.ms o 1 0 fs.length,intV .i64 (i:Nat),intV .i64 (j:Nat)] σ fun r σ'=>r= .tup []∧HpIn σ' o (swapL fs i j) V∧Fr σ σ' (fun t=>t=o∨t∈fs) (fun t=>t=o∨t∈fs):=by
 obtain⟨ls,h1,h2,h3⟩:=h.o
 have l1:=at_lt h1
 have gi:=getElem?_eq_getElem hi
 have gj:=getElem?_eq_getElem hj
 have k1:=ord_get h2 gi
 have k2:=ord_get h2 gj
 have f1:=h.f _ _ gi
 have f2:=h.f _ _ gj
 have p1:=h.pg _ (mem_of_getElem? gi)
 have p2:=h.pg _ (mem_of_getElem? gj)
 have b1:=dT (i:=i) (n:=fs.length) (by omega)
 have b2:=dT (i:=j) (n:=fs.length) (by omega)
 have d1:((i:Int)<(fs.length:Int))=True:=eq_true (by omega)
 have d2:((j:Int)<(fs.length:Int))=True:=eq_true (by omega)
 have i1:=nnI i
 have i2:=nnI j
 generalize fs[i]=fi at gi k1 f1 p1
 generalize fs[j]=fj at gj k2 f2 p2
 have q1:=at_lt f1
 have q2:=at_lt f2
 have n1:(o=fi)=False:=nf (ne_of_ob h1 f1 (by simp[frOb]))
 have n2:(fi=o)=False:=nf (ne_of_ob f1 h1 (by simp[frOb]))
 have n3:(o=fj)=False:=nf (ne_of_ob h1 f2 (by simp[frOb]))
 have n4:(fj=o)=False:=nf (ne_of_ob f2 h1 (by simp[frOb]))
 simp only[frOb]at f1 f2
 by_cases hij:i=j
 ·subst hij
  rw[gi]at gj
  cases gj
  have e0:ls.set i [.mp fi 516 0 0]=ls:=list_back k1
  refine acalls_of cx_ok dr_ok Tryz.func149 (by kernel_rfl) rfl (nt:=31) (rs:=[]) rfl rfl ?_
  repeat' first|((with_reducible first|apply cs|apply ws|apply wd|apply wu)<;>intro h<;>try simp only[h])|simp only[↓wBA,tHa,convA,seval,pl149_0Ha,pl149_1Ha,wH,wFr,h1,l1,k1,f1,p1,b1,d1,i1,q1,n1,n2,e0]|(with_reducible first|refine dQ pl149_0Ha 16 (some 6) ?_|refine dQ pl149_1Ha 16 (some 20) ?_)
  all_goals refine ret_st ?_ (by first|exact Nat.le_refl _|(simp only[length_set,length_append];omega)|omega)
  all_goals simp only[resA.eq_1,resL.eq_1,resL.eq_2,resV.eq_1,resV.eq_2,↓wBA,tHa,convA,seval,wH]
  rw[swapL_self hi]
  exact⟨h,Fr.refl _ _⟩
 ·have n5:(fi=fj)=False:=nf (fun e=>hij (by
   subst e
   exact (List.getElem?_inj hi h.nd).1 (gi.trans gj.symm)))
  have n6:(fj=fi)=False:=nf (fun e=>(of_eq_false n5) e.symm)
  have li:i<ls.length:=by omega
  have lj:j<ls.length:=by omega
  have hij':¬ j=i:=fun e=>hij e.symm
  have e1:(ls.set i [.mp fj 516 0 0])[j]? =some [.mp fj 516 0 0]:=by rw[getElem?_set_ne hij];exact k2
  have e2:((ls.set i [.mp fj 516 0 0]).set j [.mp fi 516 0 0])[i]? =some [.mp fj 516 0 0]:=by rw[getElem?_set_ne hij'];simp[li]
  have e3:((ls.set i [.mp fj 516 0 0]).set j [.mp fi 516 0 0])[j]? =some [.mp fi 516 0 0]:=by simp[lj]
  refine acalls_of cx_ok dr_ok Tryz.func149 (by kernel_rfl) rfl (nt:=31) (rs:=[]) rfl rfl ?_
  repeat' first|((with_reducible first|apply cs|apply ws|apply wd|apply wu)<;>intro h<;>try simp only[h])|simp only[↓wBA,tHa,convA,seval,pl149_0Ha,pl149_1Ha,wH,wFr,h1,l1,k1,k2,f1,f2,p1,p2,b1,b2,d1,d2,i1,i2,q1,q2,n1,n2,n3,n4,n5,n6,e1,e2,e3]|(with_reducible first|refine dQ pl149_0Ha 16 (some 6) ?_|refine dQ pl149_1Ha 16 (some 20) ?_)
  all_goals refine ret_st ?_ (by first|exact Nat.le_refl _|(simp only[length_set,length_append];omega)|omega)
  all_goals simp only[resA.eq_1,resL.eq_1,resL.eq_2,resV.eq_1,resV.eq_2,↓wBA,tHa,convA,seval,wH]
  have hm:∀ k f,fs[k]? =some f→f=o∨f∈fs:=fun k f e=>.inr (mem_of_getElem? e)
  refine⟨h.swap h2 h3 gi gj hij ?_ ?_ ?_ ?_,(((Fr.refl σ _).set _ (.inl rfl)).set _ (hm _ _ ‹_›)).set _ (hm _ _ ‹_›)⟩
  ·simp only[wH,l1,n1,n2,n3,n4,q1,q2]
  ·simp only[wH,l1,n1,n2,n3,n4,n5,n6,q1,q2,frOb]
  ·simp only[wH,l1,n1,n2,n3,n4,n5,n6,q1,q2,frOb]
  ·intro t ht hi hj
   have m1:=nf ht
   have m2:=nf hi
   have m3:=nf hj
   simp only[wH,nf (Ne.symm ht),nf (Ne.symm hi),nf (Ne.symm hj)]
def tHb:=aa wX <| aa wbu <| aa T3 T4
def oF (o:Nat)(fs:List Nat)(t:Nat):Prop:=t=o∨t∈fs
theorem oF_perm {o:Nat}{fs fs':List Nat}(h:fs'.Perm fs):oF o fs'=oF o fs:=funext fun t=>propext (or_congr Iff.rfl h.mem_iff)
theorem p_no {σ:St}{p o:Nat}{fs:List Nat}{V:Nat→FrameV}{c:List AV}(h:HpIn σ o fs V)(h0:σ[p]? =some (some (.row 6 [c]))):¬ oF o fs p:=fun e=>by
 rcases e with rfl|e
 ·obtain⟨ls,ho,_⟩:=h.o
  rw[ho]at h0;simp at h0
 ·obtain⟨i,hi⟩:=List.getElem?_of_mem e
  have:=h.f _ _ hi
  rw[this]at h0;simp[frOb]at h0
theorem aup {σ:St}{p o j:Nat}{fs:List Nat}{V:Nat→FrameV}{c0 c1 c2 c4 c5:AV}(h:HpIn σ o fs V)(h0:σ[p]? =some (some (.row 6 [[c0,c1,c2,.ms o 1 0 fs.length,c4,c5]])))(hj:j<fs.length):
 ACalls Tryz.prog 126 [.dyn 179 (.mp p 6 0 3),intV .i64 (j:Nat)] σ fun r σ'=>r= .tup []∧∃ fs',fs'.Perm fs∧HpIn σ' o fs' V∧Fr σ σ' (oF o fs) (oF o fs):=by
 have hp:=p_no h h0
 refine acalls_of cx_ok dr_ok Tryz.func126 (by kernel_rfl) rfl (nt:=21) (rs:=[]) rfl rfl ?_
 repeat' first|((with_reducible first|apply cs|apply ws)<;>intro h<;>try simp only[h])|simp only[↓wBA,tHb,convA,seval,wH]
 refine awp_loopS (X:={ j:Nat // j<fs.length }) (fun j=>j.1) (fun j=>[(1,intV .i64 (j.1:Nat))]) [4,5,6,7,8,9,10,11,12,13,14,15,16,17,18,19,20,21,22] (fun j s=>∃ fs',fs'.Perm fs∧HpIn s o fs' V∧Fr σ s (oF o fs) (oF o fs)) (⟨j,hj⟩) ?_ ?_ ?_ ?_
 ·simp only[wHl,wHf]
 ·exact⟨fs,.refl _,h,Fr.refl _ _⟩
 ·rintro _ _ ⟨_,_,_,hf⟩;exact hf.len
 ·intro x J s hI
  simp only[wHl]
  obtain⟨j,hj⟩:=x
  obtain⟨fs',hP,h',hf⟩:=hI
  have k0:=hf.get h0 hp
  have q0:=at_lt k0
  have hl:=hP.length_eq
  have hb:=h.big
  dsimp only
  rw[← hl]at k0
  have e1:IntKind.i64.wrap ((j:Int) - 1)=(j:Int) - 1:=wrap_i64 (by omega) (by omega)
  have e2:IntKind.i64.wrap (((j:Int) - 1).tdiv 2)=(((j - 1) / 2:Nat):Int):=by
   by_cases h0:j=0
   ·subst h0;decide
   ·rw[Int.tdiv_eq_ediv_of_nonneg (by omega),wrap_i64 (by omega) (by omega)];omega
  have hi':(j - 1) / 2<fs'.length:=by omega
  repeat' first|((with_reducible first|apply cs|apply ws)<;>intro h<;>try simp only[h])|simp only[↓wBA,tHb,convA,seval,wH,wHl,k0,q0,e1,e2]|((with_reducible show ACalls _ _ _ _ _);first|(refine (aless h' (by omega) hi').mono ?_;rintro _ _ ⟨rfl,b,rfl⟩)|(refine (aswap h' hi' (by omega)).mono ?_;rintro _ s2 ⟨rfl,h2,hf2⟩))
  all_goals have hlen:=hf.len
  ·skip
   all_goals refine ret_st ?_ (by first|exact Nat.le_refl _|(simp only[length_set,length_append];omega)|omega)
   all_goals simp only[resA.eq_1,resL.eq_1,resL.eq_2,resV.eq_1,resV.eq_2,↓wBA,tHb,convA,seval,wH]
   exact⟨fs',hP,h',hf⟩
  ·have hj0:j≠0:=fun e=>by subst e;simp_all
   refine⟨⟨(j - 1) / 2,by omega⟩,by show (j - 1) / 2<j;omega,⟨_,(swapL_perm hi' (by omega)).trans hP,h2,?_⟩,?_⟩
   ·have:=oF_perm (o:=o) hP
    exact hf.trans (this▸hf2)
   ·simp only[wHl,wHf]
  ·skip
   all_goals refine ret_st ?_ (by first|exact Nat.le_refl _|(simp only[length_set,length_append];omega)|omega)
   all_goals simp only[resA.eq_1,resL.eq_1,resL.eq_2,resV.eq_1,resV.eq_2,↓wBA,tHb,convA,seval,wH]
   exact⟨fs',hP,h',hf⟩
theorem swapL_far {fs:List Nat}{i j n:Nat}(hi:i<n)(hj:j<n)(hn:n≤fs.length)(k:Nat)(hk:n≤k):(swapL fs i j)[k]? =fs[k]? :=by
 rw[swapL_get (by omega) (by omega),if_neg (by omega),if_neg (by omega)]
theorem adown {σ:St}{p o i0 n:Nat}{fs:List Nat}{V:Nat→FrameV}{c0 c1 c2 c4 c5:AV}(h:HpIn σ o fs V)(h0:σ[p]? =some (some (.row 6 [[c0,c1,c2,.ms o 1 0 fs.length,c4,c5]])))(hi:i0≤1000000)(hn:n≤fs.length):
 ACalls Tryz.prog 125 [.dyn 179 (.mp p 6 0 3),intV .i64 (i0:Nat),intV .i64 (n:Nat)] σ fun r σ'=>(∃ b,r=boolV b)∧∃ fs',fs'.Perm fs∧HpIn σ' o fs' V∧Fr σ σ' (oF o fs) (oF o fs)∧∀ k,n≤k→fs'[k]? =fs[k]? :=by
 have hp:=p_no h h0
 refine acalls_of cx_ok dr_ok Tryz.func125 (by kernel_rfl) rfl (nt:=45) (rs:=[.tmp 6]) rfl rfl ?_
 repeat' first|((with_reducible first|apply cs|apply ws)<;>intro h<;>try simp only[h])|simp only[↓wBA,tHb,convA,seval,wH]
 refine awp_loopS (X:={ i:Nat // i≤1000000 }) (fun i=>n - i.1) (fun i=>[(7,intV .i64 (i.1:Nat))]) [8,9,10,12,13,14,15,16,17,18,19,20,21,22,23,24,25,26,27,28,29,30,31,32,33,34,35,36,37,38,39,40,41,42,43,44] (fun i s=>∃ fs',fs'.Perm fs∧HpIn s o fs' V∧Fr σ s (oF o fs) (oF o fs)∧∀ k,n≤k→fs'[k]? =fs[k]?) (⟨i0,hi⟩) ?_ ?_ ?_ ?_
 ·simp only[wHl,wHf]
 ·exact⟨fs,.refl _,h,Fr.refl _ _,fun _ _=>rfl⟩
 ·rintro _ _ ⟨_,_,_,hf,_⟩;exact hf.len
 ·intro x J s hI
  simp only[wHl]
  obtain⟨i,hi⟩:=x
  obtain⟨fs',hP,h',hf,hk⟩:=hI
  have k0:=hf.get h0 hp
  have q0:=at_lt k0
  have hl:=hP.length_eq
  have hb:=h.big
  have hlen:=hf.len
  dsimp only
  rw[← hl]at k0
  have e1:IntKind.i64.wrap (2*(i:Int))=2*(i:Int):=wrap_i64 (by omega) (by omega)
  have e2:IntKind.i64.wrap (2*(i:Int)+1)=((2*i+1:Nat):Int):=by rw[wrap_i64 (by omega) (by omega)];simp
  have e3:IntKind.i64.wrap (((2*i+1:Nat):Int)+1)=((2*i+2:Nat):Int):=by rw[wrap_i64 (by omega) (by omega)];simp;omega
  by_cases hn1:2*i+1<n
  ·have e4:decide (((2*i+1:Nat):Int)≥(n:Int))=false:=by simp;omega
   have e5:decide (((2*i+1:Nat):Int)<0)=false:=by simp;omega
   have hj:∀ j,i<j→j<n→∀ s2,HpIn s2 o (swapL fs' i j) V→Fr s s2 (oF o fs') (oF o fs')→j≤1000000∧n - j<n - i∧∃ fs',fs'.Perm fs∧HpIn s2 o fs' V∧Fr σ s2 (oF o fs) (oF o fs)∧∀ k,n≤k→fs'[k]? =fs[k]? :=fun j h1 h2 s2 h3 h4=>by
    refine⟨by omega,by omega,_,(swapL_perm (by omega) (by omega)).trans hP,h3,hf.trans ((oF_perm (o:=o) hP)▸h4),fun k h5=> ?_⟩
    rw[swapL_far (n:=n) (by omega) (by omega) (by omega) k h5,hk k h5]
   by_cases hn2:2*i+2<n
   ·have e6:decide (((2*i+2:Nat):Int)<(n:Int))=true:=by simp;omega
    repeat' first|((with_reducible first|apply cs|apply ws)<;>intro h<;>try simp only[h])|simp only[↓wBA,tHb,convA,seval,wH,wHl,k0,q0,e1,e2,e3,e4,e5,e6]|((with_reducible show ACalls _ _ _ _ _);first|(refine (aless h' (by omega) (by omega)).mono ?_;rintro _ _ ⟨rfl,b,rfl⟩)|(refine (aswap h' (by omega) (by omega)).mono ?_;rintro _ s2 ⟨rfl,h2,hf2⟩))
    ·skip
     all_goals refine ret_st ?_ (by first|exact Nat.le_refl _|(simp only[length_set,length_append];omega)|omega)
     all_goals simp only[resA.eq_1,resL.eq_1,resL.eq_2,resV.eq_1,resV.eq_2,↓wBA,tHb,convA,seval,wH]
     exact⟨⟨_,rfl⟩,fs',hP,h',hf,hk⟩
    ·obtain⟨j1,j2,j3⟩:=hj _ (by omega) (by omega) s2 h2 hf2
     refine⟨⟨_,j1⟩,j2,j3,?_⟩
     simp only[wHl,wHf]
    ·skip
     all_goals refine ret_st ?_ (by first|exact Nat.le_refl _|(simp only[length_set,length_append];omega)|omega)
     all_goals simp only[resA.eq_1,resL.eq_1,resL.eq_2,resV.eq_1,resV.eq_2,↓wBA,tHb,convA,seval,wH]
     exact⟨⟨_,rfl⟩,fs',hP,h',hf,hk⟩
    ·obtain⟨j1,j2,j3⟩:=hj _ (by omega) (by omega) s2 h2 hf2
     refine⟨⟨_,j1⟩,j2,j3,?_⟩
     simp only[wHl,wHf]
   ·have e6:decide (((2*i+2:Nat):Int)<(n:Int))=false:=by simp;omega
    repeat' first|((with_reducible first|apply cs|apply ws)<;>intro h<;>try simp only[h])|simp only[↓wBA,tHb,convA,seval,wH,wHl,k0,q0,e1,e2,e3,e4,e5,e6]|((with_reducible show ACalls _ _ _ _ _);first|(refine (aless h' (by omega) (by omega)).mono ?_;rintro _ _ ⟨rfl,b,rfl⟩)|(refine (aswap h' (by omega) (by omega)).mono ?_;rintro _ s2 ⟨rfl,h2,hf2⟩))
    ·skip
     all_goals refine ret_st ?_ (by first|exact Nat.le_refl _|(simp only[length_set,length_append];omega)|omega)
     all_goals simp only[resA.eq_1,resL.eq_1,resL.eq_2,resV.eq_1,resV.eq_2,↓wBA,tHb,convA,seval,wH]
     exact⟨⟨_,rfl⟩,fs',hP,h',hf,hk⟩
    ·obtain⟨j1,j2,j3⟩:=hj _ (by omega) (by omega) s2 h2 hf2
     refine⟨⟨_,j1⟩,j2,j3,?_⟩
     simp only[wHl,wHf]
  ·have e4:decide (((2*i+1:Nat):Int)≥(n:Int))=true:=by simp;omega
   repeat' first|((with_reducible first|apply cs|apply ws)<;>intro h<;>try simp only[h])|simp only[↓wBA,tHb,convA,seval,wH,wHl,k0,q0,e1,e2,e3,e4]
   all_goals refine ret_st ?_ (by first|exact Nat.le_refl _|(simp only[length_set,length_append];omega)|omega)
   all_goals simp only[resA.eq_1,resL.eq_1,resL.eq_2,resV.eq_1,resV.eq_2,↓wBA,tHb,convA,seval,wH]
   exact⟨⟨_,rfl⟩,fs',hP,h',hf,hk⟩
def pl151_0Hc:Plan:=(.det 0 (.det 2 (.det 3 (.det 4 (.det 5 (.act 1 (.det 6 (.det 7 (.fin 8 .done)))))))))
def pl151_1Hc:Plan:=(.det 0 (.det 1 (.det 2 (.det 3 (.det 4 (.act 5 (.act 6 (.fin 7 (.det 8 (.fin 9 .done))))))))))
def tHc:=aa wX <| aa wbu <| aa T3 <| aa T4 <| aa T84 <| aa T139 T143
theorem alenM {σ:St}{o n:Nat}:ACalls Tryz.prog 147 [.ms o 1 0 n] σ fun r σ'=>σ'=σ∧r=intV .i64 (n:Nat):=by
 refine acalls_of cx_ok dr_ok Tryz.func147 (by kernel_rfl) rfl (nt:=4) (rs:=[.tmp 2]) rfl rfl ?_
 repeat' first|((with_reducible first|apply cs|apply ws)<;>intro h<;>try simp only[h])|simp only[↓wBA,tHc,convA,seval,wH]
 all_goals refine ret_st ?_ (by first|exact Nat.le_refl _|(simp only[length_set,length_append];omega)|omega)
 all_goals simp only[resA.eq_1,resL.eq_1,resL.eq_2,resV.eq_1,resV.eq_2,↓wBA,tHc,convA,seval,wH]
theorem afix {σ:St}{p o i:Nat}{fs:List Nat}{V:Nat→FrameV}{c0 c1 c2 c4 c5:AV}(h:HpIn σ o fs V)(h0:σ[p]? =some (some (.row 6 [[c0,c1,c2,.ms o 1 0 fs.length,c4,c5]])))(hi:i<fs.length):
 ACalls Tryz.prog 124 [.dyn 179 (.mp p 6 0 3),intV .i64 (i:Nat)] σ fun r σ'=>r= .tup []∧∃ fs',fs'.Perm fs∧HpIn σ' o fs' V∧Fr σ σ' (oF o fs) (oF o fs):=by
 have l0:=at_lt h0
 have hb:=h.big
 have hp:=p_no h h0
 refine acalls_of cx_ok dr_ok Tryz.func124 (by kernel_rfl) rfl (nt:=11) (rs:=[]) rfl rfl ?_
 repeat' first|((with_reducible first|apply cs|apply ws)<;>intro h<;>try simp only[h])|simp only[↓wBA,tHc,convA,seval,wH,h0,l0]|((with_reducible show ACalls _ _ _ _ _);first|refine alenM.eq ?_|(refine (adown h h0 (by omega) (Nat.le_refl _)).mono ?_;rintro _ s ⟨⟨b,rfl⟩,fs',hP,h',hf,hk⟩))
 ·have k0:=hf.get h0 hp
  have q0:=at_lt k0
  have hl:=hP.length_eq
  rw[← hl]at k0
  repeat' first|((with_reducible first|apply cs|apply ws)<;>intro h<;>try simp only[h])|simp only[↓wBA,tHc,convA,seval,wH,k0,q0]|((with_reducible show ACalls _ _ _ _ _);refine (aup h' k0 (by omega)).mono ?_;rintro _ s2 ⟨rfl,fs2,hP2,h2,hf2⟩)
  have hlen:=(hf.trans (oF_perm (o:=o) hP▸hf2)).len
  all_goals refine ret_st ?_ (by first|exact Nat.le_refl _|(simp only[length_set,length_append];omega)|omega)
  all_goals simp only[resA.eq_1,resL.eq_1,resL.eq_2,resV.eq_1,resV.eq_2,↓wBA,tHc,convA,seval,wH]
  exact⟨fs2,hP2.trans hP,h2,hf.trans (oF_perm (o:=o) hP▸hf2)⟩
 ·have hlen:=hf.len
  all_goals refine ret_st ?_ (by first|exact Nat.le_refl _|(simp only[length_set,length_append];omega)|omega)
  all_goals simp only[resA.eq_1,resL.eq_1,resL.eq_2,resV.eq_1,resV.eq_2,↓wBA,tHc,convA,seval,wH]
  exact⟨fs',hP,h',hf⟩
theorem apopM {σ:St}{p o f:Nat}{fs:List Nat}{V:Nat→FrameV}{c0 c1 c2 c4 c5:AV}(h:HpIn σ o (fs++[f]) V)(h0:σ[p]? =some (some (.row 6 [[c0,c1,c2,.ms o 1 0 (fs.length+1),c4,c5]]))):
 ACalls Tryz.prog 150 [.mp p 6 0 3] σ fun r σ'=>r= .dyn 139 (.mp f 516 0 0)∧σ'=σ.set p (some (.row 6 [[c0,c1,c2,.ms o 1 0 fs.length,c4,c5]])):=by
 have l0:=at_lt h0
 obtain⟨ls,h1,h2,h3⟩:=h.o
 have k1:=ord_get h2 (i:=fs.length) (f:=f) (by simp)
 have l1:=at_lt h1
 have hb:=h.big
 simp only[length_append,length_cons,length_nil]at h3 hb
 have e1:IntKind.i64.wrap (((fs.length+1:Nat):Int) - 1)=(fs.length:Int):=by rw[wrap_i64 (by omega) (by omega)];omega
 have d1:((fs.length:Int)<((fs.length+1:Nat):Int))=True:=eq_true (by omega)
 have d2:((fs.length:Int)≤((fs.length+1:Nat):Int))=True:=eq_true (by omega)
 have i1:=nnI fs.length
 refine acalls_of cx_ok dr_ok Tryz.func150 (by kernel_rfl) rfl (nt:=22) (rs:=[.tmp 2]) rfl rfl ?_
 repeat' first|((with_reducible first|apply cs|apply ws)<;>intro h<;>try simp only[h])|simp only[↓wBA,tHc,convA,seval,wH,h0,l0,h1,l1,k1,e1,d1,d2,i1,sliceA,elemsA,boundA]
 all_goals refine ret_st ?_ (by first|exact Nat.le_refl _|(simp only[length_set,length_append];omega)|omega)
 all_goals simp only[resA.eq_1,resL.eq_1,resL.eq_2,resV.eq_1,resV.eq_2,↓wBA,tHc,convA,seval,wH]
theorem HpIn.same {σ s:St}{o:Nat}{fs:List Nat}{V:Nat→FrameV}(h:HpIn σ o fs V)(hs:∀ t,oF o fs t→s[t]? =σ[t]?):HpIn s o fs V:=
 ⟨by rw[hs o (.inl rfl)];exact h.o,fun i f hi=>by rw[hs f (.inr (mem_of_getElem? hi))];exact h.f i f hi,h.nd,h.pg,h.big⟩
theorem HpIn.front {σ:St}{o f:Nat}{fs:List Nat}{V:Nat→FrameV}(h:HpIn σ o (fs++[f]) V):HpIn σ o fs V:=by
 obtain⟨ls,h1,h2,h3⟩:=h.o
 simp only[length_append,length_cons,length_nil]at h2 h3
 refine⟨⟨ls,h1,?_,by omega⟩,fun i g hi=>h.f i g (by rw[List.getElem?_append_left (List.getElem?_eq_some_iff.1 hi).1];exact hi),(List.nodup_append.1 h.nd).1,fun g hg=>h.pg g (by simp[hg]),by have:=h.big;simp at this;omega⟩
 have:=congrArg (List.take fs.length) h2
 rw[List.take_take,Nat.min_eq_left (by omega)]at this
 rw[this]
 simp[ordRow]
theorem last_of {fs:List Nat}{n f:Nat}(hl:fs.length=n+1)(h:fs[n]? =some f):fs=fs.dropLast++[f]:=by
 have hne:fs≠[]:=fun e=>by simp[e]at hl
 have:=List.dropLast_concat_getLast hne
 rw[List.getLast_eq_getElem]at this
 have hg:fs[fs.length - 1]=f:=by
  have:=List.getElem?_eq_some_iff.1 h
  obtain⟨hn,e⟩:=this
  simp only[hl,Nat.add_sub_cancel,e]
 rw[hg]at this
 exact this.symm
theorem apop {σ:St}{p o f0:Nat}{fs:List Nat}{V:Nat→FrameV}{c0 c1 c2 c4 c5:AV}(h:HpIn σ o fs V)(h0:σ[p]? =some (some (.row 6 [[c0,c1,c2,.ms o 1 0 fs.length,c4,c5]])))(hf0:fs[0]? =some f0):
 ACalls Tryz.prog 104 [.dyn 179 (.mp p 6 0 3)] σ fun r σ'=>r= .dyn 139 (.mp f0 516 0 0)∧(∃ i,σ'[f0]? =some (frOb (V f0) i))∧∃ fs',(f0::fs').Perm fs∧HpIn σ' o fs' V∧σ'[p]? =some (some (.row 6 [[c0,c1,c2,.ms o 1 0 fs'.length,c4,c5]]))∧Fr σ σ' (fun t=>t=p∨oF o fs t) (fun t=>t=p∨oF o fs t):=by
 have l0:=at_lt h0
 have hb:=h.big
 have hp:=p_no h h0
 have hl:=(List.getElem?_eq_some_iff.1 hf0).1
 obtain⟨n,hn⟩:∃ n,fs.length=n+1:=⟨fs.length - 1,by omega⟩
 have e1:IntKind.i64.wrap ((fs.length:Int) - 1)=(n:Int):=by rw[wrap_i64 (by omega) (by omega)];omega
 have hs:=aswap h (i:=0) (j:=n) hl (by omega)
 simp only[cz]at hs
 refine acalls_of cx_ok dr_ok Tryz.func104 (by kernel_rfl) rfl (nt:=14) (rs:=[.tmp 2]) rfl rfl ?_
 repeat' first|((with_reducible first|apply cs|apply ws)<;>intro h<;>try simp only[h])|simp only[↓wBA,tHc,convA,seval,wH,h0,l0,e1,cz]|((with_reducible show ACalls _ _ _ _ _);first|refine alenM.eq ?_|(refine hs.mono ?_;rintro _ s ⟨rfl,h1,hf1⟩))
 have k0:=hf1.get h0 hp
 have q0:=at_lt k0
 rw[← swapL_len fs 0 n]at k0
 have hd:=adown h1 k0 (i0:=0) (n:=n) (by omega) (by rw[swapL_len];omega)
 simp only[cz]at hd
 repeat' first|((with_reducible first|apply cs|apply ws)<;>intro h<;>try simp only[h])|simp only[↓wBA,tHc,convA,seval,wH,k0,q0,cz]|((with_reducible show ACalls _ _ _ _ _);refine hd.mono ?_;rintro _ s2 ⟨⟨b,rfl⟩,fs2,hP2,h2,hf2,hk⟩)
 have hP1:=swapL_perm (fs:=fs) (i:=0) (j:=n) hl (by omega)
 have j0:=hf2.get k0 (by rw[oF_perm hP1];exact hp)
 have p0:=at_lt j0
 have hl2:fs2.length=n+1:=by rw[hP2.length_eq,swapL_len,hn]
 have hlast:=hk n (Nat.le_refl _)
 rw[swapL_get hl (by omega),if_pos rfl,hf0]at hlast
 have he:=last_of hl2 hlast
 rw[swapL_len,hn]at j0
 have hl3:fs2.dropLast.length=n:=by simp[hl2]
 rw[he]at h2
 have hpp:=apopM (p:=p) (c0:=c0) (c1:=c1) (c2:=c2) (c4:=c4) (c5:=c5) h2 (by rw[hl3];exact j0)
 rw[hl3]at hpp
 have hff:Fr σ s2 (oF o fs) (oF o fs):=by
  have:=hf2
  rw[oF_perm hP1]at this
  exact Fr.trans hf1 this
 have hlen:=hff.len
 repeat' first|((with_reducible first|apply cs|apply ws)<;>intro h<;>try simp only[h])|simp only[↓wBA,tHc,convA,seval,wH,j0,p0]|((with_reducible show ACalls _ _ _ _ _);refine hpp.mono ?_;rintro _ _ ⟨rfl,rfl⟩)
 all_goals refine ret_st ?_ (by first|exact Nat.le_refl _|(simp only[length_set,length_append];omega)|omega)
 all_goals simp only[resA.eq_1,resL.eq_1,resL.eq_2,resV.eq_1,resV.eq_2,↓wBA,tHc,convA,seval,wH,p0]
 have hpn:=p_no h2 j0
 have hfl:=h2.f n f0 (by rw[List.getElem?_append_right (by omega),hl3];simp)
 refine⟨⟨n,(getElem?_set_ne fun e=>hpn (by subst e;exact .inr (by simp))).trans hfl⟩,fs2.dropLast,?_,h2.front.same fun t ht=> ?_,?_,?_⟩
 ·have h5:(fs2.dropLast++[f0]).Perm (f0::fs2.dropLast):=List.perm_append_comm
  exact h5.symm.trans (he▸(hP2.trans hP1))
 ·exact getElem?_set_ne fun e=>hpn (by subst e;exact ht.imp id (fun h=>by simp[h]))
 ·simp only[hl3]
 ·exact Fr.set (F:=fun t=>t=p∨oF o fs t) (F':=fun t=>t=p∨oF o fs t) ⟨hff.len,fun t ht hn=>hff.keep t ht fun h=>hn (.inr h),fun t ht=>.inl ht⟩ _ (.inl rfl)
theorem HpIn.push {s:St}{o' f:Nat}{fs:List Nat}{V:Nat→FrameV}(hnd:(fs++[f]).Nodup)(hb:fs.length+1≤1000000)(ho:s[o']? =some (some (.row 1 (ordRow (fs++[f])))))(hfs:∀ (i g:Nat),fs[i]? =some g→s[g]? =some (frOb (V g) i))(hf:s[f]? =some (frOb (V f) fs.length))(hpg:∀ g∈fs++[f],(V g).pg.length=512):
 HpIn s o' (fs++[f]) V:=by
 refine⟨⟨_,ho,List.take_of_length_le (by simp[ordRow]),by simp[ordRow]⟩,fun i g hi=> ?_,hnd,hpg,by simp;omega⟩
 by_cases h:i<fs.length
 ·rw[List.getElem?_append_left h]at hi
  exact hfs i g hi
 ·have hl:=(List.getElem?_eq_some_iff.1 hi).1
  simp at hl
  have:i=fs.length:=by omega
  subst this
  simp at hi
  subst hi
  exact hf
inductive Ord (σ:St)(V:Nat→FrameV):AV→Option Nat→List Nat→Prop
 |nil:Ord σ V (.p (.v (.slice none 0 0))) none []
 |hp {o fs}:HpIn σ o fs V→Ord σ V (.ms o 1 0 fs.length) (some o) fs
def oG (w:Option Nat)(fs:List Nat)(t:Nat):Prop:=w=some t∨t∈fs
theorem apushM {σ:St}{p f:Nat}{w:Option Nat}{fs:List Nat}{V:Nat→FrameV}{a c0 c1 c2 c4 c5:AV}{i0:Nat}(h:Ord σ V a w fs)(h0:σ[p]? =some (some (.row 6 [[c0,c1,c2,a,c4,c5]])))(hf:σ[f]? =some (frOb (V f) i0))(hfn:f∉fs)(hpf:(V f).pg.length=512)(hb:fs.length+1≤1000000):
 ACalls Tryz.prog 151 [.mp p 6 0 3,.dyn 139 (.mp f 516 0 0)] σ fun r σ'=>r= .tup []∧∃ o',HpIn σ' o' (fs++[f]) V∧σ'[p]? =some (some (.row 6 [[c0,c1,c2,.ms o' 1 0 (fs.length+1),c4,c5]]))∧(w=some o'∨σ.length≤o')∧Fr σ σ' (fun t=>t=p∨t=f∨oG w fs t) (fun t=>t=p∨t=f∨oG (some o') fs t):=by
 have l0:=at_lt h0
 have lf:=at_lt hf
 have n0:(p=f)=False:=nf (ne_of_ob h0 hf (by simp[frOb]))
 have n1:(f=p)=False:=nf (ne_of_ob hf h0 (by simp[frOb]))
 simp only[frOb]at hf
 cases h with
 |nil=>
  have hl4:=lM (n:=1) (by omega)
  refine acalls_of cx_ok dr_ok Tryz.func151 (by kernel_rfl) rfl (nt:=19) (rs:=[]) rfl rfl ?_
  repeat' first|((with_reducible first|apply cs|apply ws|apply wd|apply wu)<;>intro h<;>try simp only[h])|simp only[↓wBA,tHc,convA,seval,pl151_0Hc,pl151_1Hc,wH,wFr,h0,l0,hf,lf,n0,n1,hpf,cz,appendA,srcA,appendM,srcM,sliceA,elemsA,boundA,hl4]|(with_reducible first|refine dQ pl151_0Hc 9 (some 4) ?_|refine dQ pl151_1Hc 10 (some 12) ?_)
  all_goals refine ret_st ?_ (by first|exact Nat.le_refl _|(simp only[length_set,length_append];omega)|omega)
  all_goals simp only[resA.eq_1,resL.eq_1,resL.eq_2,resV.eq_1,resV.eq_2,↓wBA,tHc,convA,seval,wH]
  refine⟨_,HpIn.push (fs:=[]) (V:=V) (f:=f) (by simp) hb ?_ (by simp) ?_ (by simpa using hpf),?_,.inr (Nat.le_succ _),?_⟩
  ·simp only[wH,l0,lf,n0,n1,length_cons,length_nil,Nat.zero_add,Nat.reduceAdd];rfl
  ·simp only[wH,l0,lf,n0,n1,length_cons,length_nil,Nat.zero_add,Nat.reduceAdd];rfl
  ·simp only[wH,l0,lf,n0,n1,length_cons,length_nil,Nat.zero_add,Nat.reduceAdd]
  ·refine ((((Fr.refl σ _).set _ (.inr (.inl rfl))).set _ (.inl rfl)).app _).app _ |>.to fun t ht=> ?_
   rcases ht with rfl|rfl|ht|ht
   ·exact .inl (.inl rfl)
   ·exact .inl (.inr (.inl rfl))
   ·simp at ht;omega
   ·simp at ht
 |hp h=>
  obtain⟨ls,h1,h2,h3⟩:=h.o
  rename_i o
  have l1:=at_lt h1
  have n2:(o=f)=False:=nf (ne_of_ob h1 hf (by simp))
  have n3:(f=o)=False:=nf (ne_of_ob hf h1 (by simp))
  have n4:(o=p)=False:=nf (ne_of_ob h1 h0 (by simp))
  have n5:(p=o)=False:=nf (ne_of_ob h0 h1 (by simp))
  have hl1:=tL (n:=(fs.length+1)*8) (by omega)
  have hl2:=lM (n:=fs.length+1) (by omega)
  have hl3:=eq_true h3
  refine acalls_of cx_ok dr_ok Tryz.func151 (by kernel_rfl) rfl (nt:=19) (rs:=[]) rfl rfl ?_
  repeat' first|((with_reducible first|apply cs|apply ws|apply wd|apply wu)<;>intro h<;>try simp only[h])|simp only[↓wBA,tHc,convA,seval,pl151_0Hc,pl151_1Hc,wH,wFr,h0,l0,hf,lf,n0,n1,n2,n3,n4,n5,hpf,h1,l1,h2,cz,appendA,srcA,appendM,srcM,sliceA,elemsA,boundA,hl1,hl2,hl3]|(with_reducible first|refine dQ pl151_0Hc 9 (some 4) ?_|refine dQ pl151_1Hc 10 (some 12) ?_)
  all_goals refine ret_st ?_ (by first|exact Nat.le_refl _|(simp only[length_set,length_append];omega)|omega)
  all_goals simp only[resA.eq_1,resL.eq_1,resL.eq_2,resV.eq_1,resV.eq_2,↓wBA,tHc,convA,seval,wH]
  refine⟨_,HpIn.push (fs:=fs) (V:=V) (f:=f) (List.nodup_append.2 ⟨h.nd,by simp,fun a ha b hb e=>by simp at hb;subst hb;subst e;exact hfn ha⟩) hb ?_ (fun i g hi=> ?_) ?_ (fun g hg=> ?_),?_,.inr (Nat.le_succ _),?_⟩
  ·simp only[wH,l0,lf,n0,n1,length_cons,length_nil,Nat.zero_add,Nat.reduceAdd,ordRow,List.map_append,List.map_cons,List.map_nil]
  ·have hg:=h.f i g hi
   have m1:(f=g)=False:=nf fun e=>hfn (e▸mem_of_getElem? hi)
   have m2:(o=g)=False:=nf (ne_of_ob h1 hg (by simp[frOb]))
   have m3:(p=g)=False:=nf (ne_of_ob h0 hg (by simp[frOb]))
   simp only[wH,l0,lf,l1,m1,m2,m3,hg,at_lt hg]
  ·simp only[wH,l0,lf,n0,n1,n2,n3,n4,n5,l1,length_cons,length_nil,Nat.zero_add,Nat.reduceAdd];rfl
  ·rcases mem_append.1 hg with hg|hg
   ·exact h.pg g hg
   ·simp at hg;subst hg;exact hpf
  ·simp only[wH,l0,lf,n0,n1,n2,n3,n4,n5,l1,length_cons,length_nil,Nat.zero_add,Nat.reduceAdd]
  ·refine (((((Fr.refl σ _).set _ (.inr (.inl rfl))).set _ (.inr (.inr (.inl rfl)))).set _ (.inl rfl)).app _).app _ |>.to fun t ht=> ?_
   rcases ht with rfl|rfl|ht|ht
   ·exact .inl (.inl rfl)
   ·exact .inl (.inr (.inl rfl))
   ·simp at ht;omega
   ·exact .inl (.inr (.inr (.inr ht)))
theorem apush {σ:St}{p f:Nat}{w:Option Nat}{fs:List Nat}{V:Nat→FrameV}{a c0 c1 c2 c4 c5:AV}{i0:Nat}(h:Ord σ V a w fs)(h0:σ[p]? =some (some (.row 6 [[c0,c1,c2,a,c4,c5]])))(hf:σ[f]? =some (frOb (V f) i0))(hfn:f∉fs)(hpf:(V f).pg.length=512)(hb:fs.length+1≤1000000):
 ACalls Tryz.prog 105 [.dyn 179 (.mp p 6 0 3),.dyn 139 (.mp f 516 0 0)] σ fun r σ'=>r= .tup []∧∃ o' fs',fs'.Perm (fs++[f])∧HpIn σ' o' fs' V∧σ'[p]? =some (some (.row 6 [[c0,c1,c2,.ms o' 1 0 fs'.length,c4,c5]]))∧Fr σ σ' (fun t=>t=p∨t=f∨oG w fs t) (fun t=>t=p∨oF o' fs' t):=by
 have l0:=at_lt h0
 refine acalls_of cx_ok dr_ok Tryz.func105 (by kernel_rfl) rfl (nt:=10) (rs:=[]) rfl rfl ?_
 repeat' first|((with_reducible first|apply cs|apply ws)<;>intro h<;>try simp only[h])|simp only[↓wBA,tHc,convA,seval,wH,h0,l0]|((with_reducible show ACalls _ _ _ _ _);refine (apushM h h0 hf hfn hpf hb).mono ?_;rintro _ s ⟨rfl,o',h1,k0,ho,hf1⟩)
 have q0:=at_lt k0
 have e1:IntKind.i64.wrap (((fs.length+1:Nat):Int) - 1)=(fs.length:Int):=by rw[wrap_i64 (by omega) (by omega)];omega
 have hl:(fs++[f]).length=fs.length+1:=by simp
 have hu:=aup h1 (hl▸k0) (j:=fs.length) (by simp)
 repeat' first|((with_reducible first|apply cs|apply ws)<;>intro h<;>try simp only[h])|simp only[↓wBA,tHc,convA,seval,wH,k0,q0,e1]|((with_reducible show ACalls _ _ _ _ _);first|refine alenM.eq ?_|(refine hu.mono ?_;rintro _ s2 ⟨rfl,fs2,hP,h2,hf2⟩))
 have hF:Fr σ s2 (fun t=>t=p∨t=f∨oG w fs t) (fun t=>t=p∨oF o' fs2 t):=by
  refine⟨Nat.le_trans hf1.len hf2.len,fun t ht hn=> ?_,fun t ht=> ?_⟩
  ·rw[hf2.keep t (Nat.lt_of_lt_of_le ht hf1.len) ?_,hf1.keep t ht hn]
   rintro (rfl|h5)
   ·rcases ho with rfl|ho
    ·exact hn (.inr (.inr (.inl rfl)))
    ·omega
   ·rcases mem_append.1 h5 with h5|h5
    ·exact hn (.inr (.inr (.inr h5)))
    ·simp at h5;exact hn (.inr (.inl h5))
  ·rcases ht with rfl|rfl|h5
   ·exact .inl (.inl rfl)
   ·exact ho.imp (fun h=>.inr (.inr (.inl h))) id
   ·rcases mem_append.1 (hP.mem_iff.1 h5)with h5|h5
    ·exact .inl (.inr (.inr (.inr h5)))
    ·simp at h5;exact .inl (.inr (.inl h5))
 have hlen:=hF.len
 have j0:=hf2.get (hl▸k0) (p_no h1 (hl▸k0))
 all_goals refine ret_st ?_ (by first|exact Nat.le_refl _|(simp only[length_set,length_append];omega)|omega)
 all_goals simp only[resA.eq_1,resL.eq_1,resL.eq_2,resV.eq_1,resV.eq_2,↓wBA,tHc,convA,seval,wH]
 exact⟨o',fs2,hP,h2,hP.length_eq▸j0,hF⟩
end Go.Proofs.YthhbnenaihkggaaGreat
