/- Frames and their heap: what they are in a state. Frames: the heap's methods. Frames: the heap goes up and down. Frames: the heap's Fix, Pop, Push. -/
import Derived.Test.YtpoigihfeehehaaGreatDoorM23
set_option linter.all false
set_option maxRecDepth 100000
set_option maxHeartbeats 32000000
namespace Go.Proofs.YtpoigihfeehehaaGreatDoor
open Go.RowKit
open List (getElem?_eq_getElem getElem?_set getElem?_set_ne length_cons length_nil mem_append mem_of_getElem?)
structure Cb where
 n:Nat
 pg:List UInt8
 dirty:Bool
 used:Int
def Gf (v:Cb)(i:Nat):Option Ob:=some (.row 516 [frR v.n v.pg v.dirty v.used i])
def Fq (fs:List Nat):List (List AV):=fs.map fun f=>[.mp f 516 0 0]
structure Hh (σ:St)(o:Nat)(fs:List Nat)(V:Nat→Cb):Prop where
 o:∃ ls,σ[o]? =some (some (.row 1 ls))∧ls.take fs.length=Fq fs∧fs.length≤ls.length
 f:∀ (i f:Nat),fs[i]? =some f→σ[f]? =some (Gf (V f) i)
 nd:fs.Nodup
 pg:∀ f∈fs,(V f).pg.length=512
 big:fs.length≤1000000
theorem Aer (fs:List Nat):(Fq fs).length=fs.length:=by simp[Fq]
theorem Jg {fs:List Nat}{ls:List (List AV)}(h:ls.take fs.length=Fq fs){i f:Nat}(hi:fs[i]? =some f):ls[i]? =some [.mp f 516 0 0]:=by
 have hl:=(List.getElem?_eq_some_iff.1 hi).1
 have:(ls.take fs.length)[i]? =some [.mp f 516 0 0]:=by rw[h];simp[Fq,hi]
 rwa [List.getElem?_take,if_pos hl]at this
def Me (fs:List Nat)(i j:Nat):List Nat:=(fs.set i (fs.getD j 0)).set j (fs.getD i 0)
theorem E8 (fs:List Nat)(i j:Nat):(Me fs i j).length=fs.length:=by simp[Me]
theorem Hx {fs:List Nat}{i j:Nat}(hi:i<fs.length)(hj:j<fs.length)(k:Nat):(Me fs i j)[k]? =if k=j then fs[i]? else if k=i then fs[j]? else fs[k]? :=by
 unfold Me
 rw[getElem?_set,getElem?_set]
 simp only[List.length_set,List.getD_eq_getElem?_getD]
 by_cases h1:k=j
 ·subst h1;simp[hi,hj]
 ·have h1':¬ j=k:=fun e=>h1 e.symm
  by_cases h2:k=i
  ·subst h2;simp[hi,hj,h1,h1']
  ·have h2':¬ i=k:=fun e=>h2 e.symm
   simp[h1,h1',h2,h2']
theorem Gg {fs:List Nat}{i j:Nat}(hi:i<fs.length)(hj:j<fs.length):(Me fs i j).Perm fs:=by
 have e1:fs.getD j 0=fs[j]:=by simp[hj]
 have e2:fs.getD i 0=fs[i]:=by simp[hi]
 unfold Me
 rw[e1,e2]
 exact List.set_set_perm (by simpa using hi) hj
theorem Zy {fs:List Nat}{ls:List (List AV)}{i j fi fj:Nat}(h:ls.take fs.length=Fq fs)(hi:fs[i]? =some fi)(hj:fs[j]? =some fj):
 ((ls.set i [.mp fj 516 0 0]).set j [.mp fi 516 0 0]).take (Me fs i j).length=Fq (Me fs i j):=by
 have li:=(List.getElem?_eq_some_iff.1 hi).1
 have lj:=(List.getElem?_eq_some_iff.1 hj).1
 rw[E8]
 apply List.ext_getElem?
 intro k
 rw[List.getElem?_take,Fq,List.getElem?_map,Hx li lj]
 have hk:∀ f,fs[k]? =some f→ls[k]? =some [.mp f 516 0 0]:=fun f hf=>Jg h hf
 have hll:fs.length≤ls.length:=by
  have:=congrArg List.length h
  rw[Aer,List.length_take]at this
  omega
 split
 ·rename_i hlt
  rw[getElem?_set,getElem?_set]
  have hkl:k<ls.length:=by omega
  by_cases h1:k=j
  ·subst h1;simp[hi,hkl]
  ·have h1':¬ j=k:=fun e=>h1 e.symm
   by_cases h2:k=i
   ·subst h2;simp[hj,hkl,h1,h1']
   ·have h2':¬ i=k:=fun e=>h2 e.symm
    rw[if_neg h1',if_neg h2',if_neg h1,if_neg h2,hk _ (getElem?_eq_getElem hlt),getElem?_eq_getElem hlt]
    rfl
 ·rename_i hge
  rw[if_neg (by omega),if_neg (by omega),List.getElem?_eq_none (by omega)]
  rfl
theorem Aes {fs:List Nat}{i:Nat}(hi:i<fs.length):Me fs i i=fs:=by
 apply List.ext_getElem?
 intro k
 rw[Hx hi hi]
 by_cases hk:k=i
 ·subst hk;simp
 ·simp[hk]
theorem Hh.swap {σ s:St}{o i j fi fj:Nat}{fs:List Nat}{V:Nat→Cb}{ls:List (List AV)}(h:Hh σ o fs V)(h2:ls.take fs.length=Fq fs)(h3:fs.length≤ls.length)(gi:fs[i]? =some fi)(gj:fs[j]? =some fj)(hij:i≠j)
 (so:s[o]? =some (some (.row 1 ((ls.set i [.mp fj 516 0 0]).set j [.mp fi 516 0 0])))) (si:s[fi]? =some (Gf (V fi) j)) (sj:s[fj]? =some (Gf (V fj) i)) (sk:∀ t,t≠o→t≠fi→t≠fj→s[t]? =σ[t]?):
 Hh s o (Me fs i j) V:=by
 have li:=(List.getElem?_eq_some_iff.1 gi).1
 have lj:=(List.getElem?_eq_some_iff.1 gj).1
 obtain⟨ls',ho,_,_⟩:=h.o
 refine⟨⟨_,so,Zy h2 gi gj,by rw[E8];simpa using h3⟩,fun k f hk=> ?_,(Gg li lj).nodup_iff.2 h.nd,fun f hf=>h.pg f ((Gg li lj).mem_iff.1 hf),by rw[E8];exact h.big⟩
 rw[Hx li lj]at hk
 split at hk
 ·rename_i e;subst e
  rw[gi]at hk;cases hk;exact si
 ·split at hk
  ·rename_i e;subst e
   rw[gj]at hk;cases hk;exact sj
  ·rename_i h4 h5
   have hf:=h.f k f hk
   rw[sk f (A0 hf ho (by simp[Gf])) (fun e=> ?_) (fun e=> ?_)]
   ·exact hf
   ·subst e
    exact h5 ((List.getElem?_inj (List.getElem?_eq_some_iff.1 hk).1 h.nd).1 (hk.trans gi.symm))
   ·subst e
    exact h4 ((List.getElem?_inj (List.getElem?_eq_some_iff.1 hk).1 h.nd).1 (hk.trans gj.symm))
def Xh:Cv:=(.det 0 (.det 1 (.det 2 (.det 3 (.det 4 (.det 5 (.det 6 (.det 7 (.det 8 (.det 9 (.det 10 (.det 11 (.det 12 (.det 13 (.det 14 (.det 15 .done))))))))))))))))
def Kz:Cv:=(.det 0 (.det 1 (.det 2 (.det 3 (.det 4 (.det 5 (.det 6 (.det 7 (.det 8 (.det 9 (.det 10 (.det 11 (.det 12 (.fin 13 (.det 14 (.fin 15 .done))))))))))))))))
def K0:Cv:=(.det 0 (.det 1 (.det 2 (.det 3 (.det 4 (.det 5 (.det 6 (.det 7 (.det 8 (.det 9 (.det 10 (.det 11 (.fin 12 (.det 13 (.det 14 (.fin 15 .done))))))))))))))))
def tHa:=aa wX <| aa wbu <| aa T3 <| aa T86 <| aa T154 T158
theorem Aps {σ:St}{o i j:Nat}{fs:List Nat}{V:Nat→Cb}(h:Hh σ o fs V)(hi:i<fs.length)(hj:j<fs.length):
 Aa Tryz.prog 256 [.ms o 1 0 fs.length,Ad .i64 (i:Nat),Ad .i64 (j:Nat)] σ fun r σ'=>σ'=σ∧∃ b,r=Az b:=by
 obtain⟨ls,h1,h2,h3⟩:=h.o
 have l1:=Ac h1
 have gi:=getElem?_eq_getElem hi
 have gj:=getElem?_eq_getElem hj
 have k1:=Jg h2 gi
 have k2:=Jg h2 gj
 have f1:=h.f _ _ gi
 have f2:=h.f _ _ gj
 have p1:=h.pg _ (mem_of_getElem? gi)
 have p2:=h.pg _ (mem_of_getElem? gj)
 have b1:=dT (i:=i) (n:=fs.length) (by omega)
 have b2:=dT (i:=j) (n:=fs.length) (by omega)
 have d1:((i:Int)<(fs.length:Int))=True:=eq_true (by omega)
 have d2:((j:Int)<(fs.length:Int))=True:=eq_true (by omega)
 have i1:=nnI i
 have i2:=nnI j
 generalize fs[i]=fi at gi k1 f1 p1
 generalize fs[j]=fj at gj k2 f2 p2
 have q1:=Ac f1
 have q2:=Ac f2
 simp only[Gf]at f1 f2
 refine Ab Am Ao Tryz.func256 (by kernel_rfl) rfl (nt:=19) (rs:=[.tmp 6]) rfl rfl ?_
 repeat' first|simp only[↓wBA,tHa,seval,Xh,wFr,h1,k1,k2,f1,f2,p1,p2,d1,d2,i1,i2]|(with_reducible refine dQ Xh 16 (some 7) ?_)
 all_goals refine rtS ?_
 all_goals simp only[A1.eq_1,Ak.eq_1,Ak.eq_2,Ax.eq_1,tHa,seval]
 exact⟨_,rfl⟩
theorem Ah3 {α:Type}{ls:List α}{i:Nat}{x:α}(h:ls[i]? =some x):ls.set i x=ls:=by
 apply List.ext_getElem?
 intro k
 rw[getElem?_set]
 split
 ·rename_i e;subst e;rw[if_pos (List.getElem?_eq_some_iff.1 h).1,h]
 ·rfl
theorem Ak6 {σ:St}{o i j:Nat}{fs:List Nat}{V:Nat→Cb}(h:Hh σ o fs V)(hi:i<fs.length)(hj:j<fs.length):
 Aa Tryz.prog 257 [.ms o 1 0 fs.length,Ad .i64 (i:Nat),Ad .i64 (j:Nat)] σ fun r σ'=>r= .tup []∧Hh σ' o (Me fs i j) V∧Fr σ σ' (fun t=>t=o∨t∈fs) (fun t=>t=o∨t∈fs):=by
 obtain⟨ls,h1,h2,h3⟩:=h.o
 have l1:=Ac h1
 have gi:=getElem?_eq_getElem hi
 have gj:=getElem?_eq_getElem hj
 have k1:=Jg h2 gi
 have k2:=Jg h2 gj
 have f1:=h.f _ _ gi
 have f2:=h.f _ _ gj
 have p1:=h.pg _ (mem_of_getElem? gi)
 have p2:=h.pg _ (mem_of_getElem? gj)
 have b1:=dT (i:=i) (n:=fs.length) (by omega)
 have b2:=dT (i:=j) (n:=fs.length) (by omega)
 have d1:((i:Int)<(fs.length:Int))=True:=eq_true (by omega)
 have d2:((j:Int)<(fs.length:Int))=True:=eq_true (by omega)
 have i1:=nnI i
 have i2:=nnI j
 generalize fs[i]=fi at gi k1 f1 p1
 generalize fs[j]=fj at gj k2 f2 p2
 have q1:=Ac f1
 have q2:=Ac f2
 have n1:(o=fi)=False:=nf (A0 h1 f1 (by simp[Gf]))
 have n2:(fi=o)=False:=nf (A0 f1 h1 (by simp[Gf]))
 have n3:(o=fj)=False:=nf (A0 h1 f2 (by simp[Gf]))
 have n4:(fj=o)=False:=nf (A0 f2 h1 (by simp[Gf]))
 simp only[Gf]at f1 f2
 by_cases hij:i=j
 ·subst hij
  rw[gi]at gj
  cases gj
  have e0:ls.set i [.mp fi 516 0 0]=ls:=Ah3 k1
  refine Ab Am Ao Tryz.func257 (by kernel_rfl) rfl (nt:=31) (rs:=[]) rfl rfl ?_
  repeat' first|simp only[↓wBA,tHa,seval,Kz,K0,wH,wFr,h1,k1,f1,p1,d1,i1,e0]|(with_reducible first|refine dQ Kz 16 (some 6) ?_|refine dQ K0 16 (some 20) ?_)
  all_goals refine rtS ?_
  all_goals simp only[A1.eq_1,Ak.eq_1,tHa,seval]
  rw[Aes hi]
  exact⟨h,Fr.refl _ _⟩
 ·have n5:(fi=fj)=False:=nf (fun e=>hij (by
   subst e
   exact (List.getElem?_inj hi h.nd).1 (gi.trans gj.symm)))
  have n6:(fj=fi)=False:=nf (fun e=>(of_eq_false n5) e.symm)
  have li:i<ls.length:=by omega
  have lj:j<ls.length:=by omega
  have hij':¬ j=i:=fun e=>hij e.symm
  have e1:(ls.set i [.mp fj 516 0 0])[j]? =some [.mp fj 516 0 0]:=by rw[getElem?_set_ne hij];exact k2
  have e2:((ls.set i [.mp fj 516 0 0]).set j [.mp fi 516 0 0])[i]? =some [.mp fj 516 0 0]:=by rw[getElem?_set_ne hij'];simp[li]
  have e3:((ls.set i [.mp fj 516 0 0]).set j [.mp fi 516 0 0])[j]? =some [.mp fi 516 0 0]:=by simp[lj]
  refine Ab Am Ao Tryz.func257 (by kernel_rfl) rfl (nt:=31) (rs:=[]) rfl rfl ?_
  repeat' first|simp only[↓wBA,tHa,seval,Kz,K0,wH,wFr,h1,l1,k1,k2,f1,f2,p1,p2,d1,d2,i1,i2,n1,n3,n6,e1,e2,e3]|(with_reducible first|refine dQ Kz 16 (some 6) ?_|refine dQ K0 16 (some 20) ?_)
  all_goals refine rtS ?_
  all_goals simp only[A1.eq_1,Ak.eq_1,tHa,seval]
  have hm:∀ k f,fs[k]? =some f→f=o∨f∈fs:=fun k f e=>.inr (mem_of_getElem? e)
  refine⟨h.swap h2 h3 gi gj hij ?_ ?_ ?_ ?_,(((Fr.refl σ _).set _ (.inl rfl)).set _ (hm _ _ ‹_›)).set _ (hm _ _ ‹_›)⟩
  ·simp only[wH,l1,n2,n4]
  ·simp only[wH,q1,Gf]
  ·simp only[wH,n5,q2,Gf]
  ·intro t ht hi hj
   have m1:=nf ht
   have m2:=nf hi
   have m3:=nf hj
   simp only[wH,nf (Ne.symm ht),nf (Ne.symm hi),nf (Ne.symm hj)]
def tHb:=aa wX <| aa wbu <| aa T3 T4
def oF (o:Nat)(fs:List Nat)(t:Nat):Prop:=t=o∨t∈fs
theorem Mf {o:Nat}{fs fs':List Nat}(h:fs'.Perm fs):oF o fs'=oF o fs:=funext fun t=>propext (or_congr Iff.rfl h.mem_iff)
theorem p_no {σ:St}{p o:Nat}{fs:List Nat}{V:Nat→Cb}{c:List AV}(h:Hh σ o fs V)(h0:σ[p]? =some (some (.row 6 [c]))):¬ oF o fs p:=fun e=>by
 rcases e with rfl|e
 ·obtain⟨ls,ho,_⟩:=h.o
  rw[ho]at h0;simp at h0
 ·obtain⟨i,hi⟩:=List.getElem?_of_mem e
  have:=h.f _ _ hi
  rw[this]at h0;simp[Gf]at h0
theorem aup {σ:St}{p o j:Nat}{fs:List Nat}{V:Nat→Cb}{c0 c1 c2 c4 c5:AV}(h:Hh σ o fs V)(h0:σ[p]? =some (some (.row 6 [[c0,c1,c2,.ms o 1 0 fs.length,c4,c5]])))(hj:j<fs.length):
 Aa Tryz.prog 153 [.dyn 208 (.mp p 6 0 3),Ad .i64 (j:Nat)] σ fun r σ'=>r= .tup []∧∃ fs',fs'.Perm fs∧Hh σ' o fs' V∧Fr σ σ' (oF o fs) (oF o fs):=by
 have hp:=p_no h h0
 refine Ab Am Ao Tryz.func153 (by kernel_rfl) rfl (nt:=21) (rs:=[]) rfl rfl ?_
 repeat' simp only[↓wBA,tHb,seval]
 refine As (X:={ j:Nat // j<fs.length }) (fun j=>j.1) (fun j=>[(1,Ad .i64 (j.1:Nat))]) [4,5,6,7,8,9,10,11,12,13,14,15,16,17,18,19,20,21,22] (fun j s=>∃ fs',fs'.Perm fs∧Hh s o fs' V∧Fr σ s (oF o fs) (oF o fs)) (⟨j,hj⟩) ?_ ?_ ?_ ?_
 ·simp only[wHl,wHf]
 ·exact⟨fs,.refl _,h,Fr.refl _ _⟩
 ·rintro _ _ ⟨_,_,_,hf⟩;exact hf.len
 ·intro x J s hI
  simp only[wHl]
  obtain⟨j,hj⟩:=x
  obtain⟨fs',hP,h',hf⟩:=hI
  have k0:=hf.get h0 hp
  have q0:=Ac k0
  have hl:=hP.length_eq
  have hb:=h.big
  dsimp only
  rw[← hl]at k0
  have e1:IntKind.i64.wrap ((j:Int) - 1)=(j:Int) - 1:=wrap_i64 (by omega) (by omega)
  have e2:IntKind.i64.wrap (((j:Int) - 1).tdiv 2)=(((j - 1) / 2:Nat):Int):=by
   by_cases h0:j=0
   ·subst h0;decide
   ·rw[Int.tdiv_eq_ediv_of_nonneg (by omega),wrap_i64 (by omega) (by omega)];omega
  have hi':(j - 1) / 2<fs'.length:=by omega
  repeat' first|((with_reducible first|apply cs|apply ws)<;>intro h<;>try simp only[h])|simp only[↓wBA,tHb,seval,wH,wHl,k0,e1,e2]|((with_reducible show Aa _ _ _ _ _);first|(refine (Aps h' (by omega) hi').mono ?_;rintro _ _ ⟨rfl,b,rfl⟩)|(refine (Ak6 h' hi' (by omega)).mono ?_;rintro _ s2 ⟨rfl,h2,hf2⟩))
  all_goals have hlen:=hf.len
  ·skip
   all_goals refine rtS ?_
   all_goals simp only[A1.eq_1,Ak.eq_1,tHb,seval]
   exact⟨fs',hP,h',hf⟩
  ·have hj0:j≠0:=fun e=>by subst e;simp_all
   refine⟨⟨(j - 1) / 2,by omega⟩,by show (j - 1) / 2<j;omega,⟨_,(Gg hi' (by omega)).trans hP,h2,?_⟩,?_⟩
   ·have:=Mf (o:=o) hP
    exact hf.trans (this▸hf2)
   ·simp only[]
  ·skip
   all_goals refine rtS ?_
   all_goals simp only[A1.eq_1,Ak.eq_1,tHb,seval]
   exact⟨fs',hP,h',hf⟩
theorem Ah4 {fs:List Nat}{i j n:Nat}(hi:i<n)(hj:j<n)(hn:n≤fs.length)(k:Nat)(hk:n≤k):(Me fs i j)[k]? =fs[k]? :=by
 rw[Hx (by omega) (by omega),if_neg (by omega),if_neg (by omega)]
theorem Avh {σ:St}{p o i0 n:Nat}{fs:List Nat}{V:Nat→Cb}{c0 c1 c2 c4 c5:AV}(h:Hh σ o fs V)(h0:σ[p]? =some (some (.row 6 [[c0,c1,c2,.ms o 1 0 fs.length,c4,c5]])))(hi:i0≤1000000)(hn:n≤fs.length):
 Aa Tryz.prog 152 [.dyn 208 (.mp p 6 0 3),Ad .i64 (i0:Nat),Ad .i64 (n:Nat)] σ fun r σ'=>(∃ b,r=Az b)∧∃ fs',fs'.Perm fs∧Hh σ' o fs' V∧Fr σ σ' (oF o fs) (oF o fs)∧∀ k,n≤k→fs'[k]? =fs[k]? :=by
 have hp:=p_no h h0
 refine Ab Am Ao Tryz.func152 (by kernel_rfl) rfl (nt:=45) (rs:=[.tmp 6]) rfl rfl ?_
 repeat' simp only[↓wBA,tHb,seval]
 refine As (X:={ i:Nat // i≤1000000 }) (fun i=>n - i.1) (fun i=>[(7,Ad .i64 (i.1:Nat))]) [8,9,10,12,13,14,15,16,17,18,19,20,21,22,23,24,25,26,27,28,29,30,31,32,33,34,35,36,37,38,39,40,41,42,43,44] (fun i s=>∃ fs',fs'.Perm fs∧Hh s o fs' V∧Fr σ s (oF o fs) (oF o fs)∧∀ k,n≤k→fs'[k]? =fs[k]?) (⟨i0,hi⟩) ?_ ?_ ?_ ?_
 ·simp only[wHl,wHf]
 ·exact⟨fs,.refl _,h,Fr.refl _ _,fun _ _=>rfl⟩
 ·rintro _ _ ⟨_,_,_,hf,_⟩;exact hf.len
 ·intro x J s hI
  simp only[wHl]
  obtain⟨i,hi⟩:=x
  obtain⟨fs',hP,h',hf,hk⟩:=hI
  have k0:=hf.get h0 hp
  have q0:=Ac k0
  have hl:=hP.length_eq
  have hb:=h.big
  have hlen:=hf.len
  dsimp only
  rw[← hl]at k0
  have e1:IntKind.i64.wrap (2*(i:Int))=2*(i:Int):=wrap_i64 (by omega) (by omega)
  have e2:IntKind.i64.wrap (2*(i:Int)+1)=((2*i+1:Nat):Int):=by rw[wrap_i64 (by omega) (by omega)];simp
  have e3:IntKind.i64.wrap (((2*i+1:Nat):Int)+1)=((2*i+2:Nat):Int):=by rw[wrap_i64 (by omega) (by omega)];simp;omega
  by_cases hn1:2*i+1<n
  ·have e4:decide (((2*i+1:Nat):Int)≥(n:Int))=false:=by simp;omega
   have e5:decide (((2*i+1:Nat):Int)<0)=false:=by simp;omega
   have hj:∀ j,i<j→j<n→∀ s2,Hh s2 o (Me fs' i j) V→Fr s s2 (oF o fs') (oF o fs')→j≤1000000∧n - j<n - i∧∃ fs',fs'.Perm fs∧Hh s2 o fs' V∧Fr σ s2 (oF o fs) (oF o fs)∧∀ k,n≤k→fs'[k]? =fs[k]? :=fun j h1 h2 s2 h3 h4=>by
    refine⟨by omega,by omega,_,(Gg (by omega) (by omega)).trans hP,h3,hf.trans ((Mf (o:=o) hP)▸h4),fun k h5=> ?_⟩
    rw[Ah4 (n:=n) (by omega) (by omega) (by omega) k h5,hk k h5]
   by_cases hn2:2*i+2<n
   ·have e6:decide (((2*i+2:Nat):Int)<(n:Int))=true:=by simp;omega
    repeat' first|((with_reducible apply cs)<;>intro h<;>try simp only[h])|simp only[↓wBA,tHb,seval,wH,wHl,k0,e1,e2,e3,e4,e5,e6]|((with_reducible show Aa _ _ _ _ _);first|(refine (Aps h' (by omega) (by omega)).mono ?_;rintro _ _ ⟨rfl,b,rfl⟩)|(refine (Ak6 h' (by omega) (by omega)).mono ?_;rintro _ s2 ⟨rfl,h2,hf2⟩))
    ·skip
     all_goals refine rtS ?_
     all_goals simp only[A1.eq_1,Ak.eq_1,Ak.eq_2,Ax.eq_1,tHb,seval]
     exact⟨⟨_,rfl⟩,fs',hP,h',hf,hk⟩
    ·obtain⟨j1,j2,j3⟩:=hj _ (by omega) (by omega) s2 h2 hf2
     refine⟨⟨_,j1⟩,j2,j3,?_⟩
     simp only[]
    ·skip
     all_goals refine rtS ?_
     all_goals simp only[A1.eq_1,Ak.eq_1,Ak.eq_2,Ax.eq_1,tHb,seval]
     exact⟨⟨_,rfl⟩,fs',hP,h',hf,hk⟩
    ·obtain⟨j1,j2,j3⟩:=hj _ (by omega) (by omega) s2 h2 hf2
     refine⟨⟨_,j1⟩,j2,j3,?_⟩
     simp only[]
   ·have e6:decide (((2*i+2:Nat):Int)<(n:Int))=false:=by simp;omega
    repeat' first|((with_reducible apply cs)<;>intro h<;>try simp only[h])|simp only[↓wBA,tHb,seval,wH,wHl,k0,e1,e2,e3,e4,e5,e6]|((with_reducible show Aa _ _ _ _ _);first|(refine (Aps h' (by omega) (by omega)).mono ?_;rintro _ _ ⟨rfl,b,rfl⟩)|(refine (Ak6 h' (by omega) (by omega)).mono ?_;rintro _ s2 ⟨rfl,h2,hf2⟩))
    ·skip
     all_goals refine rtS ?_
     all_goals simp only[A1.eq_1,Ak.eq_1,Ak.eq_2,Ax.eq_1,tHb,seval]
     exact⟨⟨_,rfl⟩,fs',hP,h',hf,hk⟩
    ·obtain⟨j1,j2,j3⟩:=hj _ (by omega) (by omega) s2 h2 hf2
     refine⟨⟨_,j1⟩,j2,j3,?_⟩
     simp only[]
  ·have e4:decide (((2*i+1:Nat):Int)≥(n:Int))=true:=by simp;omega
   repeat' simp only[↓wBA,tHb,seval,wH,wHl,e1,e2,e4]
   all_goals refine rtS ?_
   all_goals simp only[A1.eq_1,Ak.eq_1,Ak.eq_2,Ax.eq_1,tHb,seval]
   exact⟨⟨_,rfl⟩,fs',hP,h',hf,hk⟩
def K1:Cv:=(.det 0 (.det 2 (.det 3 (.det 4 (.det 5 (.act 1 (.det 6 (.det 7 (.fin 8 .done)))))))))
def K2:Cv:=(.det 0 (.det 1 (.det 2 (.det 3 (.det 4 (.act 5 (.act 6 (.fin 7 (.det 8 (.fin 9 .done))))))))))
def tHc:=aa wX <| aa wbu <| aa T3 <| aa T4 <| aa T86 <| aa T154 T158
theorem Apt {σ:St}{o n:Nat}:Aa Tryz.prog 255 [.ms o 1 0 n] σ fun r σ'=>σ'=σ∧r=Ad .i64 (n:Nat):=by
 refine Ab Am Ao Tryz.func255 (by kernel_rfl) rfl (nt:=4) (rs:=[.tmp 2]) rfl rfl ?_
 repeat' simp only[↓wBA,tHc,seval]
 all_goals refine rtS ?_
 all_goals simp only[A1.eq_1,Ak.eq_1,Ak.eq_2,Ax.eq_1,tHc,seval]
theorem afix {σ:St}{p o i:Nat}{fs:List Nat}{V:Nat→Cb}{c0 c1 c2 c4 c5:AV}(h:Hh σ o fs V)(h0:σ[p]? =some (some (.row 6 [[c0,c1,c2,.ms o 1 0 fs.length,c4,c5]])))(hi:i<fs.length):
 Aa Tryz.prog 151 [.dyn 208 (.mp p 6 0 3),Ad .i64 (i:Nat)] σ fun r σ'=>r= .tup []∧∃ fs',fs'.Perm fs∧Hh σ' o fs' V∧Fr σ σ' (oF o fs) (oF o fs):=by
 have l0:=Ac h0
 have hb:=h.big
 have hp:=p_no h h0
 refine Ab Am Ao Tryz.func151 (by kernel_rfl) rfl (nt:=11) (rs:=[]) rfl rfl ?_
 repeat' first|((with_reducible apply cs)<;>intro h<;>try simp only[h])|simp only[↓wBA,tHc,seval,h0]|((with_reducible show Aa _ _ _ _ _);first|refine Apt.eq ?_|(refine (Avh h h0 (by omega) (Nat.le_refl _)).mono ?_;rintro _ s ⟨⟨b,rfl⟩,fs',hP,h',hf,hk⟩))
 ·have k0:=hf.get h0 hp
  have q0:=Ac k0
  have hl:=hP.length_eq
  rw[← hl]at k0
  repeat' first|simp only[↓wBA,tHc,seval]|((with_reducible show Aa _ _ _ _ _);refine (aup h' k0 (by omega)).mono ?_;rintro _ s2 ⟨rfl,fs2,hP2,h2,hf2⟩)
  have hlen:=(hf.trans (Mf (o:=o) hP▸hf2)).len
  all_goals refine rtS ?_
  all_goals simp only[A1.eq_1,Ak.eq_1,tHc,seval]
  exact⟨fs2,hP2.trans hP,h2,hf.trans (Mf (o:=o) hP▸hf2)⟩
 ·have hlen:=hf.len
  all_goals refine rtS ?_
  all_goals simp only[A1.eq_1,Ak.eq_1,tHc,seval]
  exact⟨fs',hP,h',hf⟩
theorem A0t {σ:St}{p o f:Nat}{fs:List Nat}{V:Nat→Cb}{c0 c1 c2 c4 c5:AV}(h:Hh σ o (fs++[f]) V)(h0:σ[p]? =some (some (.row 6 [[c0,c1,c2,.ms o 1 0 (fs.length+1),c4,c5]]))):
 Aa Tryz.prog 258 [.mp p 6 0 3] σ fun r σ'=>r= .dyn 154 (.mp f 516 0 0)∧σ'=σ.set p (some (.row 6 [[c0,c1,c2,.ms o 1 0 fs.length,c4,c5]])):=by
 have l0:=Ac h0
 obtain⟨ls,h1,h2,h3⟩:=h.o
 have k1:=Jg h2 (i:=fs.length) (f:=f) (by simp)
 have l1:=Ac h1
 have hb:=h.big
 simp only[List.length_append,length_cons,length_nil]at h3 hb
 have e1:IntKind.i64.wrap (((fs.length+1:Nat):Int) - 1)=(fs.length:Int):=by rw[wrap_i64 (by omega) (by omega)];omega
 have d1:((fs.length:Int)<((fs.length+1:Nat):Int))=True:=eq_true (by omega)
 have d2:((fs.length:Int)≤((fs.length+1:Nat):Int))=True:=eq_true (by omega)
 have i1:=nnI fs.length
 refine Ab Am Ao Tryz.func258 (by kernel_rfl) rfl (nt:=22) (rs:=[.tmp 2]) rfl rfl ?_
 repeat' simp only[↓wBA,tHc,seval,wH,h0,h1,k1,e1,d1,d2,i1,Bv,Br,Bm]
 all_goals refine rtS ?_
 all_goals simp only[A1.eq_1,Ak.eq_1,Ak.eq_2,Ax.eq_1,tHc,seval]
theorem Hh.same {σ s:St}{o:Nat}{fs:List Nat}{V:Nat→Cb}(h:Hh σ o fs V)(hs:∀ t,oF o fs t→s[t]? =σ[t]?):Hh s o fs V:=
 ⟨by rw[hs o (.inl rfl)];exact h.o,fun i f hi=>by rw[hs f (.inr (mem_of_getElem? hi))];exact h.f i f hi,h.nd,h.pg,h.big⟩
theorem Hh.front {σ:St}{o f:Nat}{fs:List Nat}{V:Nat→Cb}(h:Hh σ o (fs++[f]) V):Hh σ o fs V:=by
 obtain⟨ls,h1,h2,h3⟩:=h.o
 simp only[List.length_append,length_cons,length_nil]at h2 h3
 refine⟨⟨ls,h1,?_,by omega⟩,fun i g hi=>h.f i g (by rw[List.getElem?_append_left (List.getElem?_eq_some_iff.1 hi).1];exact hi),(List.nodup_append.1 h.nd).1,fun g hg=>h.pg g (by simp[hg]),by have:=h.big;simp at this;omega⟩
 have:=congrArg (List.take fs.length) h2
 rw[List.take_take,Nat.min_eq_left (by omega)]at this
 rw[this]
 simp[Fq]
theorem Apu {fs:List Nat}{n f:Nat}(hl:fs.length=n+1)(h:fs[n]? =some f):fs=fs.dropLast++[f]:=by
 have hne:fs≠[]:=fun e=>by simp[e]at hl
 have:=List.dropLast_concat_getLast hne
 rw[List.getLast_eq_getElem]at this
 have hg:fs[fs.length - 1]=f:=by
  have:=List.getElem?_eq_some_iff.1 h
  obtain⟨hn,e⟩:=this
  simp only[hl,Nat.add_sub_cancel,e]
 rw[hg]at this
 exact this.symm
theorem apop {σ:St}{p o f0:Nat}{fs:List Nat}{V:Nat→Cb}{c0 c1 c2 c4 c5:AV}(h:Hh σ o fs V)(h0:σ[p]? =some (some (.row 6 [[c0,c1,c2,.ms o 1 0 fs.length,c4,c5]])))(hf0:fs[0]? =some f0):
 Aa Tryz.prog 110 [.dyn 208 (.mp p 6 0 3)] σ fun r σ'=>r= .dyn 154 (.mp f0 516 0 0)∧(∃ i,σ'[f0]? =some (Gf (V f0) i))∧∃ fs',(f0::fs').Perm fs∧Hh σ' o fs' V∧σ'[p]? =some (some (.row 6 [[c0,c1,c2,.ms o 1 0 fs'.length,c4,c5]]))∧Fr σ σ' (fun t=>t=p∨oF o fs t) (fun t=>t=p∨oF o fs t):=by
 have l0:=Ac h0
 have hb:=h.big
 have hp:=p_no h h0
 have hl:=(List.getElem?_eq_some_iff.1 hf0).1
 obtain⟨n,hn⟩:∃ n,fs.length=n+1:=⟨fs.length - 1,by omega⟩
 have e1:IntKind.i64.wrap ((fs.length:Int) - 1)=(n:Int):=by rw[wrap_i64 (by omega) (by omega)];omega
 have hs:=Ak6 h (i:=0) (j:=n) hl (by omega)
 simp only[cz]at hs
 refine Ab Am Ao Tryz.func110 (by kernel_rfl) rfl (nt:=14) (rs:=[.tmp 2]) rfl rfl ?_
 repeat' first|simp only[↓wBA,tHc,seval,h0,e1]|((with_reducible show Aa _ _ _ _ _);first|refine Apt.eq ?_|(refine hs.mono ?_;rintro _ s ⟨rfl,h1,hf1⟩))
 have k0:=hf1.get h0 hp
 have q0:=Ac k0
 rw[← E8 fs 0 n]at k0
 have hd:=Avh h1 k0 (i0:=0) (n:=n) (by omega) (by rw[E8];omega)
 simp only[cz]at hd
 repeat' first|simp only[↓wBA,tHc,seval]|((with_reducible show Aa _ _ _ _ _);refine hd.mono ?_;rintro _ s2 ⟨⟨b,rfl⟩,fs2,hP2,h2,hf2,hk⟩)
 have hP1:=Gg (fs:=fs) (i:=0) (j:=n) hl (by omega)
 have j0:=hf2.get k0 (by rw[Mf hP1];exact hp)
 have p0:=Ac j0
 have hl2:fs2.length=n+1:=by rw[hP2.length_eq,E8,hn]
 have hlast:=hk n (Nat.le_refl _)
 rw[Hx hl (by omega),if_pos rfl,hf0]at hlast
 have he:=Apu hl2 hlast
 rw[E8,hn]at j0
 have hl3:fs2.dropLast.length=n:=by simp[hl2]
 rw[he]at h2
 have hpp:=A0t (p:=p) (c0:=c0) (c1:=c1) (c2:=c2) (c4:=c4) (c5:=c5) h2 (by rw[hl3];exact j0)
 rw[hl3]at hpp
 have hff:Fr σ s2 (oF o fs) (oF o fs):=by
  have:=hf2
  rw[Mf hP1]at this
  exact Fr.trans hf1 this
 have hlen:=hff.len
 repeat' first|simp only[↓wBA,tHc,seval]|((with_reducible show Aa _ _ _ _ _);refine hpp.mono ?_;rintro _ _ ⟨rfl,rfl⟩)
 all_goals refine rtS ?_
 all_goals simp only[A1.eq_1,Ak.eq_1,Ak.eq_2,Ax.eq_1,tHc,seval,wH,p0]
 have hpn:=p_no h2 j0
 have hfl:=h2.f n f0 (by rw[List.getElem?_append_right (by omega),hl3];simp)
 refine⟨⟨n,(getElem?_set_ne fun e=>hpn (by subst e;exact .inr (by simp))).trans hfl⟩,fs2.dropLast,?_,h2.front.same fun t ht=> ?_,?_,?_⟩
 ·have h5:(fs2.dropLast++[f0]).Perm (f0::fs2.dropLast):=List.perm_append_comm
  exact h5.symm.trans (he▸(hP2.trans hP1))
 ·exact getElem?_set_ne fun e=>hpn (by subst e;exact ht.imp id (fun h=>by simp[h]))
 ·simp only[hl3]
 ·exact Fr.set (F:=fun t=>t=p∨oF o fs t) (F':=fun t=>t=p∨oF o fs t) ⟨hff.len,fun t ht hn=>hff.keep t ht fun h=>hn (.inr h),fun t ht=>.inl ht⟩ _ (.inl rfl)
theorem Hh.push {s:St}{o' f:Nat}{fs:List Nat}{V:Nat→Cb}(hnd:(fs++[f]).Nodup)(hb:fs.length+1≤1000000)(ho:s[o']? =some (some (.row 1 (Fq (fs++[f])))))(hfs:∀ (i g:Nat),fs[i]? =some g→s[g]? =some (Gf (V g) i))(hf:s[f]? =some (Gf (V f) fs.length))(hpg:∀ g∈fs++[f],(V g).pg.length=512):
 Hh s o' (fs++[f]) V:=by
 refine⟨⟨_,ho,List.take_of_length_le (by simp[Fq]),by simp[Fq]⟩,fun i g hi=> ?_,hnd,hpg,by simp;omega⟩
 by_cases h:i<fs.length
 ·rw[List.getElem?_append_left h]at hi
  exact hfs i g hi
 ·have hl:=(List.getElem?_eq_some_iff.1 hi).1
  simp at hl
  have:i=fs.length:=by omega
  subst this
  simp at hi
  subst hi
  exact hf
inductive Ord (σ:St)(V:Nat→Cb):AV→Option Nat→List Nat→Prop
 |nil:Ord σ V (.p (.v (.slice none 0 0))) none []
 |hp {o fs}:Hh σ o fs V→Ord σ V (.ms o 1 0 fs.length) (some o) fs
def oG (w:Option Nat)(fs:List Nat)(t:Nat):Prop:=w=some t∨t∈fs
theorem Avi {σ:St}{p f:Nat}{w:Option Nat}{fs:List Nat}{V:Nat→Cb}{a c0 c1 c2 c4 c5:AV}{i0:Nat}(h:Ord σ V a w fs)(h0:σ[p]? =some (some (.row 6 [[c0,c1,c2,a,c4,c5]])))(hf:σ[f]? =some (Gf (V f) i0))(hfn:f∉fs)(hpf:(V f).pg.length=512)(hb:fs.length+1≤1000000):
 Aa Tryz.prog 259 [.mp p 6 0 3,.dyn 154 (.mp f 516 0 0)] σ fun r σ'=>r= .tup []∧∃ o',Hh σ' o' (fs++[f]) V∧σ'[p]? =some (some (.row 6 [[c0,c1,c2,.ms o' 1 0 (fs.length+1),c4,c5]]))∧(w=some o'∨σ.length≤o')∧Fr σ σ' (fun t=>t=p∨t=f∨oG w fs t) (fun t=>t=p∨t=f∨oG (some o') fs t):=by
 have l0:=Ac h0
 have lf:=Ac hf
 have n0:(p=f)=False:=nf (A0 h0 hf (by simp[Gf]))
 have n1:(f=p)=False:=nf (A0 hf h0 (by simp[Gf]))
 simp only[Gf]at hf
 cases h with
 |nil=>
  have hl4:=lM (n:=1) (by omega)
  refine Ab Am Ao Tryz.func259 (by kernel_rfl) rfl (nt:=19) (rs:=[]) rfl rfl ?_
  repeat' first|simp only[↓wBA,tHc,seval,K1,K2,wH,wFr,h0,l0,hf,n1,hpf,cz,E1,Dd,srcM,hl4]|(with_reducible first|refine dQ K1 9 (some 4) ?_|refine dQ K2 10 (some 12) ?_)
  all_goals refine rtS ?_
  all_goals simp only[A1.eq_1,Ak.eq_1,tHc,seval]
  refine⟨_,Hh.push (fs:=[]) (V:=V) (f:=f) (by simp) hb ?_ (by simp) ?_ (by simpa using hpf),?_,.inr (Nat.le_succ _),?_⟩
  ·simp only[wH,length_cons,length_nil,Nat.zero_add];rfl
  ·simp only[wH,lf,n0,length_cons,length_nil,Nat.zero_add];rfl
  ·simp only[wH,l0,length_cons,length_nil,Nat.zero_add]
  ·refine ((((Fr.refl σ _).set _ (.inr (.inl rfl))).set _ (.inl rfl)).app _).app _ |>.to fun t ht=> ?_
   rcases ht with rfl|rfl|ht|ht
   ·exact .inl (.inl rfl)
   ·exact .inl (.inr (.inl rfl))
   ·simp at ht;omega
   ·simp at ht
 |hp h=>
  obtain⟨ls,h1,h2,h3⟩:=h.o
  rename_i o
  have l1:=Ac h1
  have n2:(o=f)=False:=nf (A0 h1 hf (by simp))
  have n3:(f=o)=False:=nf (A0 hf h1 (by simp))
  have n4:(o=p)=False:=nf (A0 h1 h0 (by simp))
  have n5:(p=o)=False:=nf (A0 h0 h1 (by simp))
  have hl1:=tL (n:=(fs.length+1)*8) (by omega)
  have hl2:=lM (n:=fs.length+1) (by omega)
  have hl3:=eq_true h3
  refine Ab Am Ao Tryz.func259 (by kernel_rfl) rfl (nt:=19) (rs:=[]) rfl rfl ?_
  repeat' first|simp only[↓wBA,tHc,seval,K1,K2,wH,wFr,h0,l0,hf,n1,n3,n4,hpf,h1,l1,h2,E1,Dd,srcM,hl1,hl2,hl3]|(with_reducible first|refine dQ K1 9 (some 4) ?_|refine dQ K2 10 (some 12) ?_)
  all_goals refine rtS ?_
  all_goals simp only[A1.eq_1,Ak.eq_1,tHc,seval]
  refine⟨_,Hh.push (fs:=fs) (V:=V) (f:=f) (List.nodup_append.2 ⟨h.nd,by simp,fun a ha b hb e=>by simp at hb;subst hb;subst e;exact hfn ha⟩) hb ?_ (fun i g hi=> ?_) ?_ (fun g hg=> ?_),?_,.inr (Nat.le_succ _),?_⟩
  ·simp only[wH,length_cons,length_nil,Nat.zero_add,Fq,List.map_append,List.map_cons,List.map_nil]
  ·have hg:=h.f i g hi
   have m1:(f=g)=False:=nf fun e=>hfn (e▸mem_of_getElem? hi)
   have m2:(o=g)=False:=nf (A0 h1 hg (by simp[Gf]))
   have m3:(p=g)=False:=nf (A0 h0 hg (by simp[Gf]))
   simp only[wH,m1,m2,m3,hg,Ac hg]
  ·simp only[wH,lf,n0,n2,length_cons,length_nil,Nat.zero_add];rfl
  ·rcases mem_append.1 hg with hg|hg
   ·exact h.pg g hg
   ·simp at hg;subst hg;exact hpf
  ·simp only[wH,l0,length_cons,length_nil,Nat.zero_add]
  ·refine (((((Fr.refl σ _).set _ (.inr (.inl rfl))).set _ (.inr (.inr (.inl rfl)))).set _ (.inl rfl)).app _).app _ |>.to fun t ht=> ?_
   rcases ht with rfl|rfl|ht|ht
   ·exact .inl (.inl rfl)
   ·exact .inl (.inr (.inl rfl))
   ·simp at ht;omega
   ·exact .inl (.inr (.inr (.inr ht)))
theorem A0u {σ:St}{p f:Nat}{w:Option Nat}{fs:List Nat}{V:Nat→Cb}{a c0 c1 c2 c4 c5:AV}{i0:Nat}(h:Ord σ V a w fs)(h0:σ[p]? =some (some (.row 6 [[c0,c1,c2,a,c4,c5]])))(hf:σ[f]? =some (Gf (V f) i0))(hfn:f∉fs)(hpf:(V f).pg.length=512)(hb:fs.length+1≤1000000):
 Aa Tryz.prog 111 [.dyn 208 (.mp p 6 0 3),.dyn 154 (.mp f 516 0 0)] σ fun r σ'=>r= .tup []∧∃ o' fs',fs'.Perm (fs++[f])∧Hh σ' o' fs' V∧σ'[p]? =some (some (.row 6 [[c0,c1,c2,.ms o' 1 0 fs'.length,c4,c5]]))∧Fr σ σ' (fun t=>t=p∨t=f∨oG w fs t) (fun t=>t=p∨oF o' fs' t):=by
 have l0:=Ac h0
 refine Ab Am Ao Tryz.func111 (by kernel_rfl) rfl (nt:=10) (rs:=[]) rfl rfl ?_
 repeat' first|simp only[↓wBA,tHc,seval]|((with_reducible show Aa _ _ _ _ _);refine (Avi h h0 hf hfn hpf hb).mono ?_;rintro _ s ⟨rfl,o',h1,k0,ho,hf1⟩)
 have q0:=Ac k0
 have e1:IntKind.i64.wrap (((fs.length+1:Nat):Int) - 1)=(fs.length:Int):=by rw[wrap_i64 (by omega) (by omega)];omega
 have hl:(fs++[f]).length=fs.length+1:=by simp
 have hu:=aup h1 (hl▸k0) (j:=fs.length) (by simp)
 repeat' first|simp only[↓wBA,tHc,seval,k0,e1]|((with_reducible show Aa _ _ _ _ _);first|refine Apt.eq ?_|(refine hu.mono ?_;rintro _ s2 ⟨rfl,fs2,hP,h2,hf2⟩))
 have hF:Fr σ s2 (fun t=>t=p∨t=f∨oG w fs t) (fun t=>t=p∨oF o' fs2 t):=by
  refine⟨Nat.le_trans hf1.len hf2.len,fun t ht hn=> ?_,fun t ht=> ?_⟩
  ·rw[hf2.keep t (Nat.lt_of_lt_of_le ht hf1.len) ?_,hf1.keep t ht hn]
   rintro (rfl|h5)
   ·rcases ho with rfl|ho
    ·exact hn (.inr (.inr (.inl rfl)))
    ·omega
   ·rcases mem_append.1 h5 with h5|h5
    ·exact hn (.inr (.inr (.inr h5)))
    ·simp at h5;exact hn (.inr (.inl h5))
  ·rcases ht with rfl|rfl|h5
   ·exact .inl (.inl rfl)
   ·exact ho.imp (fun h=>.inr (.inr (.inl h))) id
   ·rcases mem_append.1 (hP.mem_iff.1 h5)with h5|h5
    ·exact .inl (.inr (.inr (.inr h5)))
    ·simp at h5;exact .inl (.inr (.inl h5))
 have hlen:=hF.len
 have j0:=hf2.get (hl▸k0) (p_no h1 (hl▸k0))
 all_goals refine rtS ?_
 all_goals simp only[A1.eq_1,Ak.eq_1,tHc,seval]
 exact⟨o',fs2,hP,h2,hP.length_eq▸j0,hF⟩
end Go.Proofs.YtpoigihfeehehaaGreatDoor
