/- Pools: what they are in a state. Pools: Pages, touch, fetch. Pools: fetch. Pools: clean. -/
import Derived.Test.YtpoigihfeehehaaGreatDoorM24
set_option linter.all false
set_option maxRecDepth 100000
set_option maxHeartbeats 32000000
namespace Go.Proofs.YtpoigihfeehehaaGreatDoor
open Go.RowKit
open List (getElem?_of_mem map_cons)
def Q8 {β:Type}:List (Nat×β)→Nat→List (Nat×β)
 |[],_=>[]
 |(j,x)::m,k=>if j=k then m else (j,x)::Q8 m k
theorem Aoa {β:Type}(f:β→AV)(k:Nat):∀ (m:List (Nat×β)) (i:Nat),(ixM m k i=none→Q8 m k=m)∧∀ j x,ixM m k i=some (j,x)→i≤j∧(Nh f m).eraseIdx (j - i)=Nh f (Q8 m k)
 |[],i=>⟨fun _=>rfl,fun j x h=>by simp[ixM]at h⟩
 |(q,z)::m,i=>by
  obtain⟨h1,h2⟩:=Aoa f k m (i+1)
  by_cases e:q=k
  ·subst e
   refine⟨fun h=>by simp[ixM]at h,fun j x h=> ?_⟩
   simp only[ixM,if_true,Option.some.injEq,Prod.mk.injEq]at h
   obtain⟨rfl,rfl⟩:=h
   simp[Nh,Q8]
  ·refine⟨fun h=> ?_,fun j x h=> ?_⟩
   ·simp only[ixM,if_neg e]at h
    simp only[Q8,if_neg e,h1 h]
   ·simp only[ixM,if_neg e]at h
    obtain⟨h3,h4⟩:=h2 j x h
    refine⟨by omega,?_⟩
    rw[show j - i=(j - (i+1))+1 by omega]
    simp only[Nh,Q8,if_neg e,map_cons,List.eraseIdx_cons_succ]at h4 ⊢
    rw[h4]
theorem Apv {β:Type}(f:β→AV)(m:List (Nat×β))(k:Nat):delK (.int .i64) (.int .i64 (k:Int)) (Nh f m)=some (Nh f (Q8 m k)):=by
 unfold delK
 rw[if_pos (by simp[Vj]),N5]
 obtain⟨h1,h2⟩:=Aoa f k m 0
 cases hl:ixM m k 0 with
 |none=>simp[h1 hl]
 |some q=>
  obtain⟨j,x⟩:=q
  simpa using (h2 j x hl).2
theorem Ah5 {β:Type}(k:Nat):∀ m:List (Nat×β),k∉m.map Prod.fst→lkM m k=none
 |[],h=>rfl
 |(j,x)::m,h=>by
  simp at h
  have:¬ j=k:=fun e=>h.1 e.symm
  simp only[lkM,if_neg this]
  exact Ah5 k m (by simpa using h.2)
theorem Ui {β:Type}(k i:Nat):∀ m:List (Nat×β),(m.map Prod.fst).Nodup→lkM (Q8 m k) i=if i=k then none else lkM m i
 |[],_=>by simp[Q8,lkM]
 |(j,x)::m,h=>by
  simp only[map_cons,List.nodup_cons]at h
  simp only[Q8]
  by_cases e:j=k
  ·subst e
   simp only[if_true,lkM]
   by_cases h2:i=j
   ·subst h2;simp[Ah5 _ m h.1]
   ·have:¬ j=i:=fun e=>h2 e.symm
    simp[h2,this]
  ·simp only[if_neg e,lkM,Ui k i m h.2]
   by_cases h2:j=i
   ·subst h2;simp[e]
   ·simp[h2]
theorem Abx {β:Type}(k:Nat)(y:β):∀ m:List (Nat×β),(Dt m k y).map Prod.fst=if k∈m.map Prod.fst then m.map Prod.fst else m.map Prod.fst++[k]
 |[]=>by simp[Dt]
 |(j,x)::m=>by
  simp only[Dt]
  by_cases e:j=k
  ·subst e;simp
  ·have e':¬ k=j:=fun h=>e h.symm
   simp only[if_neg e,map_cons,Abx k y m,List.mem_cons,e',false_or]
   split<;>simp
theorem K3 {β:Type}(k:Nat)(y:β)(m:List (Nat×β))(h:(m.map Prod.fst).Nodup):((Dt m k y).map Prod.fst).Nodup:=by
 rw[Abx]
 split
 ·exact h
 ·rename_i hk
  exact List.nodup_append.2 ⟨h,by simp,fun a ha b hb e=>by simp at hb;subst hb;subst e;exact hk ha⟩
theorem Aby {β:Type}(k:Nat):∀ m:List (Nat×β),((Q8 m k).map Prod.fst).Sublist (m.map Prod.fst)
 |[]=>List.Sublist.refl _
 |(j,x)::m=>by
  simp only[Q8]
  split
  ·simp
  ·simpa using Aby k m
theorem Ah6 {β:Type}(k:Nat)(m:List (Nat×β))(h:(m.map Prod.fst).Nodup):((Q8 m k).map Prod.fst).Nodup:=h.sublist (Aby k m)
def secs (m:List (Nat×List UInt8))(n k:Nat):List UInt8:=(List.range k).flatMap fun i=>A6 m (8*n+i)
theorem Gh (m:List (Nat×List UInt8))(n k:Nat):secs m n (k+1)=secs m n k++A6 m (8*n+k):=by simp[secs,List.range_succ]
theorem Ii {m:List (Nat×List UInt8)}(h:∀ k,(A6 m k).length=64)(n:Nat):∀ k,(secs m n k).length=64*k
 |0=>rfl
 |k+1=>by rw[Gh,List.length_append,Ii h n k,h];omega
def Bw (m:List (Nat×List UInt8))(n:Nat):List UInt8:=secs m n 8
theorem Mg {m:List (Nat×List UInt8)}(h:∀ k,(A6 m k).length=64)(n:Nat):(Bw m n).length=512:=Ii h n 8
def C4:List UInt8:=List.replicate 512 0
def pgz (l:List UInt8):List UInt8:=if l=C4 then Fo 0 else l
theorem Ah7 {l:List UInt8}(h:l.length=512):(pgz l).length=512:=by
 unfold pgz
 split
 ·exact Df 0
 ·exact h
def wrPg (m:List (Nat×List UInt8))(n:Nat)(pg:List UInt8):Nat→List (Nat×List UInt8)
 |0=>m
 |k+1=>Dt (wrPg m n pg k) (8*n+k) ((pg.drop (64*k)).take 64)
def wrW (n:Nat)(pg:List UInt8)(k:Nat):List (Nat×List UInt8):=(List.range k).map fun i=>(8*n+i,(pg.drop (64*i)).take 64)
theorem Abz (m:List (Nat×List UInt8))(n:Nat)(pg:List UInt8)(j:Nat):∀ k,A6 (wrPg m n pg k) j=if 8*n≤j∧j<8*n+k then (pg.drop (64*(j - 8*n))).take 64 else A6 m j
 |0=>by rw[if_neg (by omega)];rfl
 |k+1=>by
  rw[wrPg,Dg,Abz m n pg j k]
  by_cases h:j=8*n+k
  ·subst h
   rw[if_pos rfl,if_pos (by omega)]
   congr 3;omega
  ·rw[if_neg h]
   by_cases h2:8*n≤j∧j<8*n+k
   ·rw[if_pos h2,if_pos (by omega)]
   ·rw[if_neg h2,if_neg (by omega)]
theorem Ah8 {pg:List UInt8}(h:pg.length=512)(m:List (Nat×List UInt8))(n:Nat)(hm:∀ i,i<8→A6 m (8*n+i)=(pg.drop (64*i)).take 64):∀ k,k≤8→secs m n k=pg.take (64*k)
 |0,_=>rfl
 |k+1,hk=>by
  rw[Gh,Ah8 h m n hm k (by omega),hm k (by omega),show 64*(k+1)=64*k+64 by omega,List.take_add]
theorem Apw {pg:List UInt8}(h:pg.length=512)(m:List (Nat×List UInt8))(n:Nat):Bw (wrPg m n pg 8) n=pg:=by
 unfold Bw
 rw[Ah8 h _ n (fun i hi=> ?_) 8 (Nat.le_refl _)]
 ·exact List.take_of_length_le (by omega)
 ·rw[Abz,if_pos (by omega)];congr 3;omega
theorem Se (m m':List (Nat×List UInt8))(n:Nat):∀ k,(∀ i,i<k→A6 m (8*n+i)=A6 m' (8*n+i))→secs m n k=secs m' n k
 |0,_=>rfl
 |k+1,h=>by rw[Gh,Gh,Se m m' n k (fun i hi=>h i (by omega)),h k (by omega)]
theorem Ab0 (m:List (Nat×List UInt8))(n n':Nat)(pg:List UInt8)(hn:n'≠n):Bw (wrPg m n pg 8) n'=Bw m n':=by
 refine Se _ _ _ 8 fun i hi=> ?_
 rw[Abz,if_neg (by omega)]
structure Al where
 data:Gc
 log:LogV
 most:Nat
 tick:Int
 fs:List Nat
 V:Nat→Cb
 hm:List (Nat×Nat)
def Al.pages (P:Al):Nat:=min (P.data.size / 8) 3840
def Al.view (P:Al)(n:Nat):List UInt8:=match lkM P.hm n with
 |some f=>(P.V f).pg
 |none=>pgz (Bw P.data.now n)
structure Mh (σ:St)(p dd l kh:Nat)(Fd Gl:Nat→Prop)(w:Option Nat)(a:AV)(P:Al):Prop where
 o:σ[p]? =some (some (.row 6 [[.mp dd 6 0 0,.mp l 5 0 0,Ad .i64 (P.most:Nat),a,.mmap kh,Ad .i64 P.tick]]))
 data:Bi σ dd Fd P.data
 log:Et σ l Gl P.log
 ord:Ord σ P.V a w P.fs
 has:σ[kh]? =some (some (.map (Nh (fun f=>.mp f 516 0 0) P.hm)))
 dl:∀ t,Fd t→Gl t→False
 od:∀ t,oG w P.fs t→Fd t→False
 ol:∀ t,oG w P.fs t→Gl t→False
 pd:¬ Fd p
 pl:¬ Gl p
 kd:¬ Fd kh
 kl:¬ Gl kh
structure Py (P:Al):Prop where
 keys:∀ n f,lkM P.hm n=some f↔f∈P.fs∧(P.V f).n=n
 kn:(P.hm.map Prod.fst).Nodup
 m1:1≤P.most
 mb:P.most≤100000
 len:P.fs.length≤P.most
 fn:∀ f∈P.fs,(P.V f).n<P.pages
 nz:∀ f∈P.fs,pgz (P.V f).pg=(P.V f).pg
 cl:∀ f∈P.fs,(P.V f).dirty=false→pgz (Bw P.data.now (P.V f).n)=(P.V f).pg
 secs:∀ k,(A6 P.data.now k).length=64
 size:16≤P.data.size
def Bj (σ:St)(p dd l kh:Nat)(G:Nat→Prop)(P:Al):Prop:=Py P∧∃ Fd Gl w a,Mh σ p dd l kh Fd Gl w a P∧∀ t,G t↔(t=p∨t=kh∨Fd t∨Gl t∨oG w P.fs t)
theorem Ord.big {σ:St}{V:Nat→Cb}{a:AV}{w:Option Nat}{fs:List Nat}(h:Ord σ V a w fs):(∀ f∈fs,(V f).pg.length=512)∧fs.Nodup:=by
 cases h with
 |nil=>exact⟨by simp,by simp⟩
 |hp h=>exact⟨h.pg,h.nd⟩
theorem Ord.same {σ s:St}{V:Nat→Cb}{a:AV}{w:Option Nat}{fs:List Nat}(h:Ord σ V a w fs)(hs:∀ t,oG w fs t→s[t]? =σ[t]?):Ord s V a w fs:=by
 cases h with
 |nil=>exact .nil
 |hp h=>exact .hp (h.same fun t ht=>hs t (ht.imp (fun e=>by rw[e]) id))
theorem Ord.lt {σ:St}{V:Nat→Cb}{a:AV}{w:Option Nat}{fs:List Nat}(h:Ord σ V a w fs):∀ t,oG w fs t→t<σ.length:=by
 cases h with
 |nil=>intro t ht;rcases ht with ht|ht<;>simp at ht
 |hp h=>
  intro t ht
  rcases ht with ht|ht
  ·simp only[Option.some.injEq]at ht;subst ht
   obtain⟨ls,ho,_⟩:=h.o
   exact Ac ho
  ·obtain⟨i,hi⟩:=getElem?_of_mem ht
   exact Ac (h.f _ _ hi)
theorem Ord.not {σ:St}{V:Nat→Cb}{a:AV}{w:Option Nat}{fs:List Nat}(h:Ord σ V a w fs){t:Nat}{x:Option Ob}(ht:σ[t]? =some x)(h1:∀ ls,x≠some (.row 1 ls))(h2:∀ c,x≠some (.row 516 c)):¬ oG w fs t:=by
 cases h with
 |nil=>intro e;rcases e with e|e<;>simp at e
 |hp h=>
  rintro (e|e)
  ·simp only[Option.some.injEq]at e;subst e
   obtain⟨ls,ho,_⟩:=h.o
   rw[ho]at ht;simp only[Option.some.injEq]at ht;exact h1 _ ht.symm
  ·obtain⟨i,hi⟩:=getElem?_of_mem e
   have:=h.f _ _ hi
   rw[this]at ht;simp only[Option.some.injEq]at ht;exact h2 _ ht.symm
theorem Mh.np {σ:St}{p dd l kh:Nat}{Fd Gl:Nat→Prop}{w:Option Nat}{a:AV}{P:Al}(h:Mh σ p dd l kh Fd Gl w a P):¬ oG w P.fs p:=h.ord.not h.o (by simp) (by simp)
theorem Mh.nk {σ:St}{p dd l kh:Nat}{Fd Gl:Nat→Prop}{w:Option Nat}{a:AV}{P:Al}(h:Mh σ p dd l kh Fd Gl w a P):¬ oG w P.fs kh:=h.ord.not h.has (by simp) (by simp)
theorem Mh.pk {σ:St}{p dd l kh:Nat}{Fd Gl:Nat→Prop}{w:Option Nat}{a:AV}{P:Al}(h:Mh σ p dd l kh Fd Gl w a P):p≠kh:=A0 h.o h.has (by simp)
theorem Bj.lt {σ:St}{p dd l kh:Nat}{G:Nat→Prop}{P:Al}(h:Bj σ p dd l kh G P):∀ t,G t→t<σ.length:=by
 obtain⟨_,Fd,Gl,w,a,h,hG⟩:=h
 intro t ht
 rcases (hG t).1 ht with rfl|rfl|ht|ht|ht
 ·exact Ac h.o
 ·exact Ac h.has
 ·exact h.data.lt t ht
 ·exact h.log.lt t ht
 ·exact h.ord.lt t ht
theorem Bj.same {σ s:St}{p dd l kh:Nat}{G:Nat→Prop}{P:Al}(h:Bj σ p dd l kh G P)(hs:∀ t,G t→s[t]? =σ[t]?):Bj s p dd l kh G P:=by
 obtain⟨hk,Fd,Gl,w,a,h,hG⟩:=h
 exact⟨hk,Fd,Gl,w,a,⟨by rw[hs p ((hG p).2 (.inl rfl))];exact h.o,h.data.same fun t ht=>hs t ((hG t).2 (.inr (.inr (.inl ht)))),h.log.same fun t ht=>hs t ((hG t).2 (.inr (.inr (.inr (.inl ht))))),h.ord.same fun t ht=>hs t ((hG t).2 (.inr (.inr (.inr (.inr ht))))),by rw[hs kh ((hG kh).2 (.inr (.inl rfl)))];exact h.has,h.dl,h.od,h.ol,h.pd,h.pl,h.kd,h.kl⟩,hG⟩
theorem Bj.frame {σ s:St}{p dd l kh:Nat}{G K K':Nat→Prop}{P:Al}(h:Bj σ p dd l kh G P)(hf:Fr σ s K K')(hd:∀ t,G t→K t→False):Bj s p dd l kh G P:=
 h.same fun t ht=>hf.keep t (h.lt t ht) fun hg=>hd t ht hg
theorem Bj.ap {σ s:St}{p dd l kh:Nat}{G:Nat→Prop}{P:Al}(h:Bj σ p dd l kh G P)(hs:Ap σ s):Bj s p dd l kh G P:=by
 obtain⟨τ,rfl⟩:=hs
 exact h.same fun t ht=>List.getElem?_append_left (h.lt t ht)
theorem Bj.root {σ:St}{p dd l kh:Nat}{G:Nat→Prop}{P:Al}(h:Bj σ p dd l kh G P):G p:=by
 obtain⟨_,Fd,Gl,w,a,h,hG⟩:=h
 exact (hG p).2 (.inl rfl)
def Al.dirt (P:Al):Nat:=P.fs.countP fun f=>(P.V f).dirty
def Al.ct (P:Al):Nat:=P.log.ctr+min P.log.wait 1
def Al.dq (P:Al):Nat:=P.data.wait.length+8*P.dirt
theorem Apx {P P':Al}(hp:P'.fs.Perm P.fs)(hV:∀ g∈P.fs,(P'.V g).dirty=(P.V g).dirty):P'.dirt=P.dirt:=by
 unfold Al.dirt
 rw[hp.countP_eq]
 exact List.countP_congr fun g hg=>by rw[hV g hg]
theorem A0v {P P':Al}(hw:P'.data.wait=P.data.wait)(hp:P'.fs.Perm P.fs)(hV:∀ g∈P.fs,(P'.V g).dirty=(P.V g).dirty)(k:Nat):P'.dq≤P.dq+k:=by
 unfold Al.dq
 rw[hw,Apx hp hV];omega
theorem Ak7 {P P':Al}(hl:P'.log=P.log)(k:Nat):P'.ct≤P.ct+k:=by unfold Al.ct;rw[hl];omega
structure Kp (P P':Al)(k:Nat):Prop where
 size:P'.data.size=P.data.size
 most:P'.most=P.most
 ls:P'.log.disk.size=P.log.disk.size
 ld:P'.log.d=P.log.d
 str:P'.log.str=P.log.str
 wait:P'.log.wait≤P.log.wait
 ctr:P'.ct≤P.ct+k
 dw:P'.dq≤P.dq+8*k
 view:∀ n,P'.view n=P.view n
 kept:P'.data.kept=P.data.kept:=by rfl
theorem Kp.refl (P:Al)(k:Nat):Kp P P k:=⟨rfl,rfl,rfl,rfl,rfl,Nat.le_refl _,by omega,by omega,fun _=>rfl,rfl⟩
theorem Kp.trans {P P' P'':Al}{k k':Nat}(h:Kp P P' k)(h':Kp P' P'' k'):Kp P P'' (k+k'):=
 ⟨h'.size.trans h.size,h'.most.trans h.most,h'.ls.trans h.ls,h'.ld.trans h.ld,h'.str.trans h.str,Nat.le_trans h'.wait h.wait,by have:=h.ctr;have:=h'.ctr;omega,by have:=h.dw;have:=h'.dw;omega,fun n=>(h'.view n).trans (h.view n),h'.kept.trans h.kept⟩
theorem Kp.pages {P P':Al}{k:Nat}(h:Kp P P' k):P'.pages=P.pages:=by unfold Al.pages;rw[h.size]
def Sf:Cv:=(.det 0 (.det 1 (.det 2 (.det 4 (.det 5 (.det 6 (.det 7 (.act 3 (.fin 8 .done)))))))))
def tPla:=aa wX <| aa wbu <| aa T3 <| aa T28 <| aa T32 <| aa T88 <| aa T158 T208
theorem Fr.sub {σ s:St}{K K' G G':Nat→Prop}(h:Fr σ s K K')(hG:∀ t,K t→G t)(hG':∀ t,G' t→G t∨σ.length≤t):Fr σ s G G':=⟨h.len,fun t ht hn=>h.keep t ht fun hk=>hn (hG t hk),hG'⟩
theorem Bi.big {σ:St}{d:Nat}{F:Nat→Prop}{D:Gc}(h:Bi σ d F D):D.size≤65536:=by
 obtain⟨kn,kk,w,a,es,h,hF⟩:=h
 exact h.big
theorem Ab1 {σ:St}{p dd l kh:Nat}{G:Nat→Prop}{P:Al}(h:Bj σ p dd l kh G P):Aa Tryz.prog 30 [.mp p 6 0 0] σ fun r σ'=>σ'=σ∧r=Ad .i64 (P.pages:Nat):=by
 obtain⟨_,Fd,Gl,w,a,h,hG⟩:=h
 have h0:=h.o
 have l0:=Ac h0
 have hb:=h.data.big
 have e1:IntKind.i64.wrap ((P.data.size:Int).tdiv 8)=((P.data.size / 8:Nat):Int):=by
  rw[Int.tdiv_eq_ediv_of_nonneg (by omega),wrap_i64 (by omega) (by omega)];omega
 refine Ab Am Ao Tryz.func30 (by kernel_rfl) rfl (nt:=11) (rs:=[.tmp 2]) rfl rfl ?_
 repeat' first|simp only[↓wBA,tPla,seval,h0,e1]|((with_reducible show Aa _ _ _ _ _);refine (Abs h.data).eq ?_)
 all_goals refine rtS ?_
 all_goals simp only[A1.eq_1,Ak.eq_1,Ak.eq_2,Ax.eq_1,tPla,seval,Al.pages]
 congr 3
 split<;>omega
def Dl (V:Nat→Cb)(f:Nat)(v:Cb)(g:Nat):Cb:=if g=f then v else V g
theorem Hh.upd {σ s:St}{o i f:Nat}{fs:List Nat}{V:Nat→Cb}(h:Hh σ o fs V)(hi:fs[i]? =some f)(v:Cb)(hv:v.pg.length=512)(hs:s[f]? =some (Gf v i))(ho:∀ t,oF o fs t→t≠f→s[t]? =σ[t]?):Hh s o fs (Dl V f v):=by
 obtain⟨ls,h1,h2,h3⟩:=h.o
 have hf:=h.f i f hi
 refine⟨⟨ls,by rw[ho o (.inl rfl) (A0 h1 hf (by simp[Gf]))];exact h1,h2,h3⟩,fun j g hj=> ?_,h.nd,fun g hg=> ?_,h.big⟩
 ·by_cases e:g=f
  ·subst e
   have:i=j:=(List.getElem?_inj (List.getElem?_eq_some_iff.1 hi).1 h.nd).1 (hi.trans hj.symm)
   subst this
   simp only[Dl,if_true];exact hs
  ·simp only[Dl,if_neg e]
   rw[ho g (.inr (List.mem_of_getElem? hj)) e]
   exact h.f j g hj
 ·unfold Dl
  split
  ·exact hv
  ·exact h.pg g hg
theorem Mh.re {σ s:St}{p dd l kh:Nat}{Fd Gl:Nat→Prop}{w w':Option Nat}{a a':AV}{P P':Al}(h:Mh σ p dd l kh Fd Gl w a P)
 (ho:s[p]? =some (some (.row 6 [[.mp dd 6 0 0,.mp l 5 0 0,Ad .i64 (P'.most:Nat),a',.mmap kh,Ad .i64 P'.tick]]))) (hd:P'.data=P.data) (hl:P'.log=P.log) (hm:s[kh]? =some (some (.map (Nh (fun f=>.mp f 516 0 0) P'.hm)))) (hs:∀ t,Fd t∨Gl t→s[t]? =σ[t]?)
 (hord:Ord s P'.V a' w' P'.fs) (hw:∀ t,oG w' P'.fs t→¬ Fd t∧¬ Gl t):Mh s p dd l kh Fd Gl w' a' P':=by
 refine⟨ho,by rw[hd];exact h.data.same fun t ht=>hs t (.inl ht),by rw[hl];exact h.log.same fun t ht=>hs t (.inr ht),hord,hm,h.dl,fun t ht hF=> ?_,fun t ht hF=> ?_,h.pd,h.pl,h.kd,h.kl⟩
 ·exact (hw t ht).1 hF
 ·exact (hw t ht).2 hF
theorem Mh.no {σ:St}{p dd l kh:Nat}{Fd Gl:Nat→Prop}{w:Option Nat}{a:AV}{P:Al}(h:Mh σ p dd l kh Fd Gl w a P){t:Nat}(ht:oG w P.fs t∨σ.length≤t):¬ Fd t∧¬ Gl t:=
 ⟨fun hF=>ht.elim (fun e=>h.od t e hF) fun e=>Nat.lt_irrefl _ (Nat.lt_of_lt_of_le (h.data.lt t hF) e),fun hF=>ht.elim (fun e=>h.ol t e hF) fun e=>Nat.lt_irrefl _ (Nat.lt_of_lt_of_le (h.log.lt t hF) e)⟩
theorem Py.re {P P':Al}(h:Py P)(hm:P'.hm=P.hm)(hd:P'.data=P.data)(ho:P'.most=P.most)(hl:P'.log=P.log)(hf:∀ g,g∈P'.fs↔g∈P.fs)(hn:P'.fs.length≤P.most)(hV:∀ g,(P'.V g).n=(P.V g).n∧(P'.V g).pg=(P.V g).pg∧(P'.V g).dirty=(P.V g).dirty):Py P':=by
 have hp:P'.pages=P.pages:=by unfold Al.pages;rw[hd]
 refine⟨fun n f=> ?_,by rw[hm];exact h.kn,by rw[ho];exact h.m1,by rw[ho];exact h.mb,by rw[ho];exact hn,fun f hg=> ?_,fun f hg=> ?_,fun f hg=> ?_,by rw[hd];exact h.secs,by rw[hd];exact h.size⟩
 ·rw[hm,h.keys,hf,(hV f).1]
 ·rw[(hV f).1,hp];exact h.fn f ((hf f).1 hg)
 ·rw[(hV f).2.1];exact h.nz f ((hf f).1 hg)
 ·rw[(hV f).2.1,(hV f).1,(hV f).2.2,hd];exact h.cl f ((hf f).1 hg)
theorem Avj {σ:St}{p dd l kh f:Nat}{G:Nat→Prop}{P:Al}(h:Bj σ p dd l kh G P)(hf:f∈P.fs):
 Aa Tryz.prog 108 [.mp p 6 0 0,.mp f 516 0 0] σ fun r σ'=>r= .tup []∧∃ G' P',Fr σ σ' G G'∧Bj σ' p dd l kh G' P'∧Kp P P' 0∧P'.hm=P.hm:=by
 obtain⟨hk,Fd,Gl,w,a,h,hG⟩:=h
 have h0:=h.o
 have l0:=Ac h0
 have hord:=h.ord
 have hnp:=h.np
 obtain⟨i,hi⟩:=getElem?_of_mem hf
 generalize hV:P.V=V at*
 generalize hfs:P.fs=fs at*
 cases hord with
 |nil=>simp at hi
 |hp hh=>
  rename_i o
  have f1:=hh.f i f hi
  have q1:=Ac f1
  have p1:=hh.pg f (List.mem_of_getElem? hi)
  have n1:(p=f)=False:=nf (A0 h0 f1 (by simp[Gf]))
  have n2:(f=p)=False:=nf (A0 f1 h0 (by simp[Gf]))
  simp only[Gf]at f1
  refine Ab Am Ao Tryz.func108 (by kernel_rfl) rfl (nt:=25) (rs:=[]) rfl rfl ?_
  repeat' first|simp only[↓wBA,tPla,seval,Sf,wH,wFr,h0,l0,f1,q1,n1,p1]|(with_reducible refine dQ Sf 9 (some 18) ?_)
  generalize IntKind.i64.wrap (P.tick+1)=tk
  refine Aa.gen (fun s=>s[p]? =some (some (.row 6 [[.mp dd 6 0 0,.mp l 5 0 0,Ad .i64 (P.most:Nat),.ms o 1 0 fs.length,.mmap kh,Ad .i64 tk]]))∧s[f]? =some (Gf { V f with used:=tk } i)∧(∀ t,t≠p→t≠f→s[t]? =σ[t]?)∧Fr σ s (fun t=>t=p∨oF o fs t) (fun t=>t=p∨oF o fs t)) ⟨?_,?_,?_,?_⟩ fun s ⟨s0,s1,s2,s3⟩=> ?_
  ·simp only[wH,l0,n2,Ad]
  ·simp only[wH,q1,Gf]
  ·intro t t1 t2
   simp only[wH,nf (Ne.symm t1),nf (Ne.symm t2)]
  ·exact ((Fr.refl σ _).set _ (.inl rfl)).set _ (.inr (.inr hf))
  have hgo:∀ t,oG (some o) fs t↔oF o fs t:=fun t=>by unfold oG oF;simp[eq_comm]
  have hp2:=hh.upd (s:=s) hi { V f with used:=tk } p1 s1 fun t ht hn=>s2 t (fun e=>hnp (e▸(hgo t).2 ht)) hn
  have il:=(List.getElem?_eq_some_iff.1 hi).1
  refine (afix hp2 s0 il).mono ?_
  rintro _ s4 ⟨rfl,fs',hP,h4,hf4⟩
  have hlen:=Nat.le_trans s3.len hf4.len
  repeat' simp only[↓wBA,tPla,seval]
  all_goals refine rtS ?_
  all_goals simp only[A1.eq_1,Ak.eq_1,tPla,seval]
  have hpp:¬ oF o fs p:=fun e=>hnp ((hgo p).2 e)
  have hF:=s3.trans (hf4.sub (G:=fun t=>t=p∨oF o fs t) (G':=fun t=>t=p∨oF o fs t) (fun t ht=>.inr ht) fun t ht=>.inl ht)
  have hKG:∀ t,(t=p∨oF o fs t)→G t:=fun t ht=>(hG t).2 (ht.imp id fun e=>.inr (.inr (.inr ((hgo t).2 e))))
  have k0:=hf4.get s0 hpp
  rw[← hP.length_eq]at k0
  have hu:∀ g,(Dl V f { V f with used:=tk } g).n=(V g).n∧(Dl V f { V f with used:=tk } g).pg=(V g).pg∧(Dl V f { V f with used:=tk } g).dirty=(V g).dirty:=fun g=>by
   unfold Dl
   split
   ·rename_i e;subst e;exact⟨rfl,rfl,rfl⟩
   ·exact⟨rfl,rfl,rfl⟩
  have hm:∀ g,oG (some o) fs' g↔oG (some o) fs g:=fun g=>or_congr Iff.rfl hP.mem_iff
  subst hV
  refine⟨G,{ P with tick:=tk,fs:=fs',V:=Dl P.V f { P.V f with used:=tk } },hF.sub hKG fun t ht=>.inl ht,⟨hk.re rfl rfl rfl rfl (fun g=>by show g∈fs'↔_;rw[hfs];exact hP.mem_iff) (by show fs'.length≤_;rw[hP.length_eq,←hfs];exact hk.len) hu,Fd,Gl,some o,_,h.re k0 rfl rfl ?_ (fun t ht=>hF.keep t ?_ ?_) (.hp h4) (fun t ht=>h.no (.inl (by rw[hfs];exact (hm t).1 ht))),fun t=> ?_⟩,⟨rfl,rfl,rfl,rfl,rfl,Nat.le_refl _,Ak7 rfl _,?_,fun n=> ?_,rfl⟩,rfl⟩
  ·exact hF.get h.has fun e=>e.elim (fun e=>h.pk e.symm) fun e=>h.nk (by rw[hfs];exact (hgo _).2 e)
  ·exact ht.elim (h.data.lt t) (h.log.lt t)
  ·rintro (rfl|e)
   ·exact ht.elim h.pd h.pl
   ·exact ht.elim (h.od t (by rw[hfs];exact (hgo t).2 e)) (h.ol t (by rw[hfs];exact (hgo t).2 e))
  ·rw[hG t,hm t]
  ·apply A0v (P:=P)
   ·rfl
   ·show fs'.Perm P.fs
    rw[hfs];exact hP
   ·exact fun g _=>(hu g).2.2
  ·unfold Al.view
   cases lkM P.hm n with
   |none=>rfl
   |some g=>exact (hu g).2.1
def Sg:Cv:=(.det 0 (.det 1 (.det 2 (.det 3 (.fin 4 .done)))))
def tPlb:=aa wX <| aa wbu <| aa T3 <| aa T29 <| aa T32 <| aa T70 <| aa T88 <| aa T137 W7
theorem C5:(List.map (fun x=>AV.p (PV.v x)) (zB 512))=Ar C4:=by
 simp only[Ar,C4,zB,Bq,List.map_replicate];rfl
theorem A7:C4.length=512:=List.length_replicate ..
def pgI (m:List (Nat×List UInt8))(n i:Nat):List UInt8:=secs m n i++List.replicate (512 - 64*i) 0
theorem A0w (m:List (Nat×List UInt8))(n:Nat):pgI m n 0=C4:=rfl
theorem A0x (m:List (Nat×List UInt8))(n:Nat):pgI m n 8=Bw m n:=by simp[pgI,Bw]
theorem Apy {m:List (Nat×List UInt8)}(h:∀ k,(A6 m k).length=64)(n:Nat){i:Nat}(hi:i≤8):(pgI m n i).length=512:=by simp[pgI,Ii h];omega
theorem Ak8 {m:List (Nat×List UInt8)}(h:∀ k,(A6 m k).length=64)(n:Nat){i:Nat}(hi:i<8):List.take (64*i) (Ar (pgI m n i))++Ar (A6 m (8*n+i))++List.drop (64*i+64) (Ar (pgI m n i))=Ar (pgI m n (i+1)):=by
 simp only[Ar,pgI,Gh,←List.map_take,←List.map_drop,←List.map_append]
 congr 1
 rw[List.take_left' (Ii h n i),List.drop_append,Ii h n i,List.drop_eq_nil_of_le (by rw[Ii h];omega),List.drop_replicate]
 rw[List.nil_append,show 512 - 64*i - (64*i+64 - 64*i)=512 - 64*(i+1) by omega]
theorem Avk {σ:St}{p dd l kh n:Nat}{G:Nat→Prop}{P:Al}(h:Bj σ p dd l kh G P)(hn:n<P.pages):
 Aa Tryz.prog 109 [.mp p 6 0 0,Ad .i64 (n:Nat)] σ fun r σ'=>Ap σ σ'∧r= .tup [A9 (pgz (Bw P.data.now n)),Ad .i64 0]:=by
 obtain⟨hk,Fd,Gl,w,a,h,hG⟩:=h
 have h0:=h.o
 have l0:=Ac h0
 refine Ab Am Ao Tryz.func109 (by kernel_rfl) rfl (nt:=38) (rs:=[.cell 4 151,.tmp 5]) rfl rfl ?_
 repeat' simp only[↓wBA,tPlb,seval,wH]
 refine As (X:={ i:Nat // i≤8 }) (fun i=>8 - i.1) (fun i=>[(10,Ad .i64 (i.1:Nat))]) [5,7,8,9,11,12,13,14,15,16,17,18,19,20,21,22,23,24,25,26,27,28,29,30,31,32,33,34] (fun i s=>Ap σ s∧s[σ.length]? =some (some (.row 512 [Ar C4]))∧s[σ.length+1]? =some (some (.row 512 [Ar (pgI P.data.now n i.1)]))) (⟨0,by omega⟩) ?_ ?_ ?_ ?_
 ·simp only[wHl,wHf]
 ·refine⟨(Ap.app _ _).more _,?_,?_⟩
  ·skip
   simp only[wH,wHe,Nat.reduceLT,C5]
  ·skip
   simp only[wH,wHe,C5,A0w]
 ·rintro _ _ ⟨_,_,hl⟩;have:=Ac hl;simp;omega
 ·intro x J s hI
  simp only[wHl]
  obtain⟨i,hi⟩:=x
  obtain⟨ha,hl,hl2⟩:=hI
  dsimp only at*
  have k0:=ha.get h0
  have q0:=Ac k0
  have l1:=Ac hl
  have l2:=Ac hl2
  have hb:=h.data.big
  unfold Al.pages at hn
  have e64:=Ec Ey
  have pl:=Aq (Apy hk.secs n hi)
  by_cases hlt:i<8
  ·have hdec:decide ((i:Int)<8)=true:=by simp;omega
   have hw1:=wI i (by omega)
   have w1:IntKind.i64.wrap ((n:Int)*8)=((8*n:Nat):Int):=by rw[wrap_i64 (by omega) (by omega)];omega
   have w2:IntKind.i64.wrap (((8*n:Nat):Int)+(i:Int))=((8*n+i:Nat):Int):=by rw[wrap_i64 (by omega) (by omega)];omega
   have w3:IntKind.i64.wrap ((i:Int)*64)=((64*i:Nat):Int):=by rw[wrap_i64 (by omega) (by omega)];omega
   repeat' simp only[↓wBA,tPlb,seval,wHl,k0,hdec,w1,w2]
   refine (An7 (h.data.ap ha) (8*n+i) (by omega) (hk.secs _)).mono ?_
   rintro _ s1 ⟨ha1,rfl⟩
   have k1:=ha1.get hl
   have k2:=ha1.get hl2
   have l3:=Ac k1
   have l4:=Ac k2
   have ha2:=ha.trans ha1
   have q64:=Ec (hk.secs (8*n+i))
   have n0:(σ.length+1=s1.length)=False:=nf (by omega)
   have n1:(s1.length=σ.length+1)=False:=nf (by omega)
   have i64:(((64*i:Nat):Int)<512)=True:=eq_true (by omega)
   have i512:(64*i+(512 - 64*i)≤512)=True:=eq_true (by omega)
   have t64:=Ks (hk.secs (8*n+i))
   have pn:=Ak8 hk.secs n hlt
   have tk:List.take (512 - 64*i) (Ar (A6 P.data.now (8*n+i)))=Ar (A6 P.data.now (8*n+i)):=List.take_of_length_le (by rw[q64];omega)
   repeat' first|simp only[↓wBA,tPlb,seval,Sg,wH,wHl,k1,k2,l3,l4,q64,w3,Bm,Qx,srcC,Bv,A9,hw1,pl,Zu,e64,i64,tk,i512,t64,pn]|(with_reducible refine dQ Sg 5 (some 29) ?_)
   refine⟨⟨i+1,by omega⟩,by show 8 - (i+1)<8 - i;omega,⟨(ha2.set (by omega) _).more _,?_⟩,?_⟩
   ·skip
    simp only[]
   ·simp only[]
  ·have he:i=8:=by omega
   subst he
   rw[A0x]at hl2
   have dl:=Mg hk.secs n
   have pd:=Aq dl
   have b1:=Eh (Bw P.data.now n)
   by_cases hz:Bw P.data.now n=C4
   ·have hg:pgz (Bw P.data.now n)=Fo 0:=if_pos hz
    have dn:=Df 0
    have pz:=Aq dn
    have eB:Lt .eql 512 (Ar (Bw P.data.now n)) (Ar C4)=some (Az true):=by simp[Lt,Eh,A7,hz]
    repeat' first|simp only[↓wBA,tPlb,seval,wH,wHl,hl,hl2,l2,pd,C5,A7,Gb,eB,A9,pz]|((with_reducible show Aa _ _ _ _ _);refine (anew 0 _).eq ?_)
    have hs:=(ha.set (t:=σ.length+1) (by omega) (some (.row 512 [Ar (Fo 0)]))).set (t:=σ.length) (by omega) (some (.row 512 [Ar (Fo 0)]))
    have hlen:=hs.len
    all_goals refine rtS ?_
    all_goals simp only[A1.eq_1,Ak.eq_1,Ak.eq_2,Ax.eq_1,Ax.eq_2,tPlb,seval,wH,l1,pz]
    exact⟨hs,by rw[hg]⟩
   ·have hg:pgz (Bw P.data.now n)=Bw P.data.now n:=if_neg hz
    have eB:Lt .eql 512 (Ar (Bw P.data.now n)) (Ar C4)=some (Az false):=by simp[Lt,Eh,dl,A7,beq_false_of_ne hz]
    repeat' first|simp only[↓wBA,tPlb,seval,wHl,hl,hl2,pd,C5,A7,Gb,eB,A9]|((with_reducible show Aa _ _ _ _ _);refine (anew 0 _).eq ?_)
    have hs:=ha.set (t:=σ.length) (by omega) (some (.row 512 [Ar (Bw P.data.now n)]))
    have hlen:=hs.len
    all_goals refine rtS ?_
    all_goals simp only[A1.eq_1,Ak.eq_1,Ak.eq_2,Ax.eq_1,Ax.eq_2,tPlb,seval,wH,l1,pd]
    exact⟨hs,by rw[hg]⟩
def Sj:Cv:=(.det 0 (.det 1 (.det 2 (.det 3 (.det 4 (.det 5 (.det 6 (.det 7 (.det 8 (.det 9 (.det 10 (.det 11 (.fin 12 (.det 13 .done))))))))))))))
def tPlc:=aa wX <| aa wbu <| aa T3 <| aa T4 <| aa T29 <| aa T32 <| aa T80 <| aa T88 <| aa T137 <| aa W7 T158
theorem Ord.at {σ:St}{V:Nat→Cb}{a:AV}{w:Option Nat}{fs:List Nat}(h:Ord σ V a w fs){f:Nat}(hf:f∈fs):∃ i,fs[i]? =some f∧σ[f]? =some (Gf (V f) i)∧(V f).pg.length=512:=by
 cases h with
 |nil=>simp at hf
 |hp h=>
  obtain⟨i,hi⟩:=getElem?_of_mem hf
  exact⟨i,hi,h.f i f hi,h.pg f hf⟩
theorem Ord.upd {σ s:St}{V:Nat→Cb}{a:AV}{w:Option Nat}{fs:List Nat}(h:Ord σ V a w fs){i f:Nat}(hi:fs[i]? =some f)(v:Cb)(hv:v.pg.length=512)(hs:s[f]? =some (Gf v i))(ho:∀ t,oG w fs t→t≠f→s[t]? =σ[t]?):Ord s (Dl V f v) a w fs:=by
 cases h with
 |nil=>simp at hi
 |hp h=>exact .hp (h.upd hi v hv hs fun t ht hn=>ho t (ht.imp (fun e=>by rw[e]) id) hn)
theorem Ak9 (n:Nat)(pg:List UInt8)(k:Nat):wrW n pg (k+1)=wrW n pg k++[(8*n+k,(pg.drop (64*k)).take 64)]:=by simp[wrW,List.range_succ]
theorem Ah9 (n:Nat)(pg:List UInt8)(k:Nat):(wrW n pg k).length=k:=by simp[wrW]
theorem Ni (V:Nat→Cb){f:Nat}:∀ {fs:List Nat},fs.Nodup→f∈fs→(V f).dirty=true→fs.countP (fun g=>(Dl V f { V f with dirty:=false } g).dirty)+1=fs.countP fun g=>(V g).dirty
 |[],_,h,_=>by simp at h
 |g::fs,hn,h,hd=>by
  rw[List.nodup_cons]at hn
  rw[List.countP_cons,List.countP_cons]
  by_cases e:g=f
  ·subst e
   have:fs.countP (fun x=>(Dl V g { V g with dirty:=false } x).dirty)=fs.countP fun x=>(V x).dirty:=List.countP_congr fun x hx=>by
    have:x≠g:=fun e=>hn.1 (e▸hx)
    simp only[Dl,if_neg this]
   rw[this]
   simp[Dl,hd]
  ·have h':f∈fs:=(List.mem_cons.1 h).elim (fun e'=>absurd e'.symm e) id
   have ih:=Ni V hn.2 h' hd
   have e2:(Dl V f { V f with dirty:=false } g).dirty=(V g).dirty:=by simp only[Dl,if_neg e]
   rw[e2]
   omega
theorem Apz {σ:St}{p dd l kh f:Nat}{G:Nat→Prop}{P:Al}(h:Bj σ p dd l kh G P)(hf:f∈P.fs)(hd:(P.V f).dirty=false):
 Aa Tryz.prog 66 [.mp p 6 0 0,.mp f 516 0 0] σ fun r σ'=>σ'=σ∧r=Ad .i64 0:=by
 obtain⟨hk,Fd,Gl,w,a,h,hG⟩:=h
 have h0:=h.o
 have l0:=Ac h0
 obtain⟨i,hi,f1,p1⟩:=h.ord.at hf
 have q1:=Ac f1
 simp only[Gf,hd]at f1
 refine Ab Am Ao Tryz.func66 (by kernel_rfl) rfl (nt:=54) (rs:=[.tmp 4]) rfl rfl ?_
 repeat' simp only[↓wBA,tPlc,seval,wFr,f1,p1]
 all_goals refine rtS ?_
 all_goals simp only[A1.eq_1,Ak.eq_1,Ak.eq_2,Ax.eq_1,tPlc,seval]
theorem Ap0 {σ:St}{p dd l kh f:Nat}{G:Nat→Prop}{P:Al}(h:Bj σ p dd l kh G P)(hf:f∈P.fs)(hd:(P.V f).dirty=true)(hc:P.ct+1<18446744073709551616)(hw:P.dq+8≤1000000000000):
 Aa Tryz.prog 66 [.mp p 6 0 0,.mp f 516 0 0] σ fun r σ'=>r=Ad .i64 0∧∃ G' P',Fr σ σ' G G'∧Bj σ' p dd l kh G' P'∧Kp P P' 0∧P'.fs=P.fs∧P'.hm=P.hm∧P'.V=Dl P.V f { P.V f with dirty:=false }:=by
 obtain⟨hk,Fd,Gl,w,a,h,hG⟩:=h
 have h0:=h.o
 have l0:=Ac h0
 obtain⟨i,hi,f1,p1⟩:=h.ord.at hf
 have q1:=Ac f1
 have hog:oG w P.fs f:=.inr hf
 have hnf:=hk.fn f hf
 have hb:=h.data.big
 have hbs:(P.V f).n<min (P.data.size / 8) 3840:=hnf
 simp only[Gf,hd]at f1
 generalize hfn:(P.V f).n=n at*
 generalize hfp:(P.V f).pg=pg at*
 generalize hfu:(P.V f).used=us at*
 refine Ab Am Ao Tryz.func66 (by kernel_rfl) rfl (nt:=54) (rs:=[.tmp 4]) rfl rfl ?_
 repeat' simp only[↓wBA,tPlc,seval,wFr,h0,f1,p1]
 have hnd:=h.ord.big.2
 have hcd:=Ni P.V hnd hf hd
 have hwd:P.data.wait.length+8*P.fs.countP (fun f=>(P.V f).dirty)+8≤1000000000000:=hw
 have hw:P.data.wait.length+8≤1000000000000:=by omega
 have hcc:P.log.ctr+min P.log.wait 1+1<18446744073709551616:=hc
 have hc:P.log.ctr+1<18446744073709551616:=by omega
 refine (Apr h.log hc).mono ?_
 rintro _ s1 ⟨rfl,Gl1,L1,hf1,hl1,hst,hwt,hsz,hct,hld⟩
 have k0:=hf1.get h0 h.pl
 have k1:=hf1.get f1 (fun e=>h.ol f hog e)
 have d1:=h.data.frame hf1 (fun t ht hg=>h.dl t ht hg)
 have q2:=Ac k0
 have q3:=Ac k1
 have hle:=hf1.len
 repeat' simp only[↓wBA,tPlc,seval]
 refine As (X:={ i:Nat // i≤8 }) (fun i=>8 - i.1) (fun i=>[(22,Ad .i64 (i.1:Nat))]) [4,6,7,8,23,24,25,26,27,28,29,30,31,32,33,34,35,36,37,38,39,40,41,42,43,44,45,46,47,48,49,50,51,52] (fun i s=>∃ F',Fr s1 s Fd F'∧Bi s dd F' { P.data with now:=wrPg P.data.now n pg i.1,wait:=P.data.wait++wrW n pg i.1 }) (⟨0,by omega⟩) ?_ ?_ ?_ ?_
 ·simp only[wHl,wHf]
 ·exact⟨Fd,Fr.refl _ _,by simpa [wrPg,wrW]using d1⟩
 ·rintro _ _ ⟨_,hf,_⟩;have:=hf.len;omega
 ·intro x J s hI
  simp only[wHl]
  obtain⟨i',hi'⟩:=x
  obtain⟨F',hf2,hd2⟩:=hI
  dsimp only at*
  have j0:=hf2.get k0 h.pd
  have j1:=hf2.get k1 (fun e=>h.od f hog e)
  have r0:=Ac j0
  have r1:=Ac j1
  by_cases hlt:i'<8
  ·have hdec:decide ((i':Int)<8)=true:=by simp;omega
   have hw1:=wI i' (by omega)
   have w0:IntKind.i64.wrap ((n:Int)*8)=((8*n:Nat):Int):=by rw[wrap_i64 (by omega) (by omega)];omega
   have w2:IntKind.i64.wrap (((8*n:Nat):Int)+(i':Int))=((8*n+i':Nat):Int):=by rw[wrap_i64 (by omega) (by omega)];omega
   have w3:IntKind.i64.wrap ((i':Int)*64)=((64*i':Nat):Int):=by rw[wrap_i64 (by omega) (by omega)];omega
   have w4:IntKind.i64.wrap (((i'+1:Nat):Int)*64)=((64*i'+64:Nat):Int):=by rw[wrap_i64 (by omega) (by omega)];omega
   have sl:((pg.drop (64*i')).take 64).length=64:=by simp;omega
   have se:=Ec sl
   have e64:=Ec Ey
   have b1:(((64*i':Nat):Int)<((64*i'+64:Nat):Int))=True:=eq_true (by omega)
   have b2:(((64*i'+64:Nat):Int)≤512)=True:=eq_true (by omega)
   have b3:64*i'+64 - 64*i'=64:=by omega
   have b4:(1+64*i'+64≤516)=True:=eq_true (by omega)
   have b5:(1+(64*i'+64)≤516)=True:=eq_true (by omega)
   have fs:=Apj (n:=n) (u:=us) (a:=i) (f:=true) p1 hlt
   repeat' first|simp only[↓wBA,tPlc,seval,Sj,wH,wHl,wFr,p1,j0,j1,r0,r1,hdec,w0,w2,w3,w4,hw1,Bm,Bv,fs,b1,b2,b3,b5,se,Zu,e64]|(with_reducible refine dQ Sj 14 (some 36) ?_)
   refine (Zv (hd2.app _) (8*n+i') (by show _<P.data.size;omega) _ sl (by simp[Ah9];omega)).mono ?_
   rintro _ s2 ⟨rfl,F3,hf3,hd3⟩
   have hf4:=(hf2.app _).trans hf3
   have m0:=hf4.get k0 h.pd
   have m1:=hf4.get k1 (fun e=>h.od f hog e)
   repeat' simp only[↓wBA,tPlc,seval,wHl,hw1]
   refine⟨⟨i'+1,by omega⟩,by show 8 - (i'+1)<8 - i';omega,⟨F3,hf4,?_⟩,?_⟩
   ·simp only[Ak9,wrPg,←List.append_assoc]
    exact hd3
   ·simp only[]
  ·have he:i'=8:=by omega
   subst he
   repeat' simp only[↓wBA,tPlc,seval,wH,wHl,wFr,p1,j1]
   have hlen:=Nat.le_trans hle hf2.len
   all_goals refine rtS ?_
   all_goals simp only[A1.eq_1,Ak.eq_1,Ak.eq_2,Ax.eq_1,tPlc,seval]
   have hs:∀ t,t≠f→(List.set s f (some (.row 516 [frR (n:Int) pg false us i])))[t]? =s[t]? :=fun t ht=>List.getElem?_set_ne (fun e=>ht e.symm)
   have hk1:∀ t x,σ[t]? =some x→¬ Gl t→¬ Fd t→s[t]? =some x:=fun t x hx h1 h2=>hf2.get (hf1.get hx h1) h2
   have hF2:∀ t,F' t→Fd t∨s1.length≤t:=hf2.own
   have hG1:∀ t,Gl1 t→Gl t∨σ.length≤t:=hf1.own
   have nf':¬ F' f:=fun e=>(hF2 f e).elim (h.od f hog) fun e=>by omega
   have nlf:¬ Gl1 f:=fun e=>(hG1 f e).elim (h.ol f hog) fun e=>by omega
   have lk:=Ac h.has
   have hku:∀ g,(Dl P.V f { P.V f with dirty:=false } g).n=(P.V g).n∧(Dl P.V f { P.V f with dirty:=false } g).pg=(P.V g).pg:=fun g=>by
    unfold Dl
    split
    ·rename_i e;subst e;exact⟨rfl,rfl⟩
    ·exact⟨rfl,rfl⟩
   have hlk:lkM P.hm n=some f:=(hk.keys n f).2 ⟨hf,hfn⟩
   have hne:∀ g∈P.fs,g≠f→(P.V g).n≠n:=fun g hg hn e=>hn (by
    have:=(hk.keys n g).2 ⟨hg,e⟩
    rw[hlk]at this;simpa using this.symm)
   have hln:∀ t,oG w P.fs t→t<σ.length:=h.ord.lt
   refine⟨fun t=>t=p∨t=kh∨F' t∨Gl1 t∨oG w P.fs t,{ P with data:={ P.data with now:=wrPg P.data.now n pg 8,wait:=P.data.wait++wrW n pg 8 },log:=L1,V:=Dl P.V f { P.V f with dirty:=false } },?_,⟨⟨fun m g=> ?_,hk.kn,hk.m1,hk.mb,hk.len,fun g hg=> ?_,fun g hg=> ?_,fun g hg hd'=> ?_,fun k=> ?_,hk.size⟩,F',Gl1,w,a,⟨?_,?_,?_,?_,?_,fun t h1 h2=> ?_,fun t h1 h2=> ?_,fun t h1 h2=> ?_,?_,?_,?_,?_⟩,fun t=>Iff.rfl⟩,⟨rfl,rfl,hsz,hld,hst,by show L1.wait≤_;omega,by show L1.ctr+min L1.wait 1≤P.log.ctr+min P.log.wait 1+0;omega,by show (P.data.wait++wrW n pg 8).length+8*P.fs.countP (fun g=>(Dl P.V f { P.V f with dirty:=false } g).dirty)≤P.data.wait.length+8*P.fs.countP (fun g=>(P.V g).dirty)+8*0;have hcd':P.fs.countP (fun g=>(Dl P.V f { P.V f with dirty:=false } g).dirty)+1=P.fs.countP (fun g=>(P.V g).dirty):=hcd;rw[List.length_append,Ah9];omega,fun m=> ?_,rfl⟩,rfl,rfl,rfl⟩
   ·have e1:Fr σ s1 G (fun t=>t=p∨t=kh∨Fd t∨Gl1 t∨oG w P.fs t):=hf1.sub (fun t ht=>(hG t).2 (.inr (.inr (.inr (.inl ht))))) fun t ht=>by
     rw[hG t]
     rcases ht with h1|h1|h1|h1|h1
     ·exact .inl (.inl h1)
     ·exact .inl (.inr (.inl h1))
     ·exact .inl (.inr (.inr (.inl h1)))
     ·exact (hG1 t h1).imp (fun e=>.inr (.inr (.inr (.inl e)))) id
     ·exact .inl (.inr (.inr (.inr (.inr h1))))
    have e2:Fr s1 s (fun t=>t=p∨t=kh∨Fd t∨Gl1 t∨oG w P.fs t) (fun t=>t=p∨t=kh∨F' t∨Gl1 t∨oG w P.fs t):=hf2.sub (fun t ht=>.inr (.inr (.inl ht))) fun t ht=>by
     rcases ht with h1|h1|h1|h1|h1
     ·exact .inl (.inl h1)
     ·exact .inl (.inr (.inl h1))
     ·exact (hF2 t h1).imp (fun e=>.inr (.inr (.inl e))) id
     ·exact .inl (.inr (.inr (.inr (.inl h1))))
     ·exact .inl (.inr (.inr (.inr (.inr h1))))
    exact (e1.trans e2).set _ ((hG f).2 (.inr (.inr (.inr (.inr hog)))))
   ·show lkM P.hm m=some g↔g∈P.fs∧_
    rw[(hku g).1];exact hk.keys m g
   ·show (Dl P.V f { P.V f with dirty:=false } g).n<_
    rw[(hku g).1];exact hk.fn g hg
   ·show pgz (Dl P.V f { P.V f with dirty:=false } g).pg=(Dl P.V f { P.V f with dirty:=false } g).pg
    rw[(hku g).2];exact hk.nz g hg
   ·show pgz (Bw (wrPg P.data.now n pg 8) (Dl P.V f { P.V f with dirty:=false } g).n)=(Dl P.V f { P.V f with dirty:=false } g).pg
    rw[(hku g).1,(hku g).2]
    by_cases e:g=f
    ·subst e
     rw[hfn,hfp,Apw p1]
     have:=hk.nz g hf
     rwa [hfp]at this
    ·rw[Ab0 _ _ _ _ (hne g hg e)]
     refine hk.cl g hg ?_
     have:(Dl P.V f { P.V f with dirty:=false } g).dirty=false:=hd'
     simpa only[Dl,if_neg e]using this
   ·show (A6 (wrPg P.data.now n pg 8) k).length=64
    rw[Abz]
    split
    ·simp;omega
    ·exact hk.secs k
   ·rw[hs p (A0 h0 f1 (by simp))];exact j0
   ·exact hd2.same fun t ht=>hs t fun e=>nf' (e▸ht)
   ·refine (hl1.frame hf2 fun t h1 h2=> ?_).same fun t ht=>hs t fun e=>nlf (e▸ht)
    exact (hG1 t h1).elim (h.dl t h2) fun e=>Nat.lt_irrefl _ (Nat.lt_of_lt_of_le (h.data.lt t h2) e)
   ·refine h.ord.upd hi _ (by show (P.V f).pg.length=512;rw[hfp];exact p1) ?_ fun t h1 h2=> ?_
    ·simp only[Gf,hfn,hfp,hfu];simp[r1]
    ·rw[hs t h2]
     have hx:σ[t]? =some (σ[t]'(hln t h1)):=by simp[hln t h1]
     rw[hk1 t _ hx (h.ol t h1) (h.od t h1),hx]
   ·rw[hs kh (A0 h.has f1 (by simp))];exact hk1 kh _ h.has h.kl h.kd
   ·rcases hF2 t h1 with e|e
    ·exact (hG1 t h2).elim (h.dl t e) fun e'=>Nat.lt_irrefl _ (Nat.lt_of_lt_of_le (h.data.lt t e) e')
    ·exact Nat.lt_irrefl _ (Nat.lt_of_lt_of_le (hl1.lt t h2) e)
   ·exact (hF2 t h2).elim (h.od t h1) fun e=>Nat.lt_irrefl _ (Nat.lt_of_lt_of_le (hln t h1) (Nat.le_trans hle e))
   ·exact (hG1 t h2).elim (h.ol t h1) fun e=>Nat.lt_irrefl _ (Nat.lt_of_lt_of_le (hln t h1) e)
   ·exact fun e=>(hF2 p e).elim h.pd fun e=>by omega
   ·exact fun e=>(hG1 p e).elim h.pl fun e=>by omega
   ·exact fun e=>(hF2 kh e).elim h.kd fun e=>by omega
   ·exact fun e=>(hG1 kh e).elim h.kl fun e=>by omega
   ·unfold Al.view
    show (match lkM P.hm m with|some g=>(Dl P.V f { P.V f with dirty:=false } g).pg|none=>pgz (Bw (wrPg P.data.now n pg 8) m))=_
    cases hm:lkM P.hm m with
    |some g=>exact (hku g).2
    |none=>
     have:m≠n:=fun e=>by rw[e,hlk]at hm;cases hm
     simp only[Ab0 _ _ _ _ this]
end Go.Proofs.YtpoigihfeehehaaGreatDoor
