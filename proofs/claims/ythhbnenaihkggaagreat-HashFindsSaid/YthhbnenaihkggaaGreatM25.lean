/- Pools: what they are in a state. Pools: Pages, touch, fetch. Pools: fetch. Pools: clean. -/
import Derived.Test.YthhbnenaihkggaaGreatM24
set_option linter.unusedSimpArgs false
set_option linter.unusedVariables false
set_option linter.defProp false
set_option maxRecDepth 100000
set_option maxHeartbeats 32000000
namespace Go.Proofs.YthhbnenaihkggaaGreat
open Go.RowKit
open List (getElem?_of_mem length_append length_set map_cons)
def delM {β:Type}:List (Nat×β)→Nat→List (Nat×β)
 |[],_=>[]
 |(j,x)::m,k=>if j=k then m else (j,x)::delM m k
theorem ix_del {β:Type}(f:β→AV)(k:Nat):∀ (m:List (Nat×β)) (i:Nat),(ixM m k i=none→delM m k=m)∧∀ j x,ixM m k i=some (j,x)→i≤j∧(encM f m).eraseIdx (j - i)=encM f (delM m k)
 |[],i=>⟨fun _=>rfl,fun j x h=>by simp[ixM]at h⟩
 |(q,z)::m,i=>by
  obtain⟨h1,h2⟩:=ix_del f k m (i+1)
  by_cases e:q=k
  ·subst e
   refine⟨fun h=>by simp[ixM]at h,fun j x h=> ?_⟩
   simp only[ixM,if_true,Option.some.injEq,Prod.mk.injEq]at h
   obtain⟨rfl,rfl⟩:=h
   simp[encM,delM]
  ·refine⟨fun h=> ?_,fun j x h=> ?_⟩
   ·simp only[ixM,if_neg e]at h
    simp only[delM,if_neg e,h1 h]
   ·simp only[ixM,if_neg e]at h
    obtain⟨h3,h4⟩:=h2 j x h
    refine⟨by omega,?_⟩
    rw[show j - i=(j - (i+1))+1 by omega]
    simp only[encM,delM,if_neg e,map_cons,List.eraseIdx_cons_succ]at h4 ⊢
    rw[h4]
theorem del_enc {β:Type}(f:β→AV)(m:List (Nat×β))(k:Nat):delK (.int .i64) (.int .i64 (k:Int)) (encM f m)=some (encM f (delM m k)):=by
 unfold delK
 rw[if_pos (by simp[keyOk]),find_enc]
 obtain⟨h1,h2⟩:=ix_del f k m 0
 cases hl:ixM m k 0 with
 |none=>simp[h1 hl]
 |some q=>
  obtain⟨j,x⟩:=q
  simpa using (h2 j x hl).2
theorem mem_lk {β:Type}(k:Nat):∀ m:List (Nat×β),k∉m.map Prod.fst→lkM m k=none
 |[],h=>rfl
 |(j,x)::m,h=>by
  simp at h
  have:¬ j=k:=fun e=>h.1 e.symm
  simp only[lkM,if_neg this]
  exact mem_lk k m (by simpa using h.2)
theorem lk_delM {β:Type}(k i:Nat):∀ m:List (Nat×β),(m.map Prod.fst).Nodup→lkM (delM m k) i=if i=k then none else lkM m i
 |[],_=>by simp[delM,lkM]
 |(j,x)::m,h=>by
  simp only[map_cons,List.nodup_cons]at h
  simp only[delM]
  by_cases e:j=k
  ·subst e
   simp only[if_true,lkM]
   by_cases h2:i=j
   ·subst h2;simp[mem_lk _ m h.1]
   ·have:¬ j=i:=fun e=>h2 e.symm
    simp[h2,this]
  ·simp only[if_neg e,lkM,lk_delM k i m h.2]
   by_cases h2:j=i
   ·subst h2;simp[e]
   ·simp[h2]
theorem keys_set {β:Type}(k:Nat)(y:β):∀ m:List (Nat×β),(setM m k y).map Prod.fst=if k∈m.map Prod.fst then m.map Prod.fst else m.map Prod.fst++[k]
 |[]=>by simp[setM]
 |(j,x)::m=>by
  simp only[setM]
  by_cases e:j=k
  ·subst e;simp
  ·have e':¬ k=j:=fun h=>e h.symm
   simp only[if_neg e,map_cons,keys_set k y m,List.mem_cons,e',false_or]
   split<;>simp
theorem nodup_set {β:Type}(k:Nat)(y:β)(m:List (Nat×β))(h:(m.map Prod.fst).Nodup):((setM m k y).map Prod.fst).Nodup:=by
 rw[keys_set]
 split
 ·exact h
 ·rename_i hk
  exact List.nodup_append.2 ⟨h,by simp,fun a ha b hb e=>by simp at hb;subst hb;subst e;exact hk ha⟩
theorem keys_del {β:Type}(k:Nat):∀ m:List (Nat×β),((delM m k).map Prod.fst).Sublist (m.map Prod.fst)
 |[]=>List.Sublist.refl _
 |(j,x)::m=>by
  simp only[delM]
  split
  ·simp
  ·simpa using keys_del k m
theorem nodup_del {β:Type}(k:Nat)(m:List (Nat×β))(h:(m.map Prod.fst).Nodup):((delM m k).map Prod.fst).Nodup:=h.sublist (keys_del k m)
def secs (m:List (Nat×List UInt8))(n k:Nat):List UInt8:=(List.range k).flatMap fun i=>secAt m (8*n+i)
theorem secs_succ (m:List (Nat×List UInt8))(n k:Nat):secs m n (k+1)=secs m n k++secAt m (8*n+k):=by simp[secs,List.range_succ]
theorem secs_len {m:List (Nat×List UInt8)}(h:∀ k,(secAt m k).length=64)(n:Nat):∀ k,(secs m n k).length=64*k
 |0=>rfl
 |k+1=>by rw[secs_succ,length_append,secs_len h n k,h];omega
def diskPg (m:List (Nat×List UInt8))(n:Nat):List UInt8:=secs m n 8
theorem diskPg_len {m:List (Nat×List UInt8)}(h:∀ k,(secAt m k).length=64)(n:Nat):(diskPg m n).length=512:=secs_len h n 8
def zero512:List UInt8:=List.replicate 512 0
def pgz (l:List UInt8):List UInt8:=if l=zero512 then newL 0 else l
theorem pgz_len {l:List UInt8}(h:l.length=512):(pgz l).length=512:=by
 unfold pgz
 split
 ·exact length_newL 0
 ·exact h
def wrPg (m:List (Nat×List UInt8))(n:Nat)(pg:List UInt8):Nat→List (Nat×List UInt8)
 |0=>m
 |k+1=>setM (wrPg m n pg k) (8*n+k) ((pg.drop (64*k)).take 64)
def wrW (n:Nat)(pg:List UInt8)(k:Nat):List (Nat×List UInt8):=(List.range k).map fun i=>(8*n+i,(pg.drop (64*i)).take 64)
theorem sec_wr (m:List (Nat×List UInt8))(n:Nat)(pg:List UInt8)(j:Nat):∀ k,secAt (wrPg m n pg k) j=if 8*n≤j∧j<8*n+k then (pg.drop (64*(j - 8*n))).take 64 else secAt m j
 |0=>by rw[if_neg (by omega)];rfl
 |k+1=>by
  rw[wrPg,secAt_set,sec_wr m n pg j k]
  by_cases h:j=8*n+k
  ·subst h
   rw[if_pos rfl,if_pos (by omega)]
   congr 3;omega
  ·rw[if_neg h]
   by_cases h2:8*n≤j∧j<8*n+k
   ·rw[if_pos h2,if_pos (by omega)]
   ·rw[if_neg h2,if_neg (by omega)]
theorem secs_pg {pg:List UInt8}(h:pg.length=512)(m:List (Nat×List UInt8))(n:Nat)(hm:∀ i,i<8→secAt m (8*n+i)=(pg.drop (64*i)).take 64):∀ k,k≤8→secs m n k=pg.take (64*k)
 |0,_=>rfl
 |k+1,hk=>by
  rw[secs_succ,secs_pg h m n hm k (by omega),hm k (by omega),show 64*(k+1)=64*k+64 by omega,List.take_add]
theorem disk_wr {pg:List UInt8}(h:pg.length=512)(m:List (Nat×List UInt8))(n:Nat):diskPg (wrPg m n pg 8) n=pg:=by
 unfold diskPg
 rw[secs_pg h _ n (fun i hi=> ?_) 8 (Nat.le_refl _)]
 ·exact List.take_of_length_le (by omega)
 ·rw[sec_wr,if_pos (by omega)];congr 3;omega
theorem secs_congr (m m':List (Nat×List UInt8))(n:Nat):∀ k,(∀ i,i<k→secAt m (8*n+i)=secAt m' (8*n+i))→secs m n k=secs m' n k
 |0,_=>rfl
 |k+1,h=>by rw[secs_succ,secs_succ,secs_congr m m' n k (fun i hi=>h i (by omega)),h k (by omega)]
theorem disk_wr' (m:List (Nat×List UInt8))(n n':Nat)(pg:List UInt8)(hn:n'≠n):diskPg (wrPg m n pg 8) n'=diskPg m n':=by
 refine secs_congr _ _ _ 8 fun i hi=> ?_
 rw[sec_wr,if_neg (by omega)]
structure PoolV where
 data:DiskV
 log:LogV
 most:Nat
 tick:Int
 fs:List Nat
 V:Nat→FrameV
 hm:List (Nat×Nat)
def PoolV.pages (P:PoolV):Nat:=min (P.data.size / 8) 3840
def PoolV.view (P:PoolV)(n:Nat):List UInt8:=match lkM P.hm n with
 |some f=>(P.V f).pg
 |none=>pgz (diskPg P.data.now n)
structure PoolH (σ:St)(p dd l kh:Nat)(Fd Gl:Nat→Prop)(w:Option Nat)(a:AV)(P:PoolV):Prop where
 o:σ[p]? =some (some (.row 6 [[.mp dd 6 0 0,.mp l 5 0 0,intV .i64 (P.most:Nat),a,.mmap kh,intV .i64 P.tick]]))
 data:DiskAt σ dd Fd P.data
 log:LogAt σ l Gl P.log
 ord:Ord σ P.V a w P.fs
 has:σ[kh]? =some (some (.map (encM (fun f=>.mp f 516 0 0) P.hm)))
 dl:∀ t,Fd t→Gl t→False
 od:∀ t,oG w P.fs t→Fd t→False
 ol:∀ t,oG w P.fs t→Gl t→False
 pd:¬ Fd p
 pl:¬ Gl p
 kd:¬ Fd kh
 kl:¬ Gl kh
structure PoolOk (P:PoolV):Prop where
 keys:∀ n f,lkM P.hm n=some f↔f∈P.fs∧(P.V f).n=n
 kn:(P.hm.map Prod.fst).Nodup
 m1:1≤P.most
 mb:P.most≤100000
 len:P.fs.length≤P.most
 fn:∀ f∈P.fs,(P.V f).n<P.pages
 nz:∀ f∈P.fs,pgz (P.V f).pg=(P.V f).pg
 cl:∀ f∈P.fs,(P.V f).dirty=false→pgz (diskPg P.data.now (P.V f).n)=(P.V f).pg
 secs:∀ k,(secAt P.data.now k).length=64
 size:16≤P.data.size
def PoolIs (σ:St)(p dd l kh:Nat)(G:Nat→Prop)(P:PoolV):Prop:=PoolOk P∧∃ Fd Gl w a,PoolH σ p dd l kh Fd Gl w a P∧∀ t,G t↔(t=p∨t=kh∨Fd t∨Gl t∨oG w P.fs t)
theorem Ord.big {σ:St}{V:Nat→FrameV}{a:AV}{w:Option Nat}{fs:List Nat}(h:Ord σ V a w fs):(∀ f∈fs,(V f).pg.length=512)∧fs.Nodup:=by
 cases h with
 |nil=>exact⟨by simp,by simp⟩
 |hp h=>exact⟨h.pg,h.nd⟩
theorem Ord.same {σ s:St}{V:Nat→FrameV}{a:AV}{w:Option Nat}{fs:List Nat}(h:Ord σ V a w fs)(hs:∀ t,oG w fs t→s[t]? =σ[t]?):Ord s V a w fs:=by
 cases h with
 |nil=>exact .nil
 |hp h=>exact .hp (h.same fun t ht=>hs t (ht.imp (fun e=>by rw[e]) id))
theorem Ord.lt {σ:St}{V:Nat→FrameV}{a:AV}{w:Option Nat}{fs:List Nat}(h:Ord σ V a w fs):∀ t,oG w fs t→t<σ.length:=by
 cases h with
 |nil=>intro t ht;rcases ht with ht|ht<;>simp at ht
 |hp h=>
  intro t ht
  rcases ht with ht|ht
  ·simp only[Option.some.injEq]at ht;subst ht
   obtain⟨ls,ho,_⟩:=h.o
   exact at_lt ho
  ·obtain⟨i,hi⟩:=getElem?_of_mem ht
   exact at_lt (h.f _ _ hi)
theorem Ord.not {σ:St}{V:Nat→FrameV}{a:AV}{w:Option Nat}{fs:List Nat}(h:Ord σ V a w fs){t:Nat}{x:Option Ob}(ht:σ[t]? =some x)(h1:∀ ls,x≠some (.row 1 ls))(h2:∀ c,x≠some (.row 516 c)):¬ oG w fs t:=by
 cases h with
 |nil=>intro e;rcases e with e|e<;>simp at e
 |hp h=>
  rintro (e|e)
  ·simp only[Option.some.injEq]at e;subst e
   obtain⟨ls,ho,_⟩:=h.o
   rw[ho]at ht;simp only[Option.some.injEq]at ht;exact h1 _ ht.symm
  ·obtain⟨i,hi⟩:=getElem?_of_mem e
   have:=h.f _ _ hi
   rw[this]at ht;simp only[Option.some.injEq]at ht;exact h2 _ ht.symm
theorem PoolH.np {σ:St}{p dd l kh:Nat}{Fd Gl:Nat→Prop}{w:Option Nat}{a:AV}{P:PoolV}(h:PoolH σ p dd l kh Fd Gl w a P):¬ oG w P.fs p:=h.ord.not h.o (by simp) (by simp)
theorem PoolH.nk {σ:St}{p dd l kh:Nat}{Fd Gl:Nat→Prop}{w:Option Nat}{a:AV}{P:PoolV}(h:PoolH σ p dd l kh Fd Gl w a P):¬ oG w P.fs kh:=h.ord.not h.has (by simp) (by simp)
theorem PoolH.pk {σ:St}{p dd l kh:Nat}{Fd Gl:Nat→Prop}{w:Option Nat}{a:AV}{P:PoolV}(h:PoolH σ p dd l kh Fd Gl w a P):p≠kh:=ne_of_ob h.o h.has (by simp)
theorem PoolIs.lt {σ:St}{p dd l kh:Nat}{G:Nat→Prop}{P:PoolV}(h:PoolIs σ p dd l kh G P):∀ t,G t→t<σ.length:=by
 obtain⟨_,Fd,Gl,w,a,h,hG⟩:=h
 intro t ht
 rcases (hG t).1 ht with rfl|rfl|ht|ht|ht
 ·exact at_lt h.o
 ·exact at_lt h.has
 ·exact h.data.lt t ht
 ·exact h.log.lt t ht
 ·exact h.ord.lt t ht
theorem PoolIs.same {σ s:St}{p dd l kh:Nat}{G:Nat→Prop}{P:PoolV}(h:PoolIs σ p dd l kh G P)(hs:∀ t,G t→s[t]? =σ[t]?):PoolIs s p dd l kh G P:=by
 obtain⟨hk,Fd,Gl,w,a,h,hG⟩:=h
 exact⟨hk,Fd,Gl,w,a,⟨by rw[hs p ((hG p).2 (.inl rfl))];exact h.o,h.data.same fun t ht=>hs t ((hG t).2 (.inr (.inr (.inl ht)))),h.log.same fun t ht=>hs t ((hG t).2 (.inr (.inr (.inr (.inl ht))))),h.ord.same fun t ht=>hs t ((hG t).2 (.inr (.inr (.inr (.inr ht))))),by rw[hs kh ((hG kh).2 (.inr (.inl rfl)))];exact h.has,h.dl,h.od,h.ol,h.pd,h.pl,h.kd,h.kl⟩,hG⟩
theorem PoolIs.frame {σ s:St}{p dd l kh:Nat}{G K K':Nat→Prop}{P:PoolV}(h:PoolIs σ p dd l kh G P)(hf:Fr σ s K K')(hd:∀ t,G t→K t→False):PoolIs s p dd l kh G P:=
 h.same fun t ht=>hf.keep t (h.lt t ht) fun hg=>hd t ht hg
theorem PoolIs.ap {σ s:St}{p dd l kh:Nat}{G:Nat→Prop}{P:PoolV}(h:PoolIs σ p dd l kh G P)(hs:Ap σ s):PoolIs s p dd l kh G P:=by
 obtain⟨τ,rfl⟩:=hs
 exact h.same fun t ht=>List.getElem?_append_left (h.lt t ht)
theorem PoolIs.root {σ:St}{p dd l kh:Nat}{G:Nat→Prop}{P:PoolV}(h:PoolIs σ p dd l kh G P):G p:=by
 obtain⟨_,Fd,Gl,w,a,h,hG⟩:=h
 exact (hG p).2 (.inl rfl)
def PoolV.dirt (P:PoolV):Nat:=P.fs.countP fun f=>(P.V f).dirty
def PoolV.ct (P:PoolV):Nat:=P.log.ctr+min P.log.wait 1
def PoolV.dq (P:PoolV):Nat:=P.data.wait.length+8*P.dirt
theorem dirt_eq {P P':PoolV}(hp:P'.fs.Perm P.fs)(hV:∀ g∈P.fs,(P'.V g).dirty=(P.V g).dirty):P'.dirt=P.dirt:=by
 unfold PoolV.dirt
 rw[hp.countP_eq]
 exact List.countP_congr fun g hg=>by rw[hV g hg]
theorem dq_le {P P':PoolV}(hw:P'.data.wait=P.data.wait)(hp:P'.fs.Perm P.fs)(hV:∀ g∈P.fs,(P'.V g).dirty=(P.V g).dirty)(k:Nat):P'.dq≤P.dq+k:=by
 unfold PoolV.dq
 rw[hw,dirt_eq hp hV];omega
theorem ct_le {P P':PoolV}(hl:P'.log=P.log)(k:Nat):P'.ct≤P.ct+k:=by unfold PoolV.ct;rw[hl];omega
theorem ct_ge (P:PoolV):P.log.ctr≤P.ct:=Nat.le_add_right _ _
theorem dq_ge (P:PoolV):P.data.wait.length≤P.dq:=Nat.le_add_right _ _
structure Kp (P P':PoolV)(k:Nat):Prop where
 size:P'.data.size=P.data.size
 most:P'.most=P.most
 ls:P'.log.disk.size=P.log.disk.size
 ld:P'.log.d=P.log.d
 str:P'.log.str=P.log.str
 wait:P'.log.wait≤P.log.wait
 ctr:P'.ct≤P.ct+k
 dw:P'.dq≤P.dq+8*k
 view:∀ n,P'.view n=P.view n
 kept:P'.data.kept=P.data.kept:=by rfl
theorem Kp.refl (P:PoolV)(k:Nat):Kp P P k:=⟨rfl,rfl,rfl,rfl,rfl,Nat.le_refl _,by omega,by omega,fun _=>rfl,rfl⟩
theorem Kp.trans {P P' P'':PoolV}{k k':Nat}(h:Kp P P' k)(h':Kp P' P'' k'):Kp P P'' (k+k'):=
 ⟨h'.size.trans h.size,h'.most.trans h.most,h'.ls.trans h.ls,h'.ld.trans h.ld,h'.str.trans h.str,Nat.le_trans h'.wait h.wait,by have:=h.ctr;have:=h'.ctr;omega,by have:=h.dw;have:=h'.dw;omega,fun n=>(h'.view n).trans (h.view n),h'.kept.trans h.kept⟩
theorem Kp.pages {P P':PoolV}{k:Nat}(h:Kp P P' k):P'.pages=P.pages:=by unfold PoolV.pages;rw[h.size]
def pl102_2Pla:Plan:=(.det 0 (.det 1 (.det 2 (.det 4 (.det 5 (.det 6 (.det 7 (.act 3 (.fin 8 .done)))))))))
def tPla:=aa wX <| aa wbu <| aa T3 <| aa T36 <| aa T39 <| aa T86 <| aa T143 T179
theorem Fr.sub {σ s:St}{K K' G G':Nat→Prop}(h:Fr σ s K K')(hG:∀ t,K t→G t)(hG':∀ t,G' t→G t∨σ.length≤t):Fr σ s G G':=⟨h.len,fun t ht hn=>h.keep t ht fun hk=>hn (hG t hk),hG'⟩
theorem DiskAt.big {σ:St}{d:Nat}{F:Nat→Prop}{D:DiskV}(h:DiskAt σ d F D):D.size≤65536:=by
 obtain⟨kn,kk,w,a,es,h,hF⟩:=h
 exact h.big
theorem apagesIs {σ:St}{p dd l kh:Nat}{G:Nat→Prop}{P:PoolV}(h:PoolIs σ p dd l kh G P):ACalls Tryz.prog 36 [.mp p 6 0 0] σ fun r σ'=>σ'=σ∧r=intV .i64 (P.pages:Nat):=by
 obtain⟨_,Fd,Gl,w,a,h,hG⟩:=h
 have h0:=h.o
 have l0:=at_lt h0
 have hb:=h.data.big
 have e1:IntKind.i64.wrap ((P.data.size:Int).tdiv 8)=((P.data.size / 8:Nat):Int):=by
  rw[Int.tdiv_eq_ediv_of_nonneg (by omega),wrap_i64 (by omega) (by omega)];omega
 refine acalls_of cx_ok dr_ok Tryz.func36 (by kernel_rfl) rfl (nt:=11) (rs:=[.tmp 2]) rfl rfl ?_
 repeat' first|((with_reducible first|apply cs|apply ws)<;>intro h<;>try simp only[h])|simp only[↓wBA,tPla,convA,seval,wH,h0,l0,e1]|((with_reducible show ACalls _ _ _ _ _);refine (adsize h.data).eq ?_)
 all_goals refine ret_st ?_ (by first|exact Nat.le_refl _|(simp only[length_set,length_append];omega)|omega)
 all_goals simp only[resA.eq_1,resL.eq_1,resL.eq_2,resV.eq_1,resV.eq_2,↓wBA,tPla,convA,seval,wH,PoolV.pages]
 congr 3
 split<;>omega
def updV (V:Nat→FrameV)(f:Nat)(v:FrameV)(g:Nat):FrameV:=if g=f then v else V g
theorem HpIn.upd {σ s:St}{o i f:Nat}{fs:List Nat}{V:Nat→FrameV}(h:HpIn σ o fs V)(hi:fs[i]? =some f)(v:FrameV)(hv:v.pg.length=512)(hs:s[f]? =some (frOb v i))(ho:∀ t,oF o fs t→t≠f→s[t]? =σ[t]?):HpIn s o fs (updV V f v):=by
 obtain⟨ls,h1,h2,h3⟩:=h.o
 have hf:=h.f i f hi
 refine⟨⟨ls,by rw[ho o (.inl rfl) (ne_of_ob h1 hf (by simp[frOb]))];exact h1,h2,h3⟩,fun j g hj=> ?_,h.nd,fun g hg=> ?_,h.big⟩
 ·by_cases e:g=f
  ·subst e
   have:i=j:=(List.getElem?_inj (List.getElem?_eq_some_iff.1 hi).1 h.nd).1 (hi.trans hj.symm)
   subst this
   simp only[updV,if_true];exact hs
  ·simp only[updV,if_neg e]
   rw[ho g (.inr (List.mem_of_getElem? hj)) e]
   exact h.f j g hj
 ·unfold updV
  split
  ·exact hv
  ·exact h.pg g hg
theorem PoolH.re {σ s:St}{p dd l kh:Nat}{Fd Gl:Nat→Prop}{w w':Option Nat}{a a':AV}{P P':PoolV}(h:PoolH σ p dd l kh Fd Gl w a P)
 (ho:s[p]? =some (some (.row 6 [[.mp dd 6 0 0,.mp l 5 0 0,intV .i64 (P'.most:Nat),a',.mmap kh,intV .i64 P'.tick]]))) (hd:P'.data=P.data) (hl:P'.log=P.log) (hm:s[kh]? =some (some (.map (encM (fun f=>.mp f 516 0 0) P'.hm)))) (hs:∀ t,Fd t∨Gl t→s[t]? =σ[t]?)
 (hord:Ord s P'.V a' w' P'.fs) (hw:∀ t,oG w' P'.fs t→¬ Fd t∧¬ Gl t):PoolH s p dd l kh Fd Gl w' a' P':=by
 refine⟨ho,by rw[hd];exact h.data.same fun t ht=>hs t (.inl ht),by rw[hl];exact h.log.same fun t ht=>hs t (.inr ht),hord,hm,h.dl,fun t ht hF=> ?_,fun t ht hF=> ?_,h.pd,h.pl,h.kd,h.kl⟩
 ·exact (hw t ht).1 hF
 ·exact (hw t ht).2 hF
theorem PoolH.no {σ:St}{p dd l kh:Nat}{Fd Gl:Nat→Prop}{w:Option Nat}{a:AV}{P:PoolV}(h:PoolH σ p dd l kh Fd Gl w a P){t:Nat}(ht:oG w P.fs t∨σ.length≤t):¬ Fd t∧¬ Gl t:=
 ⟨fun hF=>ht.elim (fun e=>h.od t e hF) fun e=>Nat.lt_irrefl _ (Nat.lt_of_lt_of_le (h.data.lt t hF) e),fun hF=>ht.elim (fun e=>h.ol t e hF) fun e=>Nat.lt_irrefl _ (Nat.lt_of_lt_of_le (h.log.lt t hF) e)⟩
theorem PoolOk.re {P P':PoolV}(h:PoolOk P)(hm:P'.hm=P.hm)(hd:P'.data=P.data)(ho:P'.most=P.most)(hl:P'.log=P.log)(hf:∀ g,g∈P'.fs↔g∈P.fs)(hn:P'.fs.length≤P.most)(hV:∀ g,(P'.V g).n=(P.V g).n∧(P'.V g).pg=(P.V g).pg∧(P'.V g).dirty=(P.V g).dirty):PoolOk P':=by
 have hp:P'.pages=P.pages:=by unfold PoolV.pages;rw[hd]
 refine⟨fun n f=> ?_,by rw[hm];exact h.kn,by rw[ho];exact h.m1,by rw[ho];exact h.mb,by rw[ho];exact hn,fun f hg=> ?_,fun f hg=> ?_,fun f hg=> ?_,by rw[hd];exact h.secs,by rw[hd];exact h.size⟩
 ·rw[hm,h.keys,hf,(hV f).1]
 ·rw[(hV f).1,hp];exact h.fn f ((hf f).1 hg)
 ·rw[(hV f).2.1];exact h.nz f ((hf f).1 hg)
 ·rw[(hV f).2.1,(hV f).1,(hV f).2.2,hd];exact h.cl f ((hf f).1 hg)
theorem atouch {σ:St}{p dd l kh f:Nat}{G:Nat→Prop}{P:PoolV}(h:PoolIs σ p dd l kh G P)(hf:f∈P.fs):
 ACalls Tryz.prog 102 [.mp p 6 0 0,.mp f 516 0 0] σ fun r σ'=>r= .tup []∧∃ G' P',Fr σ σ' G G'∧PoolIs σ' p dd l kh G' P'∧Kp P P' 0∧P'.hm=P.hm:=by
 obtain⟨hk,Fd,Gl,w,a,h,hG⟩:=h
 have h0:=h.o
 have l0:=at_lt h0
 have hord:=h.ord
 have hnp:=h.np
 obtain⟨i,hi⟩:=getElem?_of_mem hf
 generalize hV:P.V=V at*
 generalize hfs:P.fs=fs at*
 cases hord with
 |nil=>simp at hi
 |hp hh=>
  rename_i o
  have f1:=hh.f i f hi
  have q1:=at_lt f1
  have p1:=hh.pg f (List.mem_of_getElem? hi)
  have n1:(p=f)=False:=nf (ne_of_ob h0 f1 (by simp[frOb]))
  have n2:(f=p)=False:=nf (ne_of_ob f1 h0 (by simp[frOb]))
  simp only[frOb]at f1
  refine acalls_of cx_ok dr_ok Tryz.func102 (by kernel_rfl) rfl (nt:=25) (rs:=[]) rfl rfl ?_
  repeat' first|((with_reducible first|apply cs|apply ws|apply wd|apply wu)<;>intro h<;>try simp only[h])|simp only[↓wBA,tPla,convA,seval,pl102_2Pla,wH,wFr,h0,l0,f1,q1,n1,n2,p1]|(with_reducible refine dQ pl102_2Pla 9 (some 18) ?_)
  generalize IntKind.i64.wrap (P.tick+1)=tk
  refine ACalls.gen (fun s=>s[p]? =some (some (.row 6 [[.mp dd 6 0 0,.mp l 5 0 0,intV .i64 (P.most:Nat),.ms o 1 0 fs.length,.mmap kh,intV .i64 tk]]))∧s[f]? =some (frOb { V f with used:=tk } i)∧(∀ t,t≠p→t≠f→s[t]? =σ[t]?)∧Fr σ s (fun t=>t=p∨oF o fs t) (fun t=>t=p∨oF o fs t)) ⟨?_,?_,?_,?_⟩ fun s ⟨s0,s1,s2,s3⟩=> ?_
  ·simp only[wH,l0,q1,n1,n2,intV]
  ·simp only[wH,l0,q1,n1,n2,frOb]
  ·intro t t1 t2
   simp only[wH,nf (Ne.symm t1),nf (Ne.symm t2)]
  ·exact ((Fr.refl σ _).set _ (.inl rfl)).set _ (.inr (.inr hf))
  have hgo:∀ t,oG (some o) fs t↔oF o fs t:=fun t=>by unfold oG oF;simp[eq_comm]
  have hp2:=hh.upd (s:=s) hi { V f with used:=tk } p1 s1 fun t ht hn=>s2 t (fun e=>hnp (e▸(hgo t).2 ht)) hn
  have il:=(List.getElem?_eq_some_iff.1 hi).1
  refine (afix hp2 s0 il).mono ?_
  rintro _ s4 ⟨rfl,fs',hP,h4,hf4⟩
  have hlen:=Nat.le_trans s3.len hf4.len
  repeat' first|((with_reducible first|apply cs|apply ws|apply wd|apply wu)<;>intro h<;>try simp only[h])|simp only[↓wBA,tPla,convA,seval,pl102_2Pla,wH]|(with_reducible refine dQ pl102_2Pla 9 (some 18) ?_)
  all_goals refine ret_st ?_ (by first|exact Nat.le_refl _|(simp only[length_set,length_append];omega)|omega)
  all_goals simp only[resA.eq_1,resL.eq_1,resL.eq_2,resV.eq_1,resV.eq_2,↓wBA,tPla,convA,seval,wH]
  have hpp:¬ oF o fs p:=fun e=>hnp ((hgo p).2 e)
  have hF:=s3.trans (hf4.sub (G:=fun t=>t=p∨oF o fs t) (G':=fun t=>t=p∨oF o fs t) (fun t ht=>.inr ht) fun t ht=>.inl ht)
  have hKG:∀ t,(t=p∨oF o fs t)→G t:=fun t ht=>(hG t).2 (ht.imp id fun e=>.inr (.inr (.inr ((hgo t).2 e))))
  have k0:=hf4.get s0 hpp
  rw[← hP.length_eq]at k0
  have hu:∀ g,(updV V f { V f with used:=tk } g).n=(V g).n∧(updV V f { V f with used:=tk } g).pg=(V g).pg∧(updV V f { V f with used:=tk } g).dirty=(V g).dirty:=fun g=>by
   unfold updV
   split
   ·rename_i e;subst e;exact⟨rfl,rfl,rfl⟩
   ·exact⟨rfl,rfl,rfl⟩
  have hm:∀ g,oG (some o) fs' g↔oG (some o) fs g:=fun g=>or_congr Iff.rfl hP.mem_iff
  subst hV
  refine⟨G,{ P with tick:=tk,fs:=fs',V:=updV P.V f { P.V f with used:=tk } },hF.sub hKG fun t ht=>.inl ht,⟨hk.re rfl rfl rfl rfl (fun g=>by show g∈fs'↔_;rw[hfs];exact hP.mem_iff) (by show fs'.length≤_;rw[hP.length_eq,←hfs];exact hk.len) hu,Fd,Gl,some o,_,h.re k0 rfl rfl ?_ (fun t ht=>hF.keep t ?_ ?_) (.hp h4) (fun t ht=>h.no (.inl (by rw[hfs];exact (hm t).1 ht))),fun t=> ?_⟩,⟨rfl,rfl,rfl,rfl,rfl,Nat.le_refl _,ct_le rfl _,?_,fun n=> ?_,rfl⟩,rfl⟩
  ·exact hF.get h.has fun e=>e.elim (fun e=>h.pk e.symm) fun e=>h.nk (by rw[hfs];exact (hgo _).2 e)
  ·exact ht.elim (h.data.lt t) (h.log.lt t)
  ·rintro (rfl|e)
   ·exact ht.elim h.pd h.pl
   ·exact ht.elim (h.od t (by rw[hfs];exact (hgo t).2 e)) (h.ol t (by rw[hfs];exact (hgo t).2 e))
  ·rw[hG t,hm t]
  ·apply dq_le (P:=P)
   ·rfl
   ·show fs'.Perm P.fs
    rw[hfs];exact hP
   ·exact fun g _=>(hu g).2.2
  ·unfold PoolV.view
   cases lkM P.hm n with
   |none=>rfl
   |some g=>exact (hu g).2.1
def pl103_8Plb:Plan:=(.det 0 (.det 1 (.det 2 (.det 3 (.fin 4 .done)))))
def tPlb:=aa wX <| aa wbu <| aa T3 <| aa T23 <| aa T29 <| aa T39 <| aa T86 <| aa T111 T131
theorem zB_512:(List.map (fun x=>AV.p (PV.v x)) (zB 512))=pageC zero512:=by
 simp only[pageC,zero512,zB,byteP,List.map_replicate];rfl
theorem len_zero512:zero512.length=512:=List.length_replicate ..
def pgI (m:List (Nat×List UInt8))(n i:Nat):List UInt8:=secs m n i++List.replicate (512 - 64*i) 0
theorem pgI_0 (m:List (Nat×List UInt8))(n:Nat):pgI m n 0=zero512:=rfl
theorem pgI_8 (m:List (Nat×List UInt8))(n:Nat):pgI m n 8=diskPg m n:=by simp[pgI,diskPg]
theorem pgI_len {m:List (Nat×List UInt8)}(h:∀ k,(secAt m k).length=64)(n:Nat){i:Nat}(hi:i≤8):(pgI m n i).length=512:=by simp[pgI,secs_len h];omega
theorem pgI_next {m:List (Nat×List UInt8)}(h:∀ k,(secAt m k).length=64)(n:Nat){i:Nat}(hi:i<8):List.take (64*i) (pageC (pgI m n i))++pageC (secAt m (8*n+i))++List.drop (64*i+64) (pageC (pgI m n i))=pageC (pgI m n (i+1)):=by
 simp only[pageC,pgI,secs_succ,←List.map_take,←List.map_drop,←List.map_append]
 congr 1
 rw[List.take_left' (secs_len h n i),List.drop_append,secs_len h n i,List.drop_eq_nil_of_le (by rw[secs_len h];omega),List.drop_replicate]
 rw[List.nil_append,show 512 - 64*i - (64*i+64 - 64*i)=512 - 64*(i+1) by omega]
theorem afetch {σ:St}{p dd l kh n:Nat}{G:Nat→Prop}{P:PoolV}(h:PoolIs σ p dd l kh G P)(hn:n<P.pages):
 ACalls Tryz.prog 103 [.mp p 6 0 0,intV .i64 (n:Nat)] σ fun r σ'=>Ap σ σ'∧r= .tup [pageA (pgz (diskPg P.data.now n)),intV .i64 0]:=by
 obtain⟨hk,Fd,Gl,w,a,h,hG⟩:=h
 have h0:=h.o
 have l0:=at_lt h0
 refine acalls_of cx_ok dr_ok Tryz.func103 (by kernel_rfl) rfl (nt:=38) (rs:=[.cell 4 111,.tmp 5]) rfl rfl ?_
 repeat' first|((with_reducible first|apply cs|apply ws|apply wd|apply wu)<;>intro h<;>try simp only[h])|simp only[↓wBA,tPlb,convA,seval,pl103_8Plb,wH,h0,l0]|(with_reducible refine dQ pl103_8Plb 5 (some 29) ?_)
 refine awp_loopS (X:={ i:Nat // i≤8 }) (fun i=>8 - i.1) (fun i=>[(10,intV .i64 (i.1:Nat))]) [5,7,8,9,11,12,13,14,15,16,17,18,19,20,21,22,23,24,25,26,27,28,29,30,31,32,33,34] (fun i s=>Ap σ s∧s[σ.length]? =some (some (.row 512 [pageC zero512]))∧s[σ.length+1]? =some (some (.row 512 [pageC (pgI P.data.now n i.1)]))) (⟨0,by omega⟩) ?_ ?_ ?_ ?_
 ·simp only[wHl,wHf]
 ·refine⟨(Ap.app _ _).more _,?_,?_⟩
  ·skip
   simp only[wH,wHe,Nat.reduceAdd,Nat.reduceLT,Nat.reduceEqDiff,Nat.reduceMul,reduceCtorEq,Nat.lt_irrefl,zB_512]
  ·skip
   simp only[wH,wHe,Nat.reduceAdd,Nat.reduceLT,Nat.reduceEqDiff,Nat.reduceMul,reduceCtorEq,Nat.lt_irrefl,zB_512,pgI_0]
 ·rintro _ _ ⟨_,_,hl⟩;have:=at_lt hl;simp;omega
 ·intro x J s hI
  simp only[wHl]
  obtain⟨i,hi⟩:=x
  obtain⟨ha,hl,hl2⟩:=hI
  dsimp only at*
  have k0:=ha.get h0
  have q0:=at_lt k0
  have l1:=at_lt hl
  have l2:=at_lt hl2
  have hb:=h.data.big
  unfold PoolV.pages at hn
  have e64:=pageC_64 len_zero64
  have pl:=pageC_512 (pgI_len hk.secs n hi)
  by_cases hlt:i<8
  ·have hdec:decide ((i:Int)<8)=true:=by simp;omega
   have hw1:=wI i (by omega)
   have w1:IntKind.i64.wrap ((n:Int)*8)=((8*n:Nat):Int):=by rw[wrap_i64 (by omega) (by omega)];omega
   have w2:IntKind.i64.wrap (((8*n:Nat):Int)+(i:Int))=((8*n+i:Nat):Int):=by rw[wrap_i64 (by omega) (by omega)];omega
   have w3:IntKind.i64.wrap ((i:Int)*64)=((64*i:Nat):Int):=by rw[wrap_i64 (by omega) (by omega)];omega
   repeat' first|((with_reducible first|apply cs|apply ws|apply wd|apply wu)<;>intro h<;>try simp only[h])|simp only[↓wBA,tPlb,convA,seval,pl103_8Plb,wH,wHl,k0,q0,hdec,w1,w2]|(with_reducible refine dQ pl103_8Plb 5 (some 29) ?_)
   refine (adread (h.data.ap ha) (8*n+i) (by omega) (hk.secs _)).mono ?_
   rintro _ s1 ⟨ha1,rfl⟩
   have k1:=ha1.get hl
   have k2:=ha1.get hl2
   have l3:=at_lt k1
   have l4:=at_lt k2
   have ha2:=ha.trans ha1
   have q64:=pageC_64 (hk.secs (8*n+i))
   have n0:(σ.length+1=s1.length)=False:=nf (by omega)
   have n1:(s1.length=σ.length+1)=False:=nf (by omega)
   have i64:(((64*i:Nat):Int)<512)=True:=eq_true (by omega)
   have i512:(64*i+(512 - 64*i)≤512)=True:=eq_true (by omega)
   have t64:=take_page (hk.secs (8*n+i))
   have pn:=pgI_next hk.secs n hlt
   have tk:List.take (512 - 64*i) (pageC (secAt P.data.now (8*n+i)))=pageC (secAt P.data.now (8*n+i)):=List.take_of_length_le (by rw[q64];omega)
   repeat' first|((with_reducible first|apply cs|apply ws|apply wd|apply wu)<;>intro h<;>try simp only[h])|simp only[↓wBA,tPlb,convA,seval,pl103_8Plb,wH,wHl,k1,k2,l3,l4,q64,n0,n1,w3,boundA,copyA,srcC,sliceA,elemsA,pageA,hw1,pl,zB_64,e64,i64,tk,i512,t64,pn,and_false,pageC_n (hk.secs (8*n+i))]|(with_reducible refine dQ pl103_8Plb 5 (some 29) ?_)
   refine⟨⟨i+1,by omega⟩,by show 8 - (i+1)<8 - i;omega,⟨(ha2.set (by omega) _).more _,?_⟩,?_⟩
   ·skip
    simp only[wH,wHe,Nat.reduceAdd,Nat.reduceLT,Nat.reduceEqDiff,Nat.reduceMul,reduceCtorEq,Nat.lt_irrefl,l4]
   ·simp only[wHl,wHf]
  ·have he:i=8:=by omega
   subst he
   rw[pgI_8]at hl2
   have dl:=diskPg_len hk.secs n
   have pd:=pageC_512 dl
   have b1:=bytesOf_page (diskPg P.data.now n)
   by_cases hz:diskPg P.data.now n=zero512
   ·have hg:pgz (diskPg P.data.now n)=newL 0:=if_pos hz
    have dn:=length_newL 0
    have pz:=pageC_512 dn
    have eB:eqBytes .eql 512 (pageC (diskPg P.data.now n)) (pageC zero512)=some (boolV true):=by simp[eqBytes,bytesOf_page,dl,len_zero512,hz]
    repeat' first|((with_reducible first|apply cs|apply ws|apply wd|apply wu)<;>intro h<;>try simp only[h])|simp only[↓wBA,tPlb,convA,seval,pl103_8Plb,wH,wHl,hl,hl2,l1,l2,pd,zB_512,len_zero512,pageC_len,dl,eB,pageA,pz,dn]|((with_reducible show ACalls _ _ _ _ _);refine (anew 0 _).eq ?_)|(with_reducible refine dQ pl103_8Plb 5 (some 29) ?_)
    have hs:=(ha.set (t:=σ.length+1) (by omega) (some (.row 512 [pageC (newL 0)]))).set (t:=σ.length) (by omega) (some (.row 512 [pageC (newL 0)]))
    have hlen:=hs.len
    all_goals refine ret_st ?_ (by first|exact Nat.le_refl _|(simp only[length_set,length_append];omega)|omega)
    all_goals simp only[resA.eq_1,resL.eq_1,resL.eq_2,resV.eq_1,resV.eq_2,↓wBA,tPlb,convA,seval,wH,l1,l2,pz]
    exact⟨hs,by rw[hg]⟩
   ·have hg:pgz (diskPg P.data.now n)=diskPg P.data.now n:=if_neg hz
    have eB:eqBytes .eql 512 (pageC (diskPg P.data.now n)) (pageC zero512)=some (boolV false):=by simp[eqBytes,bytesOf_page,dl,len_zero512,beq_false_of_ne hz]
    repeat' first|((with_reducible first|apply cs|apply ws|apply wd|apply wu)<;>intro h<;>try simp only[h])|simp only[↓wBA,tPlb,convA,seval,pl103_8Plb,wH,wHl,hl,hl2,l1,l2,pd,zB_512,len_zero512,pageC_len,dl,eB,pageA]|((with_reducible show ACalls _ _ _ _ _);refine (anew 0 _).eq ?_)|(with_reducible refine dQ pl103_8Plb 5 (some 29) ?_)
    have hs:=ha.set (t:=σ.length) (by omega) (some (.row 512 [pageC (diskPg P.data.now n)]))
    have hlen:=hs.len
    all_goals refine ret_st ?_ (by first|exact Nat.le_refl _|(simp only[length_set,length_append];omega)|omega)
    all_goals simp only[resA.eq_1,resL.eq_1,resL.eq_2,resV.eq_1,resV.eq_2,↓wBA,tPlb,convA,seval,wH,l1,l2,pd,pageA]
    exact⟨hs,by rw[hg]⟩
def pl71_10Plc:Plan:=(.det 0 (.det 1 (.det 2 (.det 3 (.det 4 (.det 5 (.det 6 (.det 7 (.det 8 (.det 9 (.det 10 (.det 11 (.fin 12 (.det 13 .done))))))))))))))
def tPlc:=aa wX <| aa wbu <| aa T3 <| aa T4 <| aa T29 <| aa T39 <| aa T79 <| aa T86 <| aa T111 <| aa T131 T143
theorem Ord.at {σ:St}{V:Nat→FrameV}{a:AV}{w:Option Nat}{fs:List Nat}(h:Ord σ V a w fs){f:Nat}(hf:f∈fs):∃ i,fs[i]? =some f∧σ[f]? =some (frOb (V f) i)∧(V f).pg.length=512:=by
 cases h with
 |nil=>simp at hf
 |hp h=>
  obtain⟨i,hi⟩:=getElem?_of_mem hf
  exact⟨i,hi,h.f i f hi,h.pg f hf⟩
theorem Ord.upd {σ s:St}{V:Nat→FrameV}{a:AV}{w:Option Nat}{fs:List Nat}(h:Ord σ V a w fs){i f:Nat}(hi:fs[i]? =some f)(v:FrameV)(hv:v.pg.length=512)(hs:s[f]? =some (frOb v i))(ho:∀ t,oG w fs t→t≠f→s[t]? =σ[t]?):Ord s (updV V f v) a w fs:=by
 cases h with
 |nil=>simp at hi
 |hp h=>exact .hp (h.upd hi v hv hs fun t ht hn=>ho t (ht.imp (fun e=>by rw[e]) id) hn)
theorem wrW_succ (n:Nat)(pg:List UInt8)(k:Nat):wrW n pg (k+1)=wrW n pg k++[(8*n+k,(pg.drop (64*k)).take 64)]:=by simp[wrW,List.range_succ]
theorem wrW_len (n:Nat)(pg:List UInt8)(k:Nat):(wrW n pg k).length=k:=by simp[wrW]
theorem countP_clean (V:Nat→FrameV){f:Nat}:∀ {fs:List Nat},fs.Nodup→f∈fs→(V f).dirty=true→fs.countP (fun g=>(updV V f { V f with dirty:=false } g).dirty)+1=fs.countP fun g=>(V g).dirty
 |[],_,h,_=>by simp at h
 |g::fs,hn,h,hd=>by
  rw[List.nodup_cons]at hn
  rw[List.countP_cons,List.countP_cons]
  by_cases e:g=f
  ·subst e
   have:fs.countP (fun x=>(updV V g { V g with dirty:=false } x).dirty)=fs.countP fun x=>(V x).dirty:=List.countP_congr fun x hx=>by
    have:x≠g:=fun e=>hn.1 (e▸hx)
    simp only[updV,if_neg this]
   rw[this]
   simp[updV,hd]
  ·have h':f∈fs:=(List.mem_cons.1 h).elim (fun e'=>absurd e'.symm e) id
   have ih:=countP_clean V hn.2 h' hd
   have e2:(updV V f { V f with dirty:=false } g).dirty=(V g).dirty:=by simp only[updV,if_neg e]
   rw[e2]
   omega
theorem aclean0 {σ:St}{p dd l kh f:Nat}{G:Nat→Prop}{P:PoolV}(h:PoolIs σ p dd l kh G P)(hf:f∈P.fs)(hd:(P.V f).dirty=false):
 ACalls Tryz.prog 71 [.mp p 6 0 0,.mp f 516 0 0] σ fun r σ'=>σ'=σ∧r=intV .i64 0:=by
 obtain⟨hk,Fd,Gl,w,a,h,hG⟩:=h
 have h0:=h.o
 have l0:=at_lt h0
 obtain⟨i,hi,f1,p1⟩:=h.ord.at hf
 have q1:=at_lt f1
 simp only[frOb,hd]at f1
 refine acalls_of cx_ok dr_ok Tryz.func71 (by kernel_rfl) rfl (nt:=54) (rs:=[.tmp 4]) rfl rfl ?_
 repeat' first|((with_reducible first|apply cs|apply ws|apply wd|apply wu)<;>intro h<;>try simp only[h])|simp only[↓wBA,tPlc,convA,seval,pl71_10Plc,wH,wFr,h0,l0,f1,q1,p1]|(with_reducible refine dQ pl71_10Plc 14 (some 36) ?_)
 all_goals refine ret_st ?_ (by first|exact Nat.le_refl _|(simp only[length_set,length_append];omega)|omega)
 all_goals simp only[resA.eq_1,resL.eq_1,resL.eq_2,resV.eq_1,resV.eq_2,↓wBA,tPlc,convA,seval,wH]
theorem aclean1 {σ:St}{p dd l kh f:Nat}{G:Nat→Prop}{P:PoolV}(h:PoolIs σ p dd l kh G P)(hf:f∈P.fs)(hd:(P.V f).dirty=true)(hc:P.ct+1<18446744073709551616)(hw:P.dq+8≤1000000000000):
 ACalls Tryz.prog 71 [.mp p 6 0 0,.mp f 516 0 0] σ fun r σ'=>r=intV .i64 0∧∃ G' P',Fr σ σ' G G'∧PoolIs σ' p dd l kh G' P'∧Kp P P' 0∧P'.fs=P.fs∧P'.hm=P.hm∧P'.V=updV P.V f { P.V f with dirty:=false }:=by
 obtain⟨hk,Fd,Gl,w,a,h,hG⟩:=h
 have h0:=h.o
 have l0:=at_lt h0
 obtain⟨i,hi,f1,p1⟩:=h.ord.at hf
 have q1:=at_lt f1
 have hog:oG w P.fs f:=.inr hf
 have hnf:=hk.fn f hf
 have hb:=h.data.big
 have hbs:(P.V f).n<min (P.data.size / 8) 3840:=hnf
 simp only[frOb,hd]at f1
 generalize hfn:(P.V f).n=n at*
 generalize hfp:(P.V f).pg=pg at*
 generalize hfu:(P.V f).used=us at*
 refine acalls_of cx_ok dr_ok Tryz.func71 (by kernel_rfl) rfl (nt:=54) (rs:=[.tmp 4]) rfl rfl ?_
 repeat' first|((with_reducible first|apply cs|apply ws|apply wd|apply wu)<;>intro h<;>try simp only[h])|simp only[↓wBA,tPlc,convA,seval,pl71_10Plc,wH,wFr,h0,l0,f1,q1,p1]|(with_reducible refine dQ pl71_10Plc 14 (some 36) ?_)
 have hnd:=h.ord.big.2
 have hcd:=countP_clean P.V hnd hf hd
 have hwd:P.data.wait.length+8*P.fs.countP (fun f=>(P.V f).dirty)+8≤1000000000000:=hw
 have hw:P.data.wait.length+8≤1000000000000:=by omega
 have hcc:P.log.ctr+min P.log.wait 1+1<18446744073709551616:=hc
 have hc:P.log.ctr+1<18446744073709551616:=by omega
 refine (awflush h.log hc).mono ?_
 rintro _ s1 ⟨rfl,Gl1,L1,hf1,hl1,hst,hwt,hsz,hct,hld⟩
 have k0:=hf1.get h0 h.pl
 have k1:=hf1.get f1 (fun e=>h.ol f hog e)
 have d1:=h.data.frame hf1 (fun t ht hg=>h.dl t ht hg)
 have q2:=at_lt k0
 have q3:=at_lt k1
 have hle:=hf1.len
 repeat' first|((with_reducible first|apply cs|apply ws|apply wd|apply wu)<;>intro h<;>try simp only[h])|simp only[↓wBA,tPlc,convA,seval,pl71_10Plc,wH]|(with_reducible refine dQ pl71_10Plc 14 (some 36) ?_)
 refine awp_loopS (X:={ i:Nat // i≤8 }) (fun i=>8 - i.1) (fun i=>[(22,intV .i64 (i.1:Nat))]) [4,6,7,8,23,24,25,26,27,28,29,30,31,32,33,34,35,36,37,38,39,40,41,42,43,44,45,46,47,48,49,50,51,52] (fun i s=>∃ F',Fr s1 s Fd F'∧DiskAt s dd F' { P.data with now:=wrPg P.data.now n pg i.1,wait:=P.data.wait++wrW n pg i.1 }) (⟨0,by omega⟩) ?_ ?_ ?_ ?_
 ·simp only[wHl,wHf]
 ·exact⟨Fd,Fr.refl _ _,by simpa [wrPg,wrW]using d1⟩
 ·rintro _ _ ⟨_,hf,_⟩;have:=hf.len;omega
 ·intro x J s hI
  simp only[wHl]
  obtain⟨i',hi'⟩:=x
  obtain⟨F',hf2,hd2⟩:=hI
  dsimp only at*
  have j0:=hf2.get k0 h.pd
  have j1:=hf2.get k1 (fun e=>h.od f hog e)
  have r0:=at_lt j0
  have r1:=at_lt j1
  by_cases hlt:i'<8
  ·have hdec:decide ((i':Int)<8)=true:=by simp;omega
   have hw1:=wI i' (by omega)
   have w0:IntKind.i64.wrap ((n:Int)*8)=((8*n:Nat):Int):=by rw[wrap_i64 (by omega) (by omega)];omega
   have w2:IntKind.i64.wrap (((8*n:Nat):Int)+(i':Int))=((8*n+i':Nat):Int):=by rw[wrap_i64 (by omega) (by omega)];omega
   have w3:IntKind.i64.wrap ((i':Int)*64)=((64*i':Nat):Int):=by rw[wrap_i64 (by omega) (by omega)];omega
   have w4:IntKind.i64.wrap (((i'+1:Nat):Int)*64)=((64*i'+64:Nat):Int):=by rw[wrap_i64 (by omega) (by omega)];omega
   have sl:((pg.drop (64*i')).take 64).length=64:=by simp;omega
   have se:=pageC_64 sl
   have e64:=pageC_64 len_zero64
   have b1:(((64*i':Nat):Int)<((64*i'+64:Nat):Int))=True:=eq_true (by omega)
   have b2:(((64*i'+64:Nat):Int)≤512)=True:=eq_true (by omega)
   have b3:64*i'+64 - 64*i'=64:=by omega
   have b4:(1+64*i'+64≤516)=True:=eq_true (by omega)
   have b5:(1+(64*i'+64)≤516)=True:=eq_true (by omega)
   have fs:=frR_sec (n:=n) (u:=us) (a:=i) (f:=true) p1 hlt
   repeat' first|((with_reducible first|apply cs|apply ws|apply wd|apply wu)<;>intro h<;>try simp only[h])|simp only[↓wBA,tPlc,convA,seval,pl71_10Plc,wH,wHl,wFr,p1,j0,j1,r0,r1,hdec,w0,w2,w3,w4,hw1,boundA,sliceA,elemsA,fs,b1,b2,b3,b4,b5,se,zB_64,e64,pageA]|(with_reducible refine dQ pl71_10Plc 14 (some 36) ?_)
   refine (adwrite (hd2.app _) (8*n+i') (by show _<P.data.size;omega) _ sl (by simp[wrW_len];omega)).mono ?_
   rintro _ s2 ⟨rfl,F3,hf3,hd3⟩
   have hf4:=(hf2.app _).trans hf3
   have m0:=hf4.get k0 h.pd
   have m1:=hf4.get k1 (fun e=>h.od f hog e)
   repeat' first|((with_reducible first|apply cs|apply ws|apply wd|apply wu)<;>intro h<;>try simp only[h])|simp only[↓wBA,tPlc,convA,seval,pl71_10Plc,wH,wHl,hw1]|(with_reducible refine dQ pl71_10Plc 14 (some 36) ?_)
   refine⟨⟨i'+1,by omega⟩,by show 8 - (i'+1)<8 - i';omega,⟨F3,hf4,?_⟩,?_⟩
   ·simp only[wrW_succ,wrPg,←List.append_assoc]
    exact hd3
   ·simp only[wHl,wHf]
  ·have he:i'=8:=by omega
   subst he
   repeat' first|((with_reducible first|apply cs|apply ws|apply wd|apply wu)<;>intro h<;>try simp only[h])|simp only[↓wBA,tPlc,convA,seval,pl71_10Plc,wH,wHl,wFr,p1,j0,j1,r0,r1]|(with_reducible refine dQ pl71_10Plc 14 (some 36) ?_)
   have hlen:=Nat.le_trans hle hf2.len
   all_goals refine ret_st ?_ (by first|exact Nat.le_refl _|(simp only[length_set,length_append];omega)|omega)
   all_goals simp only[resA.eq_1,resL.eq_1,resL.eq_2,resV.eq_1,resV.eq_2,↓wBA,tPlc,convA,seval,wH,wFr,p1,r1]
   have hs:∀ t,t≠f→(List.set s f (some (.row 516 [frR (n:Int) pg false us i])))[t]? =s[t]? :=fun t ht=>List.getElem?_set_ne (fun e=>ht e.symm)
   have hk1:∀ t x,σ[t]? =some x→¬ Gl t→¬ Fd t→s[t]? =some x:=fun t x hx h1 h2=>hf2.get (hf1.get hx h1) h2
   have hF2:∀ t,F' t→Fd t∨s1.length≤t:=hf2.own
   have hG1:∀ t,Gl1 t→Gl t∨σ.length≤t:=hf1.own
   have nf':¬ F' f:=fun e=>(hF2 f e).elim (h.od f hog) fun e=>by omega
   have nlf:¬ Gl1 f:=fun e=>(hG1 f e).elim (h.ol f hog) fun e=>by omega
   have lk:=at_lt h.has
   have hku:∀ g,(updV P.V f { P.V f with dirty:=false } g).n=(P.V g).n∧(updV P.V f { P.V f with dirty:=false } g).pg=(P.V g).pg:=fun g=>by
    unfold updV
    split
    ·rename_i e;subst e;exact⟨rfl,rfl⟩
    ·exact⟨rfl,rfl⟩
   have hlk:lkM P.hm n=some f:=(hk.keys n f).2 ⟨hf,hfn⟩
   have hne:∀ g∈P.fs,g≠f→(P.V g).n≠n:=fun g hg hn e=>hn (by
    have:=(hk.keys n g).2 ⟨hg,e⟩
    rw[hlk]at this;simpa using this.symm)
   have hln:∀ t,oG w P.fs t→t<σ.length:=h.ord.lt
   refine⟨fun t=>t=p∨t=kh∨F' t∨Gl1 t∨oG w P.fs t,{ P with data:={ P.data with now:=wrPg P.data.now n pg 8,wait:=P.data.wait++wrW n pg 8 },log:=L1,V:=updV P.V f { P.V f with dirty:=false } },?_,⟨⟨fun m g=> ?_,hk.kn,hk.m1,hk.mb,hk.len,fun g hg=> ?_,fun g hg=> ?_,fun g hg hd'=> ?_,fun k=> ?_,hk.size⟩,F',Gl1,w,a,⟨?_,?_,?_,?_,?_,fun t h1 h2=> ?_,fun t h1 h2=> ?_,fun t h1 h2=> ?_,?_,?_,?_,?_⟩,fun t=>Iff.rfl⟩,⟨rfl,rfl,hsz,hld,hst,by show L1.wait≤_;omega,by show L1.ctr+min L1.wait 1≤P.log.ctr+min P.log.wait 1+0;omega,by show (P.data.wait++wrW n pg 8).length+8*P.fs.countP (fun g=>(updV P.V f { P.V f with dirty:=false } g).dirty)≤P.data.wait.length+8*P.fs.countP (fun g=>(P.V g).dirty)+8*0;have hcd':P.fs.countP (fun g=>(updV P.V f { P.V f with dirty:=false } g).dirty)+1=P.fs.countP (fun g=>(P.V g).dirty):=hcd;rw[length_append,wrW_len];omega,fun m=> ?_,rfl⟩,rfl,rfl,rfl⟩
   ·have e1:Fr σ s1 G (fun t=>t=p∨t=kh∨Fd t∨Gl1 t∨oG w P.fs t):=hf1.sub (fun t ht=>(hG t).2 (.inr (.inr (.inr (.inl ht))))) fun t ht=>by
     rw[hG t]
     rcases ht with h1|h1|h1|h1|h1
     ·exact .inl (.inl h1)
     ·exact .inl (.inr (.inl h1))
     ·exact .inl (.inr (.inr (.inl h1)))
     ·exact (hG1 t h1).imp (fun e=>.inr (.inr (.inr (.inl e)))) id
     ·exact .inl (.inr (.inr (.inr (.inr h1))))
    have e2:Fr s1 s (fun t=>t=p∨t=kh∨Fd t∨Gl1 t∨oG w P.fs t) (fun t=>t=p∨t=kh∨F' t∨Gl1 t∨oG w P.fs t):=hf2.sub (fun t ht=>.inr (.inr (.inl ht))) fun t ht=>by
     rcases ht with h1|h1|h1|h1|h1
     ·exact .inl (.inl h1)
     ·exact .inl (.inr (.inl h1))
     ·exact (hF2 t h1).imp (fun e=>.inr (.inr (.inl e))) id
     ·exact .inl (.inr (.inr (.inr (.inl h1))))
     ·exact .inl (.inr (.inr (.inr (.inr h1))))
    exact (e1.trans e2).set _ ((hG f).2 (.inr (.inr (.inr (.inr hog)))))
   ·show lkM P.hm m=some g↔g∈P.fs∧_
    rw[(hku g).1];exact hk.keys m g
   ·show (updV P.V f { P.V f with dirty:=false } g).n<_
    rw[(hku g).1];exact hk.fn g hg
   ·show pgz (updV P.V f { P.V f with dirty:=false } g).pg=(updV P.V f { P.V f with dirty:=false } g).pg
    rw[(hku g).2];exact hk.nz g hg
   ·show pgz (diskPg (wrPg P.data.now n pg 8) (updV P.V f { P.V f with dirty:=false } g).n)=(updV P.V f { P.V f with dirty:=false } g).pg
    rw[(hku g).1,(hku g).2]
    by_cases e:g=f
    ·subst e
     rw[hfn,hfp,disk_wr p1]
     have:=hk.nz g hf
     rwa [hfp]at this
    ·rw[disk_wr' _ _ _ _ (hne g hg e)]
     refine hk.cl g hg ?_
     have:(updV P.V f { P.V f with dirty:=false } g).dirty=false:=hd'
     simpa only[updV,if_neg e]using this
   ·show (secAt (wrPg P.data.now n pg 8) k).length=64
    rw[sec_wr]
    split
    ·simp;omega
    ·exact hk.secs k
   ·rw[hs p (ne_of_ob h0 f1 (by simp))];exact j0
   ·exact hd2.same fun t ht=>hs t fun e=>nf' (e▸ht)
   ·refine (hl1.frame hf2 fun t h1 h2=> ?_).same fun t ht=>hs t fun e=>nlf (e▸ht)
    exact (hG1 t h1).elim (h.dl t h2) fun e=>Nat.lt_irrefl _ (Nat.lt_of_lt_of_le (h.data.lt t h2) e)
   ·refine h.ord.upd hi _ (by show (P.V f).pg.length=512;rw[hfp];exact p1) ?_ fun t h1 h2=> ?_
    ·simp only[frOb,hfn,hfp,hfu];simp[r1]
    ·rw[hs t h2]
     have hx:σ[t]? =some (σ[t]'(hln t h1)):=by simp[hln t h1]
     rw[hk1 t _ hx (h.ol t h1) (h.od t h1),hx]
   ·rw[hs kh (ne_of_ob h.has f1 (by simp))];exact hk1 kh _ h.has h.kl h.kd
   ·rcases hF2 t h1 with e|e
    ·exact (hG1 t h2).elim (h.dl t e) fun e'=>Nat.lt_irrefl _ (Nat.lt_of_lt_of_le (h.data.lt t e) e')
    ·exact Nat.lt_irrefl _ (Nat.lt_of_lt_of_le (hl1.lt t h2) e)
   ·exact (hF2 t h2).elim (h.od t h1) fun e=>Nat.lt_irrefl _ (Nat.lt_of_lt_of_le (hln t h1) (Nat.le_trans hle e))
   ·exact (hG1 t h2).elim (h.ol t h1) fun e=>Nat.lt_irrefl _ (Nat.lt_of_lt_of_le (hln t h1) e)
   ·exact fun e=>(hF2 p e).elim h.pd fun e=>by omega
   ·exact fun e=>(hG1 p e).elim h.pl fun e=>by omega
   ·exact fun e=>(hF2 kh e).elim h.kd fun e=>by omega
   ·exact fun e=>(hG1 kh e).elim h.kl fun e=>by omega
   ·unfold PoolV.view
    show (match lkM P.hm m with|some g=>(updV P.V f { P.V f with dirty:=false } g).pg|none=>pgz (diskPg (wrPg P.data.now n pg 8) m))=_
    cases hm:lkM P.hm m with
    |some g=>exact (hku g).2
    |none=>
     have:m≠n:=fun e=>by rw[e,hlk]at hm;cases hm
     simp only[disk_wr' _ _ _ _ this]
end Go.Proofs.YthhbnenaihkggaaGreat
