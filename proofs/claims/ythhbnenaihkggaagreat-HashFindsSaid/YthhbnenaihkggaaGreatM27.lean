/- Pools: Read, Flush, put. Pools: put. Pools: Point. Pools: Open. Pools: a batch's record is read. Pools: one on disks whose log has records is opened. -/
import Derived.Test.YthhbnenaihkggaaGreatM26
import Derived.Test.YthhbnenaihkggaaGreatM23
set_option linter.unusedSimpArgs false
set_option linter.unusedVariables false
set_option linter.defProp false
set_option maxRecDepth 100000
set_option maxHeartbeats 32000000
namespace Go.Proofs.YthhbnenaihkggaaGreat
open Go.RowKit
open List (length_append length_set)
def tPlf:=aa wX <| aa wbu <| aa T3 <| aa T29 <| aa T36 <| aa T79 <| aa T86 <| aa T111 T143
structure Kq (P P':PoolV)(k:Nat)(v:Nat→List UInt8):Prop where
 size:P'.data.size=P.data.size
 most:P'.most=P.most
 ls:P'.log.disk.size=P.log.disk.size
 ld:P'.log.d=P.log.d
 str:P'.log.str=P.log.str
 wait:P'.log.wait≤P.log.wait
 ctr:P'.ct≤P.ct+k
 dw:P'.dq≤P.dq+8*k
 view:∀ n,P'.view n=v n
 kept:P'.data.kept=P.data.kept
theorem Kp.q {P P':PoolV}{k:Nat}(h:Kp P P' k):Kq P P' k P.view:=⟨h.size,h.most,h.ls,h.ld,h.str,h.wait,h.ctr,h.dw,h.view,h.kept⟩
theorem Kq.pages {P P':PoolV}{k:Nat}{v:Nat→List UInt8}(h:Kq P P' k v):P'.pages=P.pages:=by unfold PoolV.pages;rw[h.size]
theorem countP_dirt (V:Nat→FrameV)(pg:List UInt8)(f:Nat):∀ fs:List Nat,fs.Nodup→fs.countP (fun g=>(updV V f { V f with pg:=pg,dirty:=true } g).dirty)≤fs.countP (fun g=>(V g).dirty)+1
 |[],_=>by simp
 |g::fs,hn=>by
  rw[List.nodup_cons]at hn
  rw[List.countP_cons,List.countP_cons]
  by_cases e:g=f
  ·subst e
   have:fs.countP (fun x=>(updV V g { V g with pg:=pg,dirty:=true } x).dirty)=fs.countP fun x=>(V x).dirty:=List.countP_congr fun x hx=>by
    have:x≠g:=fun e=>hn.1 (e▸hx)
    simp only[updV,if_neg this]
   rw[this]
   split<;>omega
  ·have ih:=countP_dirt V pg f fs hn.2
   have e2:(updV V f { V f with pg:=pg,dirty:=true } g).dirty=(V g).dirty:=by simp only[updV,if_neg e]
   rw[e2]
   omega
theorem PoolIs.wr {σ:St}{p dd l kh f n:Nat}{G:Nat→Prop}{P:PoolV}(h:PoolIs σ p dd l kh G P)(hlk:lkM P.hm n=some f)(pg:List UInt8)(hl:pg.length=512)(hz:pgz pg=pg):
 G f∧∃ i,σ[f]? =some (frOb (P.V f) i)∧(P.V f).pg.length=512∧(P.V f).pg=P.view n∧∀ s:St,s[f]? =some (frOb { P.V f with pg:=pg,dirty:=true } i)→(∀ t,t≠f→s[t]? =σ[t]?)→∃ P',PoolIs s p dd l kh G P'∧Kq P P' 1 fun m=>if m=n then pg else P.view m:=by
 obtain⟨hk,Fd,Gl,w,a,h,hG⟩:=h
 obtain⟨hf,hn⟩:=(hk.keys n f).1 hlk
 obtain⟨i,hi,f1,p1⟩:=h.ord.at hf
 have hog:oG w P.fs f:=.inr hf
 refine⟨(hG f).2 (.inr (.inr (.inr (.inr hog)))),i,f1,p1,by unfold PoolV.view;rw[hlk],fun s hs ho=> ?_⟩
 have hne:∀ t x,σ[t]? =some x→(∀ c,x≠some (.row 516 c))→t≠f:=fun t x ht hx e=>by
  subst e;rw[ht]at f1;exact hx _ (by simpa [frOb]using f1)
 have hup:∀ g,g≠f→updV P.V f { P.V f with pg:=pg,dirty:=true } g=P.V g:=fun g hg=>if_neg hg
 have huf:updV P.V f { P.V f with pg:=pg,dirty:=true } f={ P.V f with pg:=pg,dirty:=true }:=if_pos rfl
 have hun:∀ g,(updV P.V f { P.V f with pg:=pg,dirty:=true } g).n=(P.V g).n:=fun g=>by
  by_cases e:g=f
  ·subst e;rw[huf]
  ·rw[hup g e]
 refine⟨{ P with V:=updV P.V f { P.V f with pg:=pg,dirty:=true } },⟨⟨fun m g=> ?_,hk.kn,hk.m1,hk.mb,hk.len,fun g hg=> ?_,fun g hg=> ?_,fun g hg hd=> ?_,hk.secs,hk.size⟩,Fd,Gl,w,a,h.re (by rw[ho p (hne p _ h.o (by simp))];exact h.o) rfl rfl (by rw[ho kh (hne kh _ h.has (by simp))];exact h.has) (fun t ht=>ho t fun e=> ?_) (h.ord.upd hi _ hl hs fun t _ ht=>ho t ht) fun t ht=>h.no (.inl ht),hG⟩,⟨rfl,rfl,rfl,rfl,rfl,Nat.le_refl _,ct_le rfl _,by
  have:=countP_dirt P.V pg f P.fs h.ord.big.2
  show P.data.wait.length+8*P.fs.countP (fun g=>(updV P.V f { P.V f with pg:=pg,dirty:=true } g).dirty)≤P.data.wait.length+8*P.fs.countP (fun g=>(P.V g).dirty)+8*1
  omega,fun m=> ?_,rfl⟩⟩
 ·show lkM P.hm m=some g↔g∈P.fs∧(updV P.V f { P.V f with pg:=pg,dirty:=true } g).n=m
  rw[hun];exact hk.keys m g
 ·show (updV P.V f { P.V f with pg:=pg,dirty:=true } g).n<P.pages
  rw[hun];exact hk.fn g hg
 ·show pgz (updV P.V f { P.V f with pg:=pg,dirty:=true } g).pg=(updV P.V f { P.V f with pg:=pg,dirty:=true } g).pg
  by_cases e:g=f
  ·subst e;rw[huf];exact hz
  ·rw[hup g e];exact hk.nz g hg
 ·show pgz (diskPg P.data.now (updV P.V f { P.V f with pg:=pg,dirty:=true } g).n)=(updV P.V f { P.V f with pg:=pg,dirty:=true } g).pg
  have hd':(updV P.V f { P.V f with pg:=pg,dirty:=true } g).dirty=false:=hd
  by_cases e:g=f
  ·subst e;rw[huf]at hd';cases hd'
  ·rw[hup g e]at hd' ⊢;exact hk.cl g hg hd'
 ·subst e;exact ht.elim (h.od t hog) (h.ol t hog)
 ·unfold PoolV.view
  show (match lkM P.hm m with|some g=>(updV P.V f { P.V f with pg:=pg,dirty:=true } g).pg|none=>pgz (diskPg P.data.now m))=_
  by_cases hm:m=n
  ·subst hm;rw[if_pos rfl,hlk];simp only[huf]
  ·rw[if_neg hm]
   cases hl2:lkM P.hm m with
   |none=>rfl
   |some g=>
    have:g≠f:=fun e=>hm (by
     subst e
     rw[← ((hk.keys m g).1 hl2).2,hn])
    simp only[hup g this]
theorem PoolIs.fr {σ:St}{p dd l kh f n:Nat}{G:Nat→Prop}{P:PoolV}(h:PoolIs σ p dd l kh G P)(hlk:lkM P.hm n=some f):
 G f∧∃ i,σ[f]? =some (some (.row 516 [frR (P.V f).n (P.view n) (P.V f).dirty (P.V f).used (i:Nat)]))∧(P.view n).length=512∧pgz (P.view n)=P.view n:=by
 obtain⟨hk,Fd,Gl,w,a,h,hG⟩:=h
 obtain⟨hf,hn⟩:=(hk.keys n f).1 hlk
 obtain⟨i,hi,f1,p1⟩:=h.ord.at hf
 have hv:P.view n=(P.V f).pg:=by unfold PoolV.view;rw[hlk]
 exact⟨(hG f).2 (.inr (.inr (.inr (.inr (.inr hf))))),i,by rw[hv];exact f1,by rw[hv];exact p1,by rw[hv];exact hk.nz f hf⟩
theorem PoolIs.vlen {σ:St}{p dd l kh:Nat}{G:Nat→Prop}{P:PoolV}(h:PoolIs σ p dd l kh G P)(n:Nat):(P.view n).length=512∧pgz (P.view n)=P.view n:=by
 cases hlk:lkM P.hm n with
 |some f=>exact (h.fr hlk).2.elim fun _ h=>h.2
 |none=>
  have:P.view n=pgz (diskPg P.data.now n):=by unfold PoolV.view;rw[hlk]
  rw[this]
  exact⟨pgz_len (diskPg_len h.1.secs n),pgz_pgz _⟩
theorem areadIs {σ:St}{p dd l kh n:Nat}{G:Nat→Prop}{P:PoolV}(h:PoolIs σ p dd l kh G P)(hn:n<P.pages)(hc:P.ct+1<18446744073709551616)(hw:P.dq+8≤1000000000000):
 ACalls Tryz.prog 114 [.mp p 6 0 0,intV .i64 (n:Nat)] σ fun r σ'=>r= .tup [pageA (P.view n),intV .i64 0]∧∃ G' P',Fr σ σ' G G'∧PoolIs σ' p dd l kh G' P'∧Kp P P' 0:=by
 have e1:decide ((n:Int)<0)=false:=by simp
 have e2:decide ((n:Int)≥(P.pages:Int))=false:=by simp;omega
 have hlt:=h.lt
 refine acalls_of cx_ok dr_ok Tryz.func114 (by kernel_rfl) rfl (nt:=34) (rs:=[.cell 4 111,.tmp 5]) rfl rfl ?_
 repeat' first|((with_reducible first|apply cs|apply ws)<;>intro h<;>try simp only[h])|simp only[↓wBA,tPlf,convA,seval,wH,e1,e2]|((with_reducible show ACalls _ _ _ _ _);refine (apagesIs (h.ap (Ap.app _ _))).eq ?_)
 refine (aload (h.ap (Ap.app _ _)) hn hc hw).mono ?_
 rintro _ s ⟨f,G1,P1,rfl,hF,hA,hK,hlk⟩
 have c0:(σ++[some (.row 512 [List.map (fun x=>AV.p (PV.v x)) (zB 512)])])[σ.length]? =some (some (.row 512 [List.map (fun x=>AV.p (PV.v x)) (zB 512)])):=by simp
 have c1:=hF.get c0 (fun e=>Nat.lt_irrefl _ (hlt _ e))
 have l1:=at_lt c1
 obtain⟨_,i,f1,pl,_⟩:=hA.fr hlk
 have q1:=at_lt f1
 have n1:(f=σ.length)=False:=nf (ne_of_ob f1 c1 (by simp))
 have n2:(σ.length=f)=False:=nf (ne_of_ob c1 f1 (by simp))
 have pc:=pageC_512 pl
 have zl:(zB 512).length=512:=by simp[zB]
 rw[zB_512]at c1
 have z5:=pageC_512 len_zero512
 repeat' first|((with_reducible first|apply cs|apply ws)<;>intro h<;>try simp only[h])|simp only[↓wBA,tPlf,convA,seval,wH,c1,l1,f1,q1,n1,n2,pl,pc,wFr,z5]
 have hF':=((Ap.app σ _).fr.trans hF)
 have hlen:=hF'.len
 all_goals refine ret_st ?_ (by first|exact Nat.le_refl _|(simp only[length_set,length_append];omega)|omega)
 all_goals simp only[resA.eq_1,resL.eq_1,resL.eq_2,resV.eq_1,resV.eq_2,↓wBA,tPlf,convA,seval,wH,l1,pc]
 refine⟨by rw[← hK.view n];rfl,G1,P1,⟨by simpa using hlen,fun t ht hn=> ?_,hF'.own⟩,hA.same fun t ht=>List.getElem?_set_ne fun e=> ?_,hK⟩
 ·rw[List.getElem?_set_ne (by omega)];exact hF'.keep t ht hn
 ·subst e
  rcases hF.own _ ht with e|e
  ·exact Nat.lt_irrefl _ (hlt _ e)
  ·simp at e;omega
theorem aflushPIs {σ:St}{p dd l kh:Nat}{G:Nat→Prop}{P:PoolV}(h:PoolIs σ p dd l kh G P)(hc:P.ct+1<18446744073709551616):
 ACalls Tryz.prog 69 [.mp p 6 0 0] σ fun r σ'=>r=intV .i64 0∧∃ G' P',Fr σ σ' G G'∧PoolIs σ' p dd l kh G' P'∧Kp P P' 0∧P'.fs=P.fs∧P'.hm=P.hm∧P'.V=P.V∧P'.data=P.data∧P'.log.wait=0:=by
 obtain⟨hk,Fd,Gl,w,a,h,hG⟩:=h
 have h0:=h.o
 have l0:=at_lt h0
 refine acalls_of cx_ok dr_ok Tryz.func69 (by kernel_rfl) rfl (nt:=9) (rs:=[.tmp 2]) rfl rfl ?_
 repeat' first|((with_reducible first|apply cs|apply ws)<;>intro h<;>try simp only[h])|simp only[↓wBA,tPlf,convA,seval,wH,h0,l0]
 have hcc:P.log.ctr+min P.log.wait 1+1<18446744073709551616:=hc
 refine (awflush h.log (by omega)).mono ?_
 rintro _ s ⟨rfl,Gl1,L1,hf1,hl1,hst,hwt,hsz,hct,hld⟩
 have hlen:=hf1.len
 repeat' first|((with_reducible first|apply cs|apply ws)<;>intro h<;>try simp only[h])|simp only[↓wBA,tPlf,convA,seval,wH]
 all_goals refine ret_st ?_ (by first|exact Nat.le_refl _|(simp only[length_set,length_append];omega)|omega)
 all_goals simp only[resA.eq_1,resL.eq_1,resL.eq_2,resV.eq_1,resV.eq_2,↓wBA,tPlf,convA,seval,wH]
 have hG1:∀ t,Gl1 t→Gl t∨σ.length≤t:=hf1.own
 have lk:=at_lt h.has
 have hln:∀ t,oG w P.fs t→t<σ.length:=h.ord.lt
 refine⟨fun t=>t=p∨t=kh∨Fd t∨Gl1 t∨oG w P.fs t,{ P with log:=L1 },?_,⟨⟨hk.keys,hk.kn,hk.m1,hk.mb,hk.len,hk.fn,hk.nz,hk.cl,hk.secs,hk.size⟩,Fd,Gl1,w,a,⟨?_,?_,hl1,?_,?_,fun t h1 h2=> ?_,h.od,fun t h1 h2=> ?_,h.pd,?_,h.kd,?_⟩,fun t=>Iff.rfl⟩,⟨rfl,rfl,hsz,hld,hst,by show L1.wait≤_;omega,by show L1.ctr+min L1.wait 1≤P.log.ctr+min P.log.wait 1+0;omega,Nat.le_refl _,fun m=>rfl,rfl⟩,rfl,rfl,rfl,rfl,hwt⟩
 ·refine hf1.sub (fun t ht=>(hG t).2 (.inr (.inr (.inr (.inl ht))))) fun t ht=> ?_
  rw[hG t]
  rcases ht with h1|h1|h1|h1|h1
  ·exact .inl (.inl h1)
  ·exact .inl (.inr (.inl h1))
  ·exact .inl (.inr (.inr (.inl h1)))
  ·exact (hG1 t h1).imp (fun e=>.inr (.inr (.inr (.inl e)))) id
  ·exact .inl (.inr (.inr (.inr (.inr h1))))
 ·exact hf1.get h0 h.pl
 ·exact h.data.frame hf1 fun t h1 h2=>h.dl t h1 h2
 ·exact h.ord.same fun t ht=>hf1.keep t (hln t ht) (h.ol t ht)
 ·exact hf1.get h.has h.kl
 ·exact (hG1 t h2).elim (h.dl t h1) fun e=>Nat.lt_irrefl _ (Nat.lt_of_lt_of_le (h.data.lt t h1) e)
 ·exact (hG1 t h2).elim (h.ol t h1) fun e=>Nat.lt_irrefl _ (Nat.lt_of_lt_of_le (hln t h1) e)
 ·exact fun e=>(hG1 p e).elim h.pl fun e=>by omega
 ·exact fun e=>(hG1 kh e).elim h.kl fun e=>by omega
def tPlg:=aa wX <| aa wbu <| aa T3 <| aa T4 <| aa T29 <| aa T36 <| aa T87 <| aa T111 <| aa T138 T143
def imgR (q:Nat×List UInt8):List AV:=.p (.v (.int .i64 (q.1:Nat)))::pageC q.2
structure ChAt (σ:St)(t:Nat)(ch:List (Nat×List UInt8)):Prop where
 row:∃ ls,σ[t]? =some (some (.row 513 ls))∧ls.take ch.length=ch.map imgR∧ch.length≤ls.length
theorem ChAt.get {σ:St}{t:Nat}{ch:List (Nat×List UInt8)}(h:ChAt σ t ch):∃ ls,σ[t]? =some (some (.row 513 ls))∧∀ (i:Nat) (q:Nat×List UInt8),ch[i]? =some q→ls[i]? =some (imgR q):=by
 obtain⟨ls,h1,h2,h3⟩:=h.row
 refine⟨ls,h1,fun i q hq=> ?_⟩
 have hl:=(List.getElem?_eq_some_iff.1 hq).1
 have:(ls.take ch.length)[i]? =some (imgR q):=by rw[h2];simp[hq]
 rwa [List.getElem?_take,if_pos hl]at this
theorem Kq.step {P P1 P2 P3:PoolV}{i n:Nat}{v:Nat→List UInt8}{pg:List UInt8}(h1:Kq P P1 i v)(h2:Kp P1 P2 0)(h3:Kq P2 P3 1 fun m=>if m=n then pg else P2.view m):Kq P P3 (i+1) fun m=>if m=n then pg else v m:=
 ⟨h3.size.trans (h2.size.trans h1.size),h3.most.trans (h2.most.trans h1.most),h3.ls.trans (h2.ls.trans h1.ls),h3.ld.trans (h2.ld.trans h1.ld),h3.str.trans (h2.str.trans h1.str),Nat.le_trans h3.wait (Nat.le_trans h2.wait h1.wait),by have:=h1.ctr;have:=h2.ctr;have:=h3.ctr;omega,by have:=h1.dw;have:=h2.dw;have:=h3.dw;omega,fun m=>by
  have e:=h3.view m
  rw[h2.view,h1.view]at e
  exact e,h3.kept.trans (h2.kept.trans h1.kept)⟩
theorem aput {σ:St}{p dd l kh t:Nat}{G:Nat→Prop}{P:PoolV}(h:PoolIs σ p dd l kh G P)(ch:List (Nat×List UInt8))(ht:ChAt σ t ch)(hn:¬ G t)(hok:∀ q∈ch,q.1<P.pages∧q.2.length=512∧pgz q.2=q.2)(hl:ch.length≤1000000)(hc:P.ct+ch.length+1<18446744073709551616)(hw:P.dq+8*ch.length+8≤1000000000000):
 ACalls Tryz.prog 37 [.mp p 6 0 0,.ms t 513 0 ch.length] σ fun r σ'=>r=intV .i64 0∧∃ G' P',Fr σ σ' G G'∧PoolIs σ' p dd l kh G' P'∧Kq P P' ch.length (ovr P.view ch):=by
 obtain⟨ls,h1,h2⟩:=ht.get
 refine acalls_of cx_ok dr_ok Tryz.func37 (by kernel_rfl) rfl (nt:=32) (rs:=[.tmp 4]) rfl rfl ?_
 repeat' first|((with_reducible first|apply cs|apply ws)<;>intro h<;>try simp only[h])|simp only[↓wBA,tPlg,convA,seval,wH]
 refine awp_loopS (X:={ i:Nat // i≤ch.length }) (fun i=>ch.length - i.1) (fun i=>[(11,intV .i64 (i.1:Nat))]) [4,6,7,8,12,13,14,15,16,17,18,19,20,21,22,23,24,25,26,27,28,29,30,31,32,33] (fun i s=>∃ G' P',Fr σ s G G'∧PoolIs s p dd l kh G' P'∧Kq P P' i.1 (ovr P.view (ch.take i.1))) (⟨0,by omega⟩) ?_ ?_ ?_ ?_
 ·simp only[wHl,wHf]
 ·exact⟨G,P,Fr.refl _ _,h,by simpa [ovr]using (Kp.refl P 0).q⟩
 ·rintro _ _ ⟨_,_,hf,_⟩;exact hf.len
 ·intro x J s hI
  simp only[wHl]
  obtain⟨i,hi⟩:=x
  obtain⟨G1,P1,hF,hA,hK⟩:=hI
  dsimp only at*
  have k1:=hF.get h1 hn
  have q1:=at_lt k1
  have hn1:¬ G1 t:=fun e=>(hF.own t e).elim hn fun e=>by have:=at_lt h1;omega
  have hlt1:=hA.lt
  by_cases hlt:i<ch.length
  ·have b1:=dT (i:=i) (n:=ch.length) (by omega)
   have b2:((i:Int)<(ch.length:Int))=True:=eq_true (by omega)
   have b3:=nnI i
   have hw1:=wI i (by omega)
   obtain⟨q,hq⟩:∃ q,ch[i]? =some q:=⟨ch[i],by simp[hlt]⟩
   have k2:=h2 i q hq
   obtain⟨o1,o2,o3⟩:=hok q (List.mem_of_getElem? hq)
   have pc:=pageC_512 o2
   have il:(imgR q).length=513:=by simp[imgR,pc]
   have i0:(imgR q)[0]? =some (.p (.v (.int .i64 (q.1:Nat)))):=rfl
   have i1:List.take 512 (List.drop 1 (imgR q))=pageC q.2:=by simp only[imgR,List.drop_succ_cons,List.drop_zero,take_page o2]
   have i2:List.take 513 (imgR q)=imgR q:=List.take_of_length_le (by omega)
   repeat' first|((with_reducible first|apply cs|apply ws)<;>intro h<;>try simp only[h])|simp only[↓wBA,tPlg,convA,seval,wH,wHl,b1,b2,b3,k1,q1,k2,il,i0,wZt]
   have hpg:=hK.pages
   have hcc:=hK.ctr
   have hdw:=hK.dw
   have hA2:=hA.ap (Ap.app s [some (.row 513 [imgR q])])
   refine (aload hA2 (n:=q.1) (by rw[hpg];exact o1) (by omega) (by omega)).mono ?_
   rintro _ s2 ⟨f,G2,P2,rfl,hF2,hA3,hK2,hlk⟩
   have c1:=hF2.get (t:=s.length) (x:=some (.row 513 [imgR q])) (by simp) (fun e=>Nat.lt_irrefl _ (hlt1 _ e))
   have r1:=at_lt c1
   obtain⟨hGf,j,f1,f2,f3,f4⟩:=hA3.wr hlk q.2 o2 o3
   have f1':=f1
   simp only[frOb]at f1
   have r2:=at_lt f1
   have n1:(f=s.length)=False:=nf (ne_of_ob f1 c1 (by simp))
   have n2:(s.length=f)=False:=nf (ne_of_ob c1 f1 (by simp))
   have fz:=frR_s1 (n:=(P2.V f).n) (f:=(P2.V f).dirty) (u:=(P2.V f).used) (a:=j) f2 o2
   have fy:=frR_s513 (n:=(P2.V f).n) (f:=(P2.V f).dirty) (f':=true) (u:=(P2.V f).used) (a:=j) o2
   have hli:=frR_len (n:=(P2.V f).n) (f:=(P2.V f).dirty) (u:=(P2.V f).used) (a:=j) o2
   have hl2:=frR_len (n:=(P2.V f).n) (f:=(P2.V f).dirty) (u:=(P2.V f).used) (a:=j) f2
   repeat' first|((with_reducible first|apply cs|apply ws)<;>intro h<;>try simp only[h])|simp only[↓wBA,tPlg,convA,seval,wH,wHl,c1,r1,f1,r2,n1,n2,il,i1,fz,fy,hli,hl2,pc,hw1]
   obtain⟨P3,hA4,hK4⟩:=f4 (s2.set f (some (.row 516 [frR (P2.V f).n q.2 true (P2.V f).used (j:Nat)]))) (by simp[r2,frOb]) fun t ht=>List.getElem?_set_ne fun e=>ht e.symm
   refine⟨⟨i+1,by omega⟩,by show ch.length - (i+1)<ch.length - i;omega,⟨G2,P3,((hF.trans (Ap.app s _).fr).trans hF2).trans (Fr.ofSet hGf),hA4,?_⟩,?_⟩
   ·have hst:=hK.step hK2 hK4
    have e:List.take (i+1) ch=List.take i ch++[q]:=by rw[List.take_add_one,hq];rfl
    rw[e]
    exact⟨hst.size,hst.most,hst.ls,hst.ld,hst.str,hst.wait,hst.ctr,hst.dw,fun m=>(hst.view m).trans (ovr_app _ _ _ _).symm,hst.kept⟩
   ·simp only[wHl,wHf]
  ·have he:i=ch.length:=by omega
   subst he
   have b1:=dF (i:=ch.length) (n:=ch.length) (by omega)
   rw[List.take_length]at hK
   repeat' first|((with_reducible first|apply cs|apply ws)<;>intro h<;>try simp only[h])|simp only[↓wBA,tPlg,convA,seval,wH,wHl,b1]
   have hlen:=hF.len
   all_goals refine ret_st ?_ (by first|exact Nat.le_refl _|(simp only[length_set,length_append];omega)|omega)
   all_goals simp only[resA.eq_1,resL.eq_1,resL.eq_2,resV.eq_1,resV.eq_2,↓wBA,tPlg,convA,seval,wH]
   exact⟨G1,P1,hF,hA,hK⟩
def tPlh:=aa wX <| aa wbu <| aa T3 <| aa T29 <| aa T36 <| aa T39 <| aa T79 <| aa T84 <| aa T86 T139
theorem aclone1 {σ:St}{o:Nat}{fs:List Nat}{V:Nat→FrameV}(h:HpIn σ o fs V):ACalls Tryz.prog 70 [.ms o 1 0 fs.length] σ fun r σ'=>Ap σ σ'∧r= .ms (σ.length+1) 1 0 fs.length∧σ'[σ.length+1]? =some (some (.row 1 (ordRow fs))):=by
 obtain⟨ls,h1,h2,h3⟩:=h.o
 have l1:=at_lt h1
 have hb:=h.big
 have hl1:=tL (n:=fs.length*8) (by omega)
 have hl2:=lM (n:=fs.length) (by omega)
 have hol:=ordRow_len fs
 refine acalls_of cx_ok dr_ok Tryz.func70 (by kernel_rfl) rfl (nt:=7) (rs:=[.tmp 2]) rfl rfl ?_
 repeat' first|((with_reducible first|apply cs|apply ws)<;>intro h<;>try simp only[h])|simp only[↓wBA,tPlh,convA,seval,wH,h1,l1,h2,h3,hl1,hl2,hol,appendA,srcA,appendM,srcM,sliceA,elemsA,boundA]
 all_goals refine ret_st ?_ (by first|exact Nat.le_refl _|(simp only[length_set,length_append];omega)|omega)
 all_goals simp only[resA.eq_1,resL.eq_1,resL.eq_2,resV.eq_1,resV.eq_2,↓wBA,tPlh,convA,seval,wH]
 exact⟨[none,some (.row 1 (ordRow fs))],by simp⟩
theorem aclone0 {σ:St}:ACalls Tryz.prog 70 [.p (.v (.slice none 0 0))] σ fun r σ'=>σ'=σ∧r= .p (.v (.slice none 0 0)):=by
 refine acalls_of cx_ok dr_ok Tryz.func70 (by kernel_rfl) rfl (nt:=7) (rs:=[.tmp 2]) rfl rfl ?_
 repeat' first|((with_reducible first|apply cs|apply ws)<;>intro h<;>try simp only[h])|simp only[↓wBA,tPlh,convA,seval,wH]
 all_goals refine ret_st ?_ (by first|exact Nat.le_refl _|(simp only[length_set,length_append];omega)|omega)
 all_goals simp only[resA.eq_1,resL.eq_1,resL.eq_2,resV.eq_1,resV.eq_2,↓wBA,tPlh,convA,seval,wH]
theorem aclone {σ:St}{V:Nat→FrameV}{a:AV}{w:Option Nat}{fs:List Nat}(h:Ord σ V a w fs):ACalls Tryz.prog 70 [a] σ fun r σ'=>Ap σ σ'∧lenA cx 84 r=some fs.length∧(0<fs.length→r= .ms (σ.length+1) 1 0 fs.length∧σ'[σ.length+1]? =some (some (.row 1 (ordRow fs)))):=by
 cases h with
 |nil=>
  refine aclone0.mono ?_
  rintro _ _ ⟨rfl,rfl⟩
  exact⟨Ap.refl _,rfl,fun h=>absurd h (by simp)⟩
 |hp h=>
  refine (aclone1 h).mono ?_
  rintro _ s ⟨h1,rfl,h2⟩
  exact⟨h1,km_84,fun _=>⟨rfl,h2⟩⟩
theorem PoolH.data' {σ s:St}{p dd l kh:Nat}{Fd Gl Fd':Nat→Prop}{w:Option Nat}{a:AV}{P:PoolV}{D':DiskV}(h:PoolH σ p dd l kh Fd Gl w a P)(hf:Fr σ s Fd Fd')(hd:DiskAt s dd Fd' D'):PoolH s p dd l kh Fd' Gl w a { P with data:=D' }:=by
 have hF:∀ t,Fd' t→Fd t∨σ.length≤t:=hf.own
 have hln:=h.ord.lt
 refine⟨hf.get h.o h.pd,hd,h.log.frame hf fun t h1 h2=>h.dl t h2 h1,h.ord.same fun t ht=>hf.keep t (hln t ht) (h.od t ht),hf.get h.has h.kd,fun t h1 h2=> ?_,fun t h1 h2=> ?_,h.ol,fun e=> ?_,h.pl,fun e=> ?_,h.kl⟩
 ·exact (hF t h1).elim (fun e=>h.dl t e h2) fun e=>Nat.lt_irrefl _ (Nat.lt_of_lt_of_le (h.log.lt t h2) e)
 ·exact (hF t h2).elim (h.od t h1) fun e=>Nat.lt_irrefl _ (Nat.lt_of_lt_of_le (hln t h1) e)
 ·exact (hF p e).elim h.pd fun e=>by have:=at_lt h.o;omega
 ·exact (hF kh e).elim h.kd fun e=>by have:=at_lt h.has;omega
theorem PoolH.log' {σ s:St}{p dd l kh:Nat}{Fd Gl Gl':Nat→Prop}{w:Option Nat}{a:AV}{P:PoolV}{L':LogV}(h:PoolH σ p dd l kh Fd Gl w a P)(hf:Fr σ s Gl Gl')(hd:LogAt s l Gl' L'):PoolH s p dd l kh Fd Gl' w a { P with log:=L' }:=by
 have hF:∀ t,Gl' t→Gl t∨σ.length≤t:=hf.own
 have hln:=h.ord.lt
 refine⟨hf.get h.o h.pl,h.data.frame hf fun t h1 h2=>h.dl t h1 h2,hd,h.ord.same fun t ht=>hf.keep t (hln t ht) (h.ol t ht),hf.get h.has h.kl,fun t h1 h2=> ?_,h.od,fun t h1 h2=> ?_,h.pd,fun e=> ?_,h.kd,fun e=> ?_⟩
 ·exact (hF t h2).elim (h.dl t h1) fun e=>Nat.lt_irrefl _ (Nat.lt_of_lt_of_le (h.data.lt t h1) e)
 ·exact (hF t h2).elim (h.ol t h1) fun e=>Nat.lt_irrefl _ (Nat.lt_of_lt_of_le (hln t h1) e)
 ·exact (hF p e).elim h.pl fun e=>by have:=at_lt h.o;omega
 ·exact (hF kh e).elim h.kl fun e=>by have:=at_lt h.has;omega
def gPl (p kh:Nat)(Fd Gl:Nat→Prop)(w:Option Nat)(fs:List Nat)(t:Nat):Prop:=t=p∨t=kh∨Fd t∨Gl t∨oG w fs t
theorem Fr.gd {σ s:St}{p kh:Nat}{Fd Gl Fd':Nat→Prop}{w:Option Nat}{fs:List Nat}(hf:Fr σ s Fd Fd'):Fr σ s (gPl p kh Fd Gl w fs) (gPl p kh Fd' Gl w fs):=hf.sub (fun t ht=>.inr (.inr (.inl ht))) fun t ht=>by
 rcases ht with h|h|h|h|h
 ·exact .inl (.inl h)
 ·exact .inl (.inr (.inl h))
 ·exact (hf.own t h).imp (fun e=>.inr (.inr (.inl e))) id
 ·exact .inl (.inr (.inr (.inr (.inl h))))
 ·exact .inl (.inr (.inr (.inr (.inr h))))
theorem Fr.gl {σ s:St}{p kh:Nat}{Fd Gl Gl':Nat→Prop}{w:Option Nat}{fs:List Nat}(hf:Fr σ s Gl Gl'):Fr σ s (gPl p kh Fd Gl w fs) (gPl p kh Fd Gl' w fs):=hf.sub (fun t ht=>.inr (.inr (.inr (.inl ht)))) fun t ht=>by
 rcases ht with h|h|h|h|h
 ·exact .inl (.inl h)
 ·exact .inl (.inr (.inl h))
 ·exact .inl (.inr (.inr (.inl h)))
 ·exact (hf.own t h).imp (fun e=>.inr (.inr (.inr (.inl e)))) id
 ·exact .inl (.inr (.inr (.inr (.inr h))))
theorem apointIs {σ:St}{p dd l kh:Nat}{G:Nat→Prop}{P:PoolV}(h:PoolIs σ p dd l kh G P)(hc:P.ct+1<18446744073709551616)(hw:P.dq+8≤1000000000000):
 ACalls Tryz.prog 38 [.mp p 6 0 0] σ fun r σ'=>r=intV .i64 0∧∃ G' P',Fr σ σ' G G'∧PoolIs σ' p dd l kh G' P'∧P'.data.size=P.data.size∧P'.most=P.most∧P'.log.disk.size=P.log.disk.size∧P'.log.d=P.log.d∧P'.log.str=[]∧P'.log.len=0∧P'.log.wait=0∧P'.ct≤P.ct+1∧P'.data.wait=[]∧P'.fs.length=P.fs.length∧(∀ n,P'.view n=P.view n)∧∀ f∈P'.fs,(P'.V f).dirty=false:=by
 obtain⟨hk,Fd0,Gl0,w0,a0,h0,hG0⟩:=id h
 have hmb:=hk.mb
 have hln:=hk.len
 refine acalls_of cx_ok dr_ok Tryz.func38 (by kernel_rfl) rfl (nt:=42) (rs:=[.tmp 2]) rfl rfl ?_
 repeat' first|((with_reducible first|apply cs|apply ws)<;>intro h<;>try simp only[h])|simp only[↓wBA,tPlh,convA,seval,wH]
 refine (aflushPIs h (by omega)).mono ?_
 rintro _ s ⟨rfl,G1,P1,hF1,hA1,hK1,f1,m1,v1,d1,w1⟩
 obtain⟨hk1,Fd1,Gl1,ww,a1,H1,hG1⟩:=id hA1
 have j0:=H1.o
 have p0:=at_lt j0
 have hc1:=hK1.ctr
 have hw1:=hK1.dw
 repeat' first|((with_reducible first|apply cs|apply ws)<;>intro h<;>try simp only[h])|simp only[↓wBA,tPlh,convA,seval,wH,j0,p0]
 refine (aclone H1.ord).mono ?_
 rintro r s1 ⟨ha,hr,hrow⟩
 repeat' first|((with_reducible first|apply cs|apply ws)<;>intro h<;>try simp only[h])|simp only[↓wBA,tPlh,convA,seval,wH,hr]
 refine awp_loopS (X:={ i:Nat // i≤P1.fs.length }) (fun i=>P1.fs.length - i.1) (fun i=>[(19,intV .i64 (i.1:Nat))]) [2,5,6,20,21,22,23,24,25,26,27,28,29] (fun i s=>∃ G' P',Fr s1 s G1 G'∧PoolIs s p dd l kh G' P'∧Kp P1 P' 0∧P'.fs=P1.fs∧∀ j f,j<i.1→P1.fs[j]? =some f→(P'.V f).dirty=false) (⟨0,by omega⟩) ?_ ?_ ?_ ?_
 ·simp only[wHl,wHf]
 ·exact⟨G1,P1,Fr.refl _ _,hA1.ap ha,Kp.refl P1 0,rfl,fun j f hj=>absurd hj (Nat.not_lt_zero _)⟩
 ·rintro _ _ ⟨_,_,hf,_⟩
  have:=hf.len;have:=ha.len;have:=hF1.len;omega
 ·intro x J s2 hI
  simp only[wHl]
  obtain⟨i,hi⟩:=x
  obtain⟨G2,P2,hF2,hA2,hK2,f2,hcl⟩:=hI
  dsimp only at*
  have hc2:=hK2.ctr
  have hw2:=hK2.dw
  have e1:P1.fs.length=P.fs.length:=by rw[f1]
  by_cases hlt:i<P1.fs.length
  ·obtain⟨rfl,hrw⟩:=hrow (by omega)
   obtain⟨f,hf⟩:∃ f,P1.fs[i]? =some f:=⟨P1.fs[i],by simp[hlt]⟩
   have k1:=hF2.get hrw (fun e=>by have:=hA1.lt _ e;omega)
   have q1:=at_lt k1
   have b1:=dT (i:=i) (n:=P1.fs.length) (by omega)
   have b2:((i:Int)<(P1.fs.length:Int))=True:=eq_true (by omega)
   have b3:=nnI i
   have hw3:=wI i (by omega)
   have g1:(ordRow P1.fs)[i]? =some [.mp f 516 0 0]:=by simp[ordRow,hf]
   repeat' first|((with_reducible first|apply cs|apply ws)<;>intro h<;>try simp only[h])|simp only[↓wBA,tPlh,convA,seval,wH,wHl,b1,b2,b3,k1,q1,g1]
   refine (aclean hA2 (f:=f) (by rw[f2];exact List.mem_of_getElem? hf) (by omega) (by omega)).mono ?_
   rintro _ s3 ⟨rfl,G3,P3,hF3,hA3,hK3,f3,m3,hd3,hv3⟩
   repeat' first|((with_reducible first|apply cs|apply ws)<;>intro h<;>try simp only[h])|simp only[↓wBA,tPlh,convA,seval,wH,wHl,hw3]
   refine⟨⟨i+1,by omega⟩,by show P1.fs.length - (i+1)<P1.fs.length - i;omega,⟨G3,P3,hF2.trans hF3,hA3,hK2.trans hK3,f3.trans f2,fun j g hj hg=> ?_⟩,?_⟩
   ·by_cases e:j=i
    ·subst e;rw[hf]at hg;cases hg;exact hd3
    ·exact (hv3 g).2.2 (hcl j g (by have:j<i+1:=hj;omega) hg)
   ·simp only[wHl,wHf]
  ·have he:i=P1.fs.length:=by omega
   subst he
   have b1:=dF (i:=P1.fs.length) (n:=P1.fs.length) (by omega)
   obtain⟨hk2,Fd2,Gl2,w2,a2,H2,hG2⟩:=id hA2
   have k0:=H2.o
   have q0:=at_lt k0
   have hall:∀ f∈P2.fs,(P2.V f).dirty=false:=fun f hf=>by
    rw[f2]at hf
    obtain⟨j,hj⟩:=List.getElem?_of_mem hf
    exact hcl j f (List.getElem?_eq_some_iff.1 hj).1 hj
   repeat' first|((with_reducible first|apply cs|apply ws)<;>intro h<;>try simp only[h])|simp only[↓wBA,tPlh,convA,seval,wH,wHl,b1,k0,q0]
   refine (adsync H2.data (by have:=dq_ge P2;omega)).mono ?_
   rintro _ s3 ⟨rfl,Fd3,hf3,hd3⟩
   have H3:=H2.data' hf3 hd3
   have i0:=H3.o
   have r0:=at_lt i0
   repeat' first|((with_reducible first|apply cs|apply ws)<;>intro h<;>try simp only[h])|simp only[↓wBA,tPlh,convA,seval,wH,wHl,i0,r0]
   refine (awreset H3.log (by show P2.log.ctr+1<_;have:=ct_ge P2;omega)).mono ?_
   rintro _ s4 ⟨rfl,Gl4,hf4,hl4⟩
   have H4:=H3.log' hf4 hl4
   have eG:G2=gPl p kh Fd2 Gl2 w2 P2.fs:=funext fun t=>propext (hG2 t)
   have hff:=((((hF1.trans ha.fr).trans hF2).trans (eG▸(hf3.gd (p:=p) (kh:=kh) (Gl:=Gl2) (w:=w2) (fs:=P2.fs)))).trans (hf4.gl (p:=p) (kh:=kh) (Fd:=Fd3) (w:=w2) (fs:=P2.fs)))
   have hlen:=hff.len
   repeat' first|((with_reducible first|apply cs|apply ws)<;>intro h<;>try simp only[h])|simp only[↓wBA,tPlh,convA,seval,wH,wHl]
   all_goals refine ret_st ?_ (by first|exact Nat.le_refl _|(simp only[length_set,length_append];omega)|omega)
   all_goals simp only[resA.eq_1,resL.eq_1,resL.eq_2,resV.eq_1,resV.eq_2,↓wBA,tPlh,convA,seval,wH]
   refine⟨_,_,hff,⟨?_,Fd3,Gl4,w2,a2,H4,fun t=>Iff.rfl⟩,hK2.size.trans hK1.size,hK2.most.trans hK1.most,hK2.ls.trans hK1.ls,hK2.ld.trans hK1.ld,rfl,rfl,rfl,by show P2.log.ctr+1+min 0 1≤_;have:=ct_ge P2;omega,rfl,by show P2.fs.length=_;rw[f2,f1],fun n=>(show P2.view n=P.view n from (hK2.view n).trans (hK1.view n)),hall⟩
   exact⟨hk2.keys,hk2.kn,hk2.m1,hk2.mb,hk2.len,hk2.fn,hk2.nz,hk2.cl,hk2.secs,hk2.size⟩
def tPli:=aa wX <| aa wbu <| aa T3 <| aa T4 <| aa T22 <| aa T23 <| aa T29 <| aa T36 <| aa T39 <| aa T79 <| aa T82 <| aa T86 <| aa T87 <| aa T125 <| aa T127 <| aa T129 T131
theorem aopenPIs {σ:St}{dd dl:Nat}{Fd Fl:Nat→Prop}{D DL:DiskV}(hd:DiskAt σ dd Fd D)(hl:DiskAt σ dl Fl DL)(hdj:∀ t,Fd t→Fl t→False)(hz:16≤D.size)(hs:∀ k,(secAt D.now k).length=64)(hlz:3≤DL.size)(c:Nat)(hh:Heads DL.now c 0)(hls:∀ k,(secAt DL.now k).length=64)(hw:DL.wait=[])(most:Nat)(hm:1≤most)(hmb:most≤100000):
 ACalls Tryz.prog 12 [.mp dd 6 0 0,.mp dl 6 0 0,intV .i64 (most:Nat)] σ fun r σ'=>∃ p l kh G P,r= .tup [.mp p 6 0 0,intV .i64 0]∧Ap σ σ'∧PoolIs σ' p dd l kh G P∧P.fs=[]∧P.hm=[]∧P.most=most∧P.data=D∧P.log={ d:=dl,disk:=DL,ctr:=c,len:=0,str:=[],wait:=0 }∧∀ t,G t→Fd t∨Fl t∨σ.length≤t:=by
 have e1:decide ((most:Int)<1)=false:=by simp;omega
 have e2:decide ((D.size:Int)<16)=false:=by simp;omega
 refine acalls_of cx_ok dr_ok Tryz.func12 (by kernel_rfl) rfl (nt:=72) (rs:=[.tmp 6,.tmp 7]) rfl rfl ?_
 repeat' first|((with_reducible first|apply cs|apply ws)<;>intro h<;>try simp only[h])|simp only[↓wBA,tPli,convA,seval,wH,e1,e2]|((with_reducible show ACalls _ _ _ _ _);first|refine (adsize hd).eq ?_|(refine (awopen hl hlz c hh hls hw).mono ?_;rintro _ s ⟨rfl,ha,hL⟩))
 have hsl:=hL.lt _ (.inl rfl)
 obtain⟨S,hS⟩:∃ S,S=s++[some (.map [])]++[some (.row 6 [[.mp dd 6 0 0,.mp σ.length 5 0 0,.p (.v (.int .i64 (most:Nat))),.p (.v (.slice none 0 0)),.mmap s.length,.p (.v (.int .i64 0))]])]:=⟨_,rfl⟩
 rw[← hS]
 have hApS:Ap s S:=by rw[hS];exact (Ap.app _ _).more _
 have hPool:PoolIs S (s.length+1) dd σ.length s.length (fun t=>t=s.length+1∨t=s.length∨Fd t∨(t=σ.length∨Fl t)∨oG none [] t) ⟨D,{ d:=dl,disk:=DL,ctr:=c,len:=0,str:=[],wait:=0 },most,0,[],fun _=>⟨0,[],false,0⟩,[]⟩:=by
  refine⟨⟨fun n f=>by simp[lkM],by simp,hm,hmb,by simp,by simp,by simp,by simp,hs,hz⟩,Fd,(fun t=>t=σ.length∨Fl t),none,_,⟨by rw[hS];simp[intV],(hd.ap ha).ap hApS,hL.same (fun t ht=>by have:=hL.lt t ht;rw[hS,List.append_assoc,List.getElem?_append_left this]),.nil,by rw[hS];simp[encM],fun t h1 h2=> ?_,fun t h1=> ?_,fun t h1=> ?_,fun e=> ?_,fun e=> ?_,fun e=> ?_,fun e=> ?_⟩,fun t=>Iff.rfl⟩
  ·rcases h2 with rfl|h2
   ·exact Nat.lt_irrefl _ (hd.lt _ h1)
   ·exact hdj t h1 h2
  ·rcases h1 with h1|h1<;>simp at h1
  ·rcases h1 with h1|h1<;>simp at h1
  ·have:=hd.lt _ e;omega
  ·have:=hL.lt _ e;omega
  ·have:=hd.lt _ e;omega
  ·have:=hL.lt _ e;omega
 have hfin:=ha.trans hApS
 have hlen:=hfin.len
 refine awp_loopS (X:=Nat) (fun i=>0) (fun i=>[(46,intV .i64 0)]) [6,7,13,14,15,16,47,48,49,50,51,52,53,54,55,56,57,58,59,60,61,62,63,64,65] (fun i q=>q=S) (0) ?_ ?_ ?_ ?_
 ·simp only[wHl,wHf]
 ·rfl
 ·rintro _ _ rfl;first|exact hlen|exact Nat.le_refl _
 ·intro x J q hI
  simp only[wHl]
  subst hI
  repeat' first|((with_reducible first|apply cs|apply ws)<;>intro h<;>try simp only[h])|simp only[↓wBA,tPli,convA,seval,wH,wHl]
  all_goals refine ret_st ?_ (by first|exact Nat.le_refl _|(simp only[length_set,length_append];omega)|omega)
  all_goals simp only[resA.eq_1,resL.eq_1,resL.eq_2,resV.eq_1,resV.eq_2,↓wBA,tPli,convA,seval,wH]
  all_goals refine⟨_,_,_,_,_,rfl,hfin,hPool,rfl,rfl,rfl,rfl,rfl,fun t ht=> ?_⟩
  all_goals rcases ht with rfl|rfl|ht|(rfl|ht)|ht
  all_goals first|exact .inl ht|exact .inr (.inl ht)|(right;right;omega)|(rcases ht with ht|ht<;>simp at ht)
def imgB (q:Nat×List UInt8):List UInt8:=UInt8.ofNat (q.1 % 256)::UInt8.ofNat (q.1 / 256 % 256)::q.2
def imgsB (ch:List (Nat×List UInt8)):List UInt8:=ch.flatMap imgB
theorem imgB_len {q:Nat×List UInt8}(h:q.2.length=512):(imgB q).length=514:=by simp[imgB,h]
theorem imgsB_cons (q:Nat×List UInt8)(ch:List (Nat×List UInt8)):imgsB (q::ch)=imgB q++imgsB ch:=rfl
theorem imgsB_app (a b:List (Nat×List UInt8)):imgsB (a++b)=imgsB a++imgsB b:=List.flatMap_append ..
theorem imgsB_len:∀ {ch:List (Nat×List UInt8)},(∀ q∈ch,q.2.length=512)→(imgsB ch).length=514*ch.length
 |[],_=>rfl
 |q::ch,h=>by
  rw[imgsB_cons,length_append,imgB_len (h q (by simp)),imgsB_len fun x hx=>h x (by simp[hx]),List.length_cons]
  omega
def keptPg (f:Nat→List UInt8)(n:Nat):List UInt8:=(List.range 8).flatMap fun i=>f (8*n+i)
def ChsOk (np:Nat)(chs:List (List (Nat×List UInt8))):Prop:=∀ ch∈chs,ch≠[]∧∀ q∈ch,q.1<np∧q.2.length=512∧pgz q.2=q.2
theorem ovr_app2 (v:Nat→List UInt8)(b:List (Nat×List UInt8))(m:Nat):∀ a,ovr v (a++b) m=ovr (ovr v a) b m:=by
 intro a
 induction a generalizing v with
 |nil=>rfl
 |cons r a ih=>exact ih _
theorem Kq.then {P P1 P2:PoolV}{i j:Nat}{v v':Nat→List UInt8}(h1:Kq P P1 i v)(h2:Kq P1 P2 j v'):Kq P P2 (i+j) v':=
 ⟨h2.size.trans h1.size,h2.most.trans h1.most,h2.ls.trans h1.ls,h2.ld.trans h1.ld,h2.str.trans h1.str,Nat.le_trans h2.wait h1.wait,by have:=h1.ctr;have:=h2.ctr;omega,by have:=h1.dw;have:=h2.dw;omega,h2.view,h2.kept.trans h1.kept⟩
end Go.Proofs.YthhbnenaihkggaaGreat
