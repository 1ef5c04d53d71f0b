/- Pools: Read, Flush, put. Pools: put. Pools: Point. Pools: Open. Pools: a batch's record is read. Pools: one on disks whose log has records is opened. -/
import Derived.Test.YtockimhceppkbaaGreatM23
import Derived.Test.YtockimhceppkbaaGreatM20
set_option linter.unusedSimpArgs false
set_option linter.unusedVariables false
set_option linter.defProp false
set_option maxRecDepth 100000
set_option maxHeartbeats 32000000
namespace Go.Proofs.YtockimhceppkbaaGreat
open Go.RowKit
def tPlf:=aa wX <| aa wbu <| aa T3 <| aa T24 <| aa T25 <| aa T66 <| aa T73 <| aa T106 T134
structure Kq (P P':PoolV)(k:Nat)(v:Nat→List UInt8):Prop where
 size:P'.data.size=P.data.size
 most:P'.most=P.most
 ls:P'.log.disk.size=P.log.disk.size
 ld:P'.log.d=P.log.d
 str:P'.log.str=P.log.str
 wait:P'.log.wait≤P.log.wait
 ctr:P'.ct≤P.ct+k
 dw:P'.dq≤P.dq+8*k
 view:∀ n,P'.view n=v n
 kept:P'.data.kept=P.data.kept
theorem Kp.q {P P':PoolV}{k:Nat}(h:Kp P P' k):Kq P P' k P.view:=⟨h.size,h.most,h.ls,h.ld,h.str,h.wait,h.ctr,h.dw,h.view,h.kept⟩
theorem Kq.pages {P P':PoolV}{k:Nat}{v:Nat→List UInt8}(h:Kq P P' k v):P'.pages=P.pages:=by unfold PoolV.pages;rw[h.size]
theorem countP_dirt (V:Nat→FrameV)(pg:List UInt8)(f:Nat):∀ fs:List Nat,fs.Nodup→fs.countP (fun g=>(updV V f { V f with pg:=pg,dirty:=true } g).dirty)≤fs.countP (fun g=>(V g).dirty)+1
 |[],_=>by simp
 |g::fs,hn=>by
  rw[List.nodup_cons]at hn
  rw[List.countP_cons,List.countP_cons]
  by_cases e:g=f
  ·subst e
   have:fs.countP (fun x=>(updV V g { V g with pg:=pg,dirty:=true } x).dirty)=fs.countP fun x=>(V x).dirty:=List.countP_congr fun x hx=>by
    have:x≠g:=fun e=>hn.1 (e▸hx)
    simp only[updV,if_neg this]
   rw[this]
   split<;>omega
  ·have ih:=countP_dirt V pg f fs hn.2
   have e2:(updV V f { V f with pg:=pg,dirty:=true } g).dirty=(V g).dirty:=by simp only[updV,if_neg e]
   rw[e2]
   omega
theorem PoolIs.wr {σ:St}{p dd l kh f n:Nat}{G:Nat→Prop}{P:PoolV}(h:PoolIs σ p dd l kh G P)(hlk:lkM P.hm n=some f)(pg:List UInt8)(hl:pg.length=512)(hz:pgz pg=pg):
 G f∧∃ i,σ[f]? =some (frOb (P.V f) i)∧(P.V f).pg.length=512∧(P.V f).pg=P.view n∧∀ s:St,s[f]? =some (frOb { P.V f with pg:=pg,dirty:=true } i)→(∀ t,t≠f→s[t]? =σ[t]?)→∃ P',PoolIs s p dd l kh G P'∧Kq P P' 1 fun m=>if m=n then pg else P.view m:=by
 obtain⟨hk,Fd,Gl,w,a,h,hG⟩:=h
 obtain⟨hf,hn⟩:=(hk.keys n f).1 hlk
 obtain⟨i,hi,f1,p1⟩:=h.ord.at hf
 have hog:oG w P.fs f:=.inr hf
 refine⟨(hG f).2 (.inr (.inr (.inr (.inr hog)))),i,f1,p1,by unfold PoolV.view;rw[hlk],fun s hs ho=> ?_⟩
 have hne:∀ t x,σ[t]? =some x→(∀ c,x≠some (.row 516 c))→t≠f:=fun t x ht hx e=>by
  subst e;rw[ht]at f1;exact hx _ (by simpa [frOb]using f1)
 have hup:∀ g,g≠f→updV P.V f { P.V f with pg:=pg,dirty:=true } g=P.V g:=fun g hg=>if_neg hg
 have huf:updV P.V f { P.V f with pg:=pg,dirty:=true } f={ P.V f with pg:=pg,dirty:=true }:=if_pos rfl
 have hun:∀ g,(updV P.V f { P.V f with pg:=pg,dirty:=true } g).n=(P.V g).n:=fun g=>by
  by_cases e:g=f
  ·subst e;rw[huf]
  ·rw[hup g e]
 refine⟨{ P with V:=updV P.V f { P.V f with pg:=pg,dirty:=true } },⟨⟨fun m g=> ?_,hk.kn,hk.m1,hk.mb,hk.len,fun g hg=> ?_,fun g hg=> ?_,fun g hg hd=> ?_,hk.secs,hk.size⟩,Fd,Gl,w,a,h.re (by rw[ho p (hne p _ h.o (by simp))];exact h.o) rfl rfl (by rw[ho kh (hne kh _ h.has (by simp))];exact h.has) (fun t ht=>ho t fun e=> ?_) (h.ord.upd hi _ hl hs fun t _ ht=>ho t ht) fun t ht=>h.no (.inl ht),hG⟩,⟨rfl,rfl,rfl,rfl,rfl,Nat.le_refl _,ct_le rfl _,by
  have:=countP_dirt P.V pg f P.fs h.ord.big.2
  show P.data.wait.length+8*P.fs.countP (fun g=>(updV P.V f { P.V f with pg:=pg,dirty:=true } g).dirty)≤P.data.wait.length+8*P.fs.countP (fun g=>(P.V g).dirty)+8*1
  omega,fun m=> ?_,rfl⟩⟩
 ·show lkM P.hm m=some g↔g∈P.fs∧(updV P.V f { P.V f with pg:=pg,dirty:=true } g).n=m
  rw[hun];exact hk.keys m g
 ·show (updV P.V f { P.V f with pg:=pg,dirty:=true } g).n<P.pages
  rw[hun];exact hk.fn g hg
 ·show pgz (updV P.V f { P.V f with pg:=pg,dirty:=true } g).pg=(updV P.V f { P.V f with pg:=pg,dirty:=true } g).pg
  by_cases e:g=f
  ·subst e;rw[huf];exact hz
  ·rw[hup g e];exact hk.nz g hg
 ·show pgz (diskPg P.data.now (updV P.V f { P.V f with pg:=pg,dirty:=true } g).n)=(updV P.V f { P.V f with pg:=pg,dirty:=true } g).pg
  have hd':(updV P.V f { P.V f with pg:=pg,dirty:=true } g).dirty=false:=hd
  by_cases e:g=f
  ·subst e;rw[huf]at hd';cases hd'
  ·rw[hup g e]at hd' ⊢;exact hk.cl g hg hd'
 ·subst e;exact ht.elim (h.od t hog) (h.ol t hog)
 ·unfold PoolV.view
  show (match lkM P.hm m with|some g=>(updV P.V f { P.V f with pg:=pg,dirty:=true } g).pg|none=>pgz (diskPg P.data.now m))=_
  by_cases hm:m=n
  ·subst hm;rw[if_pos rfl,hlk];simp only[huf]
  ·rw[if_neg hm]
   cases hl2:lkM P.hm m with
   |none=>rfl
   |some g=>
    have:g≠f:=fun e=>hm (by
     subst e
     rw[← ((hk.keys m g).1 hl2).2,hn])
    simp only[hup g this]
theorem PoolIs.fr {σ:St}{p dd l kh f n:Nat}{G:Nat→Prop}{P:PoolV}(h:PoolIs σ p dd l kh G P)(hlk:lkM P.hm n=some f):
 G f∧∃ i,σ[f]? =some (some (.row 516 [frR (P.V f).n (P.view n) (P.V f).dirty (P.V f).used (i:Nat)]))∧(P.view n).length=512∧pgz (P.view n)=P.view n:=by
 obtain⟨hk,Fd,Gl,w,a,h,hG⟩:=h
 obtain⟨hf,hn⟩:=(hk.keys n f).1 hlk
 obtain⟨i,hi,f1,p1⟩:=h.ord.at hf
 have hv:P.view n=(P.V f).pg:=by unfold PoolV.view;rw[hlk]
 exact⟨(hG f).2 (.inr (.inr (.inr (.inr (.inr hf))))),i,by rw[hv];exact f1,by rw[hv];exact p1,by rw[hv];exact hk.nz f hf⟩
theorem PoolIs.vlen {σ:St}{p dd l kh:Nat}{G:Nat→Prop}{P:PoolV}(h:PoolIs σ p dd l kh G P)(n:Nat):(P.view n).length=512∧pgz (P.view n)=P.view n:=by
 cases hlk:lkM P.hm n with
 |some f=>exact (h.fr hlk).2.elim fun _ h=>h.2
 |none=>
  have:P.view n=pgz (diskPg P.data.now n):=by unfold PoolV.view;rw[hlk]
  rw[this]
  exact⟨pgz_len (diskPg_len h.1.secs n),pgz_pgz _⟩
theorem areadIs {σ:St}{p dd l kh n:Nat}{G:Nat→Prop}{P:PoolV}(h:PoolIs σ p dd l kh G P)(hn:n<P.pages)(hc:P.ct+1<18446744073709551616)(hw:P.dq+8≤1000000000000):
 ACalls Tryz.prog 102 [.mp p 6 0 0,intV .i64 (n:Nat)] σ fun r σ'=>r= .tup [pageA (P.view n),intV .i64 0]∧∃ G' P',Fr σ σ' G G'∧PoolIs σ' p dd l kh G' P'∧Kp P P' 0:=by
 have e1:decide ((n:Int)<0)=false:=by simp
 have e2:decide ((n:Int)≥(P.pages:Int))=false:=by simp;omega
 have hlt:=h.lt
 refine acalls_of cx_ok dr_ok Tryz.func102 (by kernel_rfl) rfl (nt:=34) (rs:=[.cell 4 106,.tmp 5]) rfl rfl ?_
 repeat' first|((with_reducible first|apply cs|apply ws)<;>intro h<;>try simp only[h])|simp only[↓wBA,tPlf,convA,seval,wH,e1,e2]|((with_reducible show ACalls _ _ _ _ _);refine (apagesIs (h.ap (Ap.app _ _))).eq ?_)
 refine (aload (h.ap (Ap.app _ _)) hn hc hw).mono ?_
 rintro _ s ⟨f,G1,P1,rfl,hF,hA,hK,hlk⟩
 have c0:(σ++[some (.row 512 [List.map (fun x=>AV.p (PV.v x)) (zB 512)])])[σ.length]? =some (some (.row 512 [List.map (fun x=>AV.p (PV.v x)) (zB 512)])):=by simp
 have c1:=hF.get c0 (fun e=>Nat.lt_irrefl _ (hlt _ e))
 have l1:=at_lt c1
 obtain⟨_,i,f1,pl,_⟩:=hA.fr hlk
 have q1:=at_lt f1
 have n1:(f=σ.length)=False:=nf (ne_of_ob f1 c1 (by simp))
 have n2:(σ.length=f)=False:=nf (ne_of_ob c1 f1 (by simp))
 have pc:=pageC_512 pl
 have zl:(zB 512).length=512:=by simp[zB]
 rw[zB_512]at c1
 have z5:=pageC_512 len_zero512
 repeat' first|((with_reducible first|apply cs|apply ws)<;>intro h<;>try simp only[h])|simp only[↓wBA,tPlf,convA,seval,wH,c1,l1,f1,q1,n1,n2,pl,pc,wFr,z5]
 have hF':=((Ap.app σ _).fr.trans hF)
 have hlen:=hF'.len
 all_goals refine ret_st ?_ (by first|exact Nat.le_refl _|(simp only[List.length_set,List.length_append];omega)|omega)
 all_goals simp only[resA.eq_1,resL.eq_1,resL.eq_2,resV.eq_1,resV.eq_2,↓wBA,tPlf,convA,seval,wH,l1,pc]
 refine⟨by rw[← hK.view n];rfl,G1,P1,⟨by simpa using hlen,fun t ht hn=> ?_,hF'.own⟩,hA.same fun t ht=>List.getElem?_set_ne fun e=> ?_,hK⟩
 ·rw[List.getElem?_set_ne (by omega)];exact hF'.keep t ht hn
 ·subst e
  rcases hF.own _ ht with e|e
  ·exact Nat.lt_irrefl _ (hlt _ e)
  ·simp at e;omega
def imgR (q:Nat×List UInt8):List AV:=.p (.v (.int .i64 (q.1:Nat)))::pageC q.2
structure ChAt (σ:St)(t:Nat)(ch:List (Nat×List UInt8)):Prop where
 row:∃ ls,σ[t]? =some (some (.row 513 ls))∧ls.take ch.length=ch.map imgR∧ch.length≤ls.length
theorem ChAt.get {σ:St}{t:Nat}{ch:List (Nat×List UInt8)}(h:ChAt σ t ch):∃ ls,σ[t]? =some (some (.row 513 ls))∧∀ (i:Nat) (q:Nat×List UInt8),ch[i]? =some q→ls[i]? =some (imgR q):=by
 obtain⟨ls,h1,h2,h3⟩:=h.row
 refine⟨ls,h1,fun i q hq=> ?_⟩
 have hl:=(List.getElem?_eq_some_iff.1 hq).1
 have:(ls.take ch.length)[i]? =some (imgR q):=by rw[h2];simp[hq]
 rwa [List.getElem?_take,if_pos hl]at this
def gPl (p kh:Nat)(Fd Gl:Nat→Prop)(w:Option Nat)(fs:List Nat)(t:Nat):Prop:=t=p∨t=kh∨Fd t∨Gl t∨oG w fs t
theorem Fr.gd {σ s:St}{p kh:Nat}{Fd Gl Fd':Nat→Prop}{w:Option Nat}{fs:List Nat}(hf:Fr σ s Fd Fd'):Fr σ s (gPl p kh Fd Gl w fs) (gPl p kh Fd' Gl w fs):=hf.sub (fun t ht=>.inr (.inr (.inl ht))) fun t ht=>by
 rcases ht with h|h|h|h|h
 ·exact .inl (.inl h)
 ·exact .inl (.inr (.inl h))
 ·exact (hf.own t h).imp (fun e=>.inr (.inr (.inl e))) id
 ·exact .inl (.inr (.inr (.inr (.inl h))))
 ·exact .inl (.inr (.inr (.inr (.inr h))))
theorem Fr.gl {σ s:St}{p kh:Nat}{Fd Gl Gl':Nat→Prop}{w:Option Nat}{fs:List Nat}(hf:Fr σ s Gl Gl'):Fr σ s (gPl p kh Fd Gl w fs) (gPl p kh Fd Gl' w fs):=hf.sub (fun t ht=>.inr (.inr (.inr (.inl ht)))) fun t ht=>by
 rcases ht with h|h|h|h|h
 ·exact .inl (.inl h)
 ·exact .inl (.inr (.inl h))
 ·exact .inl (.inr (.inr (.inl h)))
 ·exact (hf.own t h).imp (fun e=>.inr (.inr (.inr (.inl e)))) id
 ·exact .inl (.inr (.inr (.inr (.inr h))))
def tPli:=aa wX <| aa wbu <| aa T3 <| aa T4 <| aa T22 <| aa T24 <| aa T25 <| aa T28 <| aa T35 <| aa T66 <| aa T69 <| aa T73 <| aa T74 <| aa T116 <| aa T118 <| aa T120 T122
theorem aopenPIs {σ:St}{dd dl:Nat}{Fd Fl:Nat→Prop}{D DL:DiskV}(hd:DiskAt σ dd Fd D)(hl:DiskAt σ dl Fl DL)(hdj:∀ t,Fd t→Fl t→False)(hz:16≤D.size)(hs:∀ k,(secAt D.now k).length=64)(hlz:3≤DL.size)(c:Nat)(hh:Heads DL.now c 0)(hls:∀ k,(secAt DL.now k).length=64)(hw:DL.wait=[])(most:Nat)(hm:1≤most)(hmb:most≤100000):
 ACalls Tryz.prog 8 [.mp dd 6 0 0,.mp dl 6 0 0,intV .i64 (most:Nat)] σ fun r σ'=>∃ p l kh G P,r= .tup [.mp p 6 0 0,intV .i64 0]∧Ap σ σ'∧PoolIs σ' p dd l kh G P∧P.fs=[]∧P.hm=[]∧P.most=most∧P.data=D∧P.log={ d:=dl,disk:=DL,ctr:=c,len:=0,str:=[],wait:=0 }∧∀ t,G t→Fd t∨Fl t∨σ.length≤t:=by
 have e1:decide ((most:Int)<1)=false:=by simp;omega
 have e2:decide ((D.size:Int)<16)=false:=by simp;omega
 refine acalls_of cx_ok dr_ok Tryz.func8 (by kernel_rfl) rfl (nt:=72) (rs:=[.tmp 6,.tmp 7]) rfl rfl ?_
 repeat' first|((with_reducible first|apply cs|apply ws)<;>intro h<;>try simp only[h])|simp only[↓wBA,tPli,convA,seval,wH,e1,e2]|((with_reducible show ACalls _ _ _ _ _);first|refine (adsize hd).eq ?_|(refine (awopen hl hlz c hh hls hw).mono ?_;rintro _ s ⟨rfl,ha,hL⟩))
 have hsl:=hL.lt _ (.inl rfl)
 obtain⟨S,hS⟩:∃ S,S=s++[some (.map [])]++[some (.row 6 [[.mp dd 6 0 0,.mp σ.length 5 0 0,.p (.v (.int .i64 (most:Nat))),.p (.v (.slice none 0 0)),.mmap s.length,.p (.v (.int .i64 0))]])]:=⟨_,rfl⟩
 rw[← hS]
 have hApS:Ap s S:=by rw[hS];exact (Ap.app _ _).more _
 have hPool:PoolIs S (s.length+1) dd σ.length s.length (fun t=>t=s.length+1∨t=s.length∨Fd t∨(t=σ.length∨Fl t)∨oG none [] t) ⟨D,{ d:=dl,disk:=DL,ctr:=c,len:=0,str:=[],wait:=0 },most,0,[],fun _=>⟨0,[],false,0⟩,[]⟩:=by
  refine⟨⟨fun n f=>by simp[lkM],by simp,hm,hmb,by simp,by simp,by simp,by simp,hs,hz⟩,Fd,(fun t=>t=σ.length∨Fl t),none,_,⟨by rw[hS];simp[intV],(hd.ap ha).ap hApS,hL.same (fun t ht=>by have:=hL.lt t ht;rw[hS,List.append_assoc,List.getElem?_append_left this]),.nil,by rw[hS];simp[encM],fun t h1 h2=> ?_,fun t h1=> ?_,fun t h1=> ?_,fun e=> ?_,fun e=> ?_,fun e=> ?_,fun e=> ?_⟩,fun t=>Iff.rfl⟩
  ·rcases h2 with rfl|h2
   ·exact Nat.lt_irrefl _ (hd.lt _ h1)
   ·exact hdj t h1 h2
  ·rcases h1 with h1|h1<;>simp at h1
  ·rcases h1 with h1|h1<;>simp at h1
  ·have:=hd.lt _ e;omega
  ·have:=hL.lt _ e;omega
  ·have:=hd.lt _ e;omega
  ·have:=hL.lt _ e;omega
 have hfin:=ha.trans hApS
 have hlen:=hfin.len
 refine awp_loopS (X:=Nat) (fun i=>0) (fun i=>[(46,intV .i64 0)]) [6,7,13,14,15,16,47,48,49,50,51,52,53,54,55,56,57,58,59,60,61,62,63,64,65] (fun i q=>q=S) (0) ?_ ?_ ?_ ?_
 ·simp only[wHl,wHf]
 ·rfl
 ·rintro _ _ rfl;first|exact hlen|exact Nat.le_refl _
 ·intro x J q hI
  simp only[wHl]
  subst hI
  repeat' first|((with_reducible first|apply cs|apply ws)<;>intro h<;>try simp only[h])|simp only[↓wBA,tPli,convA,seval,wH,wHl]
  all_goals refine ret_st ?_ (by first|exact Nat.le_refl _|(simp only[List.length_set,List.length_append];omega)|omega)
  all_goals simp only[resA.eq_1,resL.eq_1,resL.eq_2,resV.eq_1,resV.eq_2,↓wBA,tPli,convA,seval,wH]
  all_goals refine⟨_,_,_,_,_,rfl,hfin,hPool,rfl,rfl,rfl,rfl,rfl,fun t ht=> ?_⟩
  all_goals rcases ht with rfl|rfl|ht|(rfl|ht)|ht
  all_goals first|exact .inl ht|exact .inr (.inl ht)|(right;right;omega)|(rcases ht with ht|ht<;>simp at ht)
def imgB (q:Nat×List UInt8):List UInt8:=UInt8.ofNat (q.1 % 256)::UInt8.ofNat (q.1 / 256 % 256)::q.2
def imgsB (ch:List (Nat×List UInt8)):List UInt8:=ch.flatMap imgB
def keptPg (f:Nat→List UInt8)(n:Nat):List UInt8:=(List.range 8).flatMap fun i=>f (8*n+i)
def ChsOk (np:Nat)(chs:List (List (Nat×List UInt8))):Prop:=∀ ch∈chs,ch≠[]∧∀ q∈ch,q.1<np∧q.2.length=512∧pgz q.2=q.2
theorem ovr_app2 (v:Nat→List UInt8)(b:List (Nat×List UInt8))(m:Nat):∀ a,ovr v (a++b) m=ovr (ovr v a) b m:=by
 intro a
 induction a generalizing v with
 |nil=>rfl
 |cons r a ih=>exact ih _
theorem Kq.then {P P1 P2:PoolV}{i j:Nat}{v v':Nat→List UInt8}(h1:Kq P P1 i v)(h2:Kq P1 P2 j v'):Kq P P2 (i+j) v':=
 ⟨h2.size.trans h1.size,h2.most.trans h1.most,h2.ls.trans h1.ls,h2.ld.trans h1.ld,h2.str.trans h1.str,Nat.le_trans h2.wait h1.wait,by have:=h1.ctr;have:=h2.ctr;omega,by have:=h1.dw;have:=h2.dw;omega,h2.view,h2.kept.trans h1.kept⟩
end Go.Proofs.YtockimhceppkbaaGreat
