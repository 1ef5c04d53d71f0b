/- Pools: Read, Flush, put. Pools: put. Pools: Point. Pools: Open. Pools: a batch's record is read. Pools: one on disks whose log has records is opened. -/
import Derived.Test.YtpoigihfeehehaaGreatDoorM26
import Derived.Test.YtpoigihfeehehaaGreatDoorM23
set_option linter.all false
set_option maxRecDepth 100000
set_option maxHeartbeats 32000000
namespace Go.Proofs.YtpoigihfeehehaaGreatDoor
open Go.RowKit
def tPlf:=aa wX <| aa wbu <| aa T3 <| aa T28 <| aa T29 <| aa T80 <| aa T88 <| aa Y1 T158
structure Kq (P P':Ak)(k:Nat)(v:Nat→List UInt8):Prop where
 size:P'.data.size=P.data.size
 most:P'.most=P.most
 ls:P'.log.disk.size=P.log.disk.size
 ld:P'.log.d=P.log.d
 str:P'.log.str=P.log.str
 wait:P'.log.wait≤P.log.wait
 ctr:P'.ct≤P.ct+k
 dw:P'.dq≤P.dq+8*k
 view:∀ n,P'.view n=v n
 kept:P'.data.kept=P.data.kept
theorem Kp.q {P P':Ak}{k:Nat}(h:Kp P P' k):Kq P P' k P.view:=⟨h.size,h.most,h.ls,h.ld,h.str,h.wait,h.ctr,h.dw,h.view,h.kept⟩
theorem Kq.pages {P P':Ak}{k:Nat}{v:Nat→List UInt8}(h:Kq P P' k v):P'.pages=P.pages:=by unfold Ak.pages;rw[h.size]
theorem Py (V:Nat→B7)(pg:List UInt8)(f:Nat):∀ fs:List Nat,fs.Nodup→fs.countP (fun g=>(Dj V f { V f with pg:=pg,dirty:=true } g).dirty)≤fs.countP (fun g=>(V g).dirty)+1
 |[],_=>by simp
 |g::fs,hn=>by
  rw[ZU]at hn
  rw[VE,VE]
  by_cases e:g=f
  ·subst e
   have:fs.countP (fun x=>(Dj V g { V g with pg:=pg,dirty:=true } x).dirty)=fs.countP fun x=>(V x).dirty:=List.countP_congr fun x hx=>by
    have:x≠g:=fun e=>hn.1 (e▸hx)
    simp only[Dj,if_neg this]
   rw[this]
   split<;>omega
  ·have ih:=Py V pg f fs hn.2
   have e2:(Dj V f { V f with pg:=pg,dirty:=true } g).dirty=(V g).dirty:=by simp only[Dj,if_neg e]
   rw[e2]
   omega
theorem Bg.wr {σ:St}{p dd l kh f n:Nat}{G:Nat→Prop}{P:Ak}(h:Bg σ p dd l kh G P)(hlk:lkM P.hm n=some f)(pg:List UInt8)(hl:pg.length=512)(hz:pgz pg=pg):
 G f∧∃ i,σ[f]? =some (Gc (P.V f) i)∧(P.V f).pg.length=512∧(P.V f).pg=P.view n∧∀ s:St,s[f]? =some (Gc { P.V f with pg:=pg,dirty:=true } i)→(∀ t,t≠f→s[t]? =σ[t]?)→∃ P',Bg s p dd l kh G P'∧Kq P P' 1 fun m=>if m=n then pg else P.view m:=by
 obtain⟨hk,Fd,Gl,w,a,h,hG⟩:=h
 obtain⟨hf,hn⟩:=(hk.keys n f).1 hlk
 obtain⟨i,hi,f1,p1⟩:=h.ord.at hf
 have hog:oG w P.fs f:=.inr hf
 refine⟨(hG f).2 (.inr (.inr (.inr (.inr hog)))),i,f1,p1,by unfold Ak.view;rw[hlk],fun s hs ho=> ?_⟩
 have hne:∀ t x,σ[t]? =some x→(∀ c,x≠some (.row 516 c))→t≠f:=fun t x ht hx e=>by
  subst e;rw[ht]at f1;exact hx _ (by simpa [Gc]using f1)
 have hup:∀ g,g≠f→Dj P.V f { P.V f with pg:=pg,dirty:=true } g=P.V g:=fun g hg=>if_neg hg
 have huf:Dj P.V f { P.V f with pg:=pg,dirty:=true } f={ P.V f with pg:=pg,dirty:=true }:=if_pos rfl
 have hun:∀ g,(Dj P.V f { P.V f with pg:=pg,dirty:=true } g).n=(P.V g).n:=fun g=>by
  by_cases e:g=f
  ·subst e;rw[huf]
  ·rw[hup g e]
 refine⟨{ P with V:=Dj P.V f { P.V f with pg:=pg,dirty:=true } },⟨⟨fun m g=> ?_,hk.kn,hk.m1,hk.mb,hk.len,fun g hg=> ?_,fun g hg=> ?_,fun g hg hd=> ?_,hk.secs,hk.size⟩,Fd,Gl,w,a,h.re (by rw[ho p (hne p _ h.o (by simp))];exact h.o) rfl rfl (by rw[ho kh (hne kh _ h.has (by simp))];exact h.has) (fun t ht=>ho t fun e=> ?_) (h.ord.upd hi _ hl hs fun t _ ht=>ho t ht) fun t ht=>h.no (.inl ht),hG⟩,⟨rfl,rfl,rfl,rfl,rfl,QH _,Alh rfl _,by
  have:=Py P.V pg f P.fs h.ord.big.2
  show P.data.wait.length+8*P.fs.countP (fun g=>(Dj P.V f { P.V f with pg:=pg,dirty:=true } g).dirty)≤P.data.wait.length+8*P.fs.countP (fun g=>(P.V g).dirty)+8*1
  omega,fun m=> ?_,rfl⟩⟩
 ·show lkM P.hm m=some g↔g∈P.fs∧(Dj P.V f { P.V f with pg:=pg,dirty:=true } g).n=m
  rw[hun];exact hk.keys m g
 ·show (Dj P.V f { P.V f with pg:=pg,dirty:=true } g).n<P.pages
  rw[hun];exact hk.fn g hg
 ·show pgz (Dj P.V f { P.V f with pg:=pg,dirty:=true } g).pg=(Dj P.V f { P.V f with pg:=pg,dirty:=true } g).pg
  by_cases e:g=f
  ·subst e;rw[huf];exact hz
  ·rw[hup g e];exact hk.nz g hg
 ·show pgz (Bq P.data.now (Dj P.V f { P.V f with pg:=pg,dirty:=true } g).n)=(Dj P.V f { P.V f with pg:=pg,dirty:=true } g).pg
  have hd':(Dj P.V f { P.V f with pg:=pg,dirty:=true } g).dirty=false:=hd
  by_cases e:g=f
  ·subst e;rw[huf]at hd';cases hd'
  ·rw[hup g e]at hd' ⊢;exact hk.cl g hg hd'
 ·subst e;exact ht.elim (h.od t hog) (h.ol t hog)
 ·unfold Ak.view
  show (match lkM P.hm m with|some g=>(Dj P.V f { P.V f with pg:=pg,dirty:=true } g).pg|none=>pgz (Bq P.data.now m))=_
  by_cases hm:m=n
  ·subst hm;rw[if_pos rfl,hlk];simp only[huf]
  ·rw[if_neg hm]
   cases hl2:lkM P.hm m with
   |none=>rfl
   |some g=>
    have:g≠f:=fun e=>hm (by
     subst e
     rw[← ((hk.keys m g).1 hl2).2,hn])
    simp only[hup g this]
theorem Bg.fr {σ:St}{p dd l kh f n:Nat}{G:Nat→Prop}{P:Ak}(h:Bg σ p dd l kh G P)(hlk:lkM P.hm n=some f):
 G f∧∃ i,σ[f]? =some (some (.row 516 [frR (P.V f).n (P.view n) (P.V f).dirty (P.V f).used (i:Nat)]))∧(P.view n).length=512∧pgz (P.view n)=P.view n:=by
 obtain⟨hk,Fd,Gl,w,a,h,hG⟩:=h
 obtain⟨hf,hn⟩:=(hk.keys n f).1 hlk
 obtain⟨i,hi,f1,p1⟩:=h.ord.at hf
 have hv:P.view n=(P.V f).pg:=by unfold Ak.view;rw[hlk]
 exact⟨(hG f).2 (.inr (.inr (.inr (.inr (.inr hf))))),i,by rw[hv];exact f1,by rw[hv];exact p1,by rw[hv];exact hk.nz f hf⟩
theorem Bg.vlen {σ:St}{p dd l kh:Nat}{G:Nat→Prop}{P:Ak}(h:Bg σ p dd l kh G P)(n:Nat):(P.view n).length=512∧pgz (P.view n)=P.view n:=by
 cases hlk:lkM P.hm n with
 |some f=>exact (h.fr hlk).2.elim fun _ h=>h.2
 |none=>
  have:P.view n=pgz (Bq P.data.now n):=by unfold Ak.view;rw[hlk]
  rw[this]
  exact⟨Aik (Mj h.1.secs n),Ain _⟩
theorem Aqc {σ:St}{p dd l kh n:Nat}{G:Nat→Prop}{P:Ak}(h:Bg σ p dd l kh G P)(hn:n<P.pages)(hc:P.ct+1<18446744073709551616)(hw:P.dq+8≤1000000000000):
 Aa Tryz.prog 157 [.mp p 6 0 0,Ad .i64 (n:Nat)] σ fun r σ'=>r= .tup [A6 (P.view n),Ad .i64 0]∧∃ G' P',Fr σ σ' G G'∧Bg σ' p dd l kh G' P'∧Kp P P' 0:=by
 have e1:decide ((n:Int)<0)=false:=by simp
 have e2:decide ((n:Int)≥(P.pages:Int))=false:=by simp;omega
 have hlt:=h.lt
 refine Ab Am An Tryz.func157 (by kernel_rfl) rfl (nt:=34) (rs:=[.cell 4 151,.tmp 5]) rfl rfl ?_
 repeat' first|simp only[↓wBA,tPlf,seval,wH,e1,e2]|((with_reducible show Aa _ _ _ _ _);refine (Ab8 (h.ap (Ap.app _ _))).eq ?_)
 refine (A1k (h.ap (Ap.app _ _)) hn hc hw).mono ?_
 rintro _ s ⟨f,G1,P1,rfl,hF,hA,hK,hlk⟩
 have c0:(σ++[some (.row 512 [List.map (fun x=>AV.p (PV.v x)) (zB 512)])])[σ.length]? =some (some (.row 512 [List.map (fun x=>AV.p (PV.v x)) (zB 512)])):=by simp
 have c1:=hF.get c0 (fun e=>ZJ _ (hlt _ e))
 have l1:=Ac c1
 obtain⟨_,i,f1,pl,_⟩:=hA.fr hlk
 have q1:=Ac f1
 have n1:(f=σ.length)=False:=nf (Ay f1 c1 (by simp))
 have n2:(σ.length=f)=False:=nf (Ay c1 f1 (by simp))
 have pc:=Ao pl
 have zl:(zB 512).length=512:=by simp[zB]
 rw[C6]at c1
 have z5:=Ao A7
 repeat' simp only[↓wBA,tPlf,seval,wH,c1,f1,pl,pc,wFr,z5]
 have hF':=((Ap.app σ _).fr.trans hF)
 have hlen:=hF'.len
 all_goals refine rtS ?_
 all_goals simp only[wRe,tPlf,seval,wH,l1,pc]
 refine⟨by rw[← hK.view n];rfl,G1,P1,⟨by simpa using hlen,fun t ht hn=> ?_,hF'.own⟩,hA.same fun t ht=>QO fun e=> ?_,hK⟩
 ·rw[QO (by omega)];exact hF'.keep t ht hn
 ·subst e
  rcases hF.own _ ht with e|e
  ·exact ZJ _ (hlt _ e)
  ·simp at e;omega
def Pz (q:Nat×List UInt8):List AV:=.p (.v (.int .i64 (q.1:Nat)))::Aq q.2
structure ChAt (σ:St)(t:Nat)(ch:List (Nat×List UInt8)):Prop where
 row:∃ ls,σ[t]? =some (some (.row 513 ls))∧ls.take ch.length=ch.map Pz∧ch.length≤ls.length
theorem ChAt.get {σ:St}{t:Nat}{ch:List (Nat×List UInt8)}(h:ChAt σ t ch):∃ ls,σ[t]? =some (some (.row 513 ls))∧∀ (i:Nat) (q:Nat×List UInt8),ch[i]? =some q→ls[i]? =some (Pz q):=by
 obtain⟨ls,h1,h2,h3⟩:=h.row
 refine⟨ls,h1,fun i q hq=> ?_⟩
 have hl:=(QC.1 hq).1
 have:(ls.take ch.length)[i]? =some (Pz q):=by rw[h2];simp[hq]
 rwa [QT,if_pos hl]at this
theorem Kq.step {P P1 P2 P3:Ak}{i n:Nat}{v:Nat→List UInt8}{pg:List UInt8}(h1:Kq P P1 i v)(h2:Kp P1 P2 0)(h3:Kq P2 P3 1 fun m=>if m=n then pg else P2.view m):Kq P P3 (i+1) fun m=>if m=n then pg else v m:=
 ⟨h3.size.trans (h2.size.trans h1.size),h3.most.trans (h2.most.trans h1.most),h3.ls.trans (h2.ls.trans h1.ls),h3.ld.trans (h2.ld.trans h1.ld),h3.str.trans (h2.str.trans h1.str),ZO h3.wait (ZO h2.wait h1.wait),by have:=h1.ctr;have:=h2.ctr;have:=h3.ctr;omega,by have:=h1.dw;have:=h2.dw;have:=h3.dw;omega,fun m=>by
  have e:=h3.view m
  rw[h2.view,h1.view]at e
  exact e,h3.kept.trans (h2.kept.trans h1.kept)⟩
def gPl (p kh:Nat)(Fd Gl:Nat→Prop)(w:Option Nat)(fs:List Nat)(t:Nat):Prop:=t=p∨t=kh∨Fd t∨Gl t∨oG w fs t
theorem Fr.gd {σ s:St}{p kh:Nat}{Fd Gl Fd':Nat→Prop}{w:Option Nat}{fs:List Nat}(hf:Fr σ s Fd Fd'):Fr σ s (gPl p kh Fd Gl w fs) (gPl p kh Fd' Gl w fs):=hf.sub (fun t ht=>.inr (.inr (.inl ht))) fun t ht=>by
 rcases ht with h|h|h|h|h
 ·exact .inl (.inl h)
 ·exact .inl (.inr (.inl h))
 ·exact (hf.own t h).imp (fun e=>.inr (.inr (.inl e))) id
 ·exact .inl (.inr (.inr (.inr (.inl h))))
 ·exact .inl (.inr (.inr (.inr (.inr h))))
theorem Fr.gl {σ s:St}{p kh:Nat}{Fd Gl Gl':Nat→Prop}{w:Option Nat}{fs:List Nat}(hf:Fr σ s Gl Gl'):Fr σ s (gPl p kh Fd Gl w fs) (gPl p kh Fd Gl' w fs):=hf.sub (fun t ht=>.inr (.inr (.inr (.inl ht)))) fun t ht=>by
 rcases ht with h|h|h|h|h
 ·exact .inl (.inl h)
 ·exact .inl (.inr (.inl h))
 ·exact .inl (.inr (.inr (.inl h)))
 ·exact (hf.own t h).imp (fun e=>.inr (.inr (.inr (.inl e)))) id
 ·exact .inl (.inr (.inr (.inr (.inr h))))
def tPli:=aa wX <| aa wbu <| aa T3 <| aa T4 <| aa T28 <| aa T29 <| aa T32 <| aa T70 <| aa T80 <| aa T81 <| aa T84 <| aa T88 <| aa T89 <| aa T137 <| aa T140 <| aa T142 T144
theorem Alk {σ:St}{dd dl:Nat}{Fd Fl:Nat→Prop}{D DL:F9}(hd:Bf σ dd Fd D)(hl:Bf σ dl Fl DL)(hdj:∀ t,Fd t→Fl t→False)(hz:16≤D.size)(hs:∀ k,(A3 D.now k).length=64)(hlz:3≤DL.size)(c:Nat)(hh:Nu DL.now c 0)(hls:∀ k,(A3 DL.now k).length=64)(hw:DL.wait=[])(most:Nat)(hm:1≤most)(hmb:most≤100000):
 Aa Tryz.prog 8 [.mp dd 6 0 0,.mp dl 6 0 0,Ad .i64 (most:Nat)] σ fun r σ'=>∃ p l kh G P,r= .tup [.mp p 6 0 0,Ad .i64 0]∧Ap σ σ'∧Bg σ' p dd l kh G P∧P.fs=[]∧P.hm=[]∧P.most=most∧P.data=D∧P.log={ d:=dl,disk:=DL,ctr:=c,len:=0,str:=[],wait:=0 }∧∀ t,G t→Fd t∨Fl t∨σ.length≤t:=by
 have e1:decide ((most:Int)<1)=false:=by simp;omega
 have e2:decide ((D.size:Int)<16)=false:=by simp;omega
 refine Ab Am An Tryz.func8 (by kernel_rfl) rfl (nt:=72) (rs:=[.tmp 6,.tmp 7]) rfl rfl ?_
 repeat' first|simp only[↓wBA,tPli,seval,wH,e1,e2]|((with_reducible show Aa _ _ _ _ _);first|refine (Abz hd).eq ?_|(refine (Avn hl hlz c hh hls hw).mono ?_;rintro _ s ⟨rfl,ha,hL⟩))
 have hsl:=hL.lt _ (.inl rfl)
 obtain⟨S,hS⟩:∃ S,S=s++[some (.map [])]++[some (.row 6 [[.mp dd 6 0 0,.mp σ.length 5 0 0,.p (.v (.int .i64 (most:Nat))),.p (.v (.slice none 0 0)),.mmap s.length,.p (.v (.int .i64 0))]])]:=⟨_,rfl⟩
 rw[← hS]
 have hApS:Ap s S:=by rw[hS];exact (Ap.app _ _).more _
 have hPool:Bg S (s.length+1) dd σ.length s.length (fun t=>t=s.length+1∨t=s.length∨Fd t∨(t=σ.length∨Fl t)∨oG none [] t) ⟨D,{ d:=dl,disk:=DL,ctr:=c,len:=0,str:=[],wait:=0 },most,0,[],fun _=>⟨0,[],false,0⟩,[]⟩:=by
  refine⟨⟨fun n f=>by simp[lkM],by simp,hm,hmb,by simp,by simp,by simp,by simp,hs,hz⟩,Fd,(fun t=>t=σ.length∨Fl t),none,_,⟨by rw[hS];simp[Ad],(hd.ap ha).ap hApS,hL.same (fun t ht=>by have:=hL.lt t ht;rw[hS,QX,QD this]),.nil,by rw[hS];simp[Nj],fun t h1 h2=> ?_,fun t h1=> ?_,fun t h1=> ?_,fun e=> ?_,fun e=> ?_,fun e=> ?_,fun e=> ?_⟩,fun t=>Iff.rfl⟩
  ·rcases h2 with rfl|h2
   ·exact ZJ _ (hd.lt _ h1)
   ·exact hdj t h1 h2
  ·rcases h1 with h1|h1<;>simp at h1
  ·rcases h1 with h1|h1<;>simp at h1
  ·have:=hd.lt _ e;omega
  ·have:=hL.lt _ e;omega
  ·have:=hd.lt _ e;omega
  ·have:=hL.lt _ e;omega
 have hfin:=ha.trans hApS
 have hlen:=hfin.len
 refine Ar (X:=Nat) (fun i=>0) (fun i=>[(46,Ad .i64 0)]) [6,7,13,14,15,16,47,48,49,50,51,52,53,54,55,56,57,58,59,60,61,62,63,64,65] (fun i q=>q=S) (0) ?_ ?_ ?_ ?_
 ·simp only[wHl,wHf]
 ·rfl
 ·rintro _ _ rfl;first|exact hlen|exact QH _
 ·intro x J q hI
  simp only[wHl]
  subst hI
  repeat' simp only[↓wBA,tPli,seval,wHl]
  all_goals refine rtS ?_
  all_goals simp only[wRe,tPli,seval]
  all_goals refine⟨_,_,_,_,_,rfl,hfin,hPool,rfl,rfl,rfl,rfl,rfl,fun t ht=> ?_⟩
  all_goals rcases ht with rfl|rfl|ht|(rfl|ht)|ht
  all_goals first|exact .inl ht|exact .inr (.inl ht)|(right;right;omega)|(rcases ht with ht|ht<;>simp at ht)
def imgB (q:Nat×List UInt8):List UInt8:=UInt8.ofNat (q.1 % 256)::UInt8.ofNat (q.1 / 256 % 256)::q.2
def Aqd (ch:List (Nat×List UInt8)):List UInt8:=ch.flatMap imgB
def Xk (f:Nat→List UInt8)(n:Nat):List UInt8:=(List.range 8).flatMap fun i=>f (8*n+i)
def Avu (np:Nat)(chs:List (List (Nat×List UInt8))):Prop:=∀ ch∈chs,ch≠[]∧∀ q∈ch,q.1<np∧q.2.length=512∧pgz q.2=q.2
theorem All (v:Nat→List UInt8)(b:List (Nat×List UInt8))(m:Nat):∀ a,ovr v (a++b) m=ovr (ovr v a) b m:=by
 intro a
 induction a generalizing v with
 |nil=>rfl
 |cons r a ih=>exact ih _
theorem Kq.then {P P1 P2:Ak}{i j:Nat}{v v':Nat→List UInt8}(h1:Kq P P1 i v)(h2:Kq P1 P2 j v'):Kq P P2 (i+j) v':=
 ⟨h2.size.trans h1.size,h2.most.trans h1.most,h2.ls.trans h1.ls,h2.ld.trans h1.ld,h2.str.trans h1.str,ZO h2.wait h1.wait,by have:=h1.ctr;have:=h2.ctr;omega,by have:=h1.dw;have:=h2.dw;omega,h2.view,h2.kept.trans h1.kept⟩
