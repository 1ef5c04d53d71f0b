/- Pools: Pages, touch, fetch. Pools: fetch. Pools: clean. Pools: a frame goes, another one comes. -/
import Derived.Test.YtpoigihfeehehaaGreatDoorM24
set_option linter.all false
set_option maxRecDepth 100000
set_option maxHeartbeats 32000000
namespace Go.Proofs.YtpoigihfeehehaaGreatDoor
open Go.RowKit
def R9:Cq:=(.det 0 (.det 1 (.det 2 (.det 4 (.det 5 (.det 6 (.det 7 (.act 3 (.fin 8 .done)))))))))
def tPla:=aa wX <| aa wbu <| aa T3 <| aa T28 <| aa T32 <| aa T88 <| aa T158 T208
theorem Fr.sub {σ s:St}{K K' G G':Nat→Prop}(h:Fr σ s K K')(hG:∀ t,K t→G t)(hG':∀ t,G' t→G t∨σ.length≤t):Fr σ s G G':=⟨h.len,fun t ht hn=>h.keep t ht fun hk=>hn (hG t hk),hG'⟩
theorem Bf.big {σ:St}{d:Nat}{F:Nat→Prop}{D:F9}(h:Bf σ d F D):D.size≤65536:=by
 obtain⟨kn,kk,w,a,es,h,hF⟩:=h
 exact h.big
theorem Ab8 {σ:St}{p dd l kh:Nat}{G:Nat→Prop}{P:Ak}(h:Bg σ p dd l kh G P):Aa Tryz.prog 30 [.mp p 6 0 0] σ fun r σ'=>σ'=σ∧r=Ad .i64 (P.pages:Nat):=by
 obtain⟨_,Fd,Gl,w,a,h,hG⟩:=h
 have h0:=h.o
 have l0:=Ac h0
 have hb:=h.data.big
 have e1:IntKind.i64.wrap ((P.data.size:Int).tdiv 8)=((P.data.size / 8:Nat):Int):=by
  rw[XQ (by omega),wrap_i64 (by omega) (by omega)];omega
 refine Ab Am An Tryz.func30 (by kernel_rfl) rfl (nt:=11) (rs:=[.tmp 2]) rfl rfl ?_
 repeat' first|simp only[↓wBA,tPla,seval,h0,e1]|((with_reducible show Aa _ _ _ _ _);refine (Abz h.data).eq ?_)
 all_goals refine rtS ?_
 all_goals simp only[wRe,tPla,seval,Ak.pages]
 congr 3
 split<;>omega
def Dj (V:Nat→B7)(f:Nat)(v:B7)(g:Nat):B7:=if g=f then v else V g
theorem Hf.upd {σ s:St}{o i f:Nat}{fs:List Nat}{V:Nat→B7}(h:Hf σ o fs V)(hi:fs[i]? =some f)(v:B7)(hv:v.pg.length=512)(hs:s[f]? =some (Gc v i))(ho:∀ t,oF o fs t→t≠f→s[t]? =σ[t]?):Hf s o fs (Dj V f v):=by
 obtain⟨ls,h1,h2,h3⟩:=h.o
 have hf:=h.f i f hi
 refine⟨⟨ls,by rw[ho o (.inl rfl) (Ay h1 hf (by simp[Gc]))];exact h1,h2,h3⟩,fun j g hj=> ?_,h.nd,fun g hg=> ?_,h.big⟩
 ·by_cases e:g=f
  ·subst e
   have:i=j:=(VB (QC.1 hi).1 h.nd).1 (hi.trans hj.symm)
   subst this
   simp only[Dj,if_true];exact hs
  ·simp only[Dj,if_neg e]
   rw[ho g (.inr (QG hj)) e]
   exact h.f j g hj
 ·unfold Dj
  split
  ·exact hv
  ·exact h.pg g hg
theorem Mk.re {σ s:St}{p dd l kh:Nat}{Fd Gl:Nat→Prop}{w w':Option Nat}{a a':AV}{P P':Ak}(h:Mk σ p dd l kh Fd Gl w a P)
 (ho:s[p]? =some (some (.row 6 [[.mp dd 6 0 0,.mp l 5 0 0,Ad .i64 (P'.most:Nat),a',.mmap kh,Ad .i64 P'.tick]]))) (hd:P'.data=P.data) (hl:P'.log=P.log) (hm:s[kh]? =some (some (.map (Nj (fun f=>.mp f 516 0 0) P'.hm)))) (hs:∀ t,Fd t∨Gl t→s[t]? =σ[t]?)
 (hord:Ord s P'.V a' w' P'.fs) (hw:∀ t,oG w' P'.fs t→¬ Fd t∧¬ Gl t):Mk s p dd l kh Fd Gl w' a' P':=by
 refine⟨ho,by rw[hd];exact h.data.same fun t ht=>hs t (.inl ht),by rw[hl];exact h.log.same fun t ht=>hs t (.inr ht),hord,hm,h.dl,fun t ht hF=> ?_,fun t ht hF=> ?_,h.pd,h.pl,h.kd,h.kl⟩
 ·exact (hw t ht).1 hF
 ·exact (hw t ht).2 hF
theorem Mk.no {σ:St}{p dd l kh:Nat}{Fd Gl:Nat→Prop}{w:Option Nat}{a:AV}{P:Ak}(h:Mk σ p dd l kh Fd Gl w a P){t:Nat}(ht:oG w P.fs t∨σ.length≤t):¬ Fd t∧¬ Gl t:=
 ⟨fun hF=>ht.elim (fun e=>h.od t e hF) fun e=>ZJ _ (ZE (h.data.lt t hF) e),fun hF=>ht.elim (fun e=>h.ol t e hF) fun e=>ZJ _ (ZE (h.log.lt t hF) e)⟩
theorem Px.re {P P':Ak}(h:Px P)(hm:P'.hm=P.hm)(hd:P'.data=P.data)(ho:P'.most=P.most)(hl:P'.log=P.log)(hf:∀ g,g∈P'.fs↔g∈P.fs)(hn:P'.fs.length≤P.most)(hV:∀ g,(P'.V g).n=(P.V g).n∧(P'.V g).pg=(P.V g).pg∧(P'.V g).dirty=(P.V g).dirty):Px P':=by
 have hp:P'.pages=P.pages:=by unfold Ak.pages;rw[hd]
 refine⟨fun n f=> ?_,by rw[hm];exact h.kn,by rw[ho];exact h.m1,by rw[ho];exact h.mb,by rw[ho];exact hn,fun f hg=> ?_,fun f hg=> ?_,fun f hg=> ?_,by rw[hd];exact h.secs,by rw[hd];exact h.size⟩
 ·rw[hm,h.keys,hf,(hV f).1]
 ·rw[(hV f).1,hp];exact h.fn f ((hf f).1 hg)
 ·rw[(hV f).2.1];exact h.nz f ((hf f).1 hg)
 ·rw[(hV f).2.1,(hV f).1,(hV f).2.2,hd];exact h.cl f ((hf f).1 hg)
theorem Avq {σ:St}{p dd l kh f:Nat}{G:Nat→Prop}{P:Ak}(h:Bg σ p dd l kh G P)(hf:f∈P.fs):
 Aa Tryz.prog 108 [.mp p 6 0 0,.mp f 516 0 0] σ fun r σ'=>r= .tup []∧∃ G' P',Fr σ σ' G G'∧Bg σ' p dd l kh G' P'∧Kp P P' 0∧P'.hm=P.hm:=by
 obtain⟨hk,Fd,Gl,w,a,h,hG⟩:=h
 have h0:=h.o
 have l0:=Ac h0
 have hord:=h.ord
 have hnp:=h.np
 obtain⟨i,hi⟩:=YH hf
 generalize hV:P.V=V at*
 generalize hfs:P.fs=fs at*
 cases hord with
 |nil=>simp at hi
 |hp hh=>
  rename_i o
  have f1:=hh.f i f hi
  have q1:=Ac f1
  have p1:=hh.pg f (QG hi)
  have n1:(p=f)=False:=nf (Ay h0 f1 (by simp[Gc]))
  have n2:(f=p)=False:=nf (Ay f1 h0 (by simp[Gc]))
  simp only[Gc]at f1
  refine Ab Am An Tryz.func108 (by kernel_rfl) rfl (nt:=25) (rs:=[]) rfl rfl ?_
  repeat' first|simp only[↓wBA,tPla,seval,R9,wH,wFr,h0,l0,f1,q1,n1,p1]|(with_reducible refine dQ R9 9 (some 18) ?_)
  generalize IntKind.i64.wrap (P.tick+1)=tk
  refine Aa.gen (fun s=>s[p]? =some (some (.row 6 [[.mp dd 6 0 0,.mp l 5 0 0,Ad .i64 (P.most:Nat),.ms o 1 0 fs.length,.mmap kh,Ad .i64 tk]]))∧s[f]? =some (Gc { V f with used:=tk } i)∧(∀ t,t≠p→t≠f→s[t]? =σ[t]?)∧Fr σ s (fun t=>t=p∨oF o fs t) (fun t=>t=p∨oF o fs t)) ⟨?_,?_,?_,?_⟩ fun s ⟨s0,s1,s2,s3⟩=> ?_
  ·simp only[wH,l0,n2,Ad]
  ·simp only[wH,q1,Gc]
  ·intro t t1 t2
   simp only[wH,nf (Ne.symm t1),nf (Ne.symm t2)]
  ·exact ((Fr.refl σ _).set _ (.inl rfl)).set _ (.inr (.inr hf))
  have hgo:∀ t,oG (some o) fs t↔oF o fs t:=fun t=>by unfold oG oF;simp[eq_comm]
  have hp2:=hh.upd (s:=s) hi { V f with used:=tk } p1 s1 fun t ht hn=>s2 t (fun e=>hnp (e▸(hgo t).2 ht)) hn
  have il:=(QC.1 hi).1
  refine (afix hp2 s0 il).mono ?_
  rintro _ s4 ⟨rfl,fs',hP,h4,hf4⟩
  have hlen:=ZO s3.len hf4.len
  repeat' simp only[↓wBA,tPla,seval]
  all_goals refine rtS ?_
  all_goals simp only[wRe,tPla,seval]
  have hpp:¬ oF o fs p:=fun e=>hnp ((hgo p).2 e)
  have hF:=s3.trans (hf4.sub (G:=fun t=>t=p∨oF o fs t) (G':=fun t=>t=p∨oF o fs t) (fun t ht=>.inr ht) fun t ht=>.inl ht)
  have hKG:∀ t,(t=p∨oF o fs t)→G t:=fun t ht=>(hG t).2 (ht.imp id fun e=>.inr (.inr (.inr ((hgo t).2 e))))
  have k0:=hf4.get s0 hpp
  rw[← hP.length_eq]at k0
  have hu:∀ g,(Dj V f { V f with used:=tk } g).n=(V g).n∧(Dj V f { V f with used:=tk } g).pg=(V g).pg∧(Dj V f { V f with used:=tk } g).dirty=(V g).dirty:=fun g=>by
   unfold Dj
   split
   ·rename_i e;subst e;exact⟨rfl,rfl,rfl⟩
   ·exact⟨rfl,rfl,rfl⟩
  have hm:∀ g,oG (some o) fs' g↔oG (some o) fs g:=fun g=>or_congr Iff.rfl hP.mem_iff
  subst hV
  refine⟨G,{ P with tick:=tk,fs:=fs',V:=Dj P.V f { P.V f with used:=tk } },hF.sub hKG fun t ht=>.inl ht,⟨hk.re rfl rfl rfl rfl (fun g=>by show g∈fs'↔_;rw[hfs];exact hP.mem_iff) (by show fs'.length≤_;rw[hP.length_eq,←hfs];exact hk.len) hu,Fd,Gl,some o,_,h.re k0 rfl rfl ?_ (fun t ht=>hF.keep t ?_ ?_) (.hp h4) (fun t ht=>h.no (.inl (by rw[hfs];exact (hm t).1 ht))),fun t=> ?_⟩,⟨rfl,rfl,rfl,rfl,rfl,QH _,Alh rfl _,?_,fun n=> ?_,rfl⟩,rfl⟩
  ·exact hF.get h.has fun e=>e.elim (fun e=>h.pk e.symm) fun e=>h.nk (by rw[hfs];exact (hgo _).2 e)
  ·exact ht.elim (h.data.lt t) (h.log.lt t)
  ·rintro (rfl|e)
   ·exact ht.elim h.pd h.pl
   ·exact ht.elim (h.od t (by rw[hfs];exact (hgo t).2 e)) (h.ol t (by rw[hfs];exact (hgo t).2 e))
  ·rw[hG t,hm t]
  ·apply A1g (P:=P)
   ·rfl
   ·show fs'.Perm P.fs
    rw[hfs];exact hP
   ·exact fun g _=>(hu g).2.2
  ·unfold Ak.view
   cases lkM P.hm n with
   |none=>rfl
   |some g=>exact (hu g).2.1
def Sa:Cq:=(.det 0 (.det 1 (.det 2 (.det 3 (.fin 4 .done)))))
def tPlb:=aa wX <| aa wbu <| aa T3 <| aa T29 <| aa T32 <| aa T70 <| aa T88 <| aa T137 Y1
theorem C6:(List.map (fun x=>AV.p (PV.v x)) (zB 512))=Aq C3:=by
 simp only[Aq,C3,zB,Bo,WL];rfl
theorem A7:C3.length=512:=XC ..
def pgI (m:List (Nat×List UInt8))(n i:Nat):List UInt8:=secs m n i++List.replicate (512 - 64*i) 0
theorem A1h (m:List (Nat×List UInt8))(n:Nat):pgI m n 0=C3:=rfl
theorem A1i (m:List (Nat×List UInt8))(n:Nat):pgI m n 8=Bq m n:=by simp[pgI,Bq]
theorem Ap9 {m:List (Nat×List UInt8)}(h:∀ k,(A3 m k).length=64)(n:Nat){i:Nat}(hi:i≤8):(pgI m n i).length=512:=by simp[pgI,Ie h];omega
theorem Ali {m:List (Nat×List UInt8)}(h:∀ k,(A3 m k).length=64)(n:Nat){i:Nat}(hi:i<8):List.take (64*i) (Aq (pgI m n i))++Aq (A3 m (8*n+i))++List.drop (64*i+64) (Aq (pgI m n i))=Aq (pgI m n (i+1)):=by
 simp only[Aq,pgI,Ge,←WO,←VA,←ZH]
 congr 1
 rw[WZ (Ie h n i),WV,Ie h n i,YE (by rw[Ie h];omega),List.drop_replicate]
 rw[ZQ,show 512 - 64*i - (64*i+64 - 64*i)=512 - 64*(i+1) by omega]
theorem Avr {σ:St}{p dd l kh n:Nat}{G:Nat→Prop}{P:Ak}(h:Bg σ p dd l kh G P)(hn:n<P.pages):
 Aa Tryz.prog 109 [.mp p 6 0 0,Ad .i64 (n:Nat)] σ fun r σ'=>Ap σ σ'∧r= .tup [A6 (pgz (Bq P.data.now n)),Ad .i64 0]:=by
 obtain⟨hk,Fd,Gl,w,a,h,hG⟩:=h
 have h0:=h.o
 have l0:=Ac h0
 refine Ab Am An Tryz.func109 (by kernel_rfl) rfl (nt:=38) (rs:=[.cell 4 151,.tmp 5]) rfl rfl ?_
 repeat' simp only[↓wBA,tPlb,seval,wH]
 refine Ar (X:={ i:Nat // i≤8 }) (fun i=>8 - i.1) (fun i=>[(10,Ad .i64 (i.1:Nat))]) [5,7,8,9,11,12,13,14,15,16,17,18,19,20,21,22,23,24,25,26,27,28,29,30,31,32,33,34] (fun i s=>Ap σ s∧s[σ.length]? =some (some (.row 512 [Aq C3]))∧s[σ.length+1]? =some (some (.row 512 [Aq (pgI P.data.now n i.1)]))) (⟨0,by omega⟩) ?_ ?_ ?_ ?_
 ·simp only[wHl,wHf]
 ·refine⟨(Ap.app _ _).more _,?_,?_⟩
  ·skip
   simp only[wH,wHe,Nat.reduceLT,C6]
  ·skip
   simp only[wH,wHe,C6,A1h]
 ·rintro _ _ ⟨_,_,hl⟩;have:=Ac hl;simp;omega
 ·intro x J s hI
  simp only[wHl]
  obtain⟨i,hi⟩:=x
  obtain⟨ha,hl,hl2⟩:=hI
  dsimp only at*
  have k0:=ha.get h0
  have q0:=Ac k0
  have l1:=Ac hl
  have l2:=Ac hl2
  have hb:=h.data.big
  unfold Ak.pages at hn
  have e64:=Eb Ew
  have pl:=Ao (Ap9 hk.secs n hi)
  by_cases hlt:i<8
  ·have hdec:decide ((i:Int)<8)=true:=by simp;omega
   have hw1:=wI i (by omega)
   have w1:IntKind.i64.wrap ((n:Int)*8)=((8*n:Nat):Int):=by rw[wrap_i64 (by omega) (by omega)];omega
   have w2:IntKind.i64.wrap (((8*n:Nat):Int)+(i:Int))=((8*n+i:Nat):Int):=by rw[wrap_i64 (by omega) (by omega)];omega
   have w3:IntKind.i64.wrap ((i:Int)*64)=((64*i:Nat):Int):=by rw[wrap_i64 (by omega) (by omega)];omega
   repeat' simp only[↓wBA,tPlb,seval,wHl,k0,hdec,w1,w2]
   refine (Aoi (h.data.ap ha) (8*n+i) (by omega) (hk.secs _)).mono ?_
   rintro _ s1 ⟨ha1,rfl⟩
   have k1:=ha1.get hl
   have k2:=ha1.get hl2
   have l3:=Ac k1
   have l4:=Ac k2
   have ha2:=ha.trans ha1
   have q64:=Eb (hk.secs (8*n+i))
   have n0:(σ.length+1=s1.length)=False:=nf (by omega)
   have n1:(s1.length=σ.length+1)=False:=nf (by omega)
   have i64:(((64*i:Nat):Int)<512)=True:=eq_true (by omega)
   have i512:(64*i+(512 - 64*i)≤512)=True:=eq_true (by omega)
   have t64:=Kk (hk.secs (8*n+i))
   have pn:=Ali hk.secs n hlt
   have tk:List.take (512 - 64*i) (Aq (A3 P.data.now (8*n+i)))=Aq (A3 P.data.now (8*n+i)):=ZF (by rw[q64];omega)
   repeat' first|simp only[↓wBA,tPlb,seval,Sa,wH,wHl,k1,k2,l3,l4,q64,w3,Bh,Qv,srcC,Bl,A6,hw1,pl,Z3,e64,i64,tk,i512,t64,pn]|(with_reducible refine dQ Sa 5 (some 29) ?_)
   refine⟨⟨i+1,by omega⟩,by show 8 - (i+1)<8 - i;omega,⟨(ha2.set (by omega) _).more _,?_⟩,?_⟩
   ·skip
    simp only[]
   ·simp only[]
  ·have he:i=8:=by omega
   subst he
   rw[A1i]at hl2
   have dl:=Mj hk.secs n
   have pd:=Ao dl
   have b1:=Ei (Bq P.data.now n)
   by_cases hz:Bq P.data.now n=C3
   ·have hg:pgz (Bq P.data.now n)=Fg 0:=if_pos hz
    have dn:=Dc 0
    have pz:=Ao dn
    have eB:Lv .eql 512 (Aq (Bq P.data.now n)) (Aq C3)=some (Av true):=by simp[Lv,Ei,A7,hz]
    repeat' first|simp only[↓wBA,tPlb,seval,wH,wHl,hl,hl2,l2,pd,C6,A7,F8,eB,A6,pz]|((with_reducible show Aa _ _ _ _ _);refine (anew 0 _).eq ?_)
    have hs:=(ha.set (t:=σ.length+1) (by omega) (some (.row 512 [Aq (Fg 0)]))).set (t:=σ.length) (by omega) (some (.row 512 [Aq (Fg 0)]))
    have hlen:=hs.len
    all_goals refine rtS ?_
    all_goals simp only[wRe,tPlb,seval,wH,l1,pz]
    exact⟨hs,by rw[hg]⟩
   ·have hg:pgz (Bq P.data.now n)=Bq P.data.now n:=if_neg hz
    have eB:Lv .eql 512 (Aq (Bq P.data.now n)) (Aq C3)=some (Av false):=by simp[Lv,Ei,dl,A7,beq_false_of_ne hz]
    repeat' first|simp only[↓wBA,tPlb,seval,wHl,hl,hl2,pd,C6,A7,F8,eB,A6]|((with_reducible show Aa _ _ _ _ _);refine (anew 0 _).eq ?_)
    have hs:=ha.set (t:=σ.length) (by omega) (some (.row 512 [Aq (Bq P.data.now n)]))
    have hlen:=hs.len
    all_goals refine rtS ?_
    all_goals simp only[wRe,tPlb,seval,wH,l1,pd]
    exact⟨hs,by rw[hg]⟩
def Sb:Cq:=(.det 0 (.det 1 (.det 2 (.det 3 (.det 4 (.det 5 (.det 6 (.det 7 (.det 8 (.det 9 (.det 10 (.det 11 (.fin 12 (.det 13 .done))))))))))))))
def tPlc:=aa wX <| aa wbu <| aa T3 <| aa T4 <| aa T29 <| aa T32 <| aa T80 <| aa T88 <| aa T137 <| aa Y1 T158
theorem Ord.at {σ:St}{V:Nat→B7}{a:AV}{w:Option Nat}{fs:List Nat}(h:Ord σ V a w fs){f:Nat}(hf:f∈fs):∃ i,fs[i]? =some f∧σ[f]? =some (Gc (V f) i)∧(V f).pg.length=512:=by
 cases h with
 |nil=>simp at hf
 |hp h=>
  obtain⟨i,hi⟩:=YH hf
  exact⟨i,hi,h.f i f hi,h.pg f hf⟩
theorem Ord.upd {σ s:St}{V:Nat→B7}{a:AV}{w:Option Nat}{fs:List Nat}(h:Ord σ V a w fs){i f:Nat}(hi:fs[i]? =some f)(v:B7)(hv:v.pg.length=512)(hs:s[f]? =some (Gc v i))(ho:∀ t,oG w fs t→t≠f→s[t]? =σ[t]?):Ord s (Dj V f v) a w fs:=by
 cases h with
 |nil=>simp at hi
 |hp h=>exact .hp (h.upd hi v hv hs fun t ht hn=>ho t (ht.imp (fun e=>by rw[e]) id) hn)
theorem Alj (n:Nat)(pg:List UInt8)(k:Nat):wrW n pg (k+1)=wrW n pg k++[(8*n+k,(pg.drop (64*k)).take 64)]:=by simp[wrW,WY]
theorem Aim (n:Nat)(pg:List UInt8)(k:Nat):(wrW n pg k).length=k:=by simp[wrW]
theorem Nk (V:Nat→B7){f:Nat}:∀ {fs:List Nat},fs.Nodup→f∈fs→(V f).dirty=true→fs.countP (fun g=>(Dj V f { V f with dirty:=false } g).dirty)+1=fs.countP fun g=>(V g).dirty
 |[],_,h,_=>by simp at h
 |g::fs,hn,h,hd=>by
  rw[ZU]at hn
  rw[VE,VE]
  by_cases e:g=f
  ·subst e
   have:fs.countP (fun x=>(Dj V g { V g with dirty:=false } x).dirty)=fs.countP fun x=>(V x).dirty:=List.countP_congr fun x hx=>by
    have:x≠g:=fun e=>hn.1 (e▸hx)
    simp only[Dj,if_neg this]
   rw[this]
   simp[Dj,hd]
  ·have h':f∈fs:=(QP.1 h).elim (fun e'=>absurd e'.symm e) id
   have ih:=Nk V hn.2 h' hd
   have e2:(Dj V f { V f with dirty:=false } g).dirty=(V g).dirty:=by simp only[Dj,if_neg e]
   rw[e2]
   omega
theorem Aqa {σ:St}{p dd l kh f:Nat}{G:Nat→Prop}{P:Ak}(h:Bg σ p dd l kh G P)(hf:f∈P.fs)(hd:(P.V f).dirty=false):
 Aa Tryz.prog 66 [.mp p 6 0 0,.mp f 516 0 0] σ fun r σ'=>σ'=σ∧r=Ad .i64 0:=by
 obtain⟨hk,Fd,Gl,w,a,h,hG⟩:=h
 have h0:=h.o
 have l0:=Ac h0
 obtain⟨i,hi,f1,p1⟩:=h.ord.at hf
 have q1:=Ac f1
 simp only[Gc,hd]at f1
 refine Ab Am An Tryz.func66 (by kernel_rfl) rfl (nt:=54) (rs:=[.tmp 4]) rfl rfl ?_
 repeat' simp only[↓wBA,tPlc,seval,wFr,f1,p1]
 all_goals refine rtS ?_
 all_goals simp only[wRe,tPlc,seval]
theorem Aqb {σ:St}{p dd l kh f:Nat}{G:Nat→Prop}{P:Ak}(h:Bg σ p dd l kh G P)(hf:f∈P.fs)(hd:(P.V f).dirty=true)(hc:P.ct+1<18446744073709551616)(hw:P.dq+8≤1000000000000):
 Aa Tryz.prog 66 [.mp p 6 0 0,.mp f 516 0 0] σ fun r σ'=>r=Ad .i64 0∧∃ G' P',Fr σ σ' G G'∧Bg σ' p dd l kh G' P'∧Kp P P' 0∧P'.fs=P.fs∧P'.hm=P.hm∧P'.V=Dj P.V f { P.V f with dirty:=false }:=by
 obtain⟨hk,Fd,Gl,w,a,h,hG⟩:=h
 have h0:=h.o
 have l0:=Ac h0
 obtain⟨i,hi,f1,p1⟩:=h.ord.at hf
 have q1:=Ac f1
 have hog:oG w P.fs f:=.inr hf
 have hnf:=hk.fn f hf
 have hb:=h.data.big
 have hbs:(P.V f).n<min (P.data.size / 8) 3840:=hnf
 simp only[Gc,hd]at f1
 generalize hfn:(P.V f).n=n at*
 generalize hfp:(P.V f).pg=pg at*
 generalize hfu:(P.V f).used=us at*
 refine Ab Am An Tryz.func66 (by kernel_rfl) rfl (nt:=54) (rs:=[.tmp 4]) rfl rfl ?_
 repeat' simp only[↓wBA,tPlc,seval,wFr,h0,f1,p1]
 have hnd:=h.ord.big.2
 have hcd:=Nk P.V hnd hf hd
 have hwd:P.data.wait.length+8*P.fs.countP (fun f=>(P.V f).dirty)+8≤1000000000000:=hw
 have hw:P.data.wait.length+8≤1000000000000:=by omega
 have hcc:P.log.ctr+min P.log.wait 1+1<18446744073709551616:=hc
 have hc:P.log.ctr+1<18446744073709551616:=by omega
 refine (Ap2 h.log hc).mono ?_
 rintro _ s1 ⟨rfl,Gl1,L1,hf1,hl1,hst,hwt,hsz,hct,hld⟩
 have k0:=hf1.get h0 h.pl
 have k1:=hf1.get f1 (fun e=>h.ol f hog e)
 have d1:=h.data.frame hf1 (fun t ht hg=>h.dl t ht hg)
 have q2:=Ac k0
 have q3:=Ac k1
 have hle:=hf1.len
 repeat' simp only[↓wBA,tPlc,seval]
 refine Ar (X:={ i:Nat // i≤8 }) (fun i=>8 - i.1) (fun i=>[(22,Ad .i64 (i.1:Nat))]) [4,6,7,8,23,24,25,26,27,28,29,30,31,32,33,34,35,36,37,38,39,40,41,42,43,44,45,46,47,48,49,50,51,52] (fun i s=>∃ F',Fr s1 s Fd F'∧Bf s dd F' { P.data with now:=wrPg P.data.now n pg i.1,wait:=P.data.wait++wrW n pg i.1 }) (⟨0,by omega⟩) ?_ ?_ ?_ ?_
 ·simp only[wHl,wHf]
 ·exact⟨Fd,Fr.refl _ _,by simpa [wrPg,wrW]using d1⟩
 ·rintro _ _ ⟨_,hf,_⟩;have:=hf.len;omega
 ·intro x J s hI
  simp only[wHl]
  obtain⟨i',hi'⟩:=x
  obtain⟨F',hf2,hd2⟩:=hI
  dsimp only at*
  have j0:=hf2.get k0 h.pd
  have j1:=hf2.get k1 (fun e=>h.od f hog e)
  have r0:=Ac j0
  have r1:=Ac j1
  by_cases hlt:i'<8
  ·have hdec:decide ((i':Int)<8)=true:=by simp;omega
   have hw1:=wI i' (by omega)
   have w0:IntKind.i64.wrap ((n:Int)*8)=((8*n:Nat):Int):=by rw[wrap_i64 (by omega) (by omega)];omega
   have w2:IntKind.i64.wrap (((8*n:Nat):Int)+(i':Int))=((8*n+i':Nat):Int):=by rw[wrap_i64 (by omega) (by omega)];omega
   have w3:IntKind.i64.wrap ((i':Int)*64)=((64*i':Nat):Int):=by rw[wrap_i64 (by omega) (by omega)];omega
   have w4:IntKind.i64.wrap (((i'+1:Nat):Int)*64)=((64*i'+64:Nat):Int):=by rw[wrap_i64 (by omega) (by omega)];omega
   have sl:((pg.drop (64*i')).take 64).length=64:=by simp;omega
   have se:=Eb sl
   have e64:=Eb Ew
   have b1:(((64*i':Nat):Int)<((64*i'+64:Nat):Int))=True:=eq_true (by omega)
   have b2:(((64*i'+64:Nat):Int)≤512)=True:=eq_true (by omega)
   have b3:64*i'+64 - 64*i'=64:=by omega
   have b4:(1+64*i'+64≤516)=True:=eq_true (by omega)
   have b5:(1+(64*i'+64)≤516)=True:=eq_true (by omega)
   have fs:=Apu (n:=n) (u:=us) (a:=i) (f:=true) p1 hlt
   repeat' first|simp only[↓wBA,tPlc,seval,Sb,wH,wHl,wFr,p1,j0,j1,r0,r1,hdec,w0,w2,w3,w4,hw1,Bh,Bl,fs,b1,b2,b3,b5,se,Z3,e64]|(with_reducible refine dQ Sb 14 (some 36) ?_)
   refine (Z4 (hd2.app _) (8*n+i') (by show _<P.data.size;omega) _ sl (by simp[Aim];omega)).mono ?_
   rintro _ s2 ⟨rfl,F3,hf3,hd3⟩
   have hf4:=(hf2.app _).trans hf3
   have m0:=hf4.get k0 h.pd
   have m1:=hf4.get k1 (fun e=>h.od f hog e)
   repeat' simp only[↓wBA,tPlc,seval,wHl,hw1]
   refine⟨⟨i'+1,by omega⟩,by show 8 - (i'+1)<8 - i';omega,⟨F3,hf4,?_⟩,?_⟩
   ·simp only[Alj,wrPg,←QX]
    exact hd3
   ·simp only[]
  ·have he:i'=8:=by omega
   subst he
   repeat' simp only[↓wBA,tPlc,seval,wH,wHl,wFr,p1,j1]
   have hlen:=ZO hle hf2.len
   all_goals refine rtS ?_
   all_goals simp only[wRe,tPlc,seval]
   have hs:∀ t,t≠f→(List.set s f (some (.row 516 [frR (n:Int) pg false us i])))[t]? =s[t]? :=fun t ht=>QO (fun e=>ht e.symm)
   have hk1:∀ t x,σ[t]? =some x→¬ Gl t→¬ Fd t→s[t]? =some x:=fun t x hx h1 h2=>hf2.get (hf1.get hx h1) h2
   have hF2:∀ t,F' t→Fd t∨s1.length≤t:=hf2.own
   have hG1:∀ t,Gl1 t→Gl t∨σ.length≤t:=hf1.own
   have nf':¬ F' f:=fun e=>(hF2 f e).elim (h.od f hog) fun e=>by omega
   have nlf:¬ Gl1 f:=fun e=>(hG1 f e).elim (h.ol f hog) fun e=>by omega
   have lk:=Ac h.has
   have hku:∀ g,(Dj P.V f { P.V f with dirty:=false } g).n=(P.V g).n∧(Dj P.V f { P.V f with dirty:=false } g).pg=(P.V g).pg:=fun g=>by
    unfold Dj
    split
    ·rename_i e;subst e;exact⟨rfl,rfl⟩
    ·exact⟨rfl,rfl⟩
   have hlk:lkM P.hm n=some f:=(hk.keys n f).2 ⟨hf,hfn⟩
   have hne:∀ g∈P.fs,g≠f→(P.V g).n≠n:=fun g hg hn e=>hn (by
    have:=(hk.keys n g).2 ⟨hg,e⟩
    rw[hlk]at this;simpa using this.symm)
   have hln:∀ t,oG w P.fs t→t<σ.length:=h.ord.lt
   refine⟨fun t=>t=p∨t=kh∨F' t∨Gl1 t∨oG w P.fs t,{ P with data:={ P.data with now:=wrPg P.data.now n pg 8,wait:=P.data.wait++wrW n pg 8 },log:=L1,V:=Dj P.V f { P.V f with dirty:=false } },?_,⟨⟨fun m g=> ?_,hk.kn,hk.m1,hk.mb,hk.len,fun g hg=> ?_,fun g hg=> ?_,fun g hg hd'=> ?_,fun k=> ?_,hk.size⟩,F',Gl1,w,a,⟨?_,?_,?_,?_,?_,fun t h1 h2=> ?_,fun t h1 h2=> ?_,fun t h1 h2=> ?_,?_,?_,?_,?_⟩,fun t=>Iff.rfl⟩,⟨rfl,rfl,hsz,hld,hst,by show L1.wait≤_;omega,by show L1.ctr+min L1.wait 1≤P.log.ctr+min P.log.wait 1+0;omega,by show (P.data.wait++wrW n pg 8).length+8*P.fs.countP (fun g=>(Dj P.V f { P.V f with dirty:=false } g).dirty)≤P.data.wait.length+8*P.fs.countP (fun g=>(P.V g).dirty)+8*0;have hcd':P.fs.countP (fun g=>(Dj P.V f { P.V f with dirty:=false } g).dirty)+1=P.fs.countP (fun g=>(P.V g).dirty):=hcd;rw[QE,Aim];omega,fun m=> ?_,rfl⟩,rfl,rfl,rfl⟩
   ·have e1:Fr σ s1 G (fun t=>t=p∨t=kh∨Fd t∨Gl1 t∨oG w P.fs t):=hf1.sub (fun t ht=>(hG t).2 (.inr (.inr (.inr (.inl ht))))) fun t ht=>by
     rw[hG t]
     rcases ht with h1|h1|h1|h1|h1
     ·exact .inl (.inl h1)
     ·exact .inl (.inr (.inl h1))
     ·exact .inl (.inr (.inr (.inl h1)))
     ·exact (hG1 t h1).imp (fun e=>.inr (.inr (.inr (.inl e)))) id
     ·exact .inl (.inr (.inr (.inr (.inr h1))))
    have e2:Fr s1 s (fun t=>t=p∨t=kh∨Fd t∨Gl1 t∨oG w P.fs t) (fun t=>t=p∨t=kh∨F' t∨Gl1 t∨oG w P.fs t):=hf2.sub (fun t ht=>.inr (.inr (.inl ht))) fun t ht=>by
     rcases ht with h1|h1|h1|h1|h1
     ·exact .inl (.inl h1)
     ·exact .inl (.inr (.inl h1))
     ·exact (hF2 t h1).imp (fun e=>.inr (.inr (.inl e))) id
     ·exact .inl (.inr (.inr (.inr (.inl h1))))
     ·exact .inl (.inr (.inr (.inr (.inr h1))))
    exact (e1.trans e2).set _ ((hG f).2 (.inr (.inr (.inr (.inr hog)))))
   ·show lkM P.hm m=some g↔g∈P.fs∧_
    rw[(hku g).1];exact hk.keys m g
   ·show (Dj P.V f { P.V f with dirty:=false } g).n<_
    rw[(hku g).1];exact hk.fn g hg
   ·show pgz (Dj P.V f { P.V f with dirty:=false } g).pg=(Dj P.V f { P.V f with dirty:=false } g).pg
    rw[(hku g).2];exact hk.nz g hg
   ·show pgz (Bq (wrPg P.data.now n pg 8) (Dj P.V f { P.V f with dirty:=false } g).n)=(Dj P.V f { P.V f with dirty:=false } g).pg
    rw[(hku g).1,(hku g).2]
    by_cases e:g=f
    ·subst e
     rw[hfn,hfp,Ap7 p1]
     have:=hk.nz g hf
     rwa [hfp]at this
    ·rw[Ab7 _ _ _ _ (hne g hg e)]
     refine hk.cl g hg ?_
     have:(Dj P.V f { P.V f with dirty:=false } g).dirty=false:=hd'
     simpa only[Dj,if_neg e]using this
   ·show (A3 (wrPg P.data.now n pg 8) k).length=64
    rw[Ab6]
    split
    ·simp;omega
    ·exact hk.secs k
   ·rw[hs p (Ay h0 f1 (by simp))];exact j0
   ·exact hd2.same fun t ht=>hs t fun e=>nf' (e▸ht)
   ·refine (hl1.frame hf2 fun t h1 h2=> ?_).same fun t ht=>hs t fun e=>nlf (e▸ht)
    exact (hG1 t h1).elim (h.dl t h2) fun e=>ZJ _ (ZE (h.data.lt t h2) e)
   ·refine h.ord.upd hi _ (by show (P.V f).pg.length=512;rw[hfp];exact p1) ?_ fun t h1 h2=> ?_
    ·simp only[Gc,hfn,hfp,hfu];simp[r1]
    ·rw[hs t h2]
     have hx:σ[t]? =some (σ[t]'(hln t h1)):=by simp[hln t h1]
     rw[hk1 t _ hx (h.ol t h1) (h.od t h1),hx]
   ·rw[hs kh (Ay h.has f1 (by simp))];exact hk1 kh _ h.has h.kl h.kd
   ·rcases hF2 t h1 with e|e
    ·exact (hG1 t h2).elim (h.dl t e) fun e'=>ZJ _ (ZE (h.data.lt t e) e')
    ·exact ZJ _ (ZE (hl1.lt t h2) e)
   ·exact (hF2 t h2).elim (h.od t h1) fun e=>ZJ _ (ZE (hln t h1) (ZO hle e))
   ·exact (hG1 t h2).elim (h.ol t h1) fun e=>ZJ _ (ZE (hln t h1) e)
   ·exact fun e=>(hF2 p e).elim h.pd fun e=>by omega
   ·exact fun e=>(hG1 p e).elim h.pl fun e=>by omega
   ·exact fun e=>(hF2 kh e).elim h.kd fun e=>by omega
   ·exact fun e=>(hG1 kh e).elim h.kl fun e=>by omega
   ·unfold Ak.view
    show (match lkM P.hm m with|some g=>(Dj P.V f { P.V f with dirty:=false } g).pg|none=>pgz (Bq (wrPg P.data.now n pg 8) m))=_
    cases hm:lkM P.hm m with
    |some g=>exact (hku g).2
    |none=>
     have:m≠n:=fun e=>by rw[e,hlk]at hm;cases hm
     simp only[Ab7 _ _ _ _ this]
theorem Ord.congr {σ:St}{V V':Nat→B7}{a:AV}{w:Option Nat}{fs:List Nat}(h:Ord σ V a w fs)(hV:∀ g∈fs,V' g=V g):Ord σ V' a w fs:=by
 cases h with
 |nil=>exact .nil
 |hp h=>exact .hp ⟨h.o,fun i g hg=>by rw[hV g (QG hg)];exact h.f i g hg,h.nd,fun g hg=>by rw[hV g hg];exact h.pg g hg,h.big⟩
def rowP (dd l kh:Nat)(P:Ak)(a:AV):Option Ob:=some (.row 6 [[.mp dd 6 0 0,.mp l 5 0 0,Ad .i64 (P.most:Nat),a,.mmap kh,Ad .i64 P.tick]])
def mapP (hm:List (Nat×Nat)):Option Ob:=some (.map (Nj (fun f=>.mp f 516 0 0) hm))
theorem Avs {q:St}{p dd l kh f n:Nat}{G:Nat→Prop}{P:Ak}(h:Bg q p dd l kh G P)(v:B7)(i0:Nat)(hf:q[f]? =some (Gc v i0))(hv:v.pg.length=512)(hvn:v.n=n)(hz:pgz v.pg=v.pg)(hcl:pgz (Bq P.data.now n)=v.pg)(hn:n<P.pages)(hfG:¬ G f)(hnone:lkM P.hm n=none)(hlen:P.fs.length<P.most)(hvd:v.dirty=false):
 Aa Tryz.prog 111 [.dyn 208 (.mp p 6 0 3),.dyn 154 (.mp f 516 0 0)] q fun r q'=>r= .tup []∧(∃ a,q'[p]? =some (rowP dd l kh P a))∧q'[kh]? =some (mapP P.hm)∧∃ G' P',Bg (q'.set kh (mapP (Dq P.hm n f))) p dd l kh G' P'∧Fr q (q'.set kh (mapP (Dq P.hm n f))) (fun t=>t=f∨G t) G'∧P'.hm=Dq P.hm n f∧Kp P P' 0:=by
 obtain⟨hk,Fd,Gl,w,a,h,hG⟩:=h
 have hog:¬ oG w P.fs f:=fun e=>hfG ((hG f).2 (.inr (.inr (.inr (.inr e)))))
 have hfs:f∉P.fs:=fun e=>hog (.inr e)
 have hup:∀ g∈P.fs,Dj P.V f v g=P.V g:=fun g hg=>if_neg fun e=>by subst e;exact hfs hg
 have huf:Dj P.V f v f=v:=if_pos rfl
 have ho:=h.ord.congr (V':=Dj P.V f v) hup
 have hb:=hk.mb
 refine (A1f ho h.o (i0:=i0) (by rw[huf];exact hf) hfs (by rw[huf];exact hv) (by omega)).mono ?_
 rintro _ q' ⟨rfl,o',fs',hP,h1,h2,hF⟩
 have hmem:∀ g,g∈fs'↔g∈P.fs∨g=f:=fun g=>by rw[hP.mem_iff];simp
 have hcnt:fs'.countP (fun g=>(Dj P.V f v g).dirty)=P.fs.countP fun g=>(P.V g).dirty:=by
  rw[hP.countP_eq,List.countP_append,List.countP_congr (q:=fun g=>(P.V g).dirty) fun g hg=>by rw[hup g hg]]
  simp[huf,hvd]
 have hpf:p≠f:=fun e=>hfG (e▸(hG p).2 (.inl rfl))
 have hkf:kh≠f:=fun e=>hfG (e▸(hG kh).2 (.inr (.inl rfl)))
 have hno:∀ t,Fd t∨Gl t∨t=kh→t<q.length→q'[t]? =q[t]? :=fun t ht hl=>hF.keep t hl (by
  rintro (rfl|rfl|e)
  ·rcases ht with e|e|e
   ·exact h.pd e
   ·exact h.pl e
   ·exact h.pk e
  ·rcases ht with e|e|e
   ·exact hfG ((hG t).2 (.inr (.inr (.inl e))))
   ·exact hfG ((hG t).2 (.inr (.inr (.inr (.inl e)))))
   ·exact hkf e.symm
  ·rcases ht with e'|e'|rfl
   ·exact h.od t e e'
   ·exact h.ol t e e'
   ·exact h.nk e)
 have hk':=(hno kh (.inr (.inr rfl)) (Ac h.has)).trans h.has
 have lk:=Ac hk'
 have hpk:=h.pk
 have hnk':¬ oG (some o') fs' kh:=fun e=>by
  rcases hF.own kh (.inr (e.imp (fun e=>by simpa using e.symm) id))with e|e
  ·rcases e with rfl|rfl|e
   ·exact hpk rfl
   ·exact hkf rfl
   ·exact h.nk e
  ·have:=Ac h.has;omega
 have hs:∀ t,t≠kh→(q'.set kh (mapP (Dq P.hm n f)))[t]? =q'[t]? :=fun t ht=>QO fun e=>ht e.symm
 refine⟨rfl,⟨_,h2⟩,hk',fun t=>t=p∨t=kh∨Fd t∨Gl t∨oG (some o') fs' t,{ P with fs:=fs',V:=Dj P.V f v,hm:=Dq P.hm n f },⟨⟨fun m g=> ?_,Ky _ _ _ hk.kn,hk.m1,hk.mb,?_,fun g hg=> ?_,fun g hg=> ?_,fun g hg hd=> ?_,hk.secs,hk.size⟩,Fd,Gl,some o',_,h.re (by rw[hs p hpk];exact h2) rfl rfl (by simp[lk,mapP]) (fun t ht=> ?_) (.hp (h1.same fun t ht=>hs t fun e=>hnk' (by subst e;exact ht.imp (fun e=>by rw[e]) id))) fun t ht=> ?_,fun t=>Iff.rfl⟩,?_,rfl,⟨rfl,rfl,rfl,rfl,rfl,QH _,Alh rfl _,by show P.data.wait.length+8*fs'.countP (fun g=>(Dj P.V f v g).dirty)≤P.data.wait.length+8*P.fs.countP (fun g=>(P.V g).dirty)+8*0;rw[hcnt];exact QH _,fun m=> ?_,rfl⟩⟩
 ·show lkM (Dq P.hm n f) m=some g↔g∈fs'∧(Dj P.V f v g).n=m
  rw[I9,hmem]
  by_cases hm:m=n
  ·subst hm
   rw[if_pos rfl]
   constructor
   ·intro e;cases e;exact⟨.inr rfl,by rw[huf];exact hvn⟩
   ·rintro⟨e|e,e2⟩
    ·rw[hup g e]at e2
     have:=(hk.keys m g).2 ⟨e,e2⟩
     rw[hnone]at this;cases this
    ·rw[e]
  ·rw[if_neg hm,hk.keys]
   constructor
   ·rintro⟨e,e2⟩;exact⟨.inl e,by rw[hup g e];exact e2⟩
   ·rintro⟨e|e,e2⟩
    ·exact⟨e,by rw[hup g e]at e2;exact e2⟩
    ·subst e;rw[huf,hvn]at e2;exact absurd e2.symm hm
 ·show fs'.length≤P.most
  rw[hP.length_eq];simp;omega
 ·show (Dj P.V f v g).n<P.pages
  rcases (hmem g).1 hg with e|e
  ·rw[hup g e];exact hk.fn g e
  ·subst e;rw[huf,hvn];exact hn
 ·show pgz (Dj P.V f v g).pg=(Dj P.V f v g).pg
  rcases (hmem g).1 hg with e|e
  ·rw[hup g e];exact hk.nz g e
  ·subst e;rw[huf];exact hz
 ·show pgz (Bq P.data.now (Dj P.V f v g).n)=(Dj P.V f v g).pg
  have hd':(Dj P.V f v g).dirty=false:=hd
  rcases (hmem g).1 hg with e|e
  ·rw[hup g e]at hd' ⊢;exact hk.cl g e hd'
  ·subst e;rw[huf,hvn];exact hcl
 ·have e:t≠kh:=fun e=>by subst e;exact ht.elim h.kd h.kl
  rw[hs t e]
  exact hno t (ht.imp id .inl) (ht.elim (h.data.lt t) (h.log.lt t))
 ·rcases hF.own t (.inr (ht.imp (fun e=>by simpa using e.symm) id))with e|e
  ·rcases e with rfl|rfl|e
   ·exfalso
    exact (Ord.hp h1).not h2 (by simp[]) (by simp[]) ht
   ·exact⟨fun e=>hfG ((hG t).2 (.inr (.inr (.inl e)))),fun e=>hfG ((hG t).2 (.inr (.inr (.inr (.inl e)))))⟩
   ·exact h.no (.inl e)
  ·exact h.no (.inr e)
 ·refine (hF.sub (fun t ht=> ?_) (fun t ht=> ?_)).set _ (.inr ((hG kh).2 (.inr (.inl rfl))))
  ·rcases ht with rfl|rfl|e
   ·exact .inr ((hG _).2 (.inl rfl))
   ·exact .inl rfl
   ·exact .inr ((hG _).2 (.inr (.inr (.inr (.inr e)))))
  ·rcases ht with rfl|rfl|e|e|e
   ·exact .inl (.inr ((hG _).2 (.inl rfl)))
   ·exact .inl (.inr ((hG _).2 (.inr (.inl rfl))))
   ·exact .inl (.inr ((hG _).2 (.inr (.inr (.inl e)))))
   ·exact .inl (.inr ((hG _).2 (.inr (.inr (.inr (.inl e))))))
   ·rcases hF.own t (.inr (e.imp (fun e=>by simpa using e.symm) id))with e|e
    ·rcases e with rfl|rfl|e
     ·exact .inl (.inr ((hG _).2 (.inl rfl)))
     ·exact .inl (.inl rfl)
     ·exact .inl (.inr ((hG _).2 (.inr (.inr (.inr (.inr e))))))
    ·exact .inr e
 ·unfold Ak.view
  show (match lkM (Dq P.hm n f) m with|some g=>(Dj P.V f v g).pg|none=>pgz (Bq P.data.now m))=_
  rw[I9]
  by_cases hm:m=n
  ·subst hm
   rw[if_pos rfl,hnone]
   simp only[huf,hcl]
  ·rw[if_neg hm]
   cases hl:lkM P.hm m with
   |none=>rfl
   |some g=>simp only[hup g ((hk.keys m g).1 hl).1]
theorem A1j {q:St}{p dd l kh o f0:Nat}{G Fd Gl:Nat→Prop}{P:Ak}(hk:Px P)(h:Mk q p dd l kh Fd Gl (some o) (.ms o 1 0 P.fs.length) P)(hp:Hf q o P.fs P.V)(hG:∀ t,G t↔(t=p∨t=kh∨Fd t∨Gl t∨oG (some o) P.fs t))(hf0:P.fs[0]? =some f0)(hd:(P.V f0).dirty=false):
 Aa Tryz.prog 110 [.dyn 208 (.mp p 6 0 3)] q fun r q'=>r= .dyn 154 (.mp f0 516 0 0)∧(∃ i,q'[f0]? =some (Gc (P.V f0) i))∧(∃ a,q'[p]? =some (rowP dd l kh P a))∧q'[kh]? =some (mapP P.hm)∧∃ G' P',Bg (q'.set kh (mapP (Q4 P.hm (P.V f0).n))) p dd l kh G' P'∧Fr q (q'.set kh (mapP (Q4 P.hm (P.V f0).n))) G G'∧P'.hm=Q4 P.hm (P.V f0).n∧P'.fs.length<P.fs.length∧P'.tick=P.tick∧Kp P P' 0∧P'.data=P.data:=by
 refine (apop hp h.o hf0).mono ?_
 rintro _ q' ⟨rfl,⟨j,hj⟩,fs',hP,h1,h2,hF⟩
 have hm0:f0∈P.fs:=QG hf0
 have hnd:=(hP.nodup_iff.2 hp.nd)
 rw[ZU]at hnd
 have hmem:∀ g,g∈fs'↔g∈P.fs∧g≠f0:=fun g=>by
  rw[← hP.mem_iff,QP]
  constructor
  ·intro e;exact⟨.inr e,fun e'=>hnd.1 (e'▸e)⟩
  ·rintro⟨e|e,e'⟩
   ·exact absurd e e'
   ·exact e
 have hog:∀ t,oG (some o) fs' t→oG (some o) P.fs t:=fun t ht=>ht.imp id fun e=>((hmem t).1 e).1
 have hoF:∀ t,oF o P.fs t→oG (some o) P.fs t:=fun t ht=>ht.imp (fun e=>by rw[e]) id
 have hpk:=h.pk
 have hno:∀ t,Fd t∨Gl t∨t=kh→t<q.length→q'[t]? =q[t]? :=fun t ht hl=>hF.keep t hl (by
  rintro (rfl|e)
  ·rcases ht with e|e|e
   ·exact h.pd e
   ·exact h.pl e
   ·exact h.pk e
  ·rcases ht with e'|e'|rfl
   ·exact h.od t (hoF t e) e'
   ·exact h.ol t (hoF t e) e'
   ·exact h.nk (hoF _ e))
 have hk':=(hno kh (.inr (.inr rfl)) (Ac h.has)).trans h.has
 have lk:=Ac hk'
 have hs:∀ t,t≠kh→(q'.set kh (mapP (Q4 P.hm (P.V f0).n)))[t]? =q'[t]? :=fun t ht=>QO fun e=>ht e.symm
 have hlk0:lkM P.hm (P.V f0).n=some f0:=(hk.keys _ _).2 ⟨hm0,rfl⟩
 have hlen:=hP.length_eq
 simp only[QF]at hlen
 refine⟨rfl,⟨j,hj⟩,⟨_,h2⟩,hk',fun t=>t=p∨t=kh∨Fd t∨Gl t∨oG (some o) fs' t,{ P with fs:=fs',hm:=Q4 P.hm (P.V f0).n },⟨⟨fun m g=> ?_,Aij _ _ hk.kn,hk.m1,hk.mb,?_,fun g hg=>hk.fn g ((hmem g).1 hg).1,fun g hg=>hk.nz g ((hmem g).1 hg).1,fun g hg hd=>hk.cl g ((hmem g).1 hg).1 hd,hk.secs,hk.size⟩,Fd,Gl,some o,_,h.re (by rw[hs p hpk];exact h2) rfl rfl (by simp[lk,mapP]) (fun t ht=> ?_) (.hp (h1.same fun t ht=>hs t fun e=>h.nk (by subst e;exact hog _ (ht.imp (fun e=>by rw[e]) id)))) fun t ht=>h.no (.inl (hog t ht)),fun t=>Iff.rfl⟩,?_,rfl,?_,rfl,⟨rfl,rfl,rfl,rfl,rfl,QH _,Alh rfl _,by show P.data.wait.length+8*fs'.countP (fun g=>(P.V g).dirty)≤P.data.wait.length+8*P.fs.countP (fun g=>(P.V g).dirty)+8*0;rw[← hP.countP_eq,VE];omega,fun m=> ?_,rfl⟩,rfl⟩
 ·show lkM (Q4 P.hm (P.V f0).n) m=some g↔g∈fs'∧(P.V g).n=m
  rw[Ue _ _ _ hk.kn,hmem]
  by_cases hm:m=(P.V f0).n
  ·rw[if_pos hm]
   constructor
   ·intro e;cases e
   ·rintro⟨⟨e,e2⟩,e3⟩
    have:=(hk.keys m g).2 ⟨e,e3⟩
    rw[hm,hlk0]at this
    exact absurd (by simpa using this.symm) e2
  ·rw[if_neg hm,hk.keys]
   constructor
   ·rintro⟨e,e2⟩;exact⟨⟨e,fun e'=>hm (by rw[← e2,e'])⟩,e2⟩
   ·rintro⟨⟨e,_⟩,e2⟩;exact⟨e,e2⟩
 ·show fs'.length≤P.most
  have:=hk.len;omega
 ·have e:t≠kh:=fun e=>by subst e;exact ht.elim h.kd h.kl
  rw[hs t e]
  exact hno t (ht.imp id .inl) (ht.elim (h.data.lt t) (h.log.lt t))
 ·refine (hF.sub (fun t ht=> ?_) (fun t ht=> ?_)).set _ ((hG kh).2 (.inr (.inl rfl)))
  ·rcases ht with rfl|e
   ·exact (hG _).2 (.inl rfl)
   ·exact (hG _).2 (.inr (.inr (.inr (.inr (hoF t e)))))
  ·rw[hG t]
   exact .inl (ht.imp id (.imp id (.imp id (.imp id (hog t)))))
 ·show fs'.length<P.fs.length
  omega
 ·unfold Ak.view
  show (match lkM (Q4 P.hm (P.V f0).n) m with|some g=>(P.V g).pg|none=>pgz (Bq P.data.now m))=_
  rw[Ue _ _ _ hk.kn]
  by_cases hm:m=(P.V f0).n
  ·subst hm
   rw[if_pos rfl,hlk0]
   exact hk.cl f0 hm0 hd
  ·rw[if_neg hm]
   cases lkM P.hm m<;>rfl
theorem Bg.tick {σ:St}{p dd l kh:Nat}{G:Nat→Prop}{P:Ak}{a:AV}(h:Bg σ p dd l kh G P)(hp:σ[p]? =some (rowP dd l kh P a))(tk:Int):Bg (σ.set p (some (.row 6 [[.mp dd 6 0 0,.mp l 5 0 0,Ad .i64 (P.most:Nat),a,.mmap kh,Ad .i64 tk]]))) p dd l kh G { P with tick:=tk }:=by
 obtain⟨hk,Fd,Gl,w,a',h,hG⟩:=h
 have h0:=h.o
 rw[hp]at h0
 simp only[rowP,QB,Ob.row.injEq,YI,true_and,and_true]at h0
 subst h0
 have l0:=Ac hp
 have hs:∀ t,t≠p→(σ.set p (some (.row 6 [[.mp dd 6 0 0,.mp l 5 0 0,Ad .i64 (P.most:Nat),a,.mmap kh,Ad .i64 tk]])))[t]? =σ[t]? :=fun t ht=>QO fun e=>ht e.symm
 exact⟨hk.re rfl rfl rfl rfl (fun _=>Iff.rfl) hk.len fun _=>⟨rfl,rfl,rfl⟩,Fd,Gl,w,a,h.re (by simp[l0]) rfl rfl (by rw[hs kh h.pk.symm];exact h.has) (fun t ht=>hs t fun e=>by subst e;exact ht.elim h.pd h.pl) (h.ord.same fun t ht=>hs t fun e=>h.np (e▸ht)) fun t ht=>h.no (.inl ht),hG⟩
