/- Pools whose disks keep what they show. Batches: find. Batches: Read, write, Write. Batches: a batch's record; Write, Batch. Batches: Write, Batch, Done. -/
import Derived.Test.YtpoigihfeehehaaGreatDoorM27
set_option linter.all false
set_option maxRecDepth 100000
set_option maxHeartbeats 32000000
namespace Go.Proofs.YtpoigihfeehehaaGreatDoor
open Go.RowKit
def Rp (P:Ak):Prop:=∃ chs,P.log.str=Aie (chs.map Aqd)∧Avu P.pages chs∧∀ n,P.view n=ovr (fun m=>pgz (Xk P.data.kept m)) chs.flatten n
theorem Rp.kp {P P':Ak}{k:Nat}(h:Rp P)(hk:Kp P P' k):Rp P':=by
 obtain⟨chs,h1,h2,h3⟩:=h
 exact⟨chs,by rw[hk.str];exact h1,by rw[hk.pages];exact h2,fun n=>by rw[hk.view,hk.kept];exact h3 n⟩
theorem Ae6 {P:Ak}(hk:Px P)(hcl:∀ f∈P.fs,(P.V f).dirty=false)(n:Nat):P.view n=pgz (Bq P.data.now n):=by
 unfold Ak.view
 cases hl:lkM P.hm n with
 |none=>rfl
 |some f=>
  obtain⟨g1,g2⟩:=(hk.keys n f).1 hl
  have:=hk.cl f g1 (hcl f g1)
  rw[g2]at this
  exact this.symm
theorem Xl {f g:Nat→List UInt8}(h:∀ k,f k=g k)(n:Nat):Xk f n=Xk g n:=by
 have:f=g:=funext h
 rw[this]
theorem A1l {P:Ak}(hk:Px P)(hst:P.log.str=[])(hcl:∀ f∈P.fs,(P.V f).dirty=false)(hkn:∀ k,A3 P.data.now k=P.data.kept k):Rp P:=
 ⟨[],by rw[hst];rfl,by simp[Avu],fun n=>by
  rw[Ae6 hk hcl]
  show pgz (Xk (A3 P.data.now) n)=pgz (Xk P.data.kept n)
  rw[Xl hkn]⟩
theorem Rp.more {P P3:Ak}{ch:List (Nat×List UInt8)}(h:Rp P)(hne:ch≠[])(hok:∀ q∈ch,q.1<P.pages∧q.2.length=512∧pgz q.2=q.2)(h1:P3.log.str=P.log.str++leB (Aqd ch).length 4++Aqd ch)(h2:P3.data.kept=P.data.kept)(h3:P3.data.size=P.data.size)(h4:∀ n,P3.view n=ovr P.view ch n):Rp P3:=by
 obtain⟨chs,g1,g2,g3⟩:=h
 have hp:P3.pages=P.pages:=by unfold Ak.pages;rw[h3]
 refine⟨chs++[ch],?_,fun c hc=> ?_,fun n=> ?_⟩
 ·rw[h1,g1,ZH,Aif,QX]
  simp[Aie,recB]
 ·rw[hp]
  rcases QS.1 hc with hc|hc
  ·exact g2 c hc
  ·simp at hc;subst hc;exact⟨hne,hok⟩
 ·rw[h4,h2,List.flatten_append,All]
  simp only[XE,List.flatten_nil,ZT]
  exact Ah5 g3 n ch
def Cj (σ:St)(p dd l kh:Nat)(G:Nat→Prop)(P:Ak):Prop:=Bg σ p dd l kh G P∧Rp P
section
variable {σ s:St} {p dd l kh:Nat} {G:Nat→Prop} {P:Ak}
theorem Cj.lt (h:Cj σ p dd l kh G P):∀ t,G t→t<σ.length:=h.1.lt
theorem Cj.same (h:Cj σ p dd l kh G P)(hs:∀ t,G t→s[t]? =σ[t]?):Cj s p dd l kh G P:=⟨h.1.same hs,h.2⟩
theorem Cj.frame {K K':Nat→Prop}(h:Cj σ p dd l kh G P)(hf:Fr σ s K K')(hd:∀ t,G t→K t→False):Cj s p dd l kh G P:=⟨h.1.frame hf hd,h.2⟩
theorem Cj.ap (h:Cj σ p dd l kh G P)(hs:Ap σ s):Cj s p dd l kh G P:=⟨h.1.ap hs,h.2⟩
theorem Cj.root (h:Cj σ p dd l kh G P):G p:=h.1.root
theorem Cj.vlen (h:Cj σ p dd l kh G P)(n:Nat):(P.view n).length=512∧pgz (P.view n)=P.view n:=h.1.vlen n
theorem Alm {d:Nat}{F:Nat→Prop}{D:F9}(h:Bf σ d F D)(hw:D.wait=[])(k:Nat):A3 D.now k=D.kept k:=by
 obtain⟨kn,kk,w,a,es,h,_⟩:=h
 have:=h.ov k
 rw[hw]at this
 exact this
theorem Aio (h:Cj σ p dd l kh G P):Aa Tryz.prog 30 [.mp p 6 0 0] σ fun r σ'=>σ'=σ∧r=Ad .i64 (P.pages:Nat):=Ab8 h.1
theorem A1m {n:Nat}(h:Cj σ p dd l kh G P)(hn:n<P.pages)(hc:P.ct+1<18446744073709551616)(hw:P.dq+8≤1000000000000):
 Aa Tryz.prog 157 [.mp p 6 0 0,Ad .i64 (n:Nat)] σ fun r σ'=>r= .tup [A6 (P.view n),Ad .i64 0]∧∃ G' P',Fr σ σ' G G'∧Cj σ' p dd l kh G' P'∧Kp P P' 0:=by
 refine (Aqc h.1 hn hc hw).mono ?_
 rintro _ s ⟨rfl,G',P',h1,h2,h3⟩
 exact⟨rfl,G',P',h1,⟨h2,h.2.kp h3⟩,h3⟩
end
theorem Avv {σ:St}{dd dl:Nat}{Fd Fl:Nat→Prop}{D DL:F9}(hd:Bf σ dd Fd D)(hl:Bf σ dl Fl DL)(hdj:∀ t,Fd t→Fl t→False)(hz:16≤D.size)(hs:∀ k,(A3 D.now k).length=64)(hlz:3≤DL.size)(c:Nat)(hh:Nu DL.now c 0)(hls:∀ k,(A3 DL.now k).length=64)(hw:DL.wait=[])(most:Nat)(hm:1≤most)(hmb:most≤100000)(hdw:D.wait=[]):
 Aa Tryz.prog 8 [.mp dd 6 0 0,.mp dl 6 0 0,Ad .i64 (most:Nat)] σ fun r σ'=>∃ p l kh G P,r= .tup [.mp p 6 0 0,Ad .i64 0]∧Ap σ σ'∧Cj σ' p dd l kh G P∧P.fs=[]∧P.hm=[]∧P.most=most∧P.data=D∧P.log={ d:=dl,disk:=DL,ctr:=c,len:=0,str:=[],wait:=0 }∧∀ t,G t→Fd t∨Fl t∨σ.length≤t:=by
 refine (Alk hd hl hdj hz hs hlz c hh hls hw most hm hmb).mono ?_
 rintro r s ⟨p,l,kh,G,P,h1,h2,h3,h4,h5,h6,h7,h8,h9⟩
 refine⟨p,l,kh,G,P,h1,h2,⟨h3,A1l h3.1 (by rw[h8]) (by rw[h4];simp) fun k=> ?_⟩,h4,h5,h6,h7,h8,h9⟩
 rw[h7];exact Alm hd hdw k
def tBa:=aa wX <| aa wbu <| aa T3 <| aa T89 <| aa T98 <| aa T153 T290
def Aip (σ:St)(a:AV)(w:Option Nat)(ch:List (Nat×List UInt8)):Prop:=
 (a= .p (.v (.slice none 0 0))∧w=none∧ch=[])∨∃ t,a= .ms t 513 0 ch.length∧w=some t∧ChAt σ t ch
structure Aqe (σ:St)(b p:Nat)(w:Option Nat)(a:AV)(ch:List (Nat×List UInt8)):Prop where
 o:σ[b]? =some (some (.row 2 [[.mp p 6 0 0,a]]))
 chg:Aip σ a w ch
 len:∀ q∈ch,q.2.length=512
 kn:(ch.map Prod.fst).Nodup
 big:ch.length≤100000
def Bv (σ:St)(b p:Nat)(B:Nat→Prop)(ch:List (Nat×List UInt8)):Prop:=∃ w a,Aqe σ b p w a ch∧∀ t,B t↔(t=b∨w=some t)
theorem ChAt.same {σ s:St}{t:Nat}{ch:List (Nat×List UInt8)}(h:ChAt σ t ch)(hs:s[t]? =σ[t]?):ChAt s t ch:=⟨by rw[hs];exact h.row⟩
theorem Aip.same {σ s:St}{a:AV}{w:Option Nat}{ch:List (Nat×List UInt8)}(h:Aip σ a w ch)(hs:∀ t,w=some t→s[t]? =σ[t]?):Aip s a w ch:=by
 rcases h with h|⟨t,h1,h2,h3⟩
 ·exact .inl h
 ·exact .inr ⟨t,h1,h2,h3.same (hs t h2)⟩
theorem Bv.same {σ s:St}{b p:Nat}{B:Nat→Prop}{ch:List (Nat×List UInt8)}(h:Bv σ b p B ch)(hs:∀ t,B t→s[t]? =σ[t]?):Bv s b p B ch:=by
 obtain⟨w,a,h,hB⟩:=h
 exact⟨w,a,⟨by rw[hs b ((hB b).2 (.inl rfl))];exact h.o,h.chg.same fun t ht=>hs t ((hB t).2 (.inr ht)),h.len,h.kn,h.big⟩,hB⟩
theorem Bv.lt {σ:St}{b p:Nat}{B:Nat→Prop}{ch:List (Nat×List UInt8)}(h:Bv σ b p B ch):∀ t,B t→t<σ.length:=by
 obtain⟨w,a,h,hB⟩:=h
 intro t ht
 rcases (hB t).1 ht with rfl|hw
 ·exact Ac h.o
 ·rcases h.chg with⟨_,e,_⟩|⟨t',_,e,h3⟩
  ·rw[e]at hw;cases hw
  ·rw[e]at hw;simp only[QB]at hw;subst hw
   obtain⟨ls,h4,_⟩:=h3.row
   exact Ac h4
theorem Bv.ap {σ s:St}{b p:Nat}{B:Nat→Prop}{ch:List (Nat×List UInt8)}(h:Bv σ b p B ch)(hs:Ap σ s):Bv s b p B ch:=by
 obtain⟨τ,rfl⟩:=hs
 exact h.same fun t ht=>QD (h.lt t ht)
theorem Bv.frame {σ s:St}{b p:Nat}{B K K':Nat→Prop}{ch:List (Nat×List UInt8)}(h:Bv σ b p B ch)(hf:Fr σ s K K')(hd:∀ t,B t→K t→False):Bv s b p B ch:=
 h.same fun t ht=>hf.keep t (h.lt t ht) fun hg=>hd t ht hg
theorem K0 {q:Nat×List UInt8}(h:q.2.length=512):(Pz q).length=513:=by simp[Pz,Ao h]
theorem Avw {σ:St}{x:Nat}{n:Int}(hx:σ[x]? =some (some (.row 1 [[Ad .i64 n]])))(q:Nat×List UInt8)(hq:q.2.length=512):
 Aa Tryz.prog 188 [.agg (Pz q),.mp x 1 0 0] σ fun r σ'=>Ap σ σ'∧r=Av ((q.1:Int)==n):=by
 have lx:=Ac hx
 have il:=K0 hq
 have i0:(Pz q)[0]? =some (.p (.v (.int .i64 (q.1:Nat)))):=rfl
 refine Ab Am An Tryz.func188 (by kernel_rfl) rfl (nt:=6) (rs:=[.tmp 3]) rfl rfl ?_
 repeat' simp only[↓wBA,tBa,seval,wH,hx,lx,il,i0]
 all_goals refine rtS ?_
 all_goals simp only[wRe,tBa,seval]
 exact Ap.app _ _
def Fnd (ch:List (Nat×List UInt8))(n:Int)(r:AV):Prop:=(∃ (i:Nat) (q:Nat×List UInt8),ch[i]? =some q∧(q.1:Int)=n∧r=Ad .i64 (i:Nat))∨((∀ q∈ch,(q.1:Int)≠n)∧r=Ad .i64 (-1))
theorem Aqf {σ:St}{x:Nat}{n:Int}{a:AV}{w:Option Nat}{ch:List (Nat×List UInt8)}(hx:σ[x]? =some (some (.row 1 [[Ad .i64 n]])))(h:Aip σ a w ch)(hlen:∀ q∈ch,q.2.length=512)(hb:ch.length≤100000):
 Aa Tryz.prog 187 [a,.fn 188 [] [.mp x 1 0 0]] σ fun r σ'=>Ap σ σ'∧Fnd ch n r:=by
 have la:Ba cx 89 a=some ch.length:=by
  rcases h with⟨rfl,_,rfl⟩|⟨t,rfl,_,_⟩
  ·rfl
  ·exact Asj
 refine Ab Am An Tryz.func187 (by kernel_rfl) rfl (nt:=17) (rs:=[.tmp 4]) rfl rfl ?_
 repeat' simp only[↓wBA,tBa,seval,la]
 refine Ar (X:={ i:Nat // i≤ch.length }) (fun i=>ch.length - i.1) (fun i=>[(8,Ad .i64 (i.1:Nat))]) [4,5,9,10,11,12,13,14,15,16,17,18] (fun i s=>Ap σ s∧∀ j q,j<i.1→ch[j]? =some q→(q.1:Int)≠n) (⟨0,by omega⟩) ?_ ?_ ?_ ?_
 ·simp only[wHl,wHf]
 ·exact⟨Ap.refl _,fun j q hj=>absurd hj (VF _)⟩
 ·rintro _ _ ⟨hf,_⟩;exact hf.len
 ·intro y J s hI
  simp only[wHl]
  obtain⟨i,hi⟩:=y
  obtain⟨ha,hno⟩:=hI
  dsimp only at*
  have hlen':=ha.len
  by_cases hlt:i<ch.length
  ·rcases h with⟨_,_,rfl⟩|⟨t,rfl,_,h3⟩
   ·simp at hlt
   ·obtain⟨ls,h1,h2⟩:=h3.get
    have k1:=ha.get h1
    have q1:=Ac k1
    have kx:=ha.get hx
    have b1:=dT (i:=i) (n:=ch.length) (by omega)
    have b2:((i:Int)<(ch.length:Int))=True:=eq_true (by omega)
    have b3:=nnI i
    have hw1:=wI i (by omega)
    obtain⟨q,hq⟩:∃ q,ch[i]? =some q:=⟨ch[i],by simp[hlt]⟩
    have k2:=h2 i q hq
    have hql:=hlen q (QG hq)
    have il:=K0 hql
    have i2:List.take 513 (Pz q)=Pz q:=ZF (by omega)
    repeat' first|((with_reducible apply cs)<;>intro h<;>try simp only[h])|simp only[↓wBA,tBa,seval,wHl,b2,b3,k1,k2,il,hw1]|((with_reducible show Aa _ _ _ _ _);refine (Avw kx q hql).mono ?_;rintro _ s2 ⟨ha2,rfl⟩)
    ·have hlen2:=(ha.trans ha2).len
     all_goals refine rtS ?_
     all_goals simp only[wRe,tBa,seval]
     exact⟨ha.trans ha2,.inl ⟨i,q,hq,by simpa using h,rfl⟩⟩
    ·refine⟨⟨i+1,by omega⟩,by show ch.length - (i+1)<ch.length - i;omega,⟨ha.trans ha2,fun j r hj hr=> ?_⟩,?_⟩
     ·by_cases e:j=i
      ·subst e;rw[hq]at hr;cases hr;simpa using h
      ·exact hno j r (by have:j<i+1:=hj;omega) hr
     ·simp only[]
  ·have he:i=ch.length:=by omega
   subst he
   have b1:=dF (i:=ch.length) (n:=ch.length) (by omega)
   repeat' simp only[↓wBA,tBa,seval,wHl,b1]
   all_goals refine rtS ?_
   all_goals simp only[wRe,tBa,seval]
   refine⟨ha,.inr ⟨fun q hq=> ?_,rfl⟩⟩
   obtain⟨j,hj⟩:=YH hq
   exact hno j q (QC.1 hj).1 hj
theorem Aqg {σ:St}{b p:Nat}{B:Nat→Prop}{ch:List (Nat×List UInt8)}(h:Bv σ b p B ch)(n:Int):Aa Tryz.prog 155 [.mp b 2 0 0,Ad .i64 n] σ fun r σ'=>Ap σ σ'∧Fnd ch n r:=by
 obtain⟨w,a,h,hB⟩:=h
 have h0:=h.o
 have l0:=Ac h0
 have hc:=h.chg.same (s:=σ++[some (.row 1 [[Ad .i64 n]])]) fun t ht=>by
  rcases h.chg with⟨_,e,_⟩|⟨t',_,e,h3⟩
  ·rw[e]at ht;cases ht
  ·rw[e]at ht;simp only[QB]at ht;subst ht
   obtain⟨ls,h4,_⟩:=h3.row
   rw[QD (Ac h4)]
 refine Ab Am An Tryz.func155 (by kernel_rfl) rfl (nt:=9) (rs:=[.tmp 4]) rfl rfl ?_
 repeat' simp only[↓wBA,tBa,seval,wH,h0,l0]
 refine (Aqf (n:=n) (by simp[Ad]) hc h.len h.big).mono ?_
 rintro r s ⟨ha,hf⟩
 have hlen:=((Ap.app σ _).trans ha).len
 repeat' simp only[↓wBA,tBa,seval]
 all_goals refine rtS ?_
 all_goals simp only[wRe,tBa,seval]
 exact⟨(Ap.app σ _).trans ha,hf⟩
def Xm:Cq:=(.det 0 (.det 1 (.det 2 (.det 3 (.det 4 (.det 5 (.det 6 (.det 7 (.fin 8 .done)))))))))
def K1:Cq:=(.det 0 (.det 1 (.det 2 (.det 3 (.det 4 (.det 5 (.det 6 (.det 7 (.act 8 (.fin 9 (.det 10 (.det 11 (.fin 12 .done)))))))))))))
def tBb:=aa wX <| aa wbu <| aa T3 <| aa T28 <| aa T38 <| aa T89 <| aa T98 <| aa Y1 T153
theorem Xn {ch:List (Nat×List UInt8)}(hk:(ch.map Prod.fst).Nodup){i:Nat}{q:Nat×List UInt8}(h:ch[i]? =some q):lkM ch q.1=some q.2:=by
 induction ch generalizing i with
 |nil=>simp at h
 |cons r ch ih=>
  simp only[QK,ZU]at hk
  cases i with
  |zero=>simp at h;subst h;simp[lkM]
  |succ i=>
   simp at h
   have:=ih hk.2 h
   have hm:q.1∈ch.map Prod.fst:=ZP.2 ⟨q,QG h,rfl⟩
   have hne:¬ r.1=q.1:=fun e=>hk.1 (e▸hm)
   simp only[lkM,if_neg hne,this]
theorem Ae7 {ch:List (Nat×List UInt8)}{n:Nat}(h:∀ q∈ch,(q.1:Int)≠(n:Int)):lkM ch n=none:=Aii n ch fun e=>by
 obtain⟨q,hq,e⟩:=ZP.1 e
 exact h q hq (by rw[e])
theorem Aqh {σ:St}{b p n:Nat}{B:Nat→Prop}{ch:List (Nat×List UInt8)}{pg:List UInt8}(h:Bv σ b p B ch)(hl:lkM ch n=some pg):Aa Tryz.prog 120 [.mp b 2 0 0,Ad .i64 (n:Nat)] σ fun r σ'=>Ap σ σ'∧r= .tup [A6 pg,Ad .i64 0]:=by
 obtain⟨w,a,hb,hB⟩:=id h
 have h0:=hb.o
 have l0:=Ac h0
 have z5:=Ao A7
 refine Ab Am An Tryz.func120 (by kernel_rfl) rfl (nt:=29) (rs:=[.cell 4 151,.tmp 5]) rfl rfl ?_
 repeat' simp only[↓wBA,tBb,seval,wH]
 refine (Aqg (h.ap (Ap.app _ _)) n).mono ?_
 rintro r s ⟨ha,hf⟩
 have ha0:=(Ap.app σ _).trans ha
 rcases hf with⟨i,q,hq,hqn,rfl⟩|⟨hno,rfl⟩
 ·have hqn:q.1=n:=by omega
  have hq2:q.2=pg:=by
   have:=Xn hb.kn hq
   rw[hqn,hl]at this;simpa using this.symm
  have hlt:=(QC.1 hq).1
  have hql:=hb.len q (QG hq)
  rcases hb.chg with⟨_,_,rfl⟩|⟨t,rfl,_,h3⟩
  ·simp at hq
  ·obtain⟨ls,h1,h2⟩:=h3.get
   have l1:=Ac h1
   have k0:=ha0.get h0
   have q0:=Ac k0
   have k1:=ha0.get h1
   have q1:=Ac k1
   have kz:=ha.get (t:=σ.length) (x:=some (.row 512 [List.map (fun x=>AV.p (PV.v x)) (zB 512)])) (by simp)
   rw[C6]at kz
   have lz:=Ac kz
   have k2:=h2 i q hq
   have b1:decide ((i:Int)≥0)=true:=by simp
   have b2:((i:Int)<(ch.length:Int))=True:=eq_true (by omega)
   have b3:=nnI i
   have il:=K0 hql
   have i1:List.take 512 (List.drop 1 (Pz q))=Aq q.2:=by simp only[Pz,YM,XA,Kk hql]
   have pc:=Ao hql
   have hb':=hb.big
   repeat' simp only[↓wBA,tBb,seval,wH,k0,k1,k2,kz,b2,b3,il,i1,pc,z5]
   have hs:=ha0.set (t:=σ.length) (QH _) (some (.row 512 [Aq q.2]))
   have hlen:=hs.len
   all_goals refine rtS ?_
   all_goals simp only[wRe,tBb,seval,wH,lz,pc]
   rw[← hq2]
   exact⟨hs,rfl⟩
 ·rw[Ae7 hno]at hl;cases hl
theorem Aqi {σ:St}{b p n dd l kh:Nat}{B G:Nat→Prop}{ch:List (Nat×List UInt8)}{P:Ak}(h:Bv σ b p B ch)(hl:lkM ch n=none)(hP:Cj σ p dd l kh G P)(hd:∀ t,B t→G t→False)(hn:n<P.pages)(hc:P.ct+1<18446744073709551616)(hw:P.dq+8≤1000000000000):
 Aa Tryz.prog 120 [.mp b 2 0 0,Ad .i64 (n:Nat)] σ fun r σ'=>r= .tup [A6 (P.view n),Ad .i64 0]∧∃ G' P',Fr σ σ' G G'∧Cj σ' p dd l kh G' P'∧Kp P P' 0:=by
 obtain⟨w,a,hb,hB⟩:=id h
 have h0:=hb.o
 have l0:=Ac h0
 have z5:=Ao A7
 have hlt:=hP.lt
 refine Ab Am An Tryz.func120 (by kernel_rfl) rfl (nt:=29) (rs:=[.cell 4 151,.tmp 5]) rfl rfl ?_
 repeat' simp only[↓wBA,tBb,seval,wH]
 refine (Aqg (h.ap (Ap.app _ _)) n).mono ?_
 rintro r s ⟨ha,hf⟩
 have ha0:=(Ap.app σ _).trans ha
 rcases hf with⟨i,q,hq,hqn,rfl⟩|⟨hno,rfl⟩
 ·have hqn:q.1=n:=by omega
  have:=Xn hb.kn hq
  rw[hqn,hl]at this;cases this
 ·have k0:=ha0.get h0
  have q0:=Ac k0
  have kz:=ha.get (t:=σ.length) (x:=some (.row 512 [List.map (fun x=>AV.p (PV.v x)) (zB 512)])) (by simp)
  have b1:decide ((-1:Int)≥0)=false:=rfl
  repeat' simp only[↓wBA,tBb,seval,k0]
  refine (A1m (hP.ap ha0) hn hc hw).mono ?_
  rintro _ s2 ⟨rfl,G1,P1,hF,hA,hK⟩
  have c1:=hF.get kz (fun e=>ZJ _ (hlt _ e))
  rw[C6]at c1
  have l1:=Ac c1
  have hpl:=(hP.vlen n).1
  have pc:=Ao hpl
  repeat' simp only[↓wBA,tBb,seval,c1,pc,z5,A6]
  have hF':=ha0.fr.trans hF
  have hlen:=hF'.len
  have hns:σ.length<s.length:=Ac kz
  all_goals refine rtS ?_
  all_goals simp only[wRe,tBb,seval,wH,l1,pc]
  refine⟨G1,P1,⟨by simpa using hlen,fun t ht hn=> ?_,hF'.own⟩,hA.same fun t ht=>QO fun e=> ?_,hK⟩
  ·rw[QO (by omega)];exact hF'.keep t ht hn
  ·subst e
   rcases hF.own _ ht with e|e
   ·exact ZJ _ (hlt _ e)
   ·omega
theorem Ab9 {ch:List (Nat×List UInt8)}(hk:(ch.map Prod.fst).Nodup){i:Nat}{q:Nat×List UInt8}(h:ch[i]? =some q)(pg:List UInt8):Dq ch q.1 pg=ch.set i (q.1,pg):=by
 induction ch generalizing i with
 |nil=>simp at h
 |cons r ch ih=>
  simp only[QK,ZU]at hk
  cases i with
  |zero=>simp at h;subst h;simp[Dq]
  |succ i=>
   simp at h
   have hm:q.1∈ch.map Prod.fst:=ZP.2 ⟨q,QG h,rfl⟩
   have hne:¬ r.1=q.1:=fun e=>hk.1 (e▸hm)
   simp only[Dq,if_neg hne,YF,ih hk.2 h]
theorem Aqj {ch:List (Nat×List UInt8)}{n:Nat}(h:∀ q∈ch,(q.1:Int)≠(n:Int))(pg:List UInt8):Dq ch n pg=ch++[(n,pg)]:=by
 induction ch with
 |nil=>rfl
 |cons r ch ih=>
  have hne:¬ r.1=n:=fun e=>h r (by simp) (by rw[e])
  simp only[Dq,if_neg hne,ZN,ih fun q hq=>h q (by simp[hq])]
theorem Uf {ch:List (Nat×List UInt8)}(h:∀ q∈ch,q.2.length=512){n:Nat}{pg:List UInt8}(hp:pg.length=512):∀ q∈Dq ch n pg,q.2.length=512:=by
 induction ch with
 |nil=>intro q hq;simp[Dq]at hq;subst hq;exact hp
 |cons r ch ih=>
  intro q hq
  simp only[Dq]at hq
  split at hq
  ·rcases QP.1 hq with rfl|hq
   ·exact hp
   ·exact h q (by simp[hq])
  ·rcases QP.1 hq with rfl|hq
   ·exact h _ (by simp)
   ·exact ih (fun q hq=>h q (by simp[hq])) q hq
theorem Z8 {σ:St}{b p n:Nat}{B:Nat→Prop}{ch:List (Nat×List UInt8)}(h:Bv σ b p B ch)(pg:List UInt8)(hp:pg.length=512)(hbig:ch.length+1≤100000):
 Aa Tryz.prog 115 [.mp b 2 0 0,Ad .i64 (n:Nat),A6 pg] σ fun r σ'=>r= .tup []∧∃ B',Fr σ σ' B B'∧Bv σ' b p B' (Dq ch n pg):=by
 obtain⟨w,a,hb,hB⟩:=id h
 have h0:=hb.o
 have l0:=Ac h0
 have pc:=Ao hp
 refine Ab Am An Tryz.func115 (by kernel_rfl) rfl (nt:=29) (rs:=[]) rfl rfl ?_
 repeat' simp only[↓wBA,tBb,seval,A6,pc]
 have hA:=h.ap (Ap.app σ [some (.row 512 [Aq pg])])
 refine (Aqg hA n).mono ?_
 rintro r s ⟨ha,hf⟩
 have ha0:=(Ap.app σ _).trans ha
 have k0:=ha0.get h0
 have q0:=Ac k0
 have kz:=ha.get (t:=σ.length) (x:=some (.row 512 [Aq pg])) (by simp)
 have lz:=Ac kz
 have m1:(b=σ.length)=False:=nf (fun e=>by omega)
 have m2:(σ.length=b)=False:=nf (fun e=>by omega)
 rcases hf with⟨i,q,hq,hqn,rfl⟩|⟨hno,rfl⟩
 ·have hqn:q.1=n:=by omega
  subst hqn
  have hlt:=(QC.1 hq).1
  have hql:=hb.len q (QG hq)
  rcases hb.chg with⟨_,_,rfl⟩|⟨t,rfl,rfl,h3⟩
  ·simp at hq
  ·obtain⟨ls,h1,h2,h3'⟩:=h3.row
   have h4:=h3.get
   obtain⟨ls',h1',h5⟩:=h4
   rw[h1]at h1'
   simp only[QB,Ob.row.injEq,true_and]at h1'
   subst h1'
   have l1:=Ac h1
   have k1:=ha0.get h1
   have q1:=Ac k1
   have k2:=h5 i q hq
   have b1:decide ((i:Int)≥0)=true:=by simp
   have b2:((i:Int)<(ch.length:Int))=True:=eq_true (by omega)
   have b3:=nnI i
   have il:=K0 hql
   have i1:List.take 1 (Pz q)++Aq pg++List.drop 513 (Pz q)=Pz (q.1,pg):=by
    have e:List.drop 513 (Pz q)=[]:=YE (by omega)
    rw[e,ZT];rfl
   have hb':=hb.big
   have m3:(t=σ.length)=False:=nf (fun e=>by omega)
   have m4:(σ.length=t)=False:=nf (fun e=>by omega)
   repeat' first|simp only[↓wBA,tBb,seval,Xm,wH,k0,k1,k2,kz,b2,b3,il,i1,pc]|(with_reducible refine dQ Xm 9 (some 12) ?_)
   have hlen:=ha0.len
   all_goals refine rtS ?_
   all_goals simp only[wRe,tBb,seval]
   have hBt:B t:=(hB t).2 (.inr rfl)
   refine⟨B,ha0.fr.set _ hBt,some t,_,⟨?_,.inr ⟨t,by rw[Ab9 hb.kn hq,ZW],rfl,⟨_,by simp[q1];rfl,?_,?_⟩⟩,Uf hb.len hp,Ky _ _ _ hb.kn,?_⟩,hB⟩
   ·rw[QO (Ay h1 h0 (by simp))];exact k0
   ·rw[Ab9 hb.kn hq,ZW,List.take_set,h2,List.map_set]
   ·rw[Ab9 hb.kn hq];simpa using h3'
   ·rw[Ab9 hb.kn hq,ZW];exact hb'
 ·have hnew:=Aqj hno pg
  have b1:decide ((-1:Int)≥0)=false:=rfl
  have il:(Pz (n,pg)).length=513:=K0 hp
  have ir:AV.p (.v (.int .i64 (n:Int)))::Aq pg=Pz (n,pg):=rfl
  have hl1:=tL (n:=(ch.length+1)*520) (by omega)
  have htp:Vj (Pz (n,pg))=some (.v (.int .i64 (n:Int))::pg.map Bo):=T7
  have hmp:List.map AV.p (.v (.int .i64 (n:Int))::pg.map Bo)=Pz (n,pg):=by simp only[QK,Hv];rfl
  have hmq:AV.p (.v (.int .i64 (n:Int)))::List.map AV.p (pg.map Bo)=Pz (n,pg):=hmp
  have hpl:(PV.v (.int .i64 (n:Int))::pg.map Bo).length=513:=by simp[hp]
  have hl2:=lM (n:=ch.length+1) (by omega)
  have hl4:=lM (n:=1) (by omega)
  rcases hb.chg with⟨rfl,rfl,rfl⟩|⟨t,rfl,rfl,h3⟩
  ·skip
   repeat' first|simp only[↓wBA,tBb,seval,K1,wH,k0,q0,kz,lz,il,ir,pc,m2,hl4,htp,hmp,wZt,Ey,Da,srcM]|(with_reducible refine dQ K1 13 (some 20) ?_)
   have hlen:=ha0.len
   all_goals refine rtS ?_
   all_goals simp only[wRe,tBb,seval]
   have hBb:B b:=(hB b).2 (.inl rfl)
   refine⟨fun t=>t=b∨some (s.length+1)=some t,(((ha0.fr.set _ hBb).app _).app _).to fun t ht=> ?_,some (s.length+1),_,⟨?_,.inr ⟨s.length+1,rfl,rfl,⟨[Pz (n,pg)],?_,?_,?_⟩⟩,Uf hb.len hp,Ky _ _ _ hb.kn,?_⟩,fun t=>Iff.rfl⟩
   ·rcases ht with rfl|ht
    ·exact .inl hBb
    ·simp at ht;omega
   ·simp only[wH,q0];rfl
   ·simp
   ·rfl
   ·rw[hnew];simp
   ·rw[hnew];simp
  ·obtain⟨ls,h1,h2,h3'⟩:=h3.row
   have l1:=Ac h1
   have k1:=ha0.get h1
   have q1:=Ac k1
   have hl3:=eq_true h3'
   have m3:(t=σ.length)=False:=nf (fun e=>by omega)
   have m5:(t=b)=False:=nf (Ay h1 h0 (by simp))
   have m6:(b=t)=False:=nf (Ay h0 h1 (by simp))
   have m4:(σ.length=t)=False:=nf (fun e=>by omega)
   repeat' first|simp only[↓wBA,tBb,seval,K1,wH,k0,q0,k1,q1,kz,lz,il,ir,pc,m2,m5,hl1,hl2,hl3,h2,htp,hmp,wZt,Ey,Da,srcM]|(with_reducible refine dQ K1 13 (some 20) ?_)
   have hlen:=ha0.len
   all_goals refine rtS ?_
   all_goals simp only[wRe,tBb,seval]
   have hBb:B b:=(hB b).2 (.inl rfl)
   have hBt:B t:=(hB t).2 (.inr rfl)
   refine⟨fun t=>t=b∨some (s.length+1)=some t,((((ha0.fr.set _ hBt).set _ hBb).app _).app _).to fun t ht=> ?_,some (s.length+1),_,⟨?_,.inr ⟨s.length+1,by rw[hnew,QE],rfl,⟨ch.map Pz++[Pz (n,pg)],?_,?_,?_⟩⟩,Uf hb.len hp,Ky _ _ _ hb.kn,?_⟩,fun t=>Iff.rfl⟩
   ·rcases ht with rfl|ht
    ·exact .inl hBb
    ·simp at ht;omega
   ·simp only[wH,q0];rfl
   ·simp
   ·rw[hnew];simp;exact ZF (by simp)
   ·rw[hnew];simp
   ·rw[hnew];simp;omega
def tBd:=aa wX <| aa wbu <| aa T3 <| aa T28 <| aa T29 <| aa T38 <| aa T70 <| aa T80 <| aa T88 <| aa T89 <| aa T98 Y1
theorem Aqk {σ:St}{b p n dd l kh:Nat}{B G:Nat→Prop}{ch:List (Nat×List UInt8)}{P:Ak}(h:Bv σ b p B ch)(hP:Cj σ p dd l kh G P)(hn0:1≤n)(hn:n<P.pages)(pg:List UInt8)(hp:pg.length=512)(hbig:ch.length+1≤100000):
 Aa Tryz.prog 73 [.mp b 2 0 0,Ad .i64 (n:Nat),A6 pg] σ fun r σ'=>r=Ad .i64 0∧∃ B',Fr σ σ' B B'∧Bv σ' b p B' (Dq ch n pg):=by
 obtain⟨w,a,hb,hB⟩:=id h
 have h0:=hb.o
 have l0:=Ac h0
 have pc:=Ao hp
 have e1:decide ((n:Int)<1)=false:=by simp;omega
 have e2:decide ((n:Int)≥(P.pages:Int))=false:=by simp;omega
 refine Ab Am An Tryz.func73 (by kernel_rfl) rfl (nt:=23) (rs:=[.tmp 6]) rfl rfl ?_
 repeat' first|simp only[↓wBA,tBd,seval,wH,h0,l0,A6,pc,e1,e2]|((with_reducible show Aa _ _ _ _ _);refine (Aio (hP.ap (Ap.app _ _))).eq ?_)
 refine (Z8 (h.ap (Ap.app _ _)) pg hp hbig).mono ?_
 rintro _ s ⟨rfl,B',hF,hb'⟩
 have hF':=(Ap.app σ _).fr.trans hF
 have hlen:=hF'.len
 repeat' simp only[↓wBA,tBd,seval]
 all_goals refine rtS ?_
 all_goals simp only[wRe,tBd,seval]
 exact⟨B',hF',hb'⟩
theorem Avx {σ:St}{p:Nat}:Aa Tryz.prog 11 [.mp p 6 0 0] σ fun r σ'=>r= .mp σ.length 2 0 0∧Ap σ σ'∧Bv σ' σ.length p (fun t=>t=σ.length) []:=by
 refine Ab Am An Tryz.func11 (by kernel_rfl) rfl (nt:=7) (rs:=[.tmp 2]) rfl rfl ?_
 repeat' simp only[↓wBA,tBd,seval,wH]
 all_goals refine rtS ?_
 all_goals simp only[wRe,tBd,seval]
 exact⟨Ap.app _ _,none,_,⟨by simp,.inl ⟨rfl,rfl,rfl⟩,by simp,by simp,by simp⟩,fun t=>by simp⟩
structure Kb (P P':Ak)(k:Nat)(v:Nat→List UInt8):Prop where
 size:P'.data.size=P.data.size
 most:P'.most=P.most
 ls:P'.log.disk.size=P.log.disk.size
 ld:P'.log.d=P.log.d
 wait:P'.log.wait≤P.log.wait+k
 ctr:P'.ct≤P.ct+k
 dw:P'.dq≤P.dq+8*k
 view:∀ n,P'.view n=v n
theorem Kb.pages {P P':Ak}{k:Nat}{v:Nat→List UInt8}(h:Kb P P' k v):P'.pages=P.pages:=by unfold Ak.pages;rw[h.size]
theorem Kp.b {P P':Ak}{k:Nat}(h:Kp P P' k):Kb P P' k P.view:=⟨h.size,h.most,h.ls,h.ld,ZO h.wait (Nat.le_add_right _ _),h.ctr,h.dw,h.view⟩
theorem Kb.trans {P P' P'':Ak}{k k':Nat}{v v':Nat→List UInt8}(h:Kb P P' k v)(h':Kb P' P'' k' v'):Kb P P'' (k+k') v':=
 ⟨h'.size.trans h.size,h'.most.trans h.most,h'.ls.trans h.ls,h'.ld.trans h.ld,by have:=h.wait;have:=h'.wait;omega,by have:=h.ctr;have:=h'.ctr;omega,by have:=h.dw;have:=h'.dw;omega,h'.view⟩
theorem Kb.mono {P P':Ak}{k k':Nat}{v:Nat→List UInt8}(h:Kb P P' k v)(hk:k≤k'):Kb P P' k' v:=⟨h.size,h.most,h.ls,h.ld,by have:=h.wait;omega,by have:=h.ctr;omega,by have:=h.dw;omega,h.view⟩
