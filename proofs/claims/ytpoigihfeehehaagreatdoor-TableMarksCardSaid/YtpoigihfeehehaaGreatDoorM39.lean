/- Trees: an entry is put in below a page. Trees: an entry is put in below an inner page; Insert. -/
import Derived.Test.YtpoigihfeehehaaGreatDoorM38
set_option linter.all false
set_option maxRecDepth 100000
set_option maxHeartbeats 32000000
namespace Go.Proofs.YtpoigihfeehehaaGreatDoor
open Go.RowKit
def tYg:=aa wX <| aa wbu <| aa T3 <| aa T29 <| aa T192 <| aa T228 <| aa T229 <| aa T232 <| aa T234 <| aa T239 T269
structure Od (v v':Nat→List UInt8)(T T':Nat→Bool)(np:Nat)(ps ps':List Nat):Prop where
 nd:ps'.Nodup
 tk:∀ q∈ps',1≤q∧q<np∧T' q=true
 own:∀ q∈ps',q∈ps∨T q=false
 mono:∀ q,T q=true→T' q=true
 oth:∀ q,q∉ps→T q=true→q≠0→v' q=v q
 t0:T' 0=true
 tkk:Tk (v' 0) np T'
section
variable {v v' v'':Nat→List UInt8} {T T' T'':Nat→Bool} {np:Nat} {ps ps' ps'':List Nat}
theorem Od.trans (h:Od v v' T T' np ps ps')(k:Od v' v'' T' T'' np ps' ps''):Od v v'' T T'' np ps ps'' where
 nd:=k.nd
 tk:=k.tk
 own:=fun q hq=>(k.own q hq).elim (h.own q) fun e=>.inr (by
  cases hT:T q with
  |false=>rfl
  |true=>rw[h.mono q hT]at e;cases e)
 mono:=fun q hq=>k.mono q (h.mono q hq)
 oth:=fun q hq hT h0=>by
  have hn:q∉ps':=fun e=>(h.own q e).elim hq fun e=>by rw[hT]at e;cases e
  rw[k.oth q hn (h.mono q hT) h0,h.oth q hq hT h0]
 t0:=k.t0
 tkk:=k.tkk
theorem Od.sub (h:Od v v' T T' np ps ps')(hs:ps''.Sublist ps'):Od v v' T T' np ps ps'':=
 { h with nd:=h.nd.sublist hs,tk:=fun q hq=>h.tk q (hs.subset hq),own:=fun q hq=>h.own q (hs.subset hq) }
theorem Od.refl (hn:ps.Nodup)(ht:∀ q∈ps,1≤q∧q<np∧T q=true)(h0:T 0=true)(hk:Tk (v 0) np T):Od v v T T np ps ps:=
 ⟨hn,ht,fun q hq=>.inl hq,fun q h=>h,fun q _ _ _=>rfl,h0,hk⟩
theorem Od.lift {A B C C':List Nat}(h:Od v v' T T' np C C')(hn:(A++C++B).Nodup)(ht:∀ q∈A++C++B,1≤q∧q<np∧T q=true):Od v v' T T' np (A++C++B) (A++C'++B)∧∀ q,q∈A∨q∈B→v' q=v q:=by
 have hAC:∀ q,q∈A→q∉C:=fun q ha hc=>(ZD.1 (ZD.1 hn).1).2.2 q ha q hc rfl
 have hBC:∀ q,q∈B→q∉C:=fun q hb hc=>(ZD.1 hn).2.2 q (by simp[hc]) q hb rfl
 have hAB:∀ q,q∈A→q∉B:=fun q ha hb=>(ZD.1 hn).2.2 q (by simp[ha]) q hb rfl
 have hA:∀ q,q∈A→q∉C':=fun q ha hc=>(h.own q hc).elim (hAC q ha) fun e=>by rw[(ht q (by simp[ha])).2.2]at e;cases e
 have hB:∀ q,q∈B→q∉C':=fun q ha hc=>(h.own q hc).elim (hBC q ha) fun e=>by rw[(ht q (by simp[ha])).2.2]at e;cases e
 refine⟨⟨?_,fun q hq=> ?_,fun q hq=> ?_,h.mono,fun q hq hT h0=>h.oth q (fun e=>hq (by simp[e])) hT h0,h.t0,h.tkk⟩,fun q hq=> ?_⟩
 ·refine ZD.2 ⟨ZD.2 ⟨(ZD.1 (ZD.1 hn).1).1,h.nd,fun a ha b hb e=>hA a ha (e▸hb)⟩,(ZD.1 hn).2.1,fun a ha b hb e=> ?_⟩
  subst e
  rcases QS.1 ha with ha|ha
  ·exact hAB a ha hb
  ·exact hB a hb ha
 ·rcases QS.1 hq with hq|hq
  ·rcases QS.1 hq with hq|hq
   ·obtain⟨h1,h2,h3⟩:=ht q (by simp[hq]);exact⟨h1,h2,h.mono q h3⟩
   ·exact h.tk q hq
  ·obtain⟨h1,h2,h3⟩:=ht q (by simp[hq]);exact⟨h1,h2,h.mono q h3⟩
 ·rcases QS.1 hq with hq|hq
  ·rcases QS.1 hq with hq|hq
   ·exact .inl (by simp[hq])
   ·exact (h.own q hq).imp (fun e=>by simp[e]) id
  ·exact .inl (by simp[hq])
 ·have hm:q∈A++C++B:=by rcases hq with h|h<;>simp[h]
  obtain⟨h1,h2,h3⟩:=ht q hm
  exact h.oth q (hq.elim (hAC q) (hBC q)) h3 (by omega)
end
def flP {h:Nat}(l:NL h):List Nat:=l.flatMap fun x=>pgT h x.2.1 x.2.2
theorem Dr {h:Nat}(a b:NL h):flP (a++b)=flP a++flP b:=WG ..
theorem C7 {h:Nat}(x:Ent×Nat×BTr h)(b:NL h):flP (x::b)=pgT h x.2.1 x.2.2++flP b:=rfl
theorem Fo (h n:Nat)(t:BTr h):n∈pgT h n t:=by cases h<;>simp[pgT]
theorem Hg.congr {v v':Nat→List UInt8}:∀ {h n:Nat} {t:BTr h},Hg v h n t→(∀ q∈pgT h n t,v' q=v q)→Hg v' h n t
 |0,n,t,ht,hv=>by
  simp only[Hg]at ht ⊢
  rw[hv n (Fo 0 n t)];exact ht
 |h+1,n,t,ht,hv=>by
  refine⟨by rw[hv n (Fo (h+1) n t)];exact ht.1,fun x hx=>Hg.congr (ht.2 x hx) fun q hq=>hv q ?_⟩
  simp only[pgT]
  exact YG _ (YN.2 ⟨x,hx,hq⟩)
def Ce {h:Nat}:Option (Ent×Nat×BTr h)→List Nat
 |none=>[]
 |some z=>pgT h z.2.1 z.2.2
def Ajk (h:Nat)(t:BTr h)(e:Ent)(T T':Nat→Bool):Prop:=∃ (L:List Nat) (t2:BTr h) (more2:Option (Ent×Nat×BTr h)),(∀ q,T' q=true→T q=true∨q∈L)∧Ur h t e t2 more2∧(∀ z,more2=some z→Itm.ok ⟨z.1,z.2.1⟩)∧L.length+(pgT h 0 t).length+1≤(pgT h 0 t2).length+(Ce more2).length
theorem Mq (h n m:Nat)(t:BTr h):(pgT h n t).length=(pgT h m t).length:=by cases h<;>simp[pgT]
theorem Ao0 {α:Type}(f:List α→List Itm)(hf:∀ l,(f l).length=l.length)(l:List α)(hok:∀ x∈f l,x.ok)(hsz:szL (f l)≤646):∃ t' more,SpR f l t' more∧((szL (f l)≤496∧more=none∧t'=l)∨(496<szL (f l)∧∃ y,y∈f l∧more=some (y.e,0,l.drop (C2 (f l)))∧t'=l.take (C2 (f l)))):=by
 by_cases h:szL (f l)≤496
 ·exact⟨l,none,.inl ⟨h,rfl,rfl⟩,.inl ⟨h,rfl,rfl⟩⟩
 ·obtain⟨q1,q2,_,_⟩:=Acm (f l) hok (by omega) hsz
  obtain⟨y,hy⟩:∃ y,(f l)[C2 (f l)]? =some y:=⟨(f l)[C2 (f l)],by simp⟩
  exact⟨_,_,.inr ⟨by omega,q1,by rw[← hf];exact q2,0,y,hy,rfl,rfl⟩,.inr ⟨by omega,y,QG hy,rfl,rfl⟩⟩
def OutR (h:Nat)(t:BTr h)(e:Ent)(t':BTr h)(more:Option (Ent×Nat×BTr h))(np:Nat)(T T':Nat→Bool)(r:AV)(s:St)(len0:Nat)(U':Nat→Prop)(ps':List Nat):Prop:=
 (Ur h t e t' more∧(∀ q,T' q=true→T q=true∨q∈ps')∧((more=none∧r= .tup [nilQ,Ad .i64 0])∨∃ x m z tm,more=some (x,m,z)∧r= .tup [.mp tm 4 0 0,Ad .i64 0]∧s[tm]? =some (some (.row 4 [itC ⟨x,m⟩]))∧len0≤tm∧¬ U' tm))
 ∨(e∈Bj h t∧t'=t∧more=none∧r= .tup [nilQ,Ad .i64 1])
 ∨(Amd h t e t'∧more=none∧r= .tup [nilQ,Ad .i64 20]∧(∀ q,q<np→T' q=true)∧Ajk h t e T T')
def X8 (v:Nat→List UInt8)(h:Nat):Option (Ent×Nat×BTr h)→Prop
 |none=>True
 |some z=>Hg v h z.2.1 z.2.2∧Itm.ok ⟨z.1,z.2.1⟩
def G6 (h n:Nat)(t:BTr h)(e:Ent)(σ:St)(b p dd l kh:Nat)(U:Nat→Prop)(P:Ak)(v:Nat→List UInt8)(T:Nat→Bool)(r:AV)(σ':St):Prop:=
 ∃ U' P' v' T' t' more,Fr σ σ' U U'∧Bt σ' b p dd l kh U' P' v'∧Kp P P' 0∧Hg v' h n t'∧X8 v' h more∧Od v v' T T' P.pages (pgT h n t) (pgT h n t'++Ce more)∧OutR h t e t' more P.pages T T' r σ' σ.length U' (pgT h n t'++Ce more)
section
variable {σ:St} {b p dd l kh n:Nat} {U:Nat→Prop} {P:Ak} {v:Nat→List UInt8} {T:Nat→Bool} {e:Ent}
theorem SplR.tup {T:Nat→Bool}{np n kd len0:Nat}{its:List Itm}{v v':Nat→List UInt8}{r:AV}{s:St}{U':Nat→Prop}(h:SplR T np n kd len0 its v v' r s U'):∃ x y,r= .tup [x,y]:=by
 rcases h with⟨_,rfl,_⟩|⟨_,_,rfl,_⟩|⟨_,m,tm,x,_,_,_,_,rfl,_⟩<;>exact⟨_,_,rfl⟩
theorem Ajl {σ0 s:St}{t:List Ent}{U':Nat→Prop}{P':Ak}{v':Nat→List UInt8}{r:AV}{len0:Nat}(hf:Fr σ0 s U U')(hB:Bt s b p dd l kh U' P' v')(hk:Kp P P' 0)(hlen:σ0.length≤len0)(hnp:P.pages≤3200)
 (hN:D4 (v n) 2 (B1 t)) (hn:1≤n∧n<P.pages∧T n=true) (h0:T 0=true) (hTk:Tk (v 0) P.pages T) (hne:e∉t) (heo:e.ok)
 (hs:SplR T P.pages n 2 len0 (B1 (t.take (Iq (B1 t) e)++e::t.drop (Iq (B1 t) e))) v v' r s U'):G6 0 n t e σ0 b p dd l kh U P v T r s:=by
 obtain⟨l2,hl2⟩:∃ l2,l2=t.take (Iq (B1 t) e)++e::t.drop (Iq (B1 t) e):=⟨_,rfl⟩
 rw[← hl2]at hs
 have hok:∀ x∈B1 l2,x.ok:=fun x hx=>by
  obtain⟨y,hy,rfl⟩:=ZP.1 hx
  rw[hl2]at hy
  rcases QS.1 hy with hy|hy
  ·exact hN.ok _ (ZP.2 ⟨y,ZM hy,rfl⟩)
  ·rcases QP.1 hy with rfl|hy
   ·exact⟨heo,by show 0<65536;omega⟩
   ·exact hN.ok _ (ZP.2 ⟨y,ZX hy,rfl⟩)
 have hsz:szL (B1 l2)≤646:=by
  have h1:=hN.sz
  have h2:szL (B1 t)=szL (B1 (t.take (Iq (B1 t) e)))+szL (B1 (t.drop (Iq (B1 t) e))):=by
   rw[← De];unfold B1;rw[← ZH,ZI]
  have h3:=I0 (x:=⟨e,0⟩) ⟨heo,by show 0<65536;omega⟩
  rw[hl2]
  generalize Iq (B1 t) e=kk at h2 ⊢
  show szL ((t.take _++e::t.drop _).map fun e=>(⟨e,0⟩:Itm))≤646
  rw[ZH,QK,De,B8]
  unfold B1 at h1 h2;omega
 have hnd:(pgT 0 n t).Nodup:=by simp[pgT]
 have htk:∀ q∈pgT 0 n t,1≤q∧q<P.pages∧T q=true:=fun q hq=>by simp[pgT]at hq;subst hq;exact hn
 have hlack:496<szL (B1 l2)→Ajk 0 t e T T:=fun s1=>by
  obtain⟨t2,more2,c1,c2⟩:=Ao0 B1 (fun l=>by simp[B1]) l2 hok hsz
  rcases c2 with⟨c2,_⟩|⟨_,y,c3,rfl,rfl⟩
  ·omega
  ·exact⟨[],_,_,fun q h=>.inl h,⟨hne,by rw[← hl2];exact c1⟩,fun z hz=>by obtain rfl:=VG hz;exact⟨(hok y c3).1,by show 0<65536;omega⟩,by simp[pgT,Ce]⟩
 rcases hs with⟨s1,rfl,rfl⟩|⟨s1,s2,rfl,rfl⟩|⟨s1,m,tm,x,m1,m2,hTm,hx,rfl,htm,hle,hnU,vm,vn,vo,hT'⟩
 ·obtain⟨_,hN'⟩:=E6 (.inl rfl) hok s1
  refine⟨U',P',_,T,l2,none,hf,hB,hk,?_,trivial,?_,.inl ⟨⟨hne,.inl ⟨by rw[← hl2];exact s1,hl2.trans rfl,rfl⟩⟩,fun q h=>.inl h,.inl ⟨rfl,rfl⟩⟩⟩
  ·show D4 (upV v n _ n) 2 (B1 l2)
   unfold upV;rw[if_pos rfl];exact hN'
  ·refine⟨by simp[pgT,Ce],fun q hq=>htk q (by simpa [pgT,Ce]using hq),fun q hq=>.inl (by simpa [pgT,Ce]using hq),fun q h=>h,fun q hq _ _=> ?_,h0,?_⟩
   ·unfold upV;rw[if_neg (fun e=>hq (by simp[pgT,e]))]
   ·unfold upV;rw[if_neg (by omega)];exact hTk
 ·exact⟨U',P',_,T,t,none,hf,hB,hk,hN,trivial,by have:=Od.refl hnd htk h0 hTk;simpa [Ce]using this,.inr (.inr ⟨rfl,rfl,rfl,s2,hlack s1⟩)⟩
 ·obtain⟨q1,q2,q3,q4⟩:=Acm (B1 l2) hok (by omega) hsz
  have hmn:m≠n:=fun e=>by rw[e,hn.2.2]at hTm;cases hTm
  have hN1:=(E6 (.inl rfl) (fun y hy=>hok y (ZM hy)) (by omega:szL ((B1 l2).take (C2 (B1 l2)))≤496)).2
  have hN2:=(E6 (.inl rfl) (fun y hy=>hok y (ZX hy)) (by omega:szL ((B1 l2).drop (C2 (B1 l2)))≤496)).2
  rw[← vn]at hN1
  rw[← vm]at hN2
  have e1:B1 (l2.take (C2 (B1 l2)))=(B1 l2).take (C2 (B1 l2)):=by unfold B1;rw[WO]
  have e2:B1 (l2.drop (C2 (B1 l2)))=(B1 l2).drop (C2 (B1 l2)):=by unfold B1;rw[VA]
  refine⟨U',P',v',D3 T m true,l2.take (C2 (B1 l2)),some (x.e,m,l2.drop (C2 (B1 l2))),hf,hB,hk,?_,⟨?_,(hok x (QG hx)).1,by show m<65536;omega⟩,?_,.inl ⟨⟨hne,.inr ⟨by rw[← hl2];exact s1,by rw[← hl2];exact q1,by rw[← hl2];simpa [B1]using q2,m,x,by rw[← hl2];exact hx,by rw[← hl2],by rw[← hl2];rfl⟩⟩,fun q hq=> ?_,.inr ⟨x.e,m,_,tm,rfl,rfl,htm,by omega,hnU⟩⟩⟩
  ·show D4 (v' n) 2 _
   rw[e1];exact hN1
  ·show D4 (v' m) 2 _
   rw[e2];exact hN2
  ·refine⟨by simp[pgT,Ce];exact fun e=>hmn e.symm,fun q hq=> ?_,fun q hq=> ?_,fun q h=> ?_,fun q hq hT hq0=> ?_,?_,hT'⟩
   ·simp[pgT,Ce]at hq
    rcases hq with rfl|rfl
    ·refine⟨hn.1,hn.2.1,?_⟩
     unfold D3;split<;>simp_all
    ·exact⟨m1,m2,by simp[D3]⟩
   ·simp[pgT,Ce]at hq
    rcases hq with rfl|rfl
    ·exact .inl (by simp[pgT])
    ·exact .inr hTm
   ·unfold D3;split<;>simp_all
   ·exact vo q (fun e=>by rw[e,hTm]at hT;cases hT) (fun e=>hq (by simp[pgT,e])) hq0
   ·unfold D3;split<;>simp_all
  ·unfold D3 at hq
   split at hq
   ·rename_i e;right;simp[pgT,Ce,e]
   ·exact .inl hq
end
theorem c0y:((0:Nat):Int)=0:=nr rfl
theorem Ajm {σ:St}{a:AV}{l:List Itm}{k tv:Nat}{x:Itm}(ha:NdA σ a l)(hk:k≤l.length)(hl:l.length≤1000000)(hv:σ[tv]? =some (some (.right 239 4))):
 Aa Tryz.prog 163 [a,Ad .i64 (k:Nat),.own tv 4 [itP x]] σ fun r s=>r= .ms σ.length 4 0 (l.length+1)∧∃ σ0:St,σ0.length=σ.length∧(∀ j,Je a≠some j→σ0[j]? =σ[j]?)∧s=σ0++[some (.row 4 ((l.take k++x::l.drop k).map itC))]:=by
 rcases ha with⟨rfl,rfl⟩|⟨hne,t,rfl,ht⟩
 ·have hk0:k=0:=by simpa using hk
  subst hk0
  refine (Aqv (x:=x) hv).mono ?_
  rintro r s ⟨rfl,rfl⟩
  exact⟨rfl,σ,rfl,fun _ _=>rfl,by simp⟩
 ·have hset:∀ j,Je (.ms t 4 0 l.length)≠some j→(σ.set t none)[j]? =σ[j]? :=fun j hj=>QO fun e=>hj (by rw[← e];rfl)
  rcases YW k l.length with h|h
  ·refine (Aqw (x:=x) hl h ht hv).mono ?_
   rintro r s ⟨rfl,rfl⟩
   exact⟨rfl,_,by simp,hset,rfl⟩
  ·have hkl:k=l.length:=by omega
   subst hkl
   refine (Aqu (x:=x) hl (XX.2 hne) ht hv).mono ?_
   rintro r s ⟨rfl,rfl⟩
   exact⟨rfl,_,by simp,hset,by rw[ZS,List.drop_length]⟩
theorem Aqz (t:List Ent)(e:Ent):Iq (B1 t) e≤t.length:=by
 unfold Iq
 have:=(List.takeWhile_sublist (fun x:Itm=>decide (Lt x.e e<0)) (l:=B1 t)).length_le
 simpa [B1]using this
theorem Ajn {σ:St}{b p dd l kh n:Nat}{U:Nat→Prop}{P:Ak}{v:Nat→List UInt8}{T:Nat→Bool}{e lo:Ent}{hi:Option Ent}{t:List Ent}(h:Bt σ b p dd l kh U P v)(hT:Tk (v 0) P.pages T)(hnp:P.pages≤3200)(hT0:T 0=true)(hb:Bud P 1)(hN:D4 (v n) 2 (B1 t))
 (hn:1≤n∧n<P.pages∧T n=true) (hs:Qi t) (heo:e.ok):
 Aa Tryz.prog 131 [.agg [.mp b 2 0 0],Ad .i64 (n:Nat),Jo e] σ fun r σ'=>G6 0 n t e σ b p dd l kh U P v T r σ':=by
 have hlt:=h.lt
 have hl49:=hN.n
 have hil:(B1 t).length=t.length:=by simp[B1]
 have hie:(B1 t).map (·.e)=t:=by simp[B1,Function.comp_def]
 have hcut:=Qj (l:=B1 t) (e:=e) (by rw[hie];exact hs)
 have hcl:=Aqz t e
 obtain⟨k,hk⟩:∃ k,k=Iq (B1 t) e:=⟨_,rfl⟩
 rw[← hk]at hcut hcl
 refine Ab Am An Tryz.func131 (by kernel_rfl) rfl (nt:=81) (rs:=[.tmp 6,.tmp 7]) rfl rfl ?_
 simp only[Jo]
 repeat' simp only[↓wBA,tYg,seval,wH]
 have a1:Ap σ (σ++[some (Ob.row 1 [[AV.mp b 2 0 0]])]++[some (Ob.row 3 [[.p (.sl 1 (Ax e.k)),Ad .i64 (e.p:Nat),Ad .i64 (e.s:Nat)]])]):=(Ap.app _ _).more _
 refine (X5 (h.ap a1) hn.2.1 hN hb).mono ?_
 rintro _ s1 ⟨U1,P1,a,rfl,f1,h1,k1,ha,hta⟩
 have l1:=f1.len
 simp only[QE,QF,QI]at l1
 have b0:s1[σ.length]? =some (some (Ob.row 1 [[AV.mp b 2 0 0]])):=by
  rw[f1.keep _ (by simp) fun e=>by have:=hlt _ e;omega];simp[Ad]
 have b1:s1[σ.length+1]? =some (some (Ob.row 3 [[.p (.sl 1 (Ax e.k)),Ad .i64 (e.p:Nat),Ad .i64 (e.s:Nat)]])):=by
  rw[f1.keep _ (by simp) fun e=>by have:=hlt _ e;omega];simp[Ad]
 have y0:=Ac b0
 have y1:=Ac b1
 have hlt1:=h1.lt
 have hlf:=ha.x.leaf
 have hcc:=ha.x.cells
 have nU0:∀ j,σ.length≤j→j<σ.length+2→¬ U1 j:=fun j hj hj2 e=>(f1.own j e).elim (fun e=>by have:=hlt j e;omega) fun e=>by simp at e;omega
 have hx1:=ha.x.ap (Ap.app s1 [some (Ob.row 2 [[Ad .i64 (2:Nat),a]])])
 have hbs:=Awl acl1 hx1.a (by omega) e k hcut
 simp only[Jo,c2y]at hbs
 repeat' first|((with_reducible apply cs)<;>intro h<;>try simp only[h])|simp only[↓wBA,tYg,seval,wH,b1,y1,c2y]|((with_reducible show Aa _ _ _ _ _);refine hbs.eq ?_)
 ·skip
  all_goals refine rtS ?_
  all_goals simp only[wRe,tYg,seval]
  have hm:e∈t:=by
   cases hg:(B1 t)[k]? with
   |none=>rw[hg]at h;simp at h
   |some x=>
    rw[hg]at h
    simp only[beq_iff_eq]at h
    rw[← Ld.1 h]
    have:=QG hg
    obtain⟨y,hy,rfl⟩:=ZP.1 this
    exact hy
  have a2:=Ap.app s1 [some (Ob.row 2 [[Ad .i64 2,a]])]
  exact⟨U1,P1,v,T,t,none,(a1.fr.trans f1).trans a2.fr,h1.ap a2,k1,hN,trivial,by have:=Od.refl (v:=v) (ps:=pgT 0 n t) (by simp[pgT]) (fun q hq=>by simp[pgT]at hq;subst hq;exact hn) hT0 hT;simpa [Ce]using this,.inr (.inl ⟨hm,rfl,rfl,rfl⟩)⟩
 ·have hm:e∉t:=fun hm=>by
   obtain⟨j,hj⟩:=YP.1 hm
   have hgj:(B1 t)[j]? =some ⟨e,0⟩:=by simp[B1,hj]
   have hc0:Lt e e=0:=Ld.2 rfl
   have hkj:k≤j:=by
    rcases YW j k with h'|h'
    ·have:=(hcut.2 j _ hgj).1 h'
     simp only at this;omega
    ·exact h'
   obtain⟨x,hx⟩:∃ x,t[k]? =some x:=⟨t[k]'(by have:=(QC.1 hj).1;omega),by simp⟩
   have hgk:(B1 t)[k]? =some ⟨x,0⟩:=by simp[B1,hx]
   rw[hgk]at h
   have h1:=(hcut.2 k _ hgk).2 (QH _)
   simp only[beq_eq_false_iff_ne,ne_eq]at h h1
   by_cases hjk:j=k
   ·subst hjk
    rw[hj]at hx
    simp only[QB]at hx
    subst hx;exact h hc0
   ·have h2:ltE x e:=by
     have hp:=WH.1 hs
     obtain⟨a1,a2⟩:=QC.1 hx
     obtain⟨b1,b2⟩:=QC.1 hj
     have:=hp k j a1 b1 (by omega)
     rwa [a2,b2]at this
    unfold ltE at h2;omega
  have hv1:(s1++[some (Ob.row 2 [[AV.p (PV.v (Value.int IntKind.i64 2)),a]])]++[some (Ob.right 239 4)])[s1.length+1]? =some (some (Ob.right 239 4)):=by simp
  have hnd:=ha.same (s:=s1++[some (Ob.row 2 [[AV.p (PV.v (Value.int IntKind.i64 2)),a]])]++[some (Ob.right 239 4)]) fun j hj=>by
   have:=ha.lt hj
   rw[QX,QD this]
  have hai:=Ajm (x:=⟨e,0⟩) hnd (by rw[hil];exact hcl) (by omega) hv1
  simp only[itP,c0y]at hai
  refine hai.mono ?_
  rintro _ s2 ⟨rfl,σ0,hl0,hs0,rfl⟩
  simp only[QE,QF,QI]at hl0
  have hta':∀ j,Je a=some j→σ.length+2≤j∧¬ U1 j∧j<s1.length:=fun j hj=>by
   obtain⟨g1,g2⟩:=hta j hj
   simp only[QE,QF,QI]at g1
   exact⟨by omega,g2,ha.lt hj⟩
  have hs0':∀ j,j<s1.length→Je a≠some j→σ0[j]? =s1[j]? :=fun j hj hn=>by
   rw[hs0 j hn,QX,QD hj]
  have c0:=(hs0' σ.length y0 fun e=>by have:=hta' _ e;omega).trans b0
  have c1:=(hs0' (σ.length+1) y1 fun e=>by have:=hta' _ e;omega).trans b1
  have cN:σ0[s1.length]? =some (some (Ob.row 2 [[AV.p (PV.v (Value.int IntKind.i64 2)),a]])):=by
   rw[hs0 s1.length fun e=>by have:=hta' _ e;omega];simp
  have z0:σ.length<σ0.length:=by omega
  have z1:σ.length+1<σ0.length:=by omega
  have zN:s1.length<σ0.length:=by omega
  have z2:s1.length+2=σ0.length:=by omega
  obtain⟨l2,hl2⟩:∃ l2,l2=t.take k++e::t.drop k:=⟨_,rfl⟩
  have hits:(B1 t).take k++⟨e,0⟩::(B1 t).drop k=B1 l2:=by rw[hl2];simp[B1]
  have hlen2:(B1 l2).length=(B1 t).length+1:=by rw[← hits];simp;omega
  rw[hits]
  obtain⟨X,hX⟩:∃ X,X=σ0.set s1.length (some (Ob.row 2 [[AV.p (PV.v (Value.int IntKind.i64 2)),AV.ms σ0.length 4 0 ((B1 t).length+1)]]))++[some (Ob.row 4 ((B1 l2).map itC))]:=⟨_,rfl⟩
  have hXl:X.length=σ0.length+1:=by rw[hX];simp
  have hXr:X[σ0.length]? =some (some (Ob.row 4 ((B1 l2).map itC))):=by rw[hX,QY (by simp)];simp
  have hX0:∀ j,j<s1.length→Je a≠some j→X[j]? =s1[j]? :=fun j hj hn=>by
   rw[hX,QD (by simp;omega),QO (by omega)];exact hs0' j hj hn
  have hBX:Bt X b p dd l kh U1 P1 v:=h1.same fun j hj=>hX0 j (hlt1 j hj) fun e=>(hta' j e).2.1 hj
  have fX:Fr σ X U U1:=by
   refine⟨by omega,fun j hj hn=> ?_,fun j hj=>(f1.own j hj).imp id fun e=>by simp at e;omega⟩
   rw[hX0 j (by omega) fun e=>by have:=hta' _ e;omega,f1.keep j (by simp;omega) hn,QX,QD hj]
  have hok2:∀ x∈B1 l2,x.ok:=fun x hx=>by
   rw[← hits]at hx
   rcases QS.1 hx with hx|hx
   ·exact hN.ok x (ZM hx)
   ·rcases QP.1 hx with rfl|hx
    ·exact⟨heo,by show 0<65536;omega⟩
    ·exact hN.ok x (ZX hx)
  have hsz2:szL (B1 l2)≤646:=by
   have g1:=hN.sz
   have g2:szL (B1 t)=szL ((B1 t).take k)+szL ((B1 t).drop k):=by rw[← De,ZI]
   have g3:=I0 (x:=⟨e,0⟩) ⟨heo,by show 0<65536;omega⟩
   rw[← hits,De,B8];omega
  have hsp:=Aaf (n:=n) (t:=σ0.length) hBX (by rw[k1.pages];exact hT) (by rw[k1.pages];exact hnp) hT0 (hb.kp k1 (by omega)) hn.1 (by rw[k1.pages];exact hn.2.1) hn.2.2 hXr (fun e=>by have:=hlt1 _ e;omega) (.inl rfl) hok2 hsz2
  rw[hlen2]at hsp
  simp only[c2y]at hsp
  rw[hX]at hsp
  repeat' simp only[↓wBA,tYg,seval,wH,c0,cN,z0,zN,z2,y0]
  refine hsp.mono ?_
  rintro r s3 ⟨U3,P3,v3,f3,h3,k3,hR⟩
  obtain⟨rx,ry,rfl⟩:=hR.tup
  repeat' simp only[↓wBA,tYg,seval]
  have l3:=f3.len
  rw[← hX]at f3 l3
  all_goals refine rtS ?_
  all_goals simp only[wRe,tYg,seval]
  rw[k1.pages,←hX]at hR
  exact Ajl (len0:=X.length) (fX.trans f3) h3 (k1.trans k3) (by omega) hnp hN hn hT0 hT hm heo (by rw[← hk,←hl2];exact hR)
theorem Ajo {α:Type}(l:List (Ent×Nat×α))(k:Nat):A9 (l.take k)=(A9 l).take k:=by unfold A9;rw[WO]
theorem Ajp {α:Type}(l:List (Ent×Nat×α))(k:Nat):A9 (l.drop k)=(A9 l).drop k:=by unfold A9;rw[VA]
theorem Dz {α:Type}(a b:List (Ent×Nat×α)):A9 (a++b)=A9 a++A9 b:=by unfold A9;rw[ZH]
theorem Dl {α:Type}(x:Ent×Nat×α)(b:List (Ent×Nat×α)):A9 (x::b)=⟨x.1,x.2.1⟩::A9 b:=rfl
theorem Bz (h n:Nat)(l:NL h):pgT (h+1) n l=n::flP l:=rfl
theorem Amf {h n np len0:Nat}{l:NL h}{v v':Nat→List UInt8}{T:Nat→Bool}{r:AV}{s:St}{U':Nat→Prop}(hn:1≤n∧n<np∧T n=true)(hW:(pgT (h+1) n l).Nodup)(htk:∀ q∈pgT (h+1) n l,1≤q∧q<np∧T q=true)(h0:T 0=true)(hTk:Tk (v 0) np T)(hnp:np≤3200)
 (hch:∀ x∈l,Hg v h x.2.1 x.2.2) (hok:∀ x∈A9 l,x.ok) (hsz:szL (A9 l)≤646) (hs:SplR T np n 3 len0 (A9 l) v v' r s U'):
 (∃ (t':NL h) (more:Option (Ent×Nat×NL h)) (T':Nat→Bool),SpR A9 l t' more∧Hg v' (h+1) n t'∧X8 v' (h+1) more∧Od v v' T T' np (pgT (h+1) n l) (pgT (h+1) n t'++Ce (h:=h+1) more)∧(∀ q,T' q=true→T q=true∨q∈pgT (h+1) n t'++Ce (h:=h+1) more)∧(∀ q,q∈pgT (h+1) n l→q∈pgT (h+1) n t'++Ce (h:=h+1) more)∧
  ((more=none∧r= .tup [nilQ,Ad .i64 0])∨∃ x m z tm,more=some (x,m,z)∧r= .tup [.mp tm 4 0 0,Ad .i64 0]∧s[tm]? =some (some (.row 4 [itC ⟨x,m⟩]))∧len0≤tm∧¬ U' tm))
 ∨(496<szL (A9 l)∧r= .tup [nilQ,Ad .i64 20]∧v'=v∧∀ q,q<np→T q=true):=by
 have hcn:∀ x∈l,∀ q∈pgT h x.2.1 x.2.2,q≠n∧q∈pgT (h+1) n l:=fun x hx q hq=>by
  have hm:q∈flP l:=YN.2 ⟨x,hx,hq⟩
  rw[Bz]at hW ⊢
  exact⟨fun e=>(ZU.1 hW).1 (e▸hm),YG _ hm⟩
 rcases hs with⟨s1,rfl,rfl⟩|⟨s1,s2,rfl,rfl⟩|⟨s1,m,tm,x,m1,m2,hTm,hx,rfl,htm,hle,hnU,vm,vn,vo,hT'⟩
 ·obtain⟨_,hN'⟩:=E6 (.inr rfl) hok s1
  refine .inl ⟨l,none,T,.inl ⟨s1,rfl,rfl⟩,⟨?_,fun x hx=>(hch x hx).congr fun q hq=> ?_⟩,trivial,?_,fun q h=>.inl h,fun q hq=>by simpa [Ce]using hq,.inl ⟨rfl,rfl⟩⟩
  ·unfold upV;rw[if_pos rfl];exact hN'
  ·unfold upV;rw[if_neg (hcn x hx q hq).1]
  ·refine⟨by simpa [Ce]using hW,fun q hq=>htk q (by simpa [Ce]using hq),fun q hq=>.inl (by simpa [Ce]using hq),fun q h=>h,fun q hq _ _=> ?_,h0,?_⟩
   ·unfold upV;rw[if_neg (fun e=>hq (by rw[e];exact Fo _ _ _))]
   ·unfold upV;rw[if_neg (by omega)];exact hTk
 ·exact .inr ⟨s1,rfl,rfl,s2⟩
 ·obtain⟨q1,q2,q3,q4⟩:=Acm (A9 l) hok (by omega) hsz
  have hmn:m≠n:=fun e=>by rw[e,hn.2.2]at hTm;cases hTm
  have hml:m∉pgT (h+1) n l:=fun e=>by rw[(htk m e).2.2]at hTm;cases hTm
  have hN1:=(E6 (.inr rfl) (fun y hy=>hok y (ZM hy)) (by omega:szL ((A9 l).take (C2 (A9 l)))≤496)).2
  have hN2:=(E6 (.inr rfl) (fun y hy=>hok y (ZX hy)) (by omega:szL ((A9 l).drop (C2 (A9 l)))≤496)).2
  rw[← vn,←Ajo]at hN1
  rw[← vm,←Ajp]at hN2
  obtain⟨k,hk⟩:∃ k,k=C2 (A9 l):=⟨_,rfl⟩
  have hspr:SpR A9 l (l.take (C2 (A9 l))) (some (x.e,m,l.drop (C2 (A9 l)))):=.inr ⟨s1,q1,by rw[Ev]at q2;exact q2,m,x,hx,rfl,rfl⟩
  rw[← hk]at hN1 hN2 hspr
  have hfl:flP l=flP (l.take k)++flP (l.drop k):=by rw[← Dr,ZI]
  have hcv:∀ x∈l,Hg v' h x.2.1 x.2.2:=fun x hx=>(hch x hx).congr fun q hq=>by
   obtain⟨g1,g2⟩:=hcn x hx q hq
   exact vo q (fun e=>hml (e▸g2)) g1 (by have:=(htk q g2).1;omega)
  rw[Bz,hfl]at hW htk hml
  have hnd:=ZU.1 hW
  have hps:pgT (h+1) n (l.take k)++Ce (h:=h+1) (some (x.e,m,l.drop k))=(n::flP (l.take k))++(m::flP (l.drop k)):=rfl
  refine .inl ⟨l.take k,some (x.e,m,l.drop k),D3 T m true,hspr,⟨hN1,fun x hx=>hcv x (ZM hx)⟩,⟨⟨hN2,fun x hx=>hcv x (ZX hx)⟩,(hok x (QG hx)).1,by show m<65536;omega⟩,?_,fun q hq=> ?_,fun q hq=> ?_,.inr ⟨x.e,m,_,tm,rfl,rfl,htm,hle,hnU⟩⟩
  ·show Od v v' T (D3 T m true) np (n::flP l) ((n::flP (l.take k))++(m::flP (l.drop k)))
   rw[hfl]
   have hap:=ZD.1 hnd.2
   refine⟨ZD.2 ⟨ZU.2 ⟨fun e=>hnd.1 (by simp[e]),hap.1⟩,ZU.2 ⟨fun e=>hml (by simp[e]),hap.2.1⟩,fun a ha b hb e=> ?_⟩,fun q hq=> ?_,fun q hq=> ?_,fun q h=> ?_,fun q hq hT hq0=> ?_,?_,hT'⟩
   ·subst e
    rcases QP.1 hb with rfl|hb
    ·rcases QP.1 ha with rfl|ha
     ·exact hmn rfl
     ·exact hml (by simp[ha])
    ·rcases QP.1 ha with rfl|ha
     ·exact hnd.1 (by simp[hb])
     ·exact hap.2.2 a ha a hb rfl
   ·have hcase:q=m∨q∈n::(flP (l.take k)++flP (l.drop k)):=by
     simp only[QS,QP]at hq ⊢
     rcases hq with (h|h)|h|h<;>simp[h]
    rcases hcase with rfl|hq
    ·exact⟨m1,m2,by simp[D3]⟩
    ·obtain⟨g1,g2,g3⟩:=htk q hq
     exact⟨g1,g2,by unfold D3;split<;>simp_all⟩
   ·simp only[QS,QP]at hq ⊢
    rcases hq with (h|h)|h|h
    ·exact .inl (.inl h)
    ·exact .inl (.inr (.inl h))
    ·exact .inr (by rw[h];exact hTm)
    ·exact .inl (.inr (.inr h))
   ·unfold D3;split<;>simp_all
   ·exact vo q (fun e=>by rw[e,hTm]at hT;cases hT) (fun e=>hq (by simp[e])) hq0
   ·unfold D3;split<;>simp_all
  ·show T q=true∨q∈(n::flP (l.take k))++(m::flP (l.drop k))
   unfold D3 at hq
   split at hq
   ·rename_i e;right;simp[e]
   ·exact .inl hq
  ·show q∈(n::flP (l.take k))++(m::flP (l.drop k))
   rw[Bz,hfl]at hq
   simp only[QS,QP]at hq ⊢
   rcases hq with h|h|h<;>simp[h]
theorem Lg {h:Nat}(more:Option (Ent×Nat×BTr h))(l:NL h):flP (more.toList++l)=Ce more++flP l:=by
 cases more with
 |none=>rfl
 |some z=>simp[flP,Ce]
theorem Ao1 {h n np:Nat}{l1 l2:NL h}{x:Ent×Nat×BTr h}{s':BTr h}{more':Option (Ent×Nat×BTr h)}{v v2:Nat→List UInt8}{T T2:Nat→Bool}(hTr:Hg v (h+1) n (l1++x::l2:NL h))(hnd:(pgT (h+1) n (l1++x::l2:NL h)).Nodup)(htk:∀ q∈pgT (h+1) n (l1++x::l2:NL h),1≤q∧q<np∧T q=true)
 (hs:Hg v2 h x.2.1 s') (hm:X8 v2 h more') (hW:Od v v2 T T2 np (pgT h x.2.1 x.2.2) (pgT h x.2.1 s'++Ce more')):
 Od v v2 T T2 np (pgT (h+1) n (l1++x::l2:NL h)) (pgT (h+1) n (l1++(x.1,x.2.1,s')::(more'.toList++l2):NL h))∧v2 n=v n∧(∀ y∈(l1++(x.1,x.2.1,s')::(more'.toList++l2):NL h),Hg v2 h y.2.1 y.2.2)∧∀ y∈A9 (l1++(x.1,x.2.1,s')::(more'.toList++l2):NL h),y.ok:=by
 have e1:pgT (h+1) n (l1++x::l2:NL h)=(n::flP l1)++pgT h x.2.1 x.2.2++flP l2:=by
  rw[Bz,Dr,C7];simp
 have e2:pgT (h+1) n (l1++(x.1,x.2.1,s')::(more'.toList++l2):NL h)=(n::flP l1)++(pgT h x.2.1 s'++Ce more')++flP l2:=by
  rw[Bz,Dr,C7,Lg];simp
 rw[e1]at hnd htk ⊢
 rw[e2]
 obtain⟨g1,g2⟩:=hW.lift hnd htk
 obtain⟨hN,hch⟩:=hTr
 have hcg:∀ y:Ent×Nat×BTr h,y∈l1∨y∈l2→Hg v2 h y.2.1 y.2.2:=fun y hy=>by
  have h1:Hg v h y.2.1 y.2.2:=hch y (by rcases hy with h|h<;>simp[h])
  refine h1.congr fun q hq=>g2 q ?_
  rcases hy with h|h
  ·exact .inl (YG _ (YN.2 ⟨y,h,hq⟩))
  ·exact .inr (YN.2 ⟨y,h,hq⟩)
 refine⟨g1,g2 n (.inl (by simp)),fun y hy=> ?_,fun y hy=> ?_⟩
 ·simp only[QS,QP,Option.mem_toList]at hy
  rcases hy with h|rfl|h|h
  ·exact hcg y (.inl h)
  ·exact hs
  ·rw[h]at hm;exact hm.1
  ·exact hcg y (.inr h)
 ·have hok:=hN.ok
  rw[Dz,Dl]at hok hy
  rw[Dz]at hy
  simp only[QS,QP]at hok hy
  rcases hy with h|rfl|h|h
  ·exact hok y (.inl h)
  ·exact hok _ (.inr (.inl rfl))
  ·cases more' with
   |none=>simp[A9]at h
   |some z=>simp[A9]at h;rw[h];exact hm.2
  ·exact hok y (.inr (.inr h))
theorem Aq0 {h:Nat}(l1 l2:NL h)(y:Ent×Nat×BTr h)(more':Option (Ent×Nat×BTr h)):(flP (l1++y::l2)).Sublist (flP (l1++y::(more'.toList++l2))):=by
 rw[Dr,Dr,C7,C7,Lg]
 exact List.Sublist.append (List.Sublist.refl _) (List.Sublist.append (List.Sublist.refl _) (List.sublist_append_right _ _))
theorem Ajq {h:Nat}(more:Option (Ent×Nat×BTr h))(l:NL h):(flP (more.toList++l)).length=(Ce more).length+(flP l).length:=by rw[Lg,QE]
theorem Awu {h:Nat}{l t':NL h}{more:Option (Ent×Nat×NL h)}(hs:SpR A9 l t' more):(pgT (h+1) 0 t').length+(Ce (h:=h+1) more).length=(flP l).length+1+(if szL (A9 l)≤496 then 0 else 1):=by
 rcases hs with⟨s1,rfl,rfl⟩|⟨s1,_,_,m,y,_,rfl,rfl⟩
 ·rw[if_pos s1];simp[Bz,Ce]
 ·rw[if_neg (by omega)]
  have:flP l=flP (l.take (C2 (A9 l)))++flP (l.drop (C2 (A9 l))):=by rw[← Dr,ZI]
  rw[this]
  simp only[Ce,Bz,QF,QE];omega
theorem X9:∀ {h n:Nat} {t t':BTr h} {e:Ent} {more:Option (Ent×Nat×BTr h)},Ur h t e t' more→∀ q∈pgT h n t,q∈pgT h n t'++Ce more
 |0,n,t,t',e,more,hi,q,hq=>by simp only[pgT,ZR]at hq;simp[pgT,hq]
 |h+1,n,t,t',e,more,hi,q,hq=>by
  obtain⟨l1,x,l2,s',more',rfl,_,hin,hs⟩:=hi
  have ih:=X9 (n:=x.2.1) hin
  have h1:q∈n::flP (l1++(x.1,x.2.1,s')::(more'.toList++l2)):=by
   rw[Bz,Dr,C7]at hq
   rw[Dr,C7,Lg]
   simp only[QP,QS]at hq ⊢
   rcases hq with h|h|h|h
   ·exact .inl h
   ·exact .inr (.inl h)
   ·have:=ih q h
    simp only[QS]at this
    rcases this with h|h
    ·exact .inr (.inr (.inl h))
    ·exact .inr (.inr (.inr (.inl h)))
   ·exact .inr (.inr (.inr (.inr h)))
  generalize (l1++(x.1,x.2.1,s')::(more'.toList++l2))=l at hs h1
  rcases hs with⟨s1,rfl,rfl⟩|⟨s1,_,_,m,y,_,rfl,rfl⟩
  ·simp only[Ce,ZT];exact h1
  ·have:flP l=flP (l.take (C2 (A9 l)))++flP (l.drop (C2 (A9 l))):=by rw[← Dr,ZI]
   rw[this]at h1
   simp only[Ce,Bz,QP,QS]at h1 ⊢
   rcases h1 with h|h|h<;>simp[h]
theorem Ya:∀ {l m:List Nat},l.Nodup→(∀ x∈l,x∈m)→l.length≤m.length
 |[],m,_,_=>YS _
 |a::l,m,hn,hs=>by
  have hn:=ZU.1 hn
  have h1:=Ya (l:=l) (m:=m.erase a) hn.2 fun x hx=>(List.mem_erase_of_ne fun e=>hn.1 (by rw[← e];exact hx)).2 (hs x (by simp[hx]))
  rw[List.length_erase_of_mem (hs a (by simp))]at h1
  have:=List.length_pos_of_mem (hs a (by simp))
  simp only[QF];omega
theorem Ajr {T:Nat→Bool}{ps ps':List Nat}(hn:ps.Nodup)(hT:∀ q∈ps,T q=true)(hs:∀ q∈ps,q∈ps'):(ps'.filter fun q=> !T q).length+ps.length≤ps'.length:=by
 have h1:ps.length≤(ps'.filter fun q=>T q).length:=Ya hn fun q hq=>by simp[hs q hq,hT q hq]
 have h2:ps'.length=(ps'.filter fun q=>T q).length+(ps'.filter fun q=> !T q).length:=by
  have:=List.length_eq_countP_add_countP (fun q=>T q) (l:=ps')
  simp only[List.countP_eq_length_filter]at this
  simpa using this
 omega
theorem Yb {h:Nat}{l1 l2:NL h}{x:Ent×Nat×BTr h}{e:Ent}{T T':Nat→Bool}{L:List Nat}{s2:BTr h}{more2:Option (Ent×Nat×BTr h)}(hL:∀ q,T' q=true→T q=true∨q∈L)(hi:Ur h x.2.2 e s2 more2)(hm:∀ z,more2=some z→Itm.ok ⟨z.1,z.2.1⟩)
 (hok:∀ y∈A9 (l1++x::l2:NL h),y.ok) (hsz:szL (A9 (l1++x::l2:NL h))≤496) (hpl:l1.length=belF (A9 (l1++x::l2:NL h)) e (Iq (A9 (l1++x::l2:NL h)) e)) (hf:496<szL (A9 (l1++(x.1,x.2.1,s2)::(more2.toList++l2):NL h))∧L.length+(pgT h 0 x.2.2).length≤(pgT h 0 s2).length+(Ce more2).length∨L.length+(pgT h 0 x.2.2).length+1≤(pgT h 0 s2).length+(Ce more2).length):Ajk (h+1) (l1++x::l2:NL h) e T T':=by
 obtain⟨l,hl⟩:∃ l:NL h,l=l1++(x.1,x.2.1,s2)::(more2.toList++l2):=⟨_,rfl⟩
 rw[← hl]at hf
 have hok2:∀ y∈A9 l,y.ok:=fun y hy=>by
  rw[Dz,Dl]at hok
  rw[hl,Dz]at hy
  simp only[QS,QP]at hok hy
  rcases hy with h|hy
  ·exact hok y (.inl h)
  ·rw[Dl,Dz]at hy
   simp only[QS,QP]at hy
   rcases hy with rfl|h|h
   ·exact hok _ (.inr (.inl rfl))
   ·cases more2 with
    |none=>simp[A9]at h
    |some z=>simp[A9]at h;rw[h];exact hm z rfl
   ·exact hok y (.inr (.inr h))
 have hsz2:szL (A9 l)≤646:=by
  have h1:szL (A9 (l1++x::l2:NL h))=szL (A9 l1)+(szI ⟨x.1,x.2.1⟩+szL (A9 l2)):=by rw[Dz,Dl,De,B8]
  have h2:szL (A9 l)=szL (A9 l1)+(szI ⟨x.1,x.2.1⟩+(szL (A9 more2.toList)+szL (A9 l2))):=by rw[hl,Dz,Dl,Dz,De,B8,De]
  have h3:szL (A9 more2.toList)≤150:=by
   cases more2 with
   |none=>simp[A9,Dy]
   |some z=>
    have:=I0 (hm z rfl)
    simp only[Option.toList,Dl,B8]
    have:szL (A9 ([]:NL h))=0:=Dy
    omega
  omega
 have hlen:(flP l).length=(flP l1).length+(pgT h 0 s2).length+(Ce more2).length+(flP l2).length:=by
  rw[hl,Dr,C7,QE,QE,Ajq,Mq h x.2.1 0 s2];omega
 have hlen0:(pgT (h+1) 0 (l1++x::l2:NL h)).length=(flP l1).length+(pgT h 0 x.2.2).length+(flP l2).length+1:=by
  rw[Bz,Dr,C7,QF,QE,QE,Mq h x.2.1 0 x.2.2];omega
 obtain⟨t',more,c1,c2⟩:=Ao0 A9 Ev l hok2 hsz2
 have c3:=Awu c1
 refine⟨L,t',more,hL,⟨l1,x,l2,s2,more2,rfl,hpl,hi,by rw[← hl];exact c1⟩,fun z hz=> ?_,?_⟩
 ·rcases c2 with⟨_,rfl,_⟩|⟨_,y,hy,rfl,_⟩
  ·cases hz
  ·obtain rfl:=VG hz
   exact⟨(hok2 y hy).1,by show 0<65536;omega⟩
 ·rw[hlen0]
  split at c3<;>omega
section
variable {b p dd l kh n h:Nat} {U:Nat→Prop} {P:Ak} {v:Nat→List UInt8} {T:Nat→Bool} {e:Ent}
theorem Yc {σ0 s:St}{l1 l2:NL h}{x:Ent×Nat×BTr h}{s':BTr h}{more':Option (Ent×Nat×BTr h)}{U':Nat→Prop}{P':Ak}{v2 v':Nat→List UInt8}{T2:Nat→Bool}{r:AV}{len0:Nat}(hf:Fr σ0 s U U')(hB:Bt s b p dd l kh U' P' v')(hk:Kp P P' 0)(hlen:σ0.length≤len0)(hnp:P.pages≤3200)
 (hn:1≤n∧n<P.pages∧T n=true) (hTr:Hg v (h+1) n (l1++x::l2:NL h)) (hnd:(pgT (h+1) n (l1++x::l2:NL h)).Nodup) (htk:∀ q∈pgT (h+1) n (l1++x::l2:NL h),1≤q∧q<P.pages∧T q=true)
 (hs:Hg v2 h x.2.1 s') (hm:X8 v2 h more') (hW:Od v v2 T T2 P.pages (pgT h x.2.1 x.2.2) (pgT h x.2.1 s'++Ce more')) (hex:∀ q,T2 q=true→T q=true∨q∈pgT h x.2.1 s'++Ce more')
 (hin:Ur h x.2.2 e s' more') (hpl:l1.length=belF (A9 (l1++x::l2:NL h)) e (Iq (A9 (l1++x::l2:NL h)) e)) (hsz:szL (A9 (l1++(x.1,x.2.1,s')::(more'.toList++l2):NL h))≤646)
 (hsp:SplR T2 P.pages n 3 len0 (A9 (l1++(x.1,x.2.1,s')::(more'.toList++l2):NL h)) v2 v' r s U'):G6 (h+1) n (l1++x::l2:NL h) e σ0 b p dd l kh U P v T r s:=by
 obtain⟨w1,w2,w3,w4⟩:=Ao1 hTr hnd htk hs hm hW
 have hn2:1≤n∧n<P.pages∧T2 n=true:=⟨hn.1,hn.2.1,hW.mono n hn.2.2⟩
 rcases Amf hn2 w1.nd w1.tk w1.t0 w1.tkk hnp w3 w4 hsz hsp with⟨t',more,T',g1,g2,g3,g4,g5,g6,g7⟩|⟨g0,rfl,rfl,g1⟩
 ·refine⟨U',P',v',T',t',more,hf,hB,hk,g2,g3,w1.trans g4,.inl ⟨⟨l1,x,l2,s',more',rfl,hpl,hin,g1⟩,fun q hq=> ?_,?_⟩⟩
  ·rcases g5 q hq with h1|h1
   ·rcases hex q h1 with h2|h2
    ·exact .inl h2
    ·refine .inr (g6 q ?_)
     rw[Bz,Dr,C7,Lg]
     simp only[QS,QP]at h2 ⊢
     rcases h2 with h2|h2<;>simp[h2]
   ·exact .inr h1
  ·rcases g7 with g7|⟨x,m,z,tm,q1,q2,q3,q4,q5⟩
   ·exact .inl g7
   ·exact .inr ⟨x,m,z,tm,q1,q2,q3,by omega,q5⟩
 ·have hmore:∃ z,more'=some z:=by
   cases more' with
   |some z=>exact⟨z,rfl⟩
   |none=>
    exfalso
    have:=hTr.1.sz
    have e1:A9 (l1++(x.1,x.2.1,s')::((none:Option (Ent×Nat×BTr h)).toList++l2):NL h)=A9 (l1++x::l2:NL h):=by simp[A9]
    rw[e1]at g0
    have h2:szL (A9 (l1++x::l2:NL h))≤496:=this
    omega
  obtain⟨z,rfl⟩:=hmore
  have e1:A9 (l1++(x.1,x.2.1,s')::l2:NL h)=A9 (l1++x::l2:NL h):=by simp[A9]
  refine⟨U',P',v',T2,(l1++(x.1,x.2.1,s')::l2:NL h),none,hf,hB,hk,⟨?_,fun y hy=>w3 y ?_⟩,trivial,?_,.inr (.inr ⟨⟨l1,x,l2,s',rfl,hpl,.inr ⟨z,hin⟩,rfl⟩,rfl,rfl,g1,?_⟩)⟩
  ·rw[w2]
   show D4 (v n) 3 (A9 (l1++(x.1,x.2.1,s')::l2:NL h))
   rw[e1];exact hTr.1
  ·have hy:y∈(l1++(x.1,x.2.1,s')::l2:NL h):=hy
   simp only[QS,QP]at hy ⊢
   rcases hy with h|h|h<;>simp[h]
  ·refine w1.sub ?_
   show (pgT (h+1) n (l1++(x.1,x.2.1,s')::l2:NL h)++[]).Sublist _
   rw[ZT,Bz,Bz]
   exact List.Sublist.cons_cons _ (Aq0 _ _ _ _)
  ·have hxs:(pgT h x.2.1 x.2.2).Sublist (pgT (h+1) n (l1++x::l2:NL h)):=by
    rw[Bz,Dr,C7]
    exact List.Sublist.cons _ ((WM _ _).trans (List.sublist_append_right _ _))
   have hnl:=Ajr (T:=T) (hnd.sublist hxs) (fun q hq=>(htk q (hxs.subset hq)).2.2) (X9 (n:=x.2.1) hin)
   rw[QE,Mq h x.2.1 0 x.2.2,Mq h x.2.1 0 s']at hnl
   refine Yb (L:=(pgT h x.2.1 s'++Ce (some z)).filter fun q=> !T q) (fun q hq=> ?_) hin (fun z' hz=>by obtain rfl:=VG hz;exact hm.2) hTr.1.ok hTr.1.sz hpl (.inl ⟨g0,hnl⟩)
   cases hTq:T q with
   |true=>exact .inl rfl
   |false=>
    rcases hex q hq with h|h
    ·rw[hTq]at h;cases h
    ·refine .inr (List.mem_filter.2 ⟨h,by simp[hTq]⟩)
theorem Acr {σ0 s:St}{l1 l2:NL h}{x:Ent×Nat×BTr h}{s':BTr h}{U':Nat→Prop}{P':Ak}{v2:Nat→List UInt8}{T2:Nat→Bool}{r:AV}(hf:Fr σ0 s U U')(hB:Bt s b p dd l kh U' P' v2)(hk:Kp P P' 0)
 (hTr:Hg v (h+1) n (l1++x::l2:NL h)) (hnd:(pgT (h+1) n (l1++x::l2:NL h)).Nodup) (htk:∀ q∈pgT (h+1) n (l1++x::l2:NL h),1≤q∧q<P.pages∧T q=true)
 (hs:Hg v2 h x.2.1 s') (hW:Od v v2 T T2 P.pages (pgT h x.2.1 x.2.2) (pgT h x.2.1 s'++Ce (none:Option (Ent×Nat×BTr h))))
 (hpl:l1.length=belF (A9 (l1++x::l2:NL h)) e (Iq (A9 (l1++x::l2:NL h)) e))
 (hO:(e∈Bj h x.2.2∧s'=x.2.2∧r= .tup [nilQ,Ad .i64 1])∨(Amd h x.2.2 e s'∧r= .tup [nilQ,Ad .i64 20]∧(∀ q,q<P.pages→T2 q=true)∧Ajk h x.2.2 e T T2)):G6 (h+1) n (l1++x::l2:NL h) e σ0 b p dd l kh U P v T r s:=by
 obtain⟨w1,w2,w3,w4⟩:=Ao1 (more':=none) hTr hnd htk hs trivial hW
 have e1:A9 (l1++(x.1,x.2.1,s')::l2:NL h)=A9 (l1++x::l2:NL h):=by simp[A9]
 refine⟨U',P',v2,T2,(l1++(x.1,x.2.1,s')::l2:NL h),none,hf,hB,hk,⟨?_,fun y hy=>w3 y (by simpa using hy)⟩,trivial,?_,?_⟩
 ·rw[w2]
  show D4 (v n) 3 (A9 (l1++(x.1,x.2.1,s')::l2:NL h))
  rw[e1];exact hTr.1
 ·simpa [Ce]using w1
 ·rcases hO with⟨h1,rfl,rfl⟩|⟨h1,rfl,h2,hla⟩
  ·refine .inr (.inl ⟨?_,rfl,rfl,rfl⟩)
   show e∈(l1++x::l2:NL h).flatMap fun x=>Bj h x.2.2
   exact YN.2 ⟨x,by simp,h1⟩
  ·obtain⟨L,t2,more2,u1,u2,u3,u4⟩:=hla
   exact .inr (.inr ⟨⟨l1,x,l2,s',rfl,hpl,.inl h1,rfl⟩,rfl,rfl,h2,Yb u1 u2 u3 hTr.1.ok hTr.1.sz hpl (.inr u4)⟩)
end
