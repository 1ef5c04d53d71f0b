/- A contract at a small state, used at a great one: the objects get other numbers. Answers that hold rows with a right to append, given as data. Runs of the abstract machine, reckoned out. Loops over the frame as it stands: only the slots that a round sets are named. -/
import Derived.Test.YtpoigihfeehehaaGreatDoorM12
set_option linter.all false
set_option maxRecDepth 100000
set_option maxHeartbeats 32000000
namespace Go.Proofs.YtpoigihfeehehaaGreatDoor
open Go.RowKit
mutual
def Ns (g:Nat→Nat):AV→AV
 | .any=>.any
 | .p x=>.p x
 | .own t e ls=>.own (g t) e ls
 | .nown t e ls=>.nown (g t) e ls
 | .ip c o=>.ip c o
 | .mp t e i o=>.mp (g t) e i o
 | .ms t e i n=>.ms (g t) e i n
 | .mmap t=>.mmap (g t)
 | .raw t e k=>.raw (g t) e k
 | .fn f us vs=>.fn f (R2 g us) (R2 g vs)
 | .agg l=>.agg (R2 g l)
 | .tup l=>.tup (R2 g l)
 | .dyn T a=>.dyn T (Ns g a)
 | .bs t e i o n=>.bs (g t) e i o n
def R2 (g:Nat→Nat):List AV→List AV
 |[]=>[]
 |a::l=>Ns g a::R2 g l
end
def Pf (g:Nat→Nat):Ob→Ob
 | .row e ls=>.row e (ls.map (R2 g))
 | .right E n=>.right E n
 | .nright E n=>.nright E n
 | .map es=>.map (es.map fun q=>(q.1,Ns g q.2))
def Ze (n:Nat):Ob→Bool
 | .row _ ls=>ls.all (Ci n)
 | .map es=>es.all fun q=>A0 n q.2
 |_=>true
theorem To (g:Nat→Nat):∀ (l:List AV) (i:Nat),(R2 g l)[i]? =l[i]?.map (Ns g)
 |[],i=>by simp[R2]
 |a::l,0=>by simp[R2]
 |a::l,i+1=>by simpa [R2]using To g l i
theorem Tp (g:Nat→Nat):∀ l:List AV,(R2 g l).length=l.length
 |[]=>rfl
 |a::l=>by simp[R2,Tp g l]
theorem Tq (g:Nat→Nat)(a:AV):leaf (Ns g a)=leaf a:=by cases a<;>rfl
theorem Wx (g:Nat→Nat):∀ l:List AV,(R2 g l).all leaf=l.all leaf
 |[]=>rfl
 |a::l=>by simp[R2,Tq,Wx g l]
theorem Mb {n:Nat}:∀ {l:List AV} {i:Nat} {a:AV},Ci n l=true→l[i]? =some a→A0 n a=true
 |[],i,a,_,h=>by simp at h
 |b::l,0,a,ht,h=>by simp at h;subst h;simp only[Ci,QV]at ht;exact ht.1
 |b::l,i+1,a,ht,h=>by simp only[Ci,QV]at ht;exact Mb ht.2 (by simpa using h)
structure Ren (g:Nat→Nat)(n:Nat)(M0 M:Az):Prop where
 w:M.w=M0.w
 I:M.I=M0.I
 mu:∀ t,t<n→M.mu (g t)=M0.mu t
 len:∀ t,t<n→M.len (g t)=M0.len t
 cap:∀ t,t<n→M.cap (g t)=M0.cap t
section
variable {g:Nat→Nat} {n:Nat} {M0 M:Az}
mutual
theorem Ag.ren (h:Ren g n M0 M):∀ (a:AV) (u:Value),A0 n a=true→(Ag M (Ns g a) u↔Ag M0 a u)
 | .any,u,ht=>by simp[Ag,Ns]
 | .p x,u,ht=>by simp only[Ns,Ag];rw[h.w,h.I]
 | .own t e ls,u,ht=>by
   simp only[A0,decide_eq_true_eq]at ht
   simp only[Ns,Ag]
   rw[h.w,h.I,h.mu t ht,h.len t ht,h.cap t ht]
 | .nown t e ls,u,ht=>by
   simp only[A0,decide_eq_true_eq]at ht
   simp only[Ns,Ag]
   rw[h.w,h.I,h.mu t ht,h.len t ht,h.cap t ht]
 | .ip c o,u,ht=>by simp only[Ns,Ag];rw[h.w,h.I]
 | .mp t e i o,u,ht=>by
   simp only[A0,decide_eq_true_eq]at ht
   simp only[Ns,Ag]
   rw[h.mu t ht,h.len t ht]
 | .ms t e i m,u,ht=>by
   simp only[A0,decide_eq_true_eq]at ht
   simp only[Ns,Ag]
   rw[h.mu t ht,h.len t ht,h.cap t ht]
 | .raw t e k,u,ht=>by
   simp only[A0,decide_eq_true_eq]at ht
   simp only[Ns,Ag]
   rw[h.mu t ht,h.len t ht,h.cap t ht]
 | .mmap t,u,ht=>by
   simp only[A0,decide_eq_true_eq]at ht
   simp only[Ns,Ag]
   rw[h.mu t ht,h.len t ht]
 | .fn f us vs,u,ht=>by
   simp only[A0,QV]at ht
   simp only[Ns,Ag]
   constructor
   ·rintro⟨a,b,h1,h2,h3⟩;exact⟨a,b,h1,(Af.ren h us a ht.1).1 h2,(Af.ren h vs b ht.2).1 h3⟩
   ·rintro⟨a,b,h1,h2,h3⟩;exact⟨a,b,h1,(Af.ren h us a ht.1).2 h2,(Af.ren h vs b ht.2).2 h3⟩
 | .agg l,u,ht=>by
   simp only[A0]at ht
   simp only[Ns,Ag,Wx]
   constructor
   ·rintro⟨h0,a,h1,h2⟩;exact⟨h0,a,h1,(Af.ren h l a ht).1 h2⟩
   ·rintro⟨h0,a,h1,h2⟩;exact⟨h0,a,h1,(Af.ren h l a ht).2 h2⟩
 | .tup l,u,ht=>by
   simp only[A0]at ht
   simp only[Ns,Ag]
   constructor
   ·rintro⟨a,h1,h2⟩;exact⟨a,h1,(Af.ren h l a ht).1 h2⟩
   ·rintro⟨a,h1,h2⟩;exact⟨a,h1,(Af.ren h l a ht).2 h2⟩
 | .dyn T a,u,ht=>by
   simp only[A0]at ht
   simp only[Ns,Ag]
   constructor
   ·rintro⟨v,h1,h2⟩;exact⟨v,h1,(Ag.ren h a v ht).1 h2⟩
   ·rintro⟨v,h1,h2⟩;exact⟨v,h1,(Ag.ren h a v ht).2 h2⟩
 | .bs t e i o m,u,ht=>by
   simp only[A0,decide_eq_true_eq]at ht
   simp only[Ns,Ag]
   rw[h.mu t ht,h.len t ht]
theorem Af.ren (h:Ren g n M0 M):∀ (l:List AV) (us:List Value),Ci n l=true→(Af M (R2 g l) us↔Af M0 l us)
 |[],us,ht=>by simp[Af,R2]
 |a::l,us,ht=>by
  simp only[Ci,QV]at ht
  simp only[R2,Af]
  constructor
  ·rintro⟨u,us',h1,h2,h3⟩;exact⟨u,us',h1,(Ag.ren h a u ht.1).1 h2,(Af.ren h l us' ht.2).1 h3⟩
  ·rintro⟨u,us',h1,h2,h3⟩;exact⟨u,us',h1,(Ag.ren h a u ht.1).2 h2,(Af.ren h l us' ht.2).2 h3⟩
end
theorem Cr.ren (h:Ren g n M0 M){cur:Array Value}{e:Nat}{ls:List (List AV)}(ht:ls.all (Ci n)=true):Cr M cur e (ls.map (R2 g))↔Cr M0 cur e ls:=by
 have htc:∀ i c,ls[i]? =some c→Ci n c=true:=fun i c hc=>ZA.1 ht c (QG hc)
 constructor
 ·intro hr i c hc
  obtain⟨h1,h2⟩:=hr i (R2 g c) (by simp[hc])
  refine⟨by rw[Tp]at h1;exact h1,fun j a ha=> ?_⟩
  obtain⟨h3,u,h4,h5⟩:=h2 j (Ns g a) (by rw[To,ha];rfl)
  exact⟨by rw[Tq]at h3;exact h3,u,h4,(Ag.ren h a u (Mb (htc i c hc) ha)).1 h5⟩
 ·intro hr i c hc
  rw[QR]at hc
  cases hi:ls[i]? with
  |none=>rw[hi]at hc;simp at hc
  |some c0=>
   rw[hi]at hc;simp at hc;subst hc
   obtain⟨h1,h2⟩:=hr i c0 hi
   refine⟨by rw[Tp];exact h1,fun j a ha=> ?_⟩
   rw[To]at ha
   cases hj:c0[j]? with
   |none=>rw[hj]at ha;simp at ha
   |some a0=>
    rw[hj]at ha;simp at ha;subst ha
    obtain⟨h3,u,h4,h5⟩:=h2 j a0 hj
    exact⟨by rw[Tq];exact h3,u,h4,(Ag.ren h a0 u (Mb (htc i c0 hi) hj)).2 h5⟩
theorem Fw.ren (h:Ren g n M0 M){cur:Array MapEntry}{es:List (Value×AV)}(ht:es.all (fun q=>A0 n q.2)=true):Fw M cur (es.map fun q=>(q.1,Ns g q.2))↔Fw M0 cur es:=by
 constructor
 ·rintro⟨h1,h2⟩
  refine⟨by simpa using h1,fun i q hq=> ?_⟩
  obtain⟨e,k1,k2,k3⟩:=h2 i (q.1,Ns g q.2) (by simp[hq])
  exact⟨e,k1,k2,(Ag.ren h _ _ (ZA.1 ht q (QG hq))).1 k3⟩
 ·rintro⟨h1,h2⟩
  refine⟨by simpa using h1,fun i q hq=> ?_⟩
  rw[QR]at hq
  cases hi:es[i]? with
  |none=>rw[hi]at hq;simp at hq
  |some q0=>
   rw[hi]at hq;simp at hq;subst hq
   obtain⟨e,k1,k2,k3⟩:=h2 i q0 hi
   exact⟨e,k1,k2,(Ag.ren h _ _ (ZA.1 ht q0 (QG hi))).2 k3⟩
theorem Lu.ren (h:Ren g n M0 M){t:Nat}(htn:t<n){ob:Ob}(ht:Ze n ob=true):Lu M (g t) (Pf g ob)↔Lu M0 t ob:=by
 cases ob with
 |row e ls=>
  simp only[Pf,Lu,Ze]at ht ⊢
  rw[h.len t htn,h.mu t htn,h.w,h.I,h.cap t htn]
  constructor
  ·rintro⟨h1,b,cur,T,h2,h3,h4,h5,h6⟩;exact⟨h1,b,cur,T,h2,h3,h4,(Cr.ren h ht).1 h5,h6⟩
  ·rintro⟨h1,b,cur,T,h2,h3,h4,h5,h6⟩;exact⟨h1,b,cur,T,h2,h3,h4,(Cr.ren h ht).2 h5,h6⟩
 |map es=>
  simp only[Pf,Lu,Ze]at ht ⊢
  rw[h.len t htn,h.mu t htn,h.w,h.I]
  constructor
  ·rintro⟨h1,b,cur,T,h2,h3,h4,h5⟩;exact⟨h1,b,cur,T,h2,h3,h4,(Fw.ren h ht).1 h5⟩
  ·rintro⟨h1,b,cur,T,h2,h3,h4,h5⟩;exact⟨h1,b,cur,T,h2,h3,h4,(Fw.ren h ht).2 h5⟩
 |right E m=>
  simp only[Pf,Lu,G8]
  rw[h.len t htn,h.mu t htn,h.w,h.I,h.cap t htn]
 |nright E m=>
  simp only[Pf,Lu,G8]
  rw[h.len t htn,h.mu t htn,h.w,h.I,h.cap t htn]
end
def Nt (g:Nat→Nat):List Nat→St→St→St
 |s::ts,σ,o::σ0=>Nt g ts (σ.set s (o.map (Pf g))) σ0
 |_,σ,_=>σ
theorem Ph (g:Nat→Nat):∀ (ts:List Nat) (σ σ0:St),(Nt g ts σ σ0).length=σ.length
 |[],σ,σ0=>rfl
 |s::ts,σ,[]=>rfl
 |s::ts,σ,o::σ0=>by rw[Nt,Ph g ts];simp
theorem I7 (g:Nat→Nat):∀ (ts:List Nat) (σ σ0:St) (s:Nat),s∉ts→(Nt g ts σ σ0)[s]? =σ[s]?
 |[],σ,σ0,s,h=>rfl
 |s'::ts,σ,[],s,h=>rfl
 |s'::ts,σ,o::σ0,s,h=>by
  simp only[QP,not_or]at h
  rw[Nt,I7 g ts _ _ s h.2,QW,if_neg (fun e=>h.1 e.symm)]
theorem Wy (g:Nat→Nat):∀ (ts:List Nat) (σ σ0:St) (t s:Nat),ts.Nodup→(∀ s∈ts,s<σ.length)→ts[t]? =some s→t<σ0.length→(Nt g ts σ σ0)[s]? =σ0[t]?.map (·.map (Pf g))
 |[],σ,σ0,t,s,hn,hl,ht,_=>by simp at ht
 |s'::ts,σ,[],t,s,hn,hl,ht,h0=>by simp at h0
 |s'::ts,σ,o::σ0,0,s,hn,hl,ht,h0=>by
  simp at ht;subst ht
  rw[ZU]at hn
  rw[Nt,I7 g ts _ _ s' hn.1,QW,if_pos rfl,if_pos (hl s' (by simp))]
  simp
 |s'::ts,σ,o::σ0,t+1,s,hn,hl,ht,h0=>by
  rw[ZU]at hn
  rw[Nt,Wy g ts _ σ0 t s hn.2 (fun s hs=>by simpa using hl s (by simp[hs])) (by simpa using ht) (by simpa using h0)]
  simp
open Classical in
theorem Aa.at {P:Program}{f:FuncId}{args0:List AV}{σ0:St}{R0:AV→St→Prop}(h0:Aa P f args0 σ0 R0)(ts:List Nat)(σ:St)(hn:ts.Nodup)(hl:ts.length=σ0.length)
 (hσ:∀ t s,ts[t]? =some s→∃ ob,σ0.at t ob∧Ze σ0.length ob=true∧σ.at s (Pf (fun t=>ts.getD t 0) ob)) (ha:Ci σ0.length args0=true)
 (hR:∀ r s,R0 r s→A0 σ0.length r=true∧∀ t ob,t<σ0.length→s.at t ob→Ze σ0.length ob=true):
 Aa P f (R2 (fun t=>ts.getD t 0) args0) σ fun r σ'=>∃ r0 σ0',R0 r0 σ0'∧r=Ns (fun t=>ts.getD t 0) r0∧σ'=Nt (fun t=>ts.getD t 0) ts σ σ0':=by
 refine⟨h0.1,fun M vs hM hv=> ?_⟩
 generalize hgd:(fun t=>ts.getD t 0)=g at*
 generalize hnd:σ0.length=n at*
 have hgt:∀ t,t<n→ts[t]? =some (g t):=fun t ht=>by
  rw[← hgd]
  have:t<ts.length:=by omega
  simp[this]
 have hinj:∀ t t',t<n→t'<n→g t=g t'→t=t':=fun t t' ht ht' e=>by
  have h1:=hgt t ht
  have h2:=hgt t' ht'
  rw[e]at h1
  exact (VB (by omega) hn).1 (h1.trans h2.symm)
 have hob:∀ t,t<n→∃ ob,σ0.at t ob∧Ze n ob=true∧σ.at (g t) (Pf g ob):=fun t ht=>hσ t (g t) (hgt t ht)
 have hat:∀ t ob,σ0.at t ob→t<n∧Ze n ob=true∧σ.at (g t) (Pf g ob):=fun t ob h=>by
  have ht:t<n:=by rw[← hnd];exact (QC.1 h).1
  obtain⟨ob',h1,h2,h3⟩:=hob t ht
  have:ob'=ob:=by unfold St.at at h h1;rw[h]at h1;simpa using h1.symm
  subst this
  exact⟨ht,h2,h3⟩
 have hgl:∀ t,t<n→g t<σ.length:=fun t ht=>by
  obtain⟨ob,_,_,h⟩:=hob t ht
  exact (QC.1 h).1
 let M0:Az:={ w:=M.w,I:=M.I,mu:=fun t=>if t<n then M.mu (g t)else none,len:=fun t=>if t<n then M.len (g t)else none,cap:=fun t=>M.cap (g t) }
 have hren:Ren g n M0 M:=⟨rfl,rfl,fun t ht=>by simp[M0,ht],fun t ht=>by simp[M0,ht],fun t ht=>rfl⟩
 have hmu0:∀ t,t<n→M0.mu t=M.mu (g t):=fun t ht=>by simp[M0,ht]
 have hM0:Al M0 σ0:=by
  refine⟨fun t ob ht=> ?_,fun t t' ob ob' b h1 h2 h3 h4=> ?_,fun t ht=> ?_,fun t b hb=> ?_,hM.imm,fun x hx=> ?_⟩
  ·obtain⟨h1,h2,h3⟩:=hat t ob ht
   exact (Lu.ren hren h1 h2).1 (hM.obj _ _ h3)
  ·obtain⟨g1,_,g2⟩:=hat t ob h1
   obtain⟨g3,_,g4⟩:=hat t' ob' h2
   rw[hmu0 t g1]at h3
   rw[hmu0 t' g3]at h4
   exact hinj t t' g1 g3 (hM.inj _ _ _ _ b g2 g4 h3 h4)
  ·have:¬ t<n:=by omega
   simp[M0,this]
  ·by_cases ht:t<n
   ·rw[hmu0 t ht]at hb;exact hM.lt _ b hb
   ·simp[M0,ht]at hb
  ·obtain⟨cs,T,g1,g2,g3⟩:=hM.glob x hx
   refine⟨cs,T,g1,g2,fun t ob ht hb=> ?_⟩
   obtain⟨k1,_,k2⟩:=hat t ob ht
   rw[hmu0 t k1]at hb
   exact g3 _ _ k2 hb
 refine (h0.2 M0 vs hM0 ((Af.ren hren _ _ ha).1 hv)).mono ?_
 rintro e w' ⟨v,r0,σ1,M1,rfl,rfl,hE,hM1,hr,hlen,hR0⟩
 obtain⟨hrt,hot⟩:=hR r0 σ1 hR0
 have hmem:∀ s,s∈ts↔∃ t,t<n∧g t=s:=fun s=>by
  constructor
  ·intro h
   obtain⟨t,ht⟩:=YP.1 h
   have htn:t<n:=by have:=(QC.1 ht).1;omega
   have:=hgt t htn
   rw[ht]at this
   exact⟨t,htn,by simpa using this.symm⟩
  ·rintro⟨t,ht,rfl⟩
   exact QG (hgt t ht)
 let pick:Nat→Nat:=fun s=>if h:∃ t,t<n∧g t=s then Classical.choose h else 0
 have hpick:∀ t,t<n→pick (g t)=t:=fun t ht=>by
  have h:∃ t',t'<n∧g t'=g t:=⟨t,ht,rfl⟩
  have h2:=Classical.choose_spec h
  simp only[pick,h,dif_pos]
  exact hinj _ _ h2.1 ht h2.2
 let M':Az:={ w:=M1.w,I:=M1.I,mu:=fun s=>if s∈ts then M1.mu (pick s)else M.mu s,len:=fun s=>if s∈ts then M1.len (pick s)else M.len s,cap:=fun s=>if s∈ts then M1.cap (pick s)else M.cap s }
 have hin:∀ t,t<n→g t∈ts:=fun t ht=>(hmem _).2 ⟨t,ht,rfl⟩
 have hren':Ren g n M1 M':=⟨rfl,rfl,fun t ht=>by simp only[M',hin t ht,if_true,hpick t ht],fun t ht=>by simp only[M',hin t ht,if_true,hpick t ht],fun t ht=>by simp only[M',hin t ht,if_true,hpick t ht]⟩
 have hmu':∀ s,s∉ts→M'.mu s=M.mu s∧M'.len s=M.len s∧M'.cap s=M.cap s:=fun s hs=>by simp[M',hs]
 have hL:Later M M':=by
  refine⟨fun s b h1 h2=> ?_,fun s m h1=> ?_,hE.imm,hE.cell⟩
  ·by_cases hs:s∈ts
   ·obtain⟨t,ht,rfl⟩:=(hmem s).1 hs
    rw[hren'.mu t ht,hren'.len t ht,hren'.cap t ht,hren.cap t ht]
    exact hE.mu t b (by rw[hmu0 t ht];exact h1) (by rw[← hren.len t ht];exact h2)
   ·rw[(hmu' s hs).1,(hmu' s hs).2.1];exact⟨h1,h2,(hmu' s hs).2.2⟩
  ·by_cases hs:s∈ts
   ·obtain⟨t,ht,rfl⟩:=(hmem s).1 hs
    obtain⟨m',h3,h4,h5⟩:=hE.own t m (by rw[← hren.len t ht];exact h1)
    refine⟨m',by rw[hren'.len t ht];exact h3,h4,fun e=> ?_⟩
    rw[hren'.mu t ht,hren'.cap t ht,hren.mu t ht,hren.cap t ht]
    exact h5 e
   ·exact⟨m,by rw[(hmu' s hs).2.1];exact h1,QH _,fun _=>⟨(hmu' s hs).1,(hmu' s hs).2.2⟩⟩
 have hkeep:∀ b,b<M.w.heap.size→(∀ t ob,σ0.at t ob→M0.mu t≠some b)→M1.w.heap[b]? =M.w.heap[b]? ∧∀ o,M1.I b o→M.I b o:=fun b hb hk=>hE.keep b hb hk
 have hnew:∀ t ob b,σ1.at t ob→M1.mu t=some b→M.w.heap.size≤b∨∃ t0 ob0,σ0.at t0 ob0∧M0.mu t0=some b:=fun t ob b h1 h2=>hE.new t ob b h1 h2
 have hatS:∀ s ob,(Nt g ts σ σ1).at s ob→(∃ t ob0,t<n∧g t=s∧σ1.at t ob0∧ob=Pf g ob0)∨(s∉ts∧σ.at s ob):=fun s ob h=>by
  by_cases hs:s∈ts
  ·obtain⟨t,ht,rfl⟩:=(hmem s).1 hs
   left
   have:=Wy g ts σ σ1 t (g t) hn (fun s hs=>by obtain⟨t,ht,rfl⟩:=(hmem s).1 hs;exact hgl t ht) (hgt t ht) (by omega)
   unfold St.at at h
   rw[this]at h
   cases h1:σ1[t]? with
   |none=>rw[h1]at h;simp at h
   |some o=>
    rw[h1]at h
    cases o with
    |none=>simp at h
    |some ob0=>simp at h;exact⟨t,ob0,ht,rfl,h1,h.symm⟩
  ·right
   unfold St.at at h
   rw[I7 g ts σ σ1 s hs]at h
   exact⟨hs,h⟩
 have hblk:∀ s ob b,s∉ts→σ.at s ob→M.mu s=some b→∀ t ob,σ0.at t ob→M0.mu t≠some b:=fun s ob b hs hso hb t ob' ht hb'=>by
  obtain⟨g1,_,g2⟩:=hat t ob' ht
  rw[hmu0 t g1]at hb'
  exact hs ((hmem s).2 ⟨t,g1,hM.inj _ _ _ _ b g2 hso hb' hb⟩)
 have hE':Ext M σ M' (Nt g ts σ σ1):=by
  refine⟨hL.mu,hL.own,hL.imm,hL.cell,fun b hb hk=>hkeep b hb fun t ob ht=> ?_,fun s ob b h1 h2=> ?_,hE.size,hE.os,hE.tape,hE.output⟩
  ·obtain⟨g1,_,g2⟩:=hat t ob ht
   rw[hmu0 t g1];exact hk _ _ g2
  ·rcases hatS s ob h1 with⟨t,ob0,ht,rfl,h3,_⟩|⟨hs,h3⟩
   ·rw[hren'.mu t ht]at h2
    rcases hnew t ob0 b h3 h2 with h4|⟨t0,ob1,h4,h5⟩
    ·exact .inl h4
    ·obtain⟨g1,_,g2⟩:=hat t0 ob1 h4
     rw[hmu0 t0 g1]at h5
     exact .inr ⟨_,_,g2,h5⟩
   ·rw[(hmu' s hs).1]at h2
    exact .inr ⟨s,ob,h3,h2⟩
 refine⟨v,Ns g r0,Nt g ts σ σ1,M',rfl,rfl,hE',⟨fun s ob h=> ?_,fun s s' ob ob' b h1 h2 h3 h4=> ?_,fun s hs=> ?_,fun s b hb=> ?_,hM1.imm,hM.glob.ext hE'⟩,(Ag.ren hren' _ _ hrt).2 hr,Nat.le_of_eq (Ph g ts σ σ1).symm,r0,σ1,hR0,rfl,rfl⟩
 ·rcases hatS s ob h with⟨t,ob0,ht,rfl,h3,rfl⟩|⟨hs,h3⟩
  ·exact (Lu.ren hren' ht (hot t ob0 ht h3)).2 (hM1.obj t ob0 h3)
  ·exact (hM.obj s ob h3).later hL (hmu' s hs).1 (hmu' s hs).2.1 (hmu' s hs).2.2 fun b hb=>hkeep b (hM.lt s b hb) (hblk s ob b hs h3 hb)
 ·rcases hatS s ob h1 with⟨t,ob0,ht,rfl,g1,_⟩|⟨hs,g1⟩
  ·rw[hren'.mu t ht]at h3
   rcases hatS s' ob' h2 with⟨t',ob0',ht',rfl,g2,_⟩|⟨hs',g2⟩
   ·rw[hren'.mu t' ht']at h4
    rw[hM1.inj t t' ob0 ob0' b g1 g2 h3 h4]
   ·rw[(hmu' s' hs').1]at h4
    rcases hnew t ob0 b g1 h3 with h5|⟨t0,ob1,h5,h6⟩
    ·have:=hM.lt s' b h4;omega
    ·exact absurd h6 (hblk s' ob' b hs' g2 h4 t0 ob1 h5)
  ·rw[(hmu' s hs).1]at h3
   rcases hatS s' ob' h2 with⟨t',ob0',ht',rfl,g2,_⟩|⟨hs',g2⟩
   ·rw[hren'.mu t' ht']at h4
    rcases hnew t' ob0' b g2 h4 with h5|⟨t0,ob1,h5,h6⟩
    ·have:=hM.lt s b h3;omega
    ·exact absurd h6 (hblk s ob b hs g1 h3 t0 ob1 h5)
   ·rw[(hmu' s' hs').1]at h4
    exact hM.inj s s' ob ob' b g1 g2 h3 h4
 ·rw[Ph]at hs
  have hs':s∉ts:=fun h=>by obtain⟨t,ht,rfl⟩:=(hmem s).1 h;have:=hgl t ht;omega
  rw[(hmu' s hs').1,(hmu' s hs').2.1];exact hM.fresh s hs
 ·by_cases hs:s∈ts
  ·obtain⟨t,ht,rfl⟩:=(hmem s).1 hs
   rw[hren'.mu t ht]at hb;exact hM1.lt t b hb
  ·rw[(hmu' s hs).1]at hb;exact ZE (hM.lt s b hb) hE.size
end Go.Proofs.YtpoigihfeehehaaGreatDoor
namespace Go.Proofs.YtpoigihfeehehaaGreatDoor
open Go.RowKit
mutual
def Tr:AV→AV
 | .own t e ls=>.p (.sl e ls)
 | .nown t e ls=>.p (Sr e ls)
 | .agg l=>.agg (frzL l)
 | .tup l=>.tup (frzL l)
 |a=>a
def frzL:List AV→List AV
 |[]=>[]
 |a::l=>Tr a::frzL l
end
theorem Ak0 (a:AV):leaf (Tr a)=leaf a:=by cases a<;>simp[Tr,leaf]
theorem Wz:∀ l:List AV,(frzL l).all leaf=l.all leaf
 |[]=>rfl
 |a::l=>by simp[frzL,Ak0,Wz l]
mutual
theorem Ag.frz {M:Az}:∀ (a:AV) (u:Value),Ag M a u→Ag M (Tr a) u
 | .own t e ls,u,h=>by simp only[Tr,Ag];exact Hm (M:=M) (x:=.own t e ls) rfl h
 | .nown t e ls,u,h=>by simp only[Tr,Ag];exact Hm (M:=M) (x:=.nown t e ls) rfl h
 | .agg l,u,h=>by
   simp only[Tr,Ag,Wz]at h ⊢
   obtain⟨h0,us,h1,h2⟩:=h
   exact⟨h0,us,h1,Af.frz l us h2⟩
 | .tup l,u,h=>by
   simp only[Tr,Ag]at h ⊢
   obtain⟨us,h1,h2⟩:=h
   exact⟨us,h1,Af.frz l us h2⟩
 | .any,u,h=>h
 | .p x,u,h=>h
 | .ip c o,u,h=>h
 | .mp t e i o,u,h=>h
 | .ms t e i n,u,h=>h
 | .mmap t,u,h=>h
 | .raw t e k,u,h=>h
 | .fn f us vs,u,h=>h
 | .dyn T a,u,h=>h
 | .bs ..,u,h=>h
theorem Af.frz {M:Az}:∀ (l:List AV) (us:List Value),Af M l us→Af M (frzL l) us
 |[],us,h=>by simpa [frzL,Af]using h
 |a::l,us,h=>by
  simp only[frzL,Af]at h ⊢
  obtain⟨u,us',h1,h2,h3⟩:=h
  exact⟨u,us',h1,Ag.frz a u h2,Af.frz l us' h3⟩
end
theorem Aa.frz {P:Program}{f:FuncId}{args:List AV}{σ:St}{R:AV→St→Prop}(h:Aa P f args σ fun r s=>R (Tr r) s):Aa P f args σ R:=
 ⟨h.1,fun M vs hM hv=>(h.2 M vs hM hv).mono fun e w' ⟨v,r,s,M',h1,h2,h3,h4,h5,h6,h7⟩=>⟨v,Tr r,s,M',h1,h2,h3,h4,Ag.frz r v h5,h6,h7⟩⟩
theorem Aa.pureF {P:Program}{f:FuncId}{args:List AV}{R:AV→Prop}(h:Aa P f args [] fun r _=>A0 0 (Tr r)=true∧R (Tr r))(ha:Ci 0 args=true)(σ:St):Aa P f args σ fun r σ'=>σ'=σ∧R r:=
 Aa.pure (R:=R) (Aa.frz (R:=fun r _=>A0 0 r=true∧R r) h) ha σ
def i64R (n:Int):Prop:= -9223372036854775808≤n∧n≤9223372036854775807
instance (n:Int):Decidable (i64R n):=by unfold i64R;infer_instance
theorem wz0:IntKind.i64.wrap 0=0:=by decide
theorem nnI (i:Nat):((0:Int)≤(i:Int))=True:=eq_true (by omega)
theorem dT {i n:Nat}(h:i<n):decide ((i:Int)<(n:Int))=true:=by simp;omega
theorem dF {i n:Nat}(h:¬ i<n):decide ((i:Int)<(n:Int))=false:=by simp;omega
theorem wI (i:Nat)(h:i<9000000000000000000):IntKind.i64.wrap ((i:Int)+1)=((i+1:Nat):Int):=by rw[wrap_i64 (by omega) (by omega)];simp
theorem lM {n:Nat}(h:n≤9000000000000000000):(n≤maxLen)=True:=eq_true (by unfold maxLen;omega)
theorem tL {n:Nat}(h:n≤140737488355328):(n≤140737488355328)=True:=eq_true h
theorem Aa.eq {P:Program}{f:FuncId}{args:List AV}{σ:St}{a:AV}{R:AV→St→Prop}(h:Aa P f args σ fun r s=>s=σ∧r=a)(hk:R a σ):Aa P f args σ R:=h.mono fun r s e=>by
 obtain⟨rfl,rfl⟩:=e
 exact hk
theorem baL (bs:ByteArray):∀ (k i:Nat) (r:List UInt8),bs.size - i=k→ByteArray.toList.loop bs i r=r.reverse++bs.data.toList.drop i
 |0,i,r,h=>by
  unfold ByteArray.toList.loop
  have:bs.data.size≤i:=by simp only[ByteArray.size]at h;omega
  rw[if_neg (by simp only[ByteArray.size];omega),YE (by simpa using this)];simp
 |k+1,i,r,h=>by
  unfold ByteArray.toList.loop
  have hi:i<bs.data.size:=by simp only[ByteArray.size]at h;omega
  rw[if_pos (by simp only[ByteArray.size];omega),baL bs k (i+1) _ (by omega)]
  have:bs.data.toList.drop i=bs.data[i]::bs.data.toList.drop (i+1):=by
   rw[YB (by simpa using hi)];simp
  rw[this]
  simp[ByteArray.get!,getElem!_pos bs.data i hi]
theorem Ag6 (bs:ByteArray):bs.toList=bs.data.toList:=by
 unfold ByteArray.toList
 rw[baL bs _ 0 [] rfl];simp
abbrev Asb:=FuncId→List AV→St→Option (List (AV×St))
section
variable {P:Program} {C:Ctx} {call:Asb} {ops:Array Oper}
theorem Aa.frzArgs {f:FuncId}{args:List AV}{σ:St}{R:AV→St→Prop}(h:Aa P f (frzL args) σ R):Aa P f args σ R:=
 ⟨h.1,fun M vs hM hv=>h.2 M vs hM (Af.frz args vs hv)⟩
end
def F5 (fr:List AV):List (Nat×AV)→List AV
 |[]=>fr
 |(i,a)::D=>F5 (fr.set i a) D
def Im (σ:St):List (Nat×Ob)→St
 |[]=>σ
 |(t,ob)::S=>Im (σ.put t ob) S
theorem J8 {fr:List AV}:F5 fr []=fr:=nr rfl
theorem H6 {fr:List AV}{i:Nat}{a:AV}{D:List (Nat×AV)}:F5 fr ((i,a)::D)=F5 (fr.set i a) D:=nr rfl
theorem W0 {σ:St}:Im σ []=σ:=nr rfl
theorem Mc {σ:St}{t:Nat}{ob:Ob}{S:List (Nat×Ob)}:Im σ ((t,ob)::S)=Im (σ.put t ob) S:=nr rfl
theorem Asd (σ:St)(t:Nat)(ob:Ob):σ.length≤(σ.put t ob).length:=by unfold St.put;split<;>simp
theorem W2:∀ (S:List (Nat×Ob)) (σ:St),σ.length≤(Im σ S).length
 |[],σ=>QH _
 |(t,ob)::S,σ=>by rw[Mc];exact ZO (Asd σ t ob) (W2 S _)
theorem Ag7 {P:Program}{C:Ctx}{fr:List AV}{σ:St}{Q:Exit→List AV→St→Prop}{c:Code}{X:Type}(D:X→List (Nat×AV))(S:X→List (Nat×Ob))(m:X→Nat)(x0:X)(h2:L0 fr σ (F5 fr (D x0)) (Im σ (S x0)))
 (h3:∀ x,AWp P C (Dh P C) c (F5 fr (D x)) (Im σ (S x)) (Rl (fun x=>(F5 fr (D x),Im σ (S x))) m x Q)):AWp P C (Dh P C) (.loop c) fr σ Q:=
 O6 (fun x=>(F5 fr (D x),Im σ (S x))) m x0 (fun x=>W2 _ _) h2 h3
theorem Hs {P:Program}{C:Ctx}{fr:List AV}{σ:St}{Q:Exit→List AV→St→Prop}{c:Code}(n:Nat)(D:Nat→List (Nat×AV))(S:Nat→List (Nat×Ob))(I:Nat→Prop)(h0:I 0)(h2:L0 fr σ (F5 fr (D 0)) (Im σ (S 0)))
 (h3:∀ i,(hi:i≤n)→(hI:I i)→AWp P C (Dh P C) c (F5 fr (D i)) (Im σ (S i)) (Rl (fun x:{ i:Nat // i≤n∧I i }=>(F5 fr (D x.1),Im σ (S x.1))) (fun x=>n - x.1) ⟨i,hi,hI⟩ Q)):AWp P C (Dh P C) (.loop c) fr σ Q:=
 Ag7 (X:={ i:Nat // i≤n∧I i }) (fun x=>D x.1) (fun x=>S x.1) (fun x=>n - x.1) ⟨0,by omega,h0⟩ h2 fun ⟨i,hi,hI⟩=>h3 i hi hI
