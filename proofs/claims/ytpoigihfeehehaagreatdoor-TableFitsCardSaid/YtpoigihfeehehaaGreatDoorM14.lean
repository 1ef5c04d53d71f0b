/- A contract at a small state, used at a great one: the objects get other numbers. Answers that hold rows with a right to append, given as data. Runs of the abstract machine, reckoned out. Loops over the frame as it stands: only the slots that a round sets are named. -/
import Derived.Test.YtpoigihfeehehaaGreatDoorM12
set_option linter.all false
set_option maxRecDepth 100000
set_option maxHeartbeats 32000000
namespace Go.Proofs.YtpoigihfeehehaaGreatDoor
open Go.RowKit
mutual
def Nq (g:Nat→Nat):AV→AV
 | .any=>.any
 | .p x=>.p x
 | .own t e ls=>.own (g t) e ls
 | .nown t e ls=>.nown (g t) e ls
 | .ip c o=>.ip c o
 | .mp t e i o=>.mp (g t) e i o
 | .ms t e i n=>.ms (g t) e i n
 | .mmap t=>.mmap (g t)
 | .raw t e k=>.raw (g t) e k
 | .fn f us vs=>.fn f (R8 g us) (R8 g vs)
 | .agg l=>.agg (R8 g l)
 | .tup l=>.tup (R8 g l)
 | .dyn T a=>.dyn T (Nq g a)
 | .bs t e i o n=>.bs (g t) e i o n
def R8 (g:Nat→Nat):List AV→List AV
 |[]=>[]
 |a::l=>Nq g a::R8 g l
end
def Pe (g:Nat→Nat):Ob→Ob
 | .row e ls=>.row e (ls.map (R8 g))
 | .right E n=>.right E n
 | .nright E n=>.nright E n
 | .map es=>.map (es.map fun q=>(q.1,Nq g q.2))
def Y7 (n:Nat):Ob→Bool
 | .row _ ls=>ls.all (Cj n)
 | .map es=>es.all fun q=>A3 n q.2
 |_=>true
theorem Ts (g:Nat→Nat):∀ (l:List AV) (i:Nat),(R8 g l)[i]? =l[i]?.map (Nq g)
 |[],i=>by simp[R8]
 |a::l,0=>by simp[R8]
 |a::l,i+1=>by simpa [R8]using Ts g l i
theorem Tt (g:Nat→Nat):∀ l:List AV,(R8 g l).length=l.length
 |[]=>rfl
 |a::l=>by simp[R8,Tt g l]
theorem Tu (g:Nat→Nat)(a:AV):leaf (Nq g a)=leaf a:=by cases a<;>rfl
theorem Wv (g:Nat→Nat):∀ l:List AV,(R8 g l).all leaf=l.all leaf
 |[]=>rfl
 |a::l=>by simp[R8,Tu,Wv g l]
theorem L9 {n:Nat}:∀ {l:List AV} {i:Nat} {a:AV},Cj n l=true→l[i]? =some a→A3 n a=true
 |[],i,a,_,h=>by simp at h
 |b::l,0,a,ht,h=>by simp at h;subst h;simp only[Cj,Bool.and_eq_true]at ht;exact ht.1
 |b::l,i+1,a,ht,h=>by simp only[Cj,Bool.and_eq_true]at ht;exact L9 ht.2 (by simpa using h)
structure Ren (g:Nat→Nat)(n:Nat)(M0 M:A2):Prop where
 w:M.w=M0.w
 I:M.I=M0.I
 mu:∀ t,t<n→M.mu (g t)=M0.mu t
 len:∀ t,t<n→M.len (g t)=M0.len t
 cap:∀ t,t<n→M.cap (g t)=M0.cap t
section
variable {g:Nat→Nat} {n:Nat} {M0 M:A2}
mutual
theorem Ag.ren (h:Ren g n M0 M):∀ (a:AV) (u:Value),A3 n a=true→(Ag M (Nq g a) u↔Ag M0 a u)
 | .any,u,ht=>by simp[Ag,Nq]
 | .p x,u,ht=>by simp only[Nq,Ag];rw[h.w,h.I]
 | .own t e ls,u,ht=>by
   simp only[A3,decide_eq_true_eq]at ht
   simp only[Nq,Ag]
   rw[h.w,h.I,h.mu t ht,h.len t ht,h.cap t ht]
 | .nown t e ls,u,ht=>by
   simp only[A3,decide_eq_true_eq]at ht
   simp only[Nq,Ag]
   rw[h.w,h.I,h.mu t ht,h.len t ht,h.cap t ht]
 | .ip c o,u,ht=>by simp only[Nq,Ag];rw[h.w,h.I]
 | .mp t e i o,u,ht=>by
   simp only[A3,decide_eq_true_eq]at ht
   simp only[Nq,Ag]
   rw[h.mu t ht,h.len t ht]
 | .ms t e i m,u,ht=>by
   simp only[A3,decide_eq_true_eq]at ht
   simp only[Nq,Ag]
   rw[h.mu t ht,h.len t ht,h.cap t ht]
 | .raw t e k,u,ht=>by
   simp only[A3,decide_eq_true_eq]at ht
   simp only[Nq,Ag]
   rw[h.mu t ht,h.len t ht,h.cap t ht]
 | .mmap t,u,ht=>by
   simp only[A3,decide_eq_true_eq]at ht
   simp only[Nq,Ag]
   rw[h.mu t ht,h.len t ht]
 | .fn f us vs,u,ht=>by
   simp only[A3,Bool.and_eq_true]at ht
   simp only[Nq,Ag]
   constructor
   ·rintro⟨a,b,h1,h2,h3⟩;exact⟨a,b,h1,(Af.ren h us a ht.1).1 h2,(Af.ren h vs b ht.2).1 h3⟩
   ·rintro⟨a,b,h1,h2,h3⟩;exact⟨a,b,h1,(Af.ren h us a ht.1).2 h2,(Af.ren h vs b ht.2).2 h3⟩
 | .agg l,u,ht=>by
   simp only[A3]at ht
   simp only[Nq,Ag,Wv]
   constructor
   ·rintro⟨h0,a,h1,h2⟩;exact⟨h0,a,h1,(Af.ren h l a ht).1 h2⟩
   ·rintro⟨h0,a,h1,h2⟩;exact⟨h0,a,h1,(Af.ren h l a ht).2 h2⟩
 | .tup l,u,ht=>by
   simp only[A3]at ht
   simp only[Nq,Ag]
   constructor
   ·rintro⟨a,h1,h2⟩;exact⟨a,h1,(Af.ren h l a ht).1 h2⟩
   ·rintro⟨a,h1,h2⟩;exact⟨a,h1,(Af.ren h l a ht).2 h2⟩
 | .dyn T a,u,ht=>by
   simp only[A3]at ht
   simp only[Nq,Ag]
   constructor
   ·rintro⟨v,h1,h2⟩;exact⟨v,h1,(Ag.ren h a v ht).1 h2⟩
   ·rintro⟨v,h1,h2⟩;exact⟨v,h1,(Ag.ren h a v ht).2 h2⟩
 | .bs t e i o m,u,ht=>by
   simp only[A3,decide_eq_true_eq]at ht
   simp only[Nq,Ag]
   rw[h.mu t ht,h.len t ht]
theorem Af.ren (h:Ren g n M0 M):∀ (l:List AV) (us:List Value),Cj n l=true→(Af M (R8 g l) us↔Af M0 l us)
 |[],us,ht=>by simp[Af,R8]
 |a::l,us,ht=>by
  simp only[Cj,Bool.and_eq_true]at ht
  simp only[R8,Af]
  constructor
  ·rintro⟨u,us',h1,h2,h3⟩;exact⟨u,us',h1,(Ag.ren h a u ht.1).1 h2,(Af.ren h l us' ht.2).1 h3⟩
  ·rintro⟨u,us',h1,h2,h3⟩;exact⟨u,us',h1,(Ag.ren h a u ht.1).2 h2,(Af.ren h l us' ht.2).2 h3⟩
end
theorem Cs.ren (h:Ren g n M0 M){cur:Array Value}{e:Nat}{ls:List (List AV)}(ht:ls.all (Cj n)=true):Cs M cur e (ls.map (R8 g))↔Cs M0 cur e ls:=by
 have htc:∀ i c,ls[i]? =some c→Cj n c=true:=fun i c hc=>List.all_eq_true.1 ht c (List.mem_of_getElem? hc)
 constructor
 ·intro hr i c hc
  obtain⟨h1,h2⟩:=hr i (R8 g c) (by simp[hc])
  refine⟨by rw[Tt]at h1;exact h1,fun j a ha=> ?_⟩
  obtain⟨h3,u,h4,h5⟩:=h2 j (Nq g a) (by rw[Ts,ha];rfl)
  exact⟨by rw[Tu]at h3;exact h3,u,h4,(Ag.ren h a u (L9 (htc i c hc) ha)).1 h5⟩
 ·intro hr i c hc
  rw[List.getElem?_map]at hc
  cases hi:ls[i]? with
  |none=>rw[hi]at hc;simp at hc
  |some c0=>
   rw[hi]at hc;simp at hc;subst hc
   obtain⟨h1,h2⟩:=hr i c0 hi
   refine⟨by rw[Tt];exact h1,fun j a ha=> ?_⟩
   rw[Ts]at ha
   cases hj:c0[j]? with
   |none=>rw[hj]at ha;simp at ha
   |some a0=>
    rw[hj]at ha;simp at ha;subst ha
    obtain⟨h3,u,h4,h5⟩:=h2 j a0 hj
    exact⟨by rw[Tu];exact h3,u,h4,(Ag.ren h a0 u (L9 (htc i c0 hi) hj)).2 h5⟩
theorem Fz.ren (h:Ren g n M0 M){cur:Array MapEntry}{es:List (Value×AV)}(ht:es.all (fun q=>A3 n q.2)=true):Fz M cur (es.map fun q=>(q.1,Nq g q.2))↔Fz M0 cur es:=by
 constructor
 ·rintro⟨h1,h2⟩
  refine⟨by simpa using h1,fun i q hq=> ?_⟩
  obtain⟨e,k1,k2,k3⟩:=h2 i (q.1,Nq g q.2) (by simp[hq])
  exact⟨e,k1,k2,(Ag.ren h _ _ (List.all_eq_true.1 ht q (List.mem_of_getElem? hq))).1 k3⟩
 ·rintro⟨h1,h2⟩
  refine⟨by simpa using h1,fun i q hq=> ?_⟩
  rw[List.getElem?_map]at hq
  cases hi:es[i]? with
  |none=>rw[hi]at hq;simp at hq
  |some q0=>
   rw[hi]at hq;simp at hq;subst hq
   obtain⟨e,k1,k2,k3⟩:=h2 i q0 hi
   exact⟨e,k1,k2,(Ag.ren h _ _ (List.all_eq_true.1 ht q0 (List.mem_of_getElem? hi))).2 k3⟩
theorem Ls.ren (h:Ren g n M0 M){t:Nat}(htn:t<n){ob:Ob}(ht:Y7 n ob=true):Ls M (g t) (Pe g ob)↔Ls M0 t ob:=by
 cases ob with
 |row e ls=>
  simp only[Pe,Ls,Y7]at ht ⊢
  rw[h.len t htn,h.mu t htn,h.w,h.I,h.cap t htn]
  constructor
  ·rintro⟨h1,b,cur,T,h2,h3,h4,h5,h6⟩;exact⟨h1,b,cur,T,h2,h3,h4,(Cs.ren h ht).1 h5,h6⟩
  ·rintro⟨h1,b,cur,T,h2,h3,h4,h5,h6⟩;exact⟨h1,b,cur,T,h2,h3,h4,(Cs.ren h ht).2 h5,h6⟩
 |map es=>
  simp only[Pe,Ls,Y7]at ht ⊢
  rw[h.len t htn,h.mu t htn,h.w,h.I]
  constructor
  ·rintro⟨h1,b,cur,T,h2,h3,h4,h5⟩;exact⟨h1,b,cur,T,h2,h3,h4,(Fz.ren h ht).1 h5⟩
  ·rintro⟨h1,b,cur,T,h2,h3,h4,h5⟩;exact⟨h1,b,cur,T,h2,h3,h4,(Fz.ren h ht).2 h5⟩
 |right E m=>
  simp only[Pe,Ls,Ha]
  rw[h.len t htn,h.mu t htn,h.w,h.I,h.cap t htn]
 |nright E m=>
  simp only[Pe,Ls,Ha]
  rw[h.len t htn,h.mu t htn,h.w,h.I,h.cap t htn]
end
def Nr (g:Nat→Nat):List Nat→St→St→St
 |s::ts,σ,o::σ0=>Nr g ts (σ.set s (o.map (Pe g))) σ0
 |_,σ,_=>σ
theorem Pf (g:Nat→Nat):∀ (ts:List Nat) (σ σ0:St),(Nr g ts σ σ0).length=σ.length
 |[],σ,σ0=>rfl
 |s::ts,σ,[]=>rfl
 |s::ts,σ,o::σ0=>by rw[Nr,Pf g ts];simp
theorem Jb (g:Nat→Nat):∀ (ts:List Nat) (σ σ0:St) (s:Nat),s∉ts→(Nr g ts σ σ0)[s]? =σ[s]?
 |[],σ,σ0,s,h=>rfl
 |s'::ts,σ,[],s,h=>rfl
 |s'::ts,σ,o::σ0,s,h=>by
  simp only[List.mem_cons,not_or]at h
  rw[Nr,Jb g ts _ _ s h.2,List.getElem?_set,if_neg (fun e=>h.1 e.symm)]
theorem Ww (g:Nat→Nat):∀ (ts:List Nat) (σ σ0:St) (t s:Nat),ts.Nodup→(∀ s∈ts,s<σ.length)→ts[t]? =some s→t<σ0.length→(Nr g ts σ σ0)[s]? =σ0[t]?.map (·.map (Pe g))
 |[],σ,σ0,t,s,hn,hl,ht,_=>by simp at ht
 |s'::ts,σ,[],t,s,hn,hl,ht,h0=>by simp at h0
 |s'::ts,σ,o::σ0,0,s,hn,hl,ht,h0=>by
  simp at ht;subst ht
  rw[List.nodup_cons]at hn
  rw[Nr,Jb g ts _ _ s' hn.1,List.getElem?_set,if_pos rfl,if_pos (hl s' (by simp))]
  simp
 |s'::ts,σ,o::σ0,t+1,s,hn,hl,ht,h0=>by
  rw[List.nodup_cons]at hn
  rw[Nr,Ww g ts _ σ0 t s hn.2 (fun s hs=>by simpa using hl s (by simp[hs])) (by simpa using ht) (by simpa using h0)]
  simp
open Classical in
theorem Aa.at {P:Program}{f:FuncId}{args0:List AV}{σ0:St}{R0:AV→St→Prop}(h0:Aa P f args0 σ0 R0)(ts:List Nat)(σ:St)(hn:ts.Nodup)(hl:ts.length=σ0.length)
 (hσ:∀ t s,ts[t]? =some s→∃ ob,σ0.at t ob∧Y7 σ0.length ob=true∧σ.at s (Pe (fun t=>ts.getD t 0) ob)) (ha:Cj σ0.length args0=true)
 (hR:∀ r s,R0 r s→A3 σ0.length r=true∧∀ t ob,t<σ0.length→s.at t ob→Y7 σ0.length ob=true):
 Aa P f (R8 (fun t=>ts.getD t 0) args0) σ fun r σ'=>∃ r0 σ0',R0 r0 σ0'∧r=Nq (fun t=>ts.getD t 0) r0∧σ'=Nr (fun t=>ts.getD t 0) ts σ σ0':=by
 refine⟨h0.1,fun M vs hM hv=> ?_⟩
 generalize hgd:(fun t=>ts.getD t 0)=g at*
 generalize hnd:σ0.length=n at*
 have hgt:∀ t,t<n→ts[t]? =some (g t):=fun t ht=>by
  rw[← hgd]
  have:t<ts.length:=by omega
  simp[this]
 have hinj:∀ t t',t<n→t'<n→g t=g t'→t=t':=fun t t' ht ht' e=>by
  have h1:=hgt t ht
  have h2:=hgt t' ht'
  rw[e]at h1
  exact (List.getElem?_inj (by omega) hn).1 (h1.trans h2.symm)
 have hob:∀ t,t<n→∃ ob,σ0.at t ob∧Y7 n ob=true∧σ.at (g t) (Pe g ob):=fun t ht=>hσ t (g t) (hgt t ht)
 have hat:∀ t ob,σ0.at t ob→t<n∧Y7 n ob=true∧σ.at (g t) (Pe g ob):=fun t ob h=>by
  have ht:t<n:=by rw[← hnd];exact (List.getElem?_eq_some_iff.1 h).1
  obtain⟨ob',h1,h2,h3⟩:=hob t ht
  have:ob'=ob:=by unfold St.at at h h1;rw[h]at h1;simpa using h1.symm
  subst this
  exact⟨ht,h2,h3⟩
 have hgl:∀ t,t<n→g t<σ.length:=fun t ht=>by
  obtain⟨ob,_,_,h⟩:=hob t ht
  exact (List.getElem?_eq_some_iff.1 h).1
 let M0:A2:={ w:=M.w,I:=M.I,mu:=fun t=>if t<n then M.mu (g t)else none,len:=fun t=>if t<n then M.len (g t)else none,cap:=fun t=>M.cap (g t) }
 have hren:Ren g n M0 M:=⟨rfl,rfl,fun t ht=>by simp[M0,ht],fun t ht=>by simp[M0,ht],fun t ht=>rfl⟩
 have hmu0:∀ t,t<n→M0.mu t=M.mu (g t):=fun t ht=>by simp[M0,ht]
 have hM0:An M0 σ0:=by
  refine⟨fun t ob ht=> ?_,fun t t' ob ob' b h1 h2 h3 h4=> ?_,fun t ht=> ?_,fun t b hb=> ?_,hM.imm,fun x hx=> ?_⟩
  ·obtain⟨h1,h2,h3⟩:=hat t ob ht
   exact (Ls.ren hren h1 h2).1 (hM.obj _ _ h3)
  ·obtain⟨g1,_,g2⟩:=hat t ob h1
   obtain⟨g3,_,g4⟩:=hat t' ob' h2
   rw[hmu0 t g1]at h3
   rw[hmu0 t' g3]at h4
   exact hinj t t' g1 g3 (hM.inj _ _ _ _ b g2 g4 h3 h4)
  ·have:¬ t<n:=by omega
   simp[M0,this]
  ·by_cases ht:t<n
   ·rw[hmu0 t ht]at hb;exact hM.lt _ b hb
   ·simp[M0,ht]at hb
  ·obtain⟨cs,T,g1,g2,g3⟩:=hM.glob x hx
   refine⟨cs,T,g1,g2,fun t ob ht hb=> ?_⟩
   obtain⟨k1,_,k2⟩:=hat t ob ht
   rw[hmu0 t k1]at hb
   exact g3 _ _ k2 hb
 refine (h0.2 M0 vs hM0 ((Af.ren hren _ _ ha).1 hv)).mono ?_
 rintro e w' ⟨v,r0,σ1,M1,rfl,rfl,hE,hM1,hr,hlen,hR0⟩
 obtain⟨hrt,hot⟩:=hR r0 σ1 hR0
 have hmem:∀ s,s∈ts↔∃ t,t<n∧g t=s:=fun s=>by
  constructor
  ·intro h
   obtain⟨t,ht⟩:=List.mem_iff_getElem?.1 h
   have htn:t<n:=by have:=(List.getElem?_eq_some_iff.1 ht).1;omega
   have:=hgt t htn
   rw[ht]at this
   exact⟨t,htn,by simpa using this.symm⟩
  ·rintro⟨t,ht,rfl⟩
   exact List.mem_of_getElem? (hgt t ht)
 let pick:Nat→Nat:=fun s=>if h:∃ t,t<n∧g t=s then Classical.choose h else 0
 have hpick:∀ t,t<n→pick (g t)=t:=fun t ht=>by
  have h:∃ t',t'<n∧g t'=g t:=⟨t,ht,rfl⟩
  have h2:=Classical.choose_spec h
  simp only[pick,h,dif_pos]
  exact hinj _ _ h2.1 ht h2.2
 let M':A2:={ w:=M1.w,I:=M1.I,mu:=fun s=>if s∈ts then M1.mu (pick s)else M.mu s,len:=fun s=>if s∈ts then M1.len (pick s)else M.len s,cap:=fun s=>if s∈ts then M1.cap (pick s)else M.cap s }
 have hin:∀ t,t<n→g t∈ts:=fun t ht=>(hmem _).2 ⟨t,ht,rfl⟩
 have hren':Ren g n M1 M':=⟨rfl,rfl,fun t ht=>by simp only[M',hin t ht,if_true,hpick t ht],fun t ht=>by simp only[M',hin t ht,if_true,hpick t ht],fun t ht=>by simp only[M',hin t ht,if_true,hpick t ht]⟩
 have hmu':∀ s,s∉ts→M'.mu s=M.mu s∧M'.len s=M.len s∧M'.cap s=M.cap s:=fun s hs=>by simp[M',hs]
 have hL:Later M M':=by
  refine⟨fun s b h1 h2=> ?_,fun s m h1=> ?_,hE.imm,hE.cell⟩
  ·by_cases hs:s∈ts
   ·obtain⟨t,ht,rfl⟩:=(hmem s).1 hs
    rw[hren'.mu t ht,hren'.len t ht,hren'.cap t ht,hren.cap t ht]
    exact hE.mu t b (by rw[hmu0 t ht];exact h1) (by rw[← hren.len t ht];exact h2)
   ·rw[(hmu' s hs).1,(hmu' s hs).2.1];exact⟨h1,h2,(hmu' s hs).2.2⟩
  ·by_cases hs:s∈ts
   ·obtain⟨t,ht,rfl⟩:=(hmem s).1 hs
    obtain⟨m',h3,h4,h5⟩:=hE.own t m (by rw[← hren.len t ht];exact h1)
    refine⟨m',by rw[hren'.len t ht];exact h3,h4,fun e=> ?_⟩
    rw[hren'.mu t ht,hren'.cap t ht,hren.mu t ht,hren.cap t ht]
    exact h5 e
   ·exact⟨m,by rw[(hmu' s hs).2.1];exact h1,Nat.le_refl _,fun _=>⟨(hmu' s hs).1,(hmu' s hs).2.2⟩⟩
 have hkeep:∀ b,b<M.w.heap.size→(∀ t ob,σ0.at t ob→M0.mu t≠some b)→M1.w.heap[b]? =M.w.heap[b]? ∧∀ o,M1.I b o→M.I b o:=fun b hb hk=>hE.keep b hb hk
 have hnew:∀ t ob b,σ1.at t ob→M1.mu t=some b→M.w.heap.size≤b∨∃ t0 ob0,σ0.at t0 ob0∧M0.mu t0=some b:=fun t ob b h1 h2=>hE.new t ob b h1 h2
 have hatS:∀ s ob,(Nr g ts σ σ1).at s ob→(∃ t ob0,t<n∧g t=s∧σ1.at t ob0∧ob=Pe g ob0)∨(s∉ts∧σ.at s ob):=fun s ob h=>by
  by_cases hs:s∈ts
  ·obtain⟨t,ht,rfl⟩:=(hmem s).1 hs
   left
   have:=Ww g ts σ σ1 t (g t) hn (fun s hs=>by obtain⟨t,ht,rfl⟩:=(hmem s).1 hs;exact hgl t ht) (hgt t ht) (by omega)
   unfold St.at at h
   rw[this]at h
   cases h1:σ1[t]? with
   |none=>rw[h1]at h;simp at h
   |some o=>
    rw[h1]at h
    cases o with
    |none=>simp at h
    |some ob0=>simp at h;exact⟨t,ob0,ht,rfl,h1,h.symm⟩
  ·right
   unfold St.at at h
   rw[Jb g ts σ σ1 s hs]at h
   exact⟨hs,h⟩
 have hblk:∀ s ob b,s∉ts→σ.at s ob→M.mu s=some b→∀ t ob,σ0.at t ob→M0.mu t≠some b:=fun s ob b hs hso hb t ob' ht hb'=>by
  obtain⟨g1,_,g2⟩:=hat t ob' ht
  rw[hmu0 t g1]at hb'
  exact hs ((hmem s).2 ⟨t,g1,hM.inj _ _ _ _ b g2 hso hb' hb⟩)
 have hE':Ext M σ M' (Nr g ts σ σ1):=by
  refine⟨hL.mu,hL.own,hL.imm,hL.cell,fun b hb hk=>hkeep b hb fun t ob ht=> ?_,fun s ob b h1 h2=> ?_,hE.size,hE.os,hE.tape,hE.output⟩
  ·obtain⟨g1,_,g2⟩:=hat t ob ht
   rw[hmu0 t g1];exact hk _ _ g2
  ·rcases hatS s ob h1 with⟨t,ob0,ht,rfl,h3,_⟩|⟨hs,h3⟩
   ·rw[hren'.mu t ht]at h2
    rcases hnew t ob0 b h3 h2 with h4|⟨t0,ob1,h4,h5⟩
    ·exact .inl h4
    ·obtain⟨g1,_,g2⟩:=hat t0 ob1 h4
     rw[hmu0 t0 g1]at h5
     exact .inr ⟨_,_,g2,h5⟩
   ·rw[(hmu' s hs).1]at h2
    exact .inr ⟨s,ob,h3,h2⟩
 refine⟨v,Nq g r0,Nr g ts σ σ1,M',rfl,rfl,hE',⟨fun s ob h=> ?_,fun s s' ob ob' b h1 h2 h3 h4=> ?_,fun s hs=> ?_,fun s b hb=> ?_,hM1.imm,hM.glob.ext hE'⟩,(Ag.ren hren' _ _ hrt).2 hr,Nat.le_of_eq (Pf g ts σ σ1).symm,r0,σ1,hR0,rfl,rfl⟩
 ·rcases hatS s ob h with⟨t,ob0,ht,rfl,h3,rfl⟩|⟨hs,h3⟩
  ·exact (Ls.ren hren' ht (hot t ob0 ht h3)).2 (hM1.obj t ob0 h3)
  ·exact (hM.obj s ob h3).later hL (hmu' s hs).1 (hmu' s hs).2.1 (hmu' s hs).2.2 fun b hb=>hkeep b (hM.lt s b hb) (hblk s ob b hs h3 hb)
 ·rcases hatS s ob h1 with⟨t,ob0,ht,rfl,g1,_⟩|⟨hs,g1⟩
  ·rw[hren'.mu t ht]at h3
   rcases hatS s' ob' h2 with⟨t',ob0',ht',rfl,g2,_⟩|⟨hs',g2⟩
   ·rw[hren'.mu t' ht']at h4
    rw[hM1.inj t t' ob0 ob0' b g1 g2 h3 h4]
   ·rw[(hmu' s' hs').1]at h4
    rcases hnew t ob0 b g1 h3 with h5|⟨t0,ob1,h5,h6⟩
    ·have:=hM.lt s' b h4;omega
    ·exact absurd h6 (hblk s' ob' b hs' g2 h4 t0 ob1 h5)
  ·rw[(hmu' s hs).1]at h3
   rcases hatS s' ob' h2 with⟨t',ob0',ht',rfl,g2,_⟩|⟨hs',g2⟩
   ·rw[hren'.mu t' ht']at h4
    rcases hnew t' ob0' b g2 h4 with h5|⟨t0,ob1,h5,h6⟩
    ·have:=hM.lt s b h3;omega
    ·exact absurd h6 (hblk s ob b hs g1 h3 t0 ob1 h5)
   ·rw[(hmu' s' hs').1]at h4
    exact hM.inj s s' ob ob' b g1 g2 h3 h4
 ·rw[Pf]at hs
  have hs':s∉ts:=fun h=>by obtain⟨t,ht,rfl⟩:=(hmem s).1 h;have:=hgl t ht;omega
  rw[(hmu' s hs').1,(hmu' s hs').2.1];exact hM.fresh s hs
 ·by_cases hs:s∈ts
  ·obtain⟨t,ht,rfl⟩:=(hmem s).1 hs
   rw[hren'.mu t ht]at hb;exact hM1.lt t b hb
  ·rw[(hmu' s hs).1]at hb;exact Nat.lt_of_lt_of_le (hM.lt s b hb) hE.size
end Go.Proofs.YtpoigihfeehehaaGreatDoor
namespace Go.Proofs.YtpoigihfeehehaaGreatDoor
open Go.RowKit
mutual
def Tv:AV→AV
 | .own t e ls=>.p (.sl e ls)
 | .nown t e ls=>.p (Sx e ls)
 | .agg l=>.agg (frzL l)
 | .tup l=>.tup (frzL l)
 |a=>a
def frzL:List AV→List AV
 |[]=>[]
 |a::l=>Tv a::frzL l
end
theorem Akq (a:AV):leaf (Tv a)=leaf a:=by cases a<;>simp[Tv,leaf]
theorem Wx:∀ l:List AV,(frzL l).all leaf=l.all leaf
 |[]=>rfl
 |a::l=>by simp[frzL,Akq,Wx l]
mutual
theorem Ag.frz {M:A2}:∀ (a:AV) (u:Value),Ag M a u→Ag M (Tv a) u
 | .own t e ls,u,h=>by simp only[Tv,Ag];exact Ho (M:=M) (x:=.own t e ls) rfl h
 | .nown t e ls,u,h=>by simp only[Tv,Ag];exact Ho (M:=M) (x:=.nown t e ls) rfl h
 | .agg l,u,h=>by
   simp only[Tv,Ag,Wx]at h ⊢
   obtain⟨h0,us,h1,h2⟩:=h
   exact⟨h0,us,h1,Af.frz l us h2⟩
 | .tup l,u,h=>by
   simp only[Tv,Ag]at h ⊢
   obtain⟨us,h1,h2⟩:=h
   exact⟨us,h1,Af.frz l us h2⟩
 | .any,u,h=>h
 | .p x,u,h=>h
 | .ip c o,u,h=>h
 | .mp t e i o,u,h=>h
 | .ms t e i n,u,h=>h
 | .mmap t,u,h=>h
 | .raw t e k,u,h=>h
 | .fn f us vs,u,h=>h
 | .dyn T a,u,h=>h
 | .bs ..,u,h=>h
theorem Af.frz {M:A2}:∀ (l:List AV) (us:List Value),Af M l us→Af M (frzL l) us
 |[],us,h=>by simpa [frzL,Af]using h
 |a::l,us,h=>by
  simp only[frzL,Af]at h ⊢
  obtain⟨u,us',h1,h2,h3⟩:=h
  exact⟨u,us',h1,Ag.frz a u h2,Af.frz l us' h3⟩
end
theorem Aa.frz {P:Program}{f:FuncId}{args:List AV}{σ:St}{R:AV→St→Prop}(h:Aa P f args σ fun r s=>R (Tv r) s):Aa P f args σ R:=
 ⟨h.1,fun M vs hM hv=>(h.2 M vs hM hv).mono fun e w' ⟨v,r,s,M',h1,h2,h3,h4,h5,h6,h7⟩=>⟨v,Tv r,s,M',h1,h2,h3,h4,Ag.frz r v h5,h6,h7⟩⟩
theorem Aa.pureF {P:Program}{f:FuncId}{args:List AV}{R:AV→Prop}(h:Aa P f args [] fun r _=>A3 0 (Tv r)=true∧R (Tv r))(ha:Cj 0 args=true)(σ:St):Aa P f args σ fun r σ'=>σ'=σ∧R r:=
 Aa.pure (R:=R) (Aa.frz (R:=fun r _=>A3 0 r=true∧R r) h) ha σ
def i64R (n:Int):Prop:= -9223372036854775808≤n∧n≤9223372036854775807
instance (n:Int):Decidable (i64R n):=by unfold i64R;infer_instance
theorem wz0:IntKind.i64.wrap 0=0:=by decide
theorem nnI (i:Nat):((0:Int)≤(i:Int))=True:=eq_true (by omega)
theorem dT {i n:Nat}(h:i<n):decide ((i:Int)<(n:Int))=true:=by simp;omega
theorem dF {i n:Nat}(h:¬ i<n):decide ((i:Int)<(n:Int))=false:=by simp;omega
theorem wI (i:Nat)(h:i<9000000000000000000):IntKind.i64.wrap ((i:Int)+1)=((i+1:Nat):Int):=by rw[wrap_i64 (by omega) (by omega)];simp
theorem lM {n:Nat}(h:n≤9000000000000000000):(n≤maxLen)=True:=eq_true (by unfold maxLen;omega)
theorem tL {n:Nat}(h:n≤140737488355328):(n≤140737488355328)=True:=eq_true h
theorem Aa.eq {P:Program}{f:FuncId}{args:List AV}{σ:St}{a:AV}{R:AV→St→Prop}(h:Aa P f args σ fun r s=>s=σ∧r=a)(hk:R a σ):Aa P f args σ R:=h.mono fun r s e=>by
 obtain⟨rfl,rfl⟩:=e
 exact hk
abbrev Ar4:=FuncId→List AV→St→Option (List (AV×St))
section
variable {P:Program} {C:Ctx} {call:Ar4} {ops:Array Oper}
theorem Aa.frzArgs {f:FuncId}{args:List AV}{σ:St}{R:AV→St→Prop}(h:Aa P f (frzL args) σ R):Aa P f args σ R:=
 ⟨h.1,fun M vs hM hv=>h.2 M vs hM (Af.frz args vs hv)⟩
end
def F8 (fr:List AV):List (Nat×AV)→List AV
 |[]=>fr
 |(i,a)::D=>F8 (fr.set i a) D
def Is (σ:St):List (Nat×Ob)→St
 |[]=>σ
 |(t,ob)::S=>Is (σ.put t ob) S
theorem Kf {fr:List AV}:F8 fr []=fr:=nr rfl
theorem H9 {fr:List AV}{i:Nat}{a:AV}{D:List (Nat×AV)}:F8 fr ((i,a)::D)=F8 (fr.set i a) D:=nr rfl
theorem Wy {σ:St}:Is σ []=σ:=nr rfl
theorem Ma {σ:St}{t:Nat}{ob:Ob}{S:List (Nat×Ob)}:Is σ ((t,ob)::S)=Is (σ.put t ob) S:=nr rfl
theorem Ar5 (σ:St)(t:Nat)(ob:Ob):σ.length≤(σ.put t ob).length:=by unfold St.put;split<;>simp
theorem Wz:∀ (S:List (Nat×Ob)) (σ:St),σ.length≤(Is σ S).length
 |[],σ=>Nat.le_refl _
 |(t,ob)::S,σ=>by rw[Ma];exact Nat.le_trans (Ar5 σ t ob) (Wz S _)
theorem Agu {P:Program}{C:Ctx}{fr:List AV}{σ:St}{Q:Exit→List AV→St→Prop}{c:Code}{X:Type}(D:X→List (Nat×AV))(S:X→List (Nat×Ob))(m:X→Nat)(x0:X)(h2:Ly fr σ (F8 fr (D x0)) (Is σ (S x0)))
 (h3:∀ x,AWp P C (E4 P C) c (F8 fr (D x)) (Is σ (S x)) (Rs (fun x=>(F8 fr (D x),Is σ (S x))) m x Q)):AWp P C (E4 P C) (.loop c) fr σ Q:=
 O4 (fun x=>(F8 fr (D x),Is σ (S x))) m x0 (fun x=>Wz _ _) h2 h3
theorem Kg {P:Program}{C:Ctx}{fr:List AV}{σ:St}{Q:Exit→List AV→St→Prop}{c:Code}(n:Nat)(D:Nat→List (Nat×AV))(S:Nat→List (Nat×Ob))(I:Nat→Prop)(h0:I 0)(h2:Ly fr σ (F8 fr (D 0)) (Is σ (S 0)))
 (h3:∀ i,(hi:i≤n)→(hI:I i)→AWp P C (E4 P C) c (F8 fr (D i)) (Is σ (S i)) (Rs (fun x:{ i:Nat // i≤n∧I i }=>(F8 fr (D x.1),Is σ (S x.1))) (fun x=>n - x.1) ⟨i,hi,hI⟩ Q)):AWp P C (E4 P C) (.loop c) fr σ Q:=
 Agu (X:={ i:Nat // i≤n∧I i }) (fun x=>D x.1) (fun x=>S x.1) (fun x=>n - x.1) ⟨0,by omega,h0⟩ h2 fun ⟨i,hi,hI⟩=>h3 i hi hI
end Go.Proofs.YtpoigihfeehehaaGreatDoor
