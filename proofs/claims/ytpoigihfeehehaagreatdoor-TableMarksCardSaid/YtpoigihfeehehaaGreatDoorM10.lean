/- Regions that draw their order, on the abstract machine: by a plan. -/
import Derived.Test.YtpoigihfeehehaaGreatDoorM09
import Derived.Deep.RegionHeld3
set_option linter.all false
set_option maxRecDepth 100000
set_option maxHeartbeats 32000000
namespace Go.Proofs.YtpoigihfeehehaaGreatDoor
open Go.RowKit
def Em:List Nat→St→St
 |[],σ=>σ
 |t::L,σ=>Em L (σ.set t none)
def Bu:List Nat→St→St→St
 |[],_,σ'=>σ'
 |t::L,σ,σ'=>match σ[t]? with
  |some (some (.row e ls))=>(Bu L (σ.set t none) σ').set t (some (.row e ls))
  |_=>(Bu L (σ.set t none) σ').set t none
theorem O0:∀ (L:List Nat) (σ:St),(Em L σ).length=σ.length
 |[],σ=>rfl
 |t::L,σ=>by rw[Em,O0 L];simp
theorem Gt:∀ (L:List Nat) (σ σ':St),(Bu L σ σ').length=σ'.length
 |[],σ,σ'=>rfl
 |t::L,σ,σ'=>by
  rw[Bu]
  split<;>simp[Gt L]
theorem Al.mask {M:Az}:∀ (L:List Nat) {σ:St},Al M σ→Al M (Em L σ)
 |[],σ,h=>h
 |t::L,σ,h=>Al.mask L (h.forget t)
theorem Y9:∀ (L:List Nat) {σ:St} {t:Nat} {ob:Ob},(Em L σ).at t ob→t∉L∧σ.at t ob
 |[],σ,t,ob,h=>⟨by simp,h⟩
 |s::L,σ,t,ob,h=>by
  obtain⟨h1,h2⟩:=Y9 L (σ:=σ.set s none) h
  obtain⟨h3,h4⟩:=St.at_forget h2
  exact⟨by simp[h3,h1],h4⟩
theorem V4 {M M':Az}{σ τ:St}{t:Nat}(hE:Ext M (σ.set t none) M' τ)(hM':Al M' τ):Ext M σ M' (τ.set t none)∧Al M' (τ.set t none):=by
 refine⟨⟨hE.mu,hE.own,hE.imm,hE.cell,fun b hb hn=>hE.keep b hb fun s ob hs=>hn s ob (St.at_forget hs).2,fun s ob b hs hb=> ?_,hE.size,hE.os,hE.tape,hE.output⟩,hM'.forget t⟩
 rcases hE.new s ob b (St.at_forget hs).2 hb with h|⟨t0,ob0,h1,h2⟩
 ·exact .inl h
 ·exact .inr ⟨t0,ob0,(St.at_forget h1).2,h2⟩
theorem Za {M M':Az}{σ τ:St}{t e:Nat}{ls:List (List AV)}(hM:Al M σ)(ht:σ.at t (.row e ls))(hE:Ext M (σ.set t none) M' τ)(hM':Al M' τ):Ext M σ M' (τ.set t (some (.row e ls)))∧Al M' (τ.set t (some (.row e ls))):=by
 obtain⟨h0,b,cur,T,hb,hh,hI,hr,hcs⟩:=hM.obj t _ ht
 obtain⟨hb',h0',hcq⟩:=hE.mu t b hb h0
 have hbs:=hM.lt t b hb
 obtain⟨hk1,hk2⟩:=hE.keep b hbs fun s ob hs e=>(St.at_forget hs).1 (hM.inj s t _ _ b (St.at_forget hs).2 ht e hb)
 have htl:t<τ.length:=by
  rcases YW t τ.length with h|h
  ·exact h
  ·rw[(hM'.fresh t h).1]at hb';simp at hb'
 have hat:∀ s ob,St.at (τ.set t (some (.row e ls))) s ob→(s=t∧ob= .row e ls)∨(s≠t∧τ.at s ob):=fun s ob hs=>by
  unfold St.at at hs
  rw[QW]at hs
  split at hs
  ·rename_i e;subst e;simp[]at hs;exact .inl ⟨rfl,hs.symm⟩
  ·rename_i hne;exact .inr ⟨fun e=>hne e.symm,hs⟩
 have hno:∀ s ob,s≠t→τ.at s ob→M'.mu s≠some b:=fun s ob hs h1 h2=>by
  rcases hE.new s ob b h1 h2 with h|⟨t0,ob0,h3,h4⟩
  ·omega
  ·exact (St.at_forget h3).1 (hM.inj t0 t _ _ b (St.at_forget h3).2 ht h4 hb)
 have hE':Ext M σ M' (τ.set t (some (.row e ls))):=by
  refine⟨hE.mu,hE.own,hE.imm,hE.cell,fun b hb hn=>hE.keep b hb fun s ob hs=>hn s ob (St.at_forget hs).2,fun s ob c hs hc=> ?_,hE.size,hE.os,hE.tape,hE.output⟩
  rcases hat s ob hs with⟨rfl,rfl⟩|⟨h1,h2⟩
  ·rw[hb']at hc;simp at hc;subst hc;exact .inr ⟨s,_,ht,hb⟩
  ·rcases hE.new s ob c h2 hc with h|⟨t0,ob0,h3,h4⟩
   ·exact .inl h
   ·exact .inr ⟨t0,ob0,(St.at_forget h3).2,h4⟩
 refine⟨hE',⟨fun s ob hs=> ?_,fun s s' ob ob' c hs hs' hc hc'=> ?_,fun s hs=>hM'.fresh s (by simpa using hs),hM'.lt,hM'.imm,hM.glob.ext hE'⟩⟩
 ·rcases hat s ob hs with⟨rfl,rfl⟩|⟨h1,h2⟩
  ·exact⟨h0',b,cur,T,hb',hk1.trans hh,fun o ho=>hI o (hk2 o ho),hr.later hE.later,hcs.trans hcq.symm⟩
  ·exact hM'.obj s ob h2
 ·rcases hat s ob hs with⟨rfl,rfl⟩|⟨h1,h2⟩<;>rcases hat s' ob' hs' with⟨rfl,rfl⟩|⟨h3,h4⟩
  ·rfl
  ·rw[hb']at hc;simp at hc;subst hc;exact (hno s' _ h3 h4 hc').elim
  ·rw[hb']at hc';simp at hc';subst hc';exact (hno s _ h1 h2 hc).elim
  ·exact hM'.inj s s' _ _ c h2 h4 hc hc'
theorem Hp {M M':Az}{σ':St}:∀ (L:List Nat) {σ:St},Al M σ→Ext M (Em L σ) M' σ'→Al M' σ'→Ext M σ M' (Bu L σ σ')∧Al M' (Bu L σ σ')
 |[],σ,hM,hE,hM'=>⟨hE,hM'⟩
 |t::L,σ,hM,hE,hM'=>by
  obtain⟨h1,h2⟩:=Hp L (σ:=σ.set t none) (hM.forget t) hE hM'
  rw[Bu]
  split
  ·rename_i e ls hσ;exact Za hM hσ h1 h2
  ·exact V4 h1 h2
theorem V5 {σ':St}:∀ (L:List Nat) {σ:St} {t e:Nat} {ls:List (List AV)},t∈L→σ.at t (.row e ls)→t<σ'.length→(Bu L σ σ').at t (.row e ls)
 |[],σ,t,e,ls,h,_,_=>by simp at h
 |s::L,σ,t,e,ls,h,ht,hl=>by
  rw[Bu]
  by_cases hst:s=t
  ·subst hst
   have ht':σ[s]? =some (some (.row e ls)):=ht
   rw[ht']
   simp only[St.at]
   rw[QW,if_pos rfl,if_pos (by rw[Gt];exact hl)]
  ·have h1:t∈L:=by
    rcases QP.1 h with h|h
    ·exact (hst h.symm).elim
    ·exact h
   have h2:=V5 (σ':=σ') L (σ:=σ.set s none) h1 (by unfold St.at;rw[QW,if_neg hst];exact ht) hl
   split
   ·unfold St.at at *;rw[QW,if_neg hst];exact h2
   ·unfold St.at at *;rw[QW,if_neg hst];exact h2
theorem Aa.frame {P:Program}{f:FuncId}{args:List AV}{σ:St}{R:AV→St→Prop}(L:List Nat)(h:Aa P f args (Em L σ) R):Aa P f args σ fun r σ'=>∃ σ1,R r σ1∧σ'=Bu L σ σ1:=
 ⟨h.1,fun M vs hM hv=>(h.2 M vs (hM.mask L) hv).mono fun e w' ⟨v,r,s,M',h1,h2,h3,h4,h5,h6,h7⟩=>by
  obtain⟨g1,g2⟩:=Hp L hM h3 h4
  exact⟨v,r,Bu L σ s,M',h1,h2,g1,g2,h5,by rw[Gt];rw[O0]at h6;exact h6,s,h7,rfl⟩⟩
inductive Cq where
 |done
 |det (i:Nat) (p:Cq)
 |act (i:Nat) (p:Cq)
 |fin (i:Nat) (p:Cq)
 |two (i:Nat) (p:Cq) (j:Nat) (q:Cq)
 |three (i:Nat) (p:Cq) (j:Nat) (q:Cq) (k:Nat) (r:Cq)
def Ck:Cq→Nat
 | .done=>0
 | .det _ p=>Ck p+1
 | .act _ p=>Ck p+1
 | .fin _ p=>Ck p+1
 | .two _ p _ q=>max (Ck p) (Ck q)+1
 | .three _ p _ q _ r=>max (Ck p) (max (Ck q) (Ck r))+1
def V6:Op→Bool
 | .load .. =>true
 |_=>false
def depT (ops:Array Oper):Nat→Nat→Nat→Bool
 |0,_,_=>false
 |n+1,j,i=>match ops[j]? with
  |none=>false
  |some o=>o.after.toList.any fun e=>Region.binds .any e&&(Nat.beq e.on i||depT ops n e.on i)
def Aeh (C:Ctx)(ops:Array Oper)(j:Nat):Bool:=match ops[j]? with
 |none=>false
 |some o=> !(Du C o.op||V6 o.op)
def loadAt (ops:Array Oper)(k:Nat):Bool:=match ops[k]? with
 |none=>false
 |some o=>V6 o.op
def finB (ops:Array Oper)(listed:Array Bool)(i:Nat):Bool:=(List.range ops.size).all fun k=> !(listed.getD k false)||(!(loadAt ops k)||depT ops ops.size i k)
def D5 (C:Ctx)(ops:Array Oper):Cq→Array Bool→Bool
 | .done,listed=>(Region.ready .any ops listed).isEmpty
 | .det i p,listed=>(Region.ready .any ops listed).contains i&&Region.free .any ops listed i&&((ops[i]?).any fun o=>Du C o.op||V6 o.op)&&D5 C ops p (listed.setIfInBounds i true)
 | .act i p,listed=>Region.ready .any ops listed==[i]&&D5 C ops p (listed.setIfInBounds i true)
 | .fin i p,listed=>Region.ready .any ops listed==[i]&&Aeh C ops i&&finB ops listed i&&D5 C ops p (listed.setIfInBounds i true)
 | .two i p j q,listed=>Region.ready .any ops listed==[i,j]&&D5 C ops p (listed.setIfInBounds i true)&&D5 C ops q (listed.setIfInBounds j true)
 | .three i p j q k r,listed=>Region.ready .any ops listed==[i,j,k]&&D5 C ops p (listed.setIfInBounds i true)&&D5 C ops q (listed.setIfInBounds j true)&&D5 C ops r (listed.setIfInBounds k true)
def Zb:AV→List Nat
 | .mp t _ _ _=>[t]
 |_=>[]
def Af2:Op→Option (TypeId×Operand)
 | .load T x=>some (T,x)
 |_=>none
def loadT (C:Ctx)(T:TypeId)(a:AV)(σ:St):Option AV:=match C.ty T with
 |some ti=>Hc ti a σ
 |none=>none
def aDet (C:Ctx)(o:Oper)(L:List Nat)(fr:List AV)(σ:St)(K:List Nat→AV→Prop):Prop:=match Af2 o.op with
 |some (T,x)=>(match loadT C T (evA fr x) σ with
  |some v=>K (Zb (evA fr x)++L) v
  |none=>False)
 |none=>(match aop C σ.length o.op (evA fr) σ with
  |some (r,s)=>s=σ∧K L r
  |none=>False)
def aPl (P:Program)(C:Ctx)(ops:Array Oper):Cq→List Nat→List AV→St→(List AV→St→Prop)→Prop
 | .done,L,fr,σ,K=>K fr σ
 | .det i p,L,fr,σ,K=>match ops[i]? with
   |none=>False
   |some o=>Cg ops o fr (aDet C o L fr σ fun L' r=>aPl P C ops p L' (D7 fr o.dst r) σ K) (aPl P C ops p L (D7 fr o.dst (.tup [])) σ K)
 | .act i p,L,fr,σ,K=>match ops[i]? with
   |none=>False
   |some o=>Cg ops o fr (Bm P C o fr (Em L σ) fun r σ'=>aPl P C ops p L (D7 fr o.dst r) (Bu L σ σ') K) (aPl P C ops p L (D7 fr o.dst (.tup [])) σ K)
 | .fin i p,L,fr,σ,K=>match ops[i]? with
   |none=>False
   |some o=>Cg ops o fr (Bm P C o fr (Em [] σ) fun r σ'=>aPl P C ops p [] (D7 fr o.dst r) (Bu [] σ σ') K) (aPl P C ops p [] (D7 fr o.dst (.tup [])) σ K)
 | .two i p j q,L,fr,σ,K=>(match ops[i]? with
   |none=>False
   |some o=>Cg ops o fr (Bm P C o fr (Em L σ) fun r σ'=>aPl P C ops p L (D7 fr o.dst r) (Bu L σ σ') K) (aPl P C ops p L (D7 fr o.dst (.tup [])) σ K))∧
   (match ops[j]? with
   |none=>False
   |some o=>Cg ops o fr (Bm P C o fr (Em L σ) fun r σ'=>aPl P C ops q L (D7 fr o.dst r) (Bu L σ σ') K) (aPl P C ops q L (D7 fr o.dst (.tup [])) σ K))
 | .three i p j q k r,L,fr,σ,K=>(match ops[i]? with
   |none=>False
   |some o=>Cg ops o fr (Bm P C o fr (Em L σ) fun r σ'=>aPl P C ops p L (D7 fr o.dst r) (Bu L σ σ') K) (aPl P C ops p L (D7 fr o.dst (.tup [])) σ K))∧
   (match ops[j]? with
   |none=>False
   |some o=>Cg ops o fr (Bm P C o fr (Em L σ) fun r σ'=>aPl P C ops q L (D7 fr o.dst r) (Bu L σ σ') K) (aPl P C ops q L (D7 fr o.dst (.tup [])) σ K))∧
   (match ops[k]? with
   |none=>False
   |some o=>Cg ops o fr (Bm P C o fr (Em L σ) fun y σ'=>aPl P C ops r L (D7 fr o.dst y) (Bu L σ σ') K) (aPl P C ops r L (D7 fr o.dst (.tup [])) σ K))
def Dh (P:Program)(C:Ctx)(ops:Array Oper)(fr:List AV)(σ:St)(K:List AV→St→Prop):Prop:=
 ∃ pl,Ck pl≤ops.size∧Region.noSelect ops=true∧D5 C ops pl (Array.replicate ops.size false)=true∧aPl P C ops pl [] fr σ K
def V7 (C:Ctx)(ops:Array Oper)(listed:Array Bool)(i:Nat):Prop:=∀ j,listed.getD j false=true→Aeh C ops j=true→depT ops ops.size j i=false
def Closed (ops:Array Oper)(listed:Array Bool):Prop:=∀ j o,ops[j]? =some o→listed.getD j false=true→∀ e∈o.after,Region.binds .any e=true→listed.getD e.on false=true
theorem L8 {ops:Array Oper}{listed:Array Bool}(hc:Closed ops listed){i:Nat}:∀ (n j:Nat),(∀ o,ops[j]? =some o→∀ e∈o.after,Region.binds .any e=true→listed.getD e.on false=true)→depT ops n j i=true→listed.getD i false=true
 |0,j,_,h=>by simp[depT]at h
 |n+1,j,hp,h=>by
  simp only[depT]at h
  split at h
  ·simp at h
  rename_i o ho
  obtain⟨e,he,hb⟩:=List.any_eq_true.1 h
  simp only[QV,WT]at hb
  have h1:=hp o ho e (by simpa using he) hb.1
  rcases hb.2 with h2|h2
  ·rw[← Nat.eq_of_beq_eq_true h2];exact h1
  ·exact L8 hc n e.on (fun o' ho'=>hc e.on o' ho' h1) h2
theorem Closed.set {ops:Array Oper}{listed:Array Bool}(hc:Closed ops listed){j:Nat}(hj:j∈Region.ready .any ops listed):Closed ops (listed.setIfInBounds j true):=by
 obtain⟨_,oj,hoj,hall⟩:=mem_ready.1 hj
 intro k o hk hl e he hb
 by_cases hkj:j=k
 ·subst hkj
  rw[hoj]at hk;simp at hk;subst hk
  exact getD_set_true (hall e he hb)
 ·rw[getD_set_ne false hkj]at hl
  exact getD_set_true (hc k o hk hl e he hb)
def Facts (C:Ctx)(ops:Array Oper)(F:List (Nat×Nat×Nat×List Value))(listed:Array Bool)(w:World):Prop:=∀ x∈F,V7 C ops listed x.1→w.rangeAt x.2.1 x.2.2.1 x.2.2.2
def Safe (M:Az)(σ:St)(L:List Nat)(q:Nat×Nat×List Value):Prop:=
 (∀ j,j<q.2.2.length→M.I q.1 (q.2.1+j))∨∃ t e ls,t∈L∧σ.at t (.row e ls)∧M.mu t=some q.1
section
variable {P:Program} {C:Ctx} {ops:Array Oper} {Q:Exit→Act→World→Prop}
def Ha (P:Program)(ops:Array Oper)(Q:Exit→Act→World→Prop)(S:Array Bool→World→Prop):Nat→Array Bool→Act→World→Prop
 |0,listed,a,w=>Region.ready .any ops listed=[]∧Q .normal a w
 |fuel+1,listed,a,w=>(Region.ready .any ops listed=[]→Q .normal a w)∧
  ∀ i∈Region.ready .any ops listed,wpOp P ops Q i (fun a' w'=>S (listed.setIfInBounds i true) w'∧Ha P ops Q S fuel (listed.setIfInBounds i true) a' w') a w
theorem I5 {S S':Array Bool→World→Prop}(hS:∀ l w,S' l w→S l w):∀ (fuel:Nat) (listed:Array Bool) (a:Act) (w:World),Ha P ops Q S' fuel listed a w→Ha P ops Q S fuel listed a w
 |0,_,_,_,h=>h
 |fuel+1,_,_,_,h=>⟨h.1,fun i hi=>wpOp_mono (fun a' w' h'=>⟨hS _ _ h'.1,I5 hS fuel _ a' w' h'.2⟩) (h.2 i hi)⟩
theorem O1 {S:Array Bool→World→Prop}:∀ (fuel:Nat) (listed:Array Bool) (a:Act) (w:World),Ha P ops Q S fuel listed a w→wpAnyH P .any ops Q (fun _=>True) fuel listed a w
 |0,_,_,_,h=>h
 |fuel+1,_,_,_,h=>⟨h.1,fun i hi=>wpOp_mono (fun a' w' h'=>⟨trivial,O1 fuel _ a' w' h'.2⟩) (h.2 i hi)⟩
theorem Zc {S:Array Bool→World→Prop}{listed:Array Bool}{a:Act}{w:World}(hr:Region.ready .any ops listed=[])(h:Q .normal a w):∀ fuel,Ha P ops Q S fuel listed a w
 |0=>⟨hr,h⟩
 |_+1=>⟨fun _=>h,by rw[hr];simp⟩
theorem H4 {S:Array Bool→World→Prop}{rs:List Nat}{fuel:Nat}{listed:Array Bool}{a:Act}{w:World}(hr:Region.ready .any ops listed=rs)(hne:rs≠[])
 (h:∀ i∈rs,wpOp P ops Q i (fun a' w'=>S (listed.setIfInBounds i true) w'∧Ha P ops Q S fuel (listed.setIfInBounds i true) a' w') a w):Ha P ops Q S (fuel+1) listed a w:=
 ⟨fun h0=>absurd (hr.symm.trans h0) hne,fun i hi=>h i (hr▸hi)⟩
theorem V7.less {listed:Array Bool}{i k:Nat}(h:V7 C ops (listed.setIfInBounds k true) i):V7 C ops listed i:=fun j hj=>h j (getD_set_true hj)
theorem V7.more {listed:Array Bool}{i k:Nat}(hk:Aeh C ops k=false)(h:V7 C ops listed i):V7 C ops (listed.setIfInBounds k true) i:=fun j hj ha=>by
 by_cases e:k=j
 ·subst e;rw[hk]at ha;simp at ha
 ·rw[getD_set_ne false e]at hj;exact h j hj ha
theorem Hq {S S':Array Bool→World→Prop}{Si:World→Prop}{i:Nat}{oi:Oper}{v:Value}(hi:ops[i]? =some oi)(hsel:∀ (j:Nat) (o:Oper) cs b,ops[j]? =some o→o.op≠ .select cs b)
 (hQ:∀ c a w,Q (.panic c) (a.put oi.dst v) w→Q (.panic c) a w) (hact:Aeh C ops i=false) (hSS:∀ l w,S' l w→S l w) (hSi:∀ l w,V7 C ops l i→S' l w→Si w) (hm:∀ l w,S (l.setIfInBounds i true) w→S l w):
 ∀ (fuel:Nat) (listed:Array Bool) (a:Act) (w:World),Closed ops listed→V7 C ops listed i→
   (∀ j oj,ops[j]? =some oj→j≠i→listed.getD j true=false→(∀ e∈oj.after,Region.binds .any e=true→e.on≠i)→oi.apart ops oj=true)→
   i∈Region.ready .any ops listed→YieldsIf P ops Si oi v a→S' (listed.setIfInBounds i true) w→
   Ha P ops Q S' fuel (listed.setIfInBounds i true) (a.put oi.dst v) w→Ha P ops Q S (fuel+1) listed a w:=by
 intro fuel
 induction fuel with
 |zero=>
  intro listed a w hc hp _ hr hy hS H
  refine⟨fun h=>(by rw[h]at hr;cases hr),fun j hj=> ?_⟩
  by_cases hji:j=i
  ·subst hji;exact hy.wpOp hi (hSi _ _ (hp.more hact) hS) ⟨hSS _ _ hS,I5 hSS _ _ _ _ H⟩
  ·have:=ready_mono hj hji
   rw[H.1]at this
   cases this
 |succ fuel ih=>
  intro listed a w hc hp hfree hr hy hS H
  refine⟨fun h=>(by rw[h]at hr;cases hr),fun j hj=> ?_⟩
  by_cases hji:j=i
  ·subst hji;exact hy.wpOp hi (hSi _ _ (hp.more hact) hS) ⟨hSS _ _ hS,I5 hSS _ _ _ _ H⟩
  ·have h1:=H.2 j (ready_mono hj hji)
   obtain⟨hjun,oj,hoj,hall⟩:=mem_ready.1 hj
   have hiun:listed.getD i false=false:=by
    have h0:=(mem_ready.1 hr).1
    cases hl:listed.getD i false with
    |false=>rfl
    |true=>
     exfalso
     simp only[Array.getD_eq_getD_getElem?]at h0 hl
     cases hx:listed[i]? with
     |none=>rw[hx]at hl;simp at hl
     |some b=>rw[hx]at hl h0;simp at hl h0;rw[hl]at h0;cases h0
   have hnot:∀ e∈oj.after,Region.binds .any e=true→e.on≠i:=fun e he hb heq=>by
    have h2:=hall e he hb
    rw[heq,hiun]at h2
    cases h2
   have hp':V7 C ops (listed.setIfInBounds j true) i:=fun k hk ha=>by
    by_cases e:j=k
    ·subst e
     cases hd:depT ops ops.size j i with
     |false=>rfl
     |true=>
      have:=L8 hc ops.size j (fun o ho=>by rw[hoj]at ho;simp at ho;subst ho;exact hall) hd
      rw[hiun]at this;cases this
    ·rw[getD_set_ne false e]at hk;exact hp k hk ha
   have h2:=wpOp_putIf hoj (hfree j oj hoj hji hjun hnot) (fun cs b=>hsel i oi cs b hi) (fun cs b=>hsel j oj cs b hoj) hQ hy h1
   have hfree':∀ k ok,ops[k]? =some ok→k≠i→(listed.setIfInBounds j true).getD k true=false→
    (∀ e∈ok.after,Region.binds .any e=true→e.on≠i)→oi.apart ops ok=true:=fun k ok hk hki hun hno=>by
    refine hfree k ok hk hki ?_ hno
    by_cases hjk:j=k
    ·subst hjk;exact hjun
    ·rw[getD_set_ne true hjk]at hun;exact hun
   refine wpOp_mono (fun a' w' h3=> ?_) h2
   obtain⟨h4,h5,h6⟩:=h3
   rw[← Array.setIfInBounds_comm _ _ hji]at h5 h6
   exact⟨hm _ _ (hSS _ _ h5),ih (listed.setIfInBounds j true) a' w' (hc.set hj) hp' hfree' (ready_mono hr (Ne.symm hji)) h4 h5 h6⟩
theorem Af3 {M:Az}{σ:St}{a:Act}{fr:List AV}{o:Oper}{T:TypeId}{x:Operand}{ti:TI}{v:AV}(hop:o.op= .load T x)(hM:Al M σ)(hF:Cx M a fr)(hC:TyOk P T ti)(h:Hc ti (evA fr x) σ=some v):
 ∃ u q,Ag M v u∧M.w.rangeAt q.1 q.2.1 q.2.2∧Safe M σ (Zb (evA fr x)) q∧∀ w:World,w.rangeAt q.1 q.2.1 q.2.2→(execOp a.eval o).run P w= .ok (.value u) w:=by
 have hx:=hF.ev x
 have conv:∀ (w:World) u,(Instr.loadAt T (a.eval x)).run P w= .ok u w→(execOp a.eval o).run P w= .ok (.value u) w:=fun w u hr=>by
  unfold execOp
  simp[hop,hr]
 unfold Hc at h
 split at h
 ·rename_i t e i o' hev
  rw[hev]at hx
  simp only[Ag]at hx
  obtain⟨b,hb,hbl,hx⟩:=hx
  split at h
  ·rename_i e' ls hσ
   split at h
   ·rename_i he;subst he
    split at h
    ·rename_i c hc
     obtain⟨_,b',cur,T',hb',hh,hI,hr,_⟩:=hM.obj t _ hσ
     have:b'=b:=by rw[hb]at hb';simpa using hb'.symm
     subst this
     obtain⟨us,h1,h2,h3⟩:=Ez hh hr hc
     obtain⟨u,h4,h5⟩:=Sx hC h2 h1 h
     exact⟨u,(b',i*e',us),h4,h3,.inr ⟨t,e',ls,by simp[hev,Zb],hσ,hb⟩,fun w hw=>conv w u (by rw[hx];exact h5 w b' (i*e') hw)⟩
    ·simp at h
   ·simp at h
  ·simp at h
 ·rename_i c o' hev
  rw[hev]at hx
  simp only[Ag]at hx
  obtain⟨b,off,hx,hc⟩:=hx
  obtain⟨us,h1,h2,h3⟩:=I3 hc
  obtain⟨u,h4,h5⟩:=Sx hC h2 h1 h
  refine⟨u,(b,off,us),h4,h3,.inl fun j hj=> ?_,fun w hw=>conv w u (by rw[hx];exact h5 w b off hw)⟩
  have hlen:=h1.len
  simp only[QL]at hlen
  obtain⟨_,_,h6,_⟩:=hc.get (QN (show j<c.length by simp only at hj;omega))
  exact h6
 ·simp at h
theorem Aei {M:Az}{σ:St}{a:Act}{fr:List AV}{o:Oper}{r:AV}{σ':St}{tk:Nat}(hC:C.ok P)(hF:Cx M a fr)(hs:Du C o.op=true)(h:aop C tk o.op (evA fr) σ=some (r,σ')):∃ u,Ag M r u∧∀ w:World,(execOp a.eval o).run P w= .ok (.value u) w:=by
 obtain⟨_,v,h1,h2⟩:=V0 hC hF hs h
 exact⟨v,h2,h1⟩
theorem Safe.next {M M':Az}{σ σ':St}{L:List Nat}{q:Nat×Nat×List Value}(h:Safe M σ L q)(hM:Al M σ)(hM':Al M' σ')(hE:Ext M (Em L σ) M' σ')(hr:M.w.rangeAt q.1 q.2.1 q.2.2):Safe M' (Bu L σ σ') L q∧M'.w.rangeAt q.1 q.2.1 q.2.2:=by
 rcases h with h|⟨t,e,ls,ht,hσ,hb⟩
 ·refine⟨.inl fun j hj=>hE.imm _ _ (h j hj),fun j v hj=> ?_⟩
  rw[hE.cell _ _ (h j (QC.1 hj).1)]
  exact hr j v hj
 ·obtain⟨h0,_⟩:=hM.obj t _ hσ
  obtain⟨hb',h0'⟩:=hE.mu t _ hb h0
  have htl:t<σ'.length:=by
   rcases YW t σ'.length with h|h
   ·exact h
   ·rw[(hM'.fresh t h).1]at hb';simp at hb'
  refine⟨.inr ⟨t,e,ls,ht,V5 L ht hσ htl,hb'⟩,fun j v hj=> ?_⟩
  have hk:=(hE.keep q.1 (hM.lt t _ hb) fun s ob hs e=>(Y9 L hs).1 (by
   have:=hM.inj s t _ _ q.1 (Y9 L hs).2 hσ e hb
   rw[this];exact ht)).1
  rw[World.cell?_of_block (a:=⟨q.1,q.2.1+j,none⟩) hk]
  exact hr j v hj
theorem Safe.more {M:Az}{σ:St}{L L':List Nat}{q:Nat×Nat×List Value}(h:Safe M σ L q)(hL:∀ t,t∈L→t∈L'):Safe M σ L' q:=
 h.imp id fun ⟨t,e,ls,h1,h2,h3⟩=>⟨t,e,ls,hL t h1,h2,h3⟩
theorem Gu {K:List AV→St→Prop}{M:Az}{σ:St}{a:Act}{fr:List AV}{L:List Nat}{F:List (Nat×Nat×Nat×List Value)}{i:Nat}{pl:Cq}{fuel:Nat}{listed:Array Bool}(hC:C.ok P)(hM:Al M σ)(hF:Cx M a fr)(hfa:Facts C ops F (listed.setIfInBounds i true) M.w)(hsf:∀ x∈F,V7 C ops (listed.setIfInBounds i true) x.1→Safe M σ L x.2)
 (ih:∀ (M':Az) (σ':St) (a':Act) (fr':List AV),Ext M σ M' σ'→σ.length≤σ'.length→Al M' σ'→Cx M' a' fr'→Facts C ops F (listed.setIfInBounds i true) M'.w→(∀ x∈F,V7 C ops (listed.setIfInBounds i true) x.1→Safe M' σ' L x.2)→aPl P C ops pl L fr' σ' K→Ha P ops (NoPanic Q) (Facts C ops F) fuel (listed.setIfInBounds i true) a' M'.w)
 (h:match ops[i]? with
 |none=>False
 |some o=>Cg ops o fr (Bm P C o fr (Em L σ) fun r σ'=>aPl P C ops pl L (D7 fr o.dst r) (Bu L σ σ') K) (aPl P C ops pl L (D7 fr o.dst (.tup [])) σ K)):
 wpOp P ops (NoPanic Q) i (fun a' w'=>Facts C ops F (listed.setIfInBounds i true) w'∧Ha P ops (NoPanic Q) (Facts C ops F) fuel (listed.setIfInBounds i true) a' w') a M.w:=by
 unfold wpOp
 split at h
 ·exact h.elim
 ·rename_i o ho
  simp only[ho]
  rcases L3 hF h with⟨hw,h⟩|⟨hw,h⟩
  ·rw[if_pos hw]
   refine .inl (Aap hC (hM.mask L) hF h fun v r σ' M' h1 h2 h3 hlen h4=> ?_)
   obtain⟨g1,g2⟩:=Hp L hM h1 h2
   have hn:∀ x∈F,V7 C ops (listed.setIfInBounds i true) x.1→Safe M' (Bu L σ σ') L x.2∧M'.w.rangeAt x.2.1 x.2.2.1 x.2.2.2:=fun x hx hp=>(hsf x hx hp).next hM h2 h1 (hfa x hx hp)
   have hfa':Facts C ops F (listed.setIfInBounds i true) M'.w:=fun x hx hp=>(hn x hx hp).2
   exact⟨hfa',ih M' _ _ _ g1 (by rw[Gt];rw[O0]at hlen;exact hlen) g2 (Gs (hF.later h1.later) h3 o.dst) hfa' (fun x hx hp=>(hn x hx hp).1) h4⟩
  ·rw[if_neg (by simp[hw])]
   exact⟨hfa,ih M σ _ _ (Ext.refl M σ) (QH _) hM (Gs hF F4 o.dst) hfa hsf h⟩
theorem Db {K:List AV→St→Prop}(hC:C.ok P)(hns:Region.noSelect ops=true):∀ (pl:Cq) (fuel:Nat) (listed:Array Bool) (L:List Nat) (a:Act) (fr:List AV) (M:Az) (σ:St) (F:List (Nat×Nat×Nat×List Value)),Ck pl≤fuel→D5 C ops pl listed=true→Al M σ→Cx M a fr→Closed ops listed→
 (∀ x∈F,listed.getD x.1 false=true∧loadAt ops x.1=true)→Facts C ops F listed M.w→(∀ x∈F,V7 C ops listed x.1→Safe M σ L x.2)→aPl P C ops pl L fr σ K→(∀ M' a' fr' σ',Ext M σ M' σ'→Al M' σ'→Cx M' a' fr'→σ.length≤σ'.length→K fr' σ'→Q .normal a' M'.w)→Ha P ops (NoPanic Q) (Facts C ops F) fuel listed a M.w
 | .done,fuel,listed,L,a,fr,M,σ,F,hl,hok,hM,hF,hcl,hls,hfa,hsf,h,hQ=>
   Zc (Q:=NoPanic Q) (by simpa [D5]using hok) (NoPanic.normal (hQ M a fr σ (Ext.refl M σ) hM hF (QH _) h)) fuel
 | .det i p,0,listed,L,a,fr,M,σ,F,hl,hok,hM,hF,hcl,hls,hfa,hsf,h,hQ=>by simp[Ck]at hl
 | .act i p,0,listed,L,a,fr,M,σ,F,hl,hok,hM,hF,hcl,hls,hfa,hsf,h,hQ=>by simp[Ck]at hl
 | .fin i p,0,listed,L,a,fr,M,σ,F,hl,hok,hM,hF,hcl,hls,hfa,hsf,h,hQ=>by simp[Ck]at hl
 | .two i p j q,0,listed,L,a,fr,M,σ,F,hl,hok,hM,hF,hcl,hls,hfa,hsf,h,hQ=>by simp[Ck]at hl
 | .three i p j q k r,0,listed,L,a,fr,M,σ,F,hl,hok,hM,hF,hcl,hls,hfa,hsf,h,hQ=>by simp[Ck]at hl
 | .det i p,fuel+1,listed,L,a,fr,M,σ,F,hl,hok,hM,hF,hcl,hls,hfa,hsf,h,hQ=>by
   simp only[Ck]at hl
   simp only[D5,QV]at hok
   obtain⟨⟨⟨hr,hf⟩,hst⟩,hok⟩:=hok
   have hr':i∈Region.ready .any ops listed:=by simpa using hr
   have hcl':=hcl.set hr'
   simp only[aPl]at h
   split at h
   ·exact h.elim
   ·rename_i o ho
    simp only[ho,Option.any_some,WT]at hst
    have hact:Aeh C ops i=false:=by
     simp only[Aeh,ho,Bool.not_eq_false']
     simpa using hst
    have hpi:V7 C ops listed i:=fun j hj ha=>by
     cases hd:depT ops ops.size j i with
     |false=>rfl
     |true=>
      have h1:=L8 hcl ops.size j (fun o' ho'=>hcl j o' ho' hj) hd
      have h0:=(mem_ready.1 hr').1
      exfalso
      simp only[Array.getD_eq_getD_getElem?]at h0 h1
      cases hx:listed[i]? with
      |none=>rw[hx]at h1;simp at h1
      |some b=>rw[hx]at h1 h0;simp at h1 h0;rw[h1]at h0;cases h0
    have hmono:∀ (l:Array Bool) (w:World),Facts C ops F (l.setIfInBounds i true) w→Facts C ops F l w:=fun l w hf x hx hp=>hf x hx (hp.more hact)
    have hfaS:Facts C ops F (listed.setIfInBounds i true) M.w:=fun x hx hp=>hfa x hx hp.less
    have hsfS:∀ x∈F,V7 C ops (listed.setIfInBounds i true) x.1→Safe M σ L x.2:=fun x hx hp=>hsf x hx hp.less
    have hlsS:∀ x∈F,(listed.setIfInBounds i true).getD x.1 false=true∧loadAt ops x.1=true:=fun x hx=>⟨getD_set_true (hls x hx).1,(hls x hx).2⟩
    have hfree:=Region.free_spec ho hf
    rcases L3 hF h with⟨hw,h⟩|⟨hw,h⟩
    ·unfold aDet at h
     split at h
     ·rename_i T x hlo
      have hop:o.op= .load T x:=by
       unfold Af2 at hlo
       split at hlo
       ·rename_i hop;simp at hlo;obtain⟨rfl,rfl⟩:=hlo;exact hop
       ·simp at hlo
      split at h
      case h_2=>exact h.elim
      rename_i v hvt
      obtain⟨ti,hti,hv⟩:∃ ti,C.ty T=some ti∧Hc ti (evA fr x) σ=some v:=by
       unfold loadT at hvt
       split at hvt
       ·rename_i ti hti;exact⟨ti,hti,hvt⟩
       ·simp at hvt
      obtain⟨u,q,h1,h2,h3,h4⟩:=Af3 (P:=P) hop hM hF (hC.1 T ti hti) hv
      have hfa':Facts C ops ((i,q)::F) (listed.setIfInBounds i true) M.w:=fun x' hx' hp'=>by
       rcases QP.1 hx' with rfl|hx'
       ·exact h2
       ·exact hfaS x' hx' hp'
      refine Hq (S':=Facts C ops ((i,q)::F)) (Si:=fun w=>w.rangeAt q.1 q.2.1 q.2.2) (v:=u) ho (Region.noSelect_spec hns) (fun _ _ _ h=>h) hact (fun l w hS x' hx'=>hS x' (by simp[hx'])) (fun l w hp hS=>hS (i,q) (by simp) hp) hmono fuel listed a M.w hcl hpi hfree hr' (.inl ⟨hw,h4⟩) hfa' ?_
      refine Db hC hns p fuel _ _ _ _ M σ ((i,q)::F) (by omega) hok hM (Gs hF h1 o.dst) hcl' (fun x' hx'=> ?_) hfa' (fun x' hx' hp'=> ?_) h hQ
      ·rcases QP.1 hx' with rfl|hx'
       ·refine⟨?_,by simp[loadAt,ho,hop,V6]⟩
        have hil:i<listed.size:=by
         have h0:=(mem_ready.1 hr').1
         rcases YW i listed.size with h'|h'
         ·exact h'
         ·simp[XT h']at h0
        simp[hil]
       ·exact hlsS x' hx'
      ·rcases QP.1 hx' with rfl|hx'
       ·exact h3.more fun t ht=>by simp[ht]
       ·exact (hsfS x' hx' hp').more fun t ht=>by simp[ht]
     ·rename_i hlo
      split at h
      case h_2=>exact h.elim
      rename_i r s hrr
      obtain⟨hsσ,h⟩:=h
      rw[hsσ]at hrr
      have hstill:Du C o.op=true:=by
       rcases hst with h|h
       ·exact h
       ·cases hop:o.op<;>simp_all [V6,Af2]
      obtain⟨u,h1,h2⟩:=Aei (P:=P) hC hF hstill hrr
      refine Hq (S':=Facts C ops F) (Si:=fun _=>True) (v:=u) ho (Region.noSelect_spec hns) (fun _ _ _ h=>h) hact (fun l w hS=>hS) (fun l w hp hS=>trivial) hmono fuel listed a M.w hcl hpi hfree hr' (.inl ⟨hw,fun w _=>h2 w⟩) hfaS ?_
      exact Db hC hns p fuel _ _ _ _ M σ F (by omega) hok hM (Gs hF h1 o.dst) hcl' hlsS hfaS hsfS h hQ
    ·refine Hq (S':=Facts C ops F) (Si:=fun _=>True) (v:=undef) ho (Region.noSelect_spec hns) (fun _ _ _ h=>h) hact (fun l w hS=>hS) (fun l w hp hS=>trivial) hmono fuel listed a M.w hcl hpi hfree hr' (.inr ⟨hw,rfl⟩) hfaS ?_
     exact Db hC hns p fuel _ _ _ _ M σ F (by omega) hok hM (Gs hF F4 o.dst) hcl' hlsS hfaS hsfS h hQ
 | .act i p,fuel+1,listed,L,a,fr,M,σ,F,hl,hok,hM,hF,hcl,hls,hfa,hsf,h,hQ=>by
   simp only[Ck]at hl
   simp only[D5,QV,beq_iff_eq]at hok
   refine H4 hok.1 (by simp) fun j hj=> ?_
   simp at hj;subst hj
   have hcl':=hcl.set (j:=j) (by rw[hok.1];simp)
   exact Gu hC hM hF (fun x hx hp=>hfa x hx hp.less) (fun x hx hp=>hsf x hx hp.less) (fun M' σ' a' fr' g1 gl g2 g3 g4 g5 g6=>Db hC hns p fuel _ _ _ _ M' σ' F (by omega) hok.2 g2 g3 hcl' (fun x hx=>⟨getD_set_true (hls x hx).1,(hls x hx).2⟩) g4 g5 g6 fun M'' a'' fr'' σ'' k1 k2 k3 k4 k5=>hQ M'' a'' fr'' σ'' (g1.trans k1) k2 k3 (ZO gl k4) k5) h
 | .fin i p,fuel+1,listed,L,a,fr,M,σ,F,hl,hok,hM,hF,hcl,hls,hfa,hsf,h,hQ=>by
   simp only[Ck]at hl
   simp only[D5,QV,beq_iff_eq]at hok
   obtain⟨⟨⟨hok1,hia⟩,hfin⟩,hok2⟩:=hok
   refine H4 hok1 (by simp) fun j hj=> ?_
   simp at hj;subst hj
   have hjr:j∈Region.ready .any ops listed:=by rw[hok1];simp
   have hcl':=hcl.set hjr
   have hjl:(listed.setIfInBounds j true).getD j false=true:=by
    have h0:=(mem_ready.1 hjr).1
    have hil:j<listed.size:=by
     rcases YW j listed.size with h'|h'
     ·exact h'
     ·simp[XT h']at h0
    simp[hil]
   have hno:∀ x∈F,¬ V7 C ops (listed.setIfInBounds j true) x.1:=fun x hx hp=>by
    have h1:=hp j hjl hia
    have hxs:x.1<ops.size:=by
     have:=(hls x hx).2
     unfold loadAt at this
     split at this
     ·simp at this
     ·rename_i o ho;exact (QU.1 ho).1
    have h2:=ZA.1 hfin x.1 (List.mem_range.2 hxs)
    rw[(hls x hx).1,(hls x hx).2,h1]at h2
    simp at h2
   exact Gu (L:=[]) hC hM hF (fun x hx hp=>absurd hp (hno x hx)) (fun x hx hp=>absurd hp (hno x hx)) (fun M' σ' a' fr' g1 gl g2 g3 g4 g5 g6=>Db hC hns p fuel _ _ _ _ M' σ' F (by omega) hok2 g2 g3 hcl' (fun x hx=>⟨getD_set_true (hls x hx).1,(hls x hx).2⟩) g4 g5 g6 fun M'' a'' fr'' σ'' k1 k2 k3 k4 k5=>hQ M'' a'' fr'' σ'' (g1.trans k1) k2 k3 (ZO gl k4) k5) h
 | .two i p j q,fuel+1,listed,L,a,fr,M,σ,F,hl,hok,hM,hF,hcl,hls,hfa,hsf,h,hQ=>by
   simp only[Ck]at hl
   simp only[D5,QV,beq_iff_eq]at hok
   refine H4 hok.1.1 (by simp) fun k hk=> ?_
   have hcl':=hcl.set (j:=k) (by rw[hok.1.1];exact hk)
   simp at hk
   rcases hk with rfl|rfl
   ·exact Gu hC hM hF (fun x hx hp=>hfa x hx hp.less) (fun x hx hp=>hsf x hx hp.less) (fun M' σ' a' fr' g1 gl g2 g3 g4 g5 g6=>Db hC hns p fuel _ _ _ _ M' σ' F (by omega) hok.1.2 g2 g3 hcl' (fun x hx=>⟨getD_set_true (hls x hx).1,(hls x hx).2⟩) g4 g5 g6 fun M'' a'' fr'' σ'' k1 k2 k3 k4 k5=>hQ M'' a'' fr'' σ'' (g1.trans k1) k2 k3 (ZO gl k4) k5) h.1
   ·exact Gu hC hM hF (fun x hx hp=>hfa x hx hp.less) (fun x hx hp=>hsf x hx hp.less) (fun M' σ' a' fr' g1 gl g2 g3 g4 g5 g6=>Db hC hns q fuel _ _ _ _ M' σ' F (by omega) hok.2 g2 g3 hcl' (fun x hx=>⟨getD_set_true (hls x hx).1,(hls x hx).2⟩) g4 g5 g6 fun M'' a'' fr'' σ'' k1 k2 k3 k4 k5=>hQ M'' a'' fr'' σ'' (g1.trans k1) k2 k3 (ZO gl k4) k5) h.2
 | .three i p j q m r,fuel+1,listed,L,a,fr,M,σ,F,hl,hok,hM,hF,hcl,hls,hfa,hsf,h,hQ=>by
   simp only[Ck]at hl
   simp only[D5,QV,beq_iff_eq]at hok
   refine H4 hok.1.1.1 (by simp) fun k hk=> ?_
   have hcl':=hcl.set (j:=k) (by rw[hok.1.1.1];exact hk)
   simp at hk
   rcases hk with rfl|rfl|rfl
   ·exact Gu hC hM hF (fun x hx hp=>hfa x hx hp.less) (fun x hx hp=>hsf x hx hp.less) (fun M' σ' a' fr' g1 gl g2 g3 g4 g5 g6=>Db hC hns p fuel _ _ _ _ M' σ' F (by omega) hok.1.1.2 g2 g3 hcl' (fun x hx=>⟨getD_set_true (hls x hx).1,(hls x hx).2⟩) g4 g5 g6 fun M'' a'' fr'' σ'' k1 k2 k3 k4 k5=>hQ M'' a'' fr'' σ'' (g1.trans k1) k2 k3 (ZO gl k4) k5) h.1
   ·exact Gu hC hM hF (fun x hx hp=>hfa x hx hp.less) (fun x hx hp=>hsf x hx hp.less) (fun M' σ' a' fr' g1 gl g2 g3 g4 g5 g6=>Db hC hns q fuel _ _ _ _ M' σ' F (by omega) hok.1.2 g2 g3 hcl' (fun x hx=>⟨getD_set_true (hls x hx).1,(hls x hx).2⟩) g4 g5 g6 fun M'' a'' fr'' σ'' k1 k2 k3 k4 k5=>hQ M'' a'' fr'' σ'' (g1.trans k1) k2 k3 (ZO gl k4) k5) h.2.1
   ·exact Gu hC hM hF (fun x hx hp=>hfa x hx hp.less) (fun x hx hp=>hsf x hx hp.less) (fun M' σ' a' fr' g1 gl g2 g3 g4 g5 g6=>Db hC hns r fuel _ _ _ _ M' σ' F (by omega) hok.2 g2 g3 hcl' (fun x hx=>⟨getD_set_true (hls x hx).1,(hls x hx).2⟩) g4 g5 g6 fun M'' a'' fr'' σ'' k1 k2 k3 k4 k5=>hQ M'' a'' fr'' σ'' (g1.trans k1) k2 k3 (ZO gl k4) k5) h.2.2
theorem J4 (hC:C.ok P)(hm:P.follows .mixedOrders=true):Ho P (Dh P C):=by
 intro id ops fr σ K M a Q h hM hF hQ
 obtain⟨pl,h1,h2,h3,h4⟩:=h
 refine wp_mono (Q:=NoPanic Q) ?_ NoPanic.imp
 refine wp_region_held (S:=fun _=>True) hm ?_
 refine O1 _ _ _ _ (Db (Q:=Q) hC h2 pl ops.size _ [] a fr M.drew σ [] h1 h3 hM.drew (hF.later (Later.drew M)) (fun j o hj hl=> ?_) (fun x hx=>by simp at hx) (fun x hx=>by simp at hx) (fun x hx=>by simp at hx) h4 fun M' a' fr' σ' k1 k2 k3 k4 k5=>hQ M' a' fr' σ' ((Ext.drew M σ).trans k1) k2 k3 k4 k5)
 exfalso
 simp only[Array.getD_eq_getD_getElem?,Array.getElem?_replicate]at hl
 split at hl<;>simp at hl
end
