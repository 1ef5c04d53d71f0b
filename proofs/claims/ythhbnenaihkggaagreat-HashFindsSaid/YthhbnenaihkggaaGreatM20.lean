/- Objects that name no others: contracts of their methods at any state. States that name objects by number: looking up, writing, what a call leaves as it is. Rows that hold pages and sectors, with their length unspelled: waiting writes, changes, frames. Disks: what they are in a state. Disks: walks. -/
import Derived.Test.YthhbnenaihkggaaGreatM19
import Derived.Test.YthhbnenaihkggaaGreatM14
set_option linter.unusedSimpArgs false
set_option linter.unusedVariables false
set_option linter.defProp false
set_option maxRecDepth 100000
set_option maxHeartbeats 32000000
namespace Go.Proofs.YthhbnenaihkggaaGreat
open Go.RowKit
open List (cons_append drop_append drop_eq_nil_of_le drop_succ_cons getElem?_append_left length_append length_cons length_nil length_set map_cons map_nil nil_append set_cons_succ set_cons_zero take_succ_cons take_zero)
theorem bu_min {C:Ctx}{tk:Nat}{ts:List TypeId}{k k':IntKind}{n m:Int}{σ:St}:builtinA C tk .min ts [.p (.v (.int k n)),.p (.v (.int k' m))] σ=some (intV k (if m<n then m else n),σ):=nr rfl
theorem bu_max {C:Ctx}{tk:Nat}{ts:List TypeId}{k k':IntKind}{n m:Int}{σ:St}:builtinA C tk .max ts [.p (.v (.int k n)),.p (.v (.int k' m))] σ=some (intV k (if m>n then m else n),σ):=nr rfl
theorem wantD_split {P:Program}{C:Ctx}{ops:Array Oper}{b want:Bool}{o:Oper}{p:Plan}{L:List Nat}{fr:List AV}{σ:St}{K:List AV→St→Prop}(h1:b=want→detO P C ops o p L fr σ K)(h2:b= !want→aPl P C ops p L (setA fr o.dst (.tup [])) σ K):wantD P C ops (some (some b)) want o p L fr σ K:=⟨h1,h2⟩
theorem wantU_split {P:Program}{C:Ctx}{ops:Array Oper}{b want:Bool}{o:Oper}{p:Plan}{L:List Nat}{fr:List AV}{σ:St}{K:List AV→St→Prop}(h1:b=want→aStep P C o fr (maskS L σ) (kontU P C ops p L o.dst fr σ K))(h2:b= !want→aPl P C ops p L (setA fr o.dst (.tup [])) σ K):wantU P C ops (some (some b)) want o p L fr σ K:=⟨h1,h2⟩
theorem ret_is {C:Ctx}{fr:List AV}{σ:St}{rs:List ResultVar}{a:AV}{e:Exit}(h2:match resA C rs fr σ with|some r0=>leT σ 0 [] r0 a|none=>False)(h3:tokLt 0 a=true)(h4:frzA a=a)(he:e= .ret∨e= .normal:=by first|exact .inl rfl|exact .inr rfl):
 retA C rs 0 (fun r _=>tokLt 0 (frzA r)=true∧frzA r=a) e fr σ:=by
 split at h2
 ·rename_i r0 h1
  refine⟨he,r0,a,[],h1,.inr ⟨?_,by simp[leS]⟩,Nat.zero_le _,by rw[h4];exact h3,h4⟩
  have:min σ.length ([]:St).length=0:=by simp
  rw[this];exact⟨h2,trivial⟩
 ·exact h2.elim
theorem wbu:type_of% @bu_len∧type_of% @bu_max∧type_of% @bu_min:=⟨@bu_len,@bu_max,@bu_min⟩
theorem wW:type_of% @WeakE.eq_1∧type_of% @Weak.eq_1∧type_of% @setsF.eq_1∧type_of% @setsF.eq_2∧type_of% @setsO.eq_1∧type_of% @setsO.eq_2∧type_of% @St.put.eq_1∧type_of% @leL.eq_1∧type_of% @leL.eq_2∧type_of% @leL.eq_3∧type_of% @leT.eq_1∧type_of% @leM.eq_1∧type_of% @leM.eq_2∧type_of% @leM.eq_3∧type_of% @leG.eq_1∧type_of% @leA.eq_1∧type_of% @leC.eq_1∧type_of% @leC.eq_2∧type_of% @leC.eq_3∧type_of% @leR.eq_1∧type_of% @leR.eq_2∧type_of% @leR.eq_3∧type_of% @leS.eq_1∧type_of% @leS.eq_2∧type_of% @leS.eq_3∧type_of% @leS.eq_4∧type_of% @leS.eq_5∧type_of% @leO.eq_1∧type_of% @leO.eq_2∧type_of% @leO.eq_3∧type_of% @leO.eq_4∧type_of% @leO.eq_5∧type_of% @tokLt.eq_1∧type_of% @tokLt.eq_2∧type_of% @tokLt.eq_3∧type_of% @tokLt.eq_4∧type_of% @tokLt.eq_5∧type_of% @tokLt.eq_6∧type_of% @tokLt.eq_7∧type_of% @tokLt.eq_8∧type_of% @tokLt.eq_9∧type_of% @tokLt.eq_10∧type_of% @tokLtL.eq_1∧type_of% @tokLtL.eq_2∧type_of% @intV.eq_1∧type_of% @boolV.eq_1∧type_of% @leaf.eq_1∧type_of% @leaf.eq_2∧type_of% @leaf.eq_3∧type_of% @leaf.eq_4∧type_of% @leaf.eq_5∧type_of% @leaf.eq_6∧type_of% @leaf.eq_7∧type_of% @leaf.eq_8∧type_of% @nilA.eq_1∧type_of% @nilSl.eq_1:=⟨@WeakE.eq_1,@Weak.eq_1,@setsF.eq_1,@setsF.eq_2,@setsO.eq_1,@setsO.eq_2,@St.put.eq_1,@leL.eq_1,@leL.eq_2,@leL.eq_3,@leT.eq_1,@leM.eq_1,@leM.eq_2,@leM.eq_3,@leG.eq_1,@leA.eq_1,@leC.eq_1,@leC.eq_2,@leC.eq_3,@leR.eq_1,@leR.eq_2,@leR.eq_3,@leS.eq_1,@leS.eq_2,@leS.eq_3,@leS.eq_4,@leS.eq_5,@leO.eq_1,@leO.eq_2,@leO.eq_3,@leO.eq_4,@leO.eq_5,@tokLt.eq_1,@tokLt.eq_2,@tokLt.eq_3,@tokLt.eq_4,@tokLt.eq_5,@tokLt.eq_6,@tokLt.eq_7,@tokLt.eq_8,@tokLt.eq_9,@tokLt.eq_10,@tokLtL.eq_1,@tokLtL.eq_2,@intV.eq_1,@boolV.eq_1,@leaf.eq_1,@leaf.eq_2,@leaf.eq_3,@leaf.eq_4,@leaf.eq_5,@leaf.eq_6,@leaf.eq_7,@leaf.eq_8,@nilA.eq_1,@nilSl.eq_1⟩
theorem wS:type_of% @resA.eq_1∧type_of% @resL.eq_1∧type_of% @resL.eq_2∧type_of% @resV.eq_1∧type_of% @resV.eq_2∧type_of% @leT.eq_1∧type_of% @leG.eq_1∧type_of% @leA.eq_1∧type_of% @leC.eq_1∧type_of% @leC.eq_2∧type_of% @leC.eq_3∧type_of% @leM.eq_1∧type_of% @leM.eq_2∧type_of% @leM.eq_3∧type_of% @leaf.eq_1∧type_of% @leaf.eq_2∧type_of% @leaf.eq_3∧type_of% @leaf.eq_4∧type_of% @leaf.eq_5∧type_of% @leaf.eq_6∧type_of% @leaf.eq_7∧type_of% @leaf.eq_8∧type_of% @tokLt.eq_1∧type_of% @tokLt.eq_2∧type_of% @tokLt.eq_3∧type_of% @tokLt.eq_4∧type_of% @tokLt.eq_5∧type_of% @tokLt.eq_6∧type_of% @tokLt.eq_7∧type_of% @tokLt.eq_8∧type_of% @tokLt.eq_9∧type_of% @tokLt.eq_10∧type_of% @tokLtL.eq_1∧type_of% @tokLtL.eq_2∧type_of% @intV.eq_1∧type_of% @boolV.eq_1∧type_of% @nilA.eq_1∧type_of% @nilSl.eq_1:=⟨@resA.eq_1,@resL.eq_1,@resL.eq_2,@resV.eq_1,@resV.eq_2,@leT.eq_1,@leG.eq_1,@leA.eq_1,@leC.eq_1,@leC.eq_2,@leC.eq_3,@leM.eq_1,@leM.eq_2,@leM.eq_3,@leaf.eq_1,@leaf.eq_2,@leaf.eq_3,@leaf.eq_4,@leaf.eq_5,@leaf.eq_6,@leaf.eq_7,@leaf.eq_8,@tokLt.eq_1,@tokLt.eq_2,@tokLt.eq_3,@tokLt.eq_4,@tokLt.eq_5,@tokLt.eq_6,@tokLt.eq_7,@tokLt.eq_8,@tokLt.eq_9,@tokLt.eq_10,@tokLtL.eq_1,@tokLtL.eq_2,@intV.eq_1,@boolV.eq_1,@nilA.eq_1,@nilSl.eq_1⟩
theorem wR:type_of% @setsF_cons∧type_of% @setsF_nil∧type_of% @setsO_cons∧type_of% @setsO_nil∧type_of% @set_cons_zero.{0}∧type_of% @set_cons_succ.{0}∧type_of% @length_cons.{0}∧type_of% @length_nil.{0}∧type_of% @St.put.eq_1∧type_of% @Nat.zero_add∧type_of% @Nat.lt_irrefl∧type_of% @cons_append.{0}∧type_of% @nil_append.{0}:=⟨@setsF_cons,@setsF_nil,@setsO_cons,@setsO_nil,@set_cons_zero.{0},@set_cons_succ.{0},@length_cons.{0},@length_nil.{0},@St.put.eq_1,@Nat.zero_add,@Nat.lt_irrefl,@cons_append.{0},@nil_append.{0}⟩
theorem cs:type_of% @cond_split:=@cond_split
theorem ws:type_of% @want_split:=@want_split
theorem wd:type_of% @wantD_split:=@wantD_split
theorem wu:type_of% @wantU_split:=@wantU_split
theorem dP {P:Program}{C:Ctx}{ops:Array Oper}{fr:List AV}{σ:St}{K:List AV→St→Prop}(pl:Plan)(n:Nat)(t:Option Tmp)(h0:ops.size=n∧(ops[0]?.bind fun o=>o.dst)=t)(h1:(decide (planLen pl≤ops.size)&&Region.noSelect ops&&planOk C ops pl (Array.replicate ops.size false))=true)(h4:aPl P C ops pl [] fr σ K):aDraw P C ops fr σ K:=by
 simp only[Bool.and_eq_true,decide_eq_true_eq]at h1
 exact⟨pl,h1.1.1,h1.1.2,h1.2,h4⟩
theorem dQ {P:Program}{C:Ctx}{ops:Array Oper}{fr:List AV}{σ:St}{K:List AV→St→Prop}(pl:Plan)(n:Nat)(t:Option Tmp)(h4:aPl P C ops pl [] fr σ K)(h0:ops.size=n∧(ops[0]?.bind fun o=>o.dst)=t:=by decide)(h1:(decide (planLen pl≤ops.size)&&Region.noSelect ops&&planOk C ops pl (Array.replicate ops.size false))=true:=by kernel_rfl):aDraw P C ops fr σ K:=dP pl n t h0 h1 h4
theorem gS {σ:St}{t t':Nat}{x:Option Ob}(h:(t=t')=False):(σ.set t x)[t']? =σ[t']? :=List.getElem?_set_ne (fun e=>by simp[e]at h)
theorem gE {σ:St}{t:Nat}{x:Option Ob}(h:(t<σ.length)=True):(σ.set t x)[t]? =some x:=by
 have:t<σ.length:=of_eq_true h
 simp[this]
theorem gA {σ τ:St}{t:Nat}(h:(t<σ.length)=True):(σ++τ)[t]? =σ[t]? :=by
 have:t<σ.length:=of_eq_true h
 rw[getElem?_append_left this]
theorem gN' {σ τ:St}{x:Option Ob}{n:Nat}(h:(n=σ.length)=True):(σ++x::τ)[n]? =some x:=by
 have:n=σ.length:=of_eq_true h
 subst this;simp
theorem at_lt {σ:St}{t:Nat}{x:Option Ob}(h:σ[t]? =some x):t<σ.length:=(List.getElem?_eq_some_iff.1 h).1
theorem set_back {σ:St}{t:Nat}{x:Option Ob}(h:σ[t]? =some x):σ.set t x=σ:=by
 apply List.ext_getElem?
 intro i
 rw[List.getElem?_set]
 split
 ·rename_i e;subst e;rw[if_pos (at_lt h),h]
 ·rfl
theorem put_new {σ:St}{ob:Ob}{n:Nat}(h:n=σ.length):σ.put n ob=σ++[some ob]:=by
 subst h;unfold St.put;rw[if_neg (Nat.lt_irrefl _)]
theorem app_set {σ τ:St}{t:Nat}{x:Option Ob}(h:(t<σ.length)=True):(σ++τ).set t x=σ.set t x++τ:=by
 have:t<σ.length:=of_eq_true h
 rw[List.set_append_left _ _ this]
theorem ne_of_ob {σ:St}{t t':Nat}{x y:Option Ob}(h:σ[t]? =some x)(h':σ[t']? =some y)(hn:x≠y):t≠t':=fun e=>by
 subst e;rw[h]at h';exact hn (by simpa using h')
theorem hA {n m k:Nat}(h:(n<m)=True):(n<m+k)=True:=eq_true (Nat.lt_of_lt_of_le (of_eq_true h) (Nat.le_add_right _ _))
theorem hB {n k:Nat}:(n<n+k)=(0<k):=propext ⟨fun h=>by omega,fun h=>by omega⟩
theorem hC {n m k:Nat}:(n+k<n+m)=(k<m):=propext ⟨fun h=>by omega,fun h=>by omega⟩
theorem hD {d n k:Nat}(h:(d<n)=True):(d=n+k)=False:=eq_false (by have:=of_eq_true h;omega)
theorem hD1 {d n k:Nat}(h:(d<n)=True):(n+k=d)=False:=eq_false (by have:=of_eq_true h;omega)
theorem hD2 {d n:Nat}(h:(d<n)=True):(d=n)=False:=eq_false (by have:=of_eq_true h;omega)
theorem hD3 {d n:Nat}(h:(d<n)=True):(n=d)=False:=eq_false (by have:=of_eq_true h;omega)
theorem hE {n k:Nat}:(n=n+k)=(0=k):=propext ⟨fun h=>by omega,fun h=>by omega⟩
theorem hE1 {n k:Nat}:(n+k=n)=(k=0):=propext ⟨fun h=>by omega,fun h=>by omega⟩
theorem hE2 {n k m:Nat}:(n+k=n+m)=(k=m):=propext ⟨fun h=>by omega,fun h=>by omega⟩
theorem gP {σ:St}{ob:Ob}{n:Nat}(h:(n=σ.length)=True):σ.put n ob=σ++[some ob]:=put_new (of_eq_true h)
theorem gQ {σ:St}{x y:Option Ob}{n:Nat}(h:(n=σ.length)=True):(σ++[x]).set n y=σ++[y]:=by
 have:n=σ.length:=of_eq_true h
 subst this;simp
theorem gB {σ:St}{t:Nat}{x:Option Ob}(h:(σ[t]? =some x)=True):σ.set t x=σ:=set_back (of_eq_true h)
theorem gT {σ τ:St}{n:Nat}(h:(σ.length≤n)=True):(σ++τ)[n]? =τ[n - σ.length]? :=List.getElem?_append_right (of_eq_true h)
theorem hF {n k m:Nat}:(n+k) - (n+m)=k - m:=by omega
theorem hF1 {n k:Nat}:(n+k) - n=k:=by omega
theorem hG {n k m:Nat}:(n+k≤n+m)=(k≤m):=propext ⟨fun h=>by omega,fun h=>by omega⟩
theorem hG1 {n m:Nat}:(n≤n+m)=True:=eq_true (by omega)
theorem wHt:(type_of% @gT)∧(type_of% @hF)∧(type_of% @hF1)∧(type_of% @hG)∧(type_of% @hG1):=⟨@gT,@hF,@hF1,@hG,@hG1⟩
theorem wH:(type_of% @Nat.add_assoc)∧(type_of% @gB)∧(type_of% @List.set_set.{0})∧(type_of% @gQ)∧(type_of% @app_set)∧(type_of% @gS)∧(type_of% @gE)∧(type_of% @gA)∧(type_of% @gN')∧(type_of% @gP)∧(type_of% @hA)∧(type_of% @hB)∧(type_of% @hC)∧(type_of% @hD)∧(type_of% @hD1)∧(type_of% @hD2)∧(type_of% @hD3)∧(type_of% @hE)∧(type_of% @hE1)∧(type_of% @hE2)∧(type_of% @length_set.{0})∧(type_of% @length_append.{0}):=
 ⟨@Nat.add_assoc,@gB,@List.set_set.{0},@gQ,@app_set,@gS,@gE,@gA,@gN',@gP,@hA,@hB,@hC,@hD,@hD1,@hD2,@hD3,@hE,@hE1,@hE2,@length_set.{0},@length_append.{0}⟩
theorem nf {a b:Nat}(h:a≠b):(a=b)=False:=eq_false h
theorem lf {a b:Nat}(h:a<b):(a<b)=True:=eq_true h
structure Fr (σ σ':St)(F F':Nat→Prop):Prop where
 len:σ.length≤σ'.length
 keep:∀ t,t<σ.length→¬ F t→σ'[t]? =σ[t]?
 own:∀ t,F' t→F t∨σ.length≤t
theorem Fr.refl (σ:St)(F:Nat→Prop):Fr σ σ F F:=⟨Nat.le_refl _,fun _ _ _=>rfl,fun _ h=>.inl h⟩
theorem Fr.trans {σ σ' σ'':St}{F F' F'':Nat→Prop}(h:Fr σ σ' F F')(k:Fr σ' σ'' F' F''):Fr σ σ'' F F'':=
 ⟨Nat.le_trans h.len k.len,fun t ht hn=>(k.keep t (Nat.lt_of_lt_of_le ht h.len) (fun hF=>(h.own t hF).elim hn (fun hl=>Nat.lt_irrefl _ (Nat.lt_of_lt_of_le ht hl)))).trans (h.keep t ht hn),fun t ht=>(k.own t ht).elim (h.own t) fun hl=>.inr (Nat.le_trans h.len hl)⟩
theorem Fr.more {σ σ':St}{F F' G:Nat→Prop}(h:Fr σ σ' F F')(hG:∀ t,F t→G t):Fr σ σ' G fun t=>F' t∨(G t∧¬ F t):=
 ⟨h.len,fun t ht hn=>h.keep t ht fun hF=>hn (hG t hF),fun t ht=>ht.elim (fun hF=>(h.own t hF).imp (hG t) id) fun hg=>.inl hg.1⟩
theorem Fr.get {σ σ':St}{F F':Nat→Prop}(h:Fr σ σ' F F'){t:Nat}{x:Option Ob}(ht:σ[t]? =some x)(hn:¬ F t):σ'[t]? =some x:=(h.keep t (at_lt ht) hn).trans ht
theorem Fr.ofSet {σ:St}{t:Nat}{x:Option Ob}{F:Nat→Prop}(h:F t):Fr σ (σ.set t x) F F:=
 ⟨by simp,fun s _ hn=>List.getElem?_set_ne fun e=>by subst e;exact hn h,fun _ h=>.inl h⟩
theorem Fr.ofApp {σ τ:St}{F F':Nat→Prop}(h:∀ t,F' t→F t∨σ.length≤t):Fr σ (σ++τ) F F':=
 ⟨by simp,fun s hs _=>getElem?_append_left hs,h⟩
theorem Fr.none {σ σ':St}{F:Nat→Prop}(h:Fr σ σ' (fun _=>False) (fun _=>False)):Fr σ σ' F F:=⟨h.len,fun t ht _=>h.keep t ht id,fun t ht=>.inl ht⟩
theorem Fr.set {σ σ':St}{F F':Nat→Prop}(h:Fr σ σ' F F'){t:Nat}(x:Option Ob)(ht:F t):Fr σ (σ'.set t x) F F':=
 ⟨by simpa using h.len,fun s hs hn=>by rw[List.getElem?_set_ne (fun e=>by subst e;exact hn ht)];exact h.keep s hs hn,h.own⟩
theorem Fr.app {σ σ':St}{F F':Nat→Prop}(h:Fr σ σ' F F')(τ:St):Fr σ (σ'++τ) F F':=
 ⟨by have:=h.len;simp;omega,fun s hs hn=>by rw[getElem?_append_left (Nat.lt_of_lt_of_le hs h.len)];exact h.keep s hs hn,h.own⟩
theorem Fr.to {σ σ':St}{F F' G:Nat→Prop}(h:Fr σ σ' F F')(hG:∀ t,G t→F t∨σ.length≤t):Fr σ σ' F G:=⟨h.len,h.keep,hG⟩
theorem ACalls.eq' {P:Program}{f:FuncId}{args:List AV}{σ s0:St}{a:AV}{R:AV→St→Prop}(h:ACalls P f args σ fun r s=>s=s0∧r=a)(hk:R a s0):ACalls P f args σ R:=h.mono fun r s e=>by
 obtain⟨rfl,rfl⟩:=e
 exact hk
def Ap (σ σ':St):Prop:=∃ τ,σ'=σ++τ
theorem Ap.fr {σ σ':St}(h:Ap σ σ'){F:Nat→Prop}:Fr σ σ' F F:=by
 obtain⟨τ,rfl⟩:=h
 exact Fr.ofApp fun t h=>.inl h
theorem Ap.refl (σ:St):Ap σ σ:=⟨[],by simp⟩
theorem Ap.app (σ τ:St):Ap σ (σ++τ):=⟨τ,rfl⟩
theorem Ap.trans {σ σ' σ'':St}(h:Ap σ σ')(k:Ap σ' σ''):Ap σ σ'':=by
 obtain⟨τ,rfl⟩:=h;obtain⟨τ',rfl⟩:=k
 exact⟨τ++τ',by simp⟩
theorem Ap.set {σ s:St}(h:Ap σ s){t:Nat}(ht:σ.length≤t)(x:Option Ob):Ap σ (s.set t x):=by
 obtain⟨τ,rfl⟩:=h
 exact⟨τ.set (t - σ.length) x,by rw[List.set_append_right _ _ ht]⟩
theorem Ap.more {σ s:St}(h:Ap σ s)(τ:St):Ap σ (s++τ):=h.trans (Ap.app _ _)
theorem Ap.len {σ s:St}(h:Ap σ s):σ.length≤s.length:=by obtain⟨τ,rfl⟩:=h;simp
theorem Ap.get {σ s:St}(h:Ap σ s){t:Nat}{x:Option Ob}(ht:σ[t]? =some x):s[t]? =some x:=by obtain⟨τ,rfl⟩:=h;rw[getElem?_append_left (at_lt ht)];exact ht
theorem ret_st {C:Ctx}{fr:List AV}{σ:St}{rs:List ResultVar}{n:Nat}{R:AV→St→Prop}{e:Exit}(h:match resA C rs fr σ with|some r=>R r σ|none=>False)(hn:n≤σ.length)(he:e= .ret∨e= .normal:=by first|exact .inl rfl|exact .inr rfl):retA C rs n R e fr σ:=by
 split at h
 ·rename_i r hr
  exact⟨he,r,r,σ,hr,.inl ⟨rfl,rfl⟩,hn,h⟩
 ·exact h.elim
def fS (fr:List AV)(D:List (Nat×AV))(Js:List Nat)(J:Nat→AV):List AV:=setsF fr (D++Js.map fun t=>(t,J t))
def roundS {X:Type}(fr:List AV)(D:X→List (Nat×AV))(Js:List Nat)(m:X→Nat)(I:X→St→Prop)(x:X)(Q:Exit→List AV→St→Prop)(e:Exit)(fr':List AV)(σ':St):Prop:=match e with
 | .normal=>∃ x',m x'<m x∧I x' σ'∧fr'=fS fr (D x') Js fun t=>fr'.getD t .any
 |e=>Q e fr' σ'
section
variable {P:Program} {C:Ctx} {fr fr':List AV} {σ σ':St} {Q:Exit→List AV→St→Prop} {c:Code} {X:Type} {D:X→List (Nat×AV)} {Js:List Nat} {m:X→Nat} {I:X→St→Prop} {x:X}
theorem roundS_normal:roundS fr D Js m I x Q .normal fr' σ'=∃ x',m x'<m x∧I x' σ'∧fr'=fS fr (D x') Js fun t=>fr'.getD t .any:=nr rfl
theorem roundS_exit {id:Nat}:roundS fr D Js m I x Q (.exit id) fr' σ'=Q (.exit id) fr' σ':=nr rfl
theorem roundS_ret:roundS fr D Js m I x Q .ret fr' σ'=Q .ret fr' σ':=nr rfl
theorem awp_loopS (m:X→Nat)(D:X→List (Nat×AV))(Js:List Nat)(I:X→St→Prop)(x0:X)(hf:fr=fS fr (D x0) Js fun t=>fr.getD t .any)(h0:I x0 σ)(hl:∀ x s,I x s→σ.length≤s.length)
 (h3:∀ x J s,I x s→AWp P C (aDraw P C) c (fS fr (D x) Js J) s (roundS fr D Js m I x Q)):AWp P C (aDraw P C) (.loop c) fr σ Q:=by
 refine awp_loop' (X:={ q:X×(Nat→AV)×St // I q.1 q.2.2 }) (fun q=>(fS fr (D q.1.1) Js q.1.2.1,q.1.2.2)) (fun q=>m q.1.1) ⟨(x0,fun t=>fr.getD t .any,σ),h0⟩ (fun q=>hl _ _ q.2) (.inl ⟨hf.symm,rfl⟩) ?_
 rintro⟨⟨x,J,s⟩,hI⟩
 refine AWp_mono (fun e f s' h=> ?_) (h3 x J s hI)
 cases e with
 |normal=>
  obtain⟨x',h1,h2,h4⟩:=h
  exact⟨⟨(x',fun t=>f.getD t .any,s'),h2⟩,h1,.inl ⟨h4.symm,rfl⟩⟩
 |_=>exact h
end
theorem wHe:(type_of% @length_cons.{0})∧(type_of% @length_nil.{0})∧(type_of% @Nat.zero_add)∧(type_of% @intV.eq_1)∧(type_of% @boolV.eq_1):=⟨@length_cons.{0},@length_nil.{0},@Nat.zero_add,@intV.eq_1,@boolV.eq_1⟩
theorem cz:((0:Nat):Int)=0:=nr rfl
theorem wHf:(type_of% @List.getD_cons_zero.{0})∧(type_of% @List.getD_cons_succ.{0})∧(type_of% @intV.eq_1)∧(type_of% @boolV.eq_1)∧(type_of% @cz):=⟨@List.getD_cons_zero.{0},@List.getD_cons_succ.{0},@intV.eq_1,@boolV.eq_1,@cz⟩
theorem wHl:(type_of% @roundS_exit)∧(type_of% @roundS_ret)∧(type_of% @roundS_normal)∧(type_of% @fS.eq_1)∧(type_of% @cons_append.{0})∧(type_of% @nil_append.{0})∧(type_of% @map_cons.{0,0})∧(type_of% @map_nil.{0,0})∧(type_of% @setsF_cons)∧(type_of% @setsF_nil)∧(type_of% @set_cons_zero.{0})∧(type_of% @set_cons_succ.{0}):=
 ⟨@roundS_exit,@roundS_ret,@roundS_normal,@fS.eq_1,@cons_append.{0},@nil_append.{0},@map_cons.{0,0},@map_nil.{0,0},@setsF_cons,@setsF_nil,@set_cons_zero.{0},@set_cons_succ.{0}⟩
theorem pageC_n {l:List UInt8}{n:Nat}(h:l.length=n):(pageC l).length=n:=by simp[pageC,h]
theorem take_page {l:List UInt8}{n:Nat}(h:l.length=n):List.take n (pageC l)=pageC l:=by rw[← pageC_n h,List.take_length]
theorem zT65_l:zT65.length=65:=by have:=zT65_len;simpa [zeroA]using this
theorem zT513_l:zT513.length=513:=by have:=zT513_len;simpa [zeroA]using this
theorem zT516_l:zT516.length=516:=by have:=zT516_len;simpa [zeroA]using this
theorem zT65_d {x:AV}:List.drop 65 (x::List.drop 1 (List.map (fun x=>AV.p (PV.v x)) zT65))=[]:=drop_eq_nil_of_le (by simp[zT65_l])
theorem zT513_d {x:AV}:List.drop 513 (x::List.drop 1 (List.map (fun x=>AV.p (PV.v x)) zT513))=[]:=drop_eq_nil_of_le (by simp[zT513_l])
theorem zT516_d {x:AV}:List.drop 513 (x::List.drop 1 (List.map (fun x=>AV.p (PV.v x)) zT516))=[.p (.v (.bool false)),.p (.v (.int .i64 0)),.p (.v (.int .i64 0))]:=by
 have:zT516=[.int .i64 0]++(zB 512++[.bool false,.int .i64 0,.int .i64 0]):=by simp only[zT516,List.append_assoc,cons_append,nil_append]
 rw[this]
 simp only[List.map_append,map_cons,map_nil,cons_append,nil_append,drop_succ_cons,List.drop_zero]
 rw[List.drop_left' (by simp only[zB,List.length_map,List.length_replicate])]
theorem zT65_e:List.drop 64 (List.drop 1 (List.map (fun x=>AV.p (PV.v x)) zT65))=[]:=by have:=zT65_d (x:=.any);simpa only[drop_succ_cons]using this
theorem zT513_e:List.drop 512 (List.drop 1 (List.map (fun x=>AV.p (PV.v x)) zT513))=[]:=by have:=zT513_d (x:=.any);simpa only[drop_succ_cons]using this
theorem zT516_e:List.drop 512 (List.drop 1 (List.map (fun x=>AV.p (PV.v x)) zT516))=[.p (.v (.bool false)),.p (.v (.int .i64 0)),.p (.v (.int .i64 0))]:=by have:=zT516_d (x:=.any);simpa only[drop_succ_cons]using this
theorem drop_page {l:List UInt8}{n:Nat}(h:l.length=n):List.drop n (pageC l)=[]:=drop_eq_nil_of_le (by simp[pageC_n h])
theorem drop_513 {x:AV}{l:List UInt8}(h:l.length=512):List.drop 513 (x::pageC l)=[]:=drop_eq_nil_of_le (by simp[pageC_n h])
theorem map_byteP {l:List UInt8}:List.map AV.p (List.map byteP l)=pageC l:=by simp[pageC]
theorem toPs_page:∀ l:List UInt8,toPs (pageC l)=some (l.map byteP)
 |[]=>rfl
 |b::l=>by
  have:=toPs_page l
  simp only[pageC]at this
  simp only[pageC,map_cons,toPs,toP,this]
theorem toPs_row {x:PV}{l:List UInt8}:toPs (.p x::pageC l)=some (x::l.map byteP):=by simp only[toPs,toP,toPs_page]
def frR (n:Int)(l:List UInt8)(f:Bool)(u a:Int):List AV:=.p (.v (.int .i64 n))::(pageC l++[.p (.v (.bool f)),.p (.v (.int .i64 u)),.p (.v (.int .i64 a))])
section
variable {n u a:Int} {l:List UInt8} {f:Bool} {x:AV}
theorem frR_len (h:l.length=512):(frR n l f u a).length=516:=by simp[frR,pageC_n h]
theorem frR_0:(frR n l f u a)[0]? =some (.p (.v (.int .i64 n))):=rfl
theorem frR_513 (h:l.length=512):(frR n l f u a)[513]? =some (.p (.v (.bool f))):=by
 simp only[frR,List.getElem?_cons_succ]
 rw[List.getElem?_append_right (by rw[pageC_n h];omega),pageC_n h];rfl
theorem frR_514 (h:l.length=512):(frR n l f u a)[514]? =some (.p (.v (.int .i64 u))):=by
 simp only[frR,List.getElem?_cons_succ]
 rw[List.getElem?_append_right (by rw[pageC_n h];omega),pageC_n h];rfl
theorem frR_515 (h:l.length=512):(frR n l f u a)[515]? =some (.p (.v (.int .i64 a))):=by
 simp only[frR,List.getElem?_cons_succ]
 rw[List.getElem?_append_right (by rw[pageC_n h];omega),pageC_n h];rfl
theorem frR_p (h:l.length=512):List.take 512 (List.drop 1 (frR n l f u a))=pageC l:=by
 simp only[frR,drop_succ_cons,List.drop_zero]
 exact List.take_left' (pageC_n h)
theorem frR_sec (h:l.length=512){i:Nat}(hi:i<8):List.take 64 (List.drop (1+64*i) (frR n l f u a))=pageC ((l.drop (64*i)).take 64):=by
 rw[show 1+64*i=64*i+1 by omega]
 simp only[frR,drop_succ_cons]
 rw[List.drop_append_of_le_length (by rw[pageC_n h];omega),List.take_append_of_le_length (by simp[pageC_n h];omega)]
 simp only[pageC,List.map_take,List.map_drop]
theorem frR_s1 {l':List UInt8}(h:l.length=512)(h':l'.length=512):List.take 1 (frR n l f u a)++pageC l'++List.drop 513 (frR n l f u a)=frR n l' f u a:=by
 simp only[frR,take_succ_cons,take_zero,drop_succ_cons]
 rw[List.drop_left' (pageC_n h)]
 simp
theorem frR_s513 {f':Bool}(h:l.length=512):List.take 513 (frR n l f u a)++[.p (.v (.bool f'))]++List.drop 514 (frR n l f u a)=frR n l f' u a:=by
 simp only[frR,take_succ_cons,drop_succ_cons]
 rw[List.take_left' (pageC_n h),show (513:Nat)=(pageC l).length+1 by rw[pageC_n h],drop_append]
 simp
theorem frR_s514 {u':Int}(h:l.length=512):List.take 514 (frR n l f u a)++[.p (.v (.int .i64 u'))]++List.drop 515 (frR n l f u a)=frR n l f u' a:=by
 simp only[frR,take_succ_cons,drop_succ_cons]
 rw[show (513:Nat)=(pageC l).length+1 by rw[pageC_n h],show (514:Nat)=(pageC l).length+2 by rw[pageC_n h],drop_append,List.take_append]
 simp[List.take_of_length_le,drop_eq_nil_of_le]
theorem frR_s515 {a':Int}(h:l.length=512):List.take 515 (frR n l f u a)++[.p (.v (.int .i64 a'))]++List.drop 516 (frR n l f u a)=frR n l f u a':=by
 simp only[frR,take_succ_cons,drop_succ_cons]
 rw[show (514:Nat)=(pageC l).length+2 by rw[pageC_n h],show (515:Nat)=(pageC l).length+3 by rw[pageC_n h],drop_append,List.take_append]
 simp[List.take_of_length_le,drop_eq_nil_of_le]
theorem frR_mk:AV.p (.v (.int .i64 n))::(pageC l++[.p (.v (.bool f)),.p (.v (.int .i64 u)),.p (.v (.int .i64 a))])=frR n l f u a:=rfl
end
theorem wFr:(type_of% @frR_len)∧(type_of% @frR_0)∧(type_of% @frR_513)∧(type_of% @frR_514)∧(type_of% @frR_515)∧(type_of% @frR_p)∧(type_of% @frR_s1)∧(type_of% @frR_s513)∧(type_of% @frR_s514)∧(type_of% @frR_s515)∧(type_of% @frR_mk):=
 ⟨@frR_len,@frR_0,@frR_513,@frR_514,@frR_515,@frR_p,@frR_s1,@frR_s513,@frR_s514,@frR_s515,@frR_mk⟩
theorem wZt:(type_of% @take_page)∧(type_of% @map_byteP)∧(type_of% @zT65_e)∧(type_of% @zT513_e)∧(type_of% @zT516_e)∧(type_of% @drop_page)∧(type_of% @zT65_l)∧(type_of% @zT513_l)∧(type_of% @zT516_l)∧(type_of% @zT65_d)∧(type_of% @zT513_d)∧(type_of% @zT516_d)∧(type_of% @drop_513)∧(type_of% @toPs_row)∧(type_of% @toPs_page)∧(type_of% @take_succ_cons.{0})∧(type_of% @take_zero.{0})∧(type_of% @List.length_drop.{0}):=
 ⟨@take_page,@map_byteP,@zT65_e,@zT513_e,@zT516_e,@drop_page,@zT65_l,@zT513_l,@zT516_l,@zT65_d,@zT513_d,@zT516_d,@drop_513,@toPs_row,@toPs_page,@take_succ_cons.{0},@take_zero.{0},@List.length_drop.{0}⟩
def lkM {β:Type}:List (Nat×β)→Nat→Option β
 |[],_=>none
 |(j,x)::m,k=>if j=k then some x else lkM m k
def setM {β:Type}:List (Nat×β)→Nat→β→List (Nat×β)
 |[],k,y=>[(k,y)]
 |(j,x)::m,k,y=>if j=k then (k,y)::m else (j,x)::setM m k y
theorem lk_setM {β:Type}(k:Nat)(y:β)(i:Nat):∀ m:List (Nat×β),lkM (setM m k y) i=if i=k then some y else lkM m i
 |[]=>by simp only[setM,lkM,eq_comm]
 |(j,x)::m=>by
  simp only[setM]
  by_cases h:j=k
  ·subst h
   simp only[if_true,lkM]
   by_cases h2:j=i
   ·subst h2;simp
   ·have:¬ i=j:=fun e=>h2 e.symm
    simp[h2,this]
  ·simp only[if_neg h,lkM,lk_setM k y i m]
   by_cases h2:j=i
   ·subst h2;simp[h]
   ·simp[h2]
def encM {β:Type}(f:β→AV)(m:List (Nat×β)):List (Value×AV):=m.map fun q=>(.int .i64 q.1,f q.2)
def ixM {β:Type}:List (Nat×β)→Nat→Nat→Option (Nat×β)
 |[],_,_=>none
 |(j,x)::m,k,i=>if j=k then some (i,x)else ixM m k (i+1)
theorem same_int (a b:Int):Instr.sameNow (.int .i64) (.int .i64 a) (.int .i64 b)=some (a==b):=by simp[Instr.sameNow]
theorem find_enc {β:Type}(f:β→AV)(k:Nat):∀ (m:List (Nat×β)) (i:Nat),findMK (.int .i64) (.int .i64 k) (encM f m) i=some ((ixM m k i).map fun q=>(q.1,f q.2))
 |[],i=>rfl
 |(j,x)::m,i=>by
  have ih:=find_enc f k m (i+1)
  simp only[encM,map_cons,findMK,same_int,ixM]at ih ⊢
  by_cases h:j=k
  ·subst h
   simp
  ·have h':((k:Int)==(j:Int))=false:=by simp;omega
   simp only[h',if_neg h,ih]
theorem ix_none {β:Type}(k:Nat)(y:β):∀ (m:List (Nat×β)) (i:Nat),ixM m k i=none→lkM m k=none∧setM m k y=m++[(k,y)]
 |[],i,_=>⟨rfl,rfl⟩
 |(j,x)::m,i,h=>by
  simp only[ixM]at h
  by_cases e:j=k
  ·rw[if_pos e]at h;cases h
  ·rw[if_neg e]at h
   obtain⟨h1,h2⟩:=ix_none k y m _ h
   simp only[lkM,setM,if_neg e,h1,h2,cons_append,and_self]
theorem ix_lk {β:Type}(k:Nat):∀ (m:List (Nat×β)) (i:Nat),ixM m k i=none→lkM m k=none
 |[],i,_=>rfl
 |(j,x)::m,i,h=>by
  simp only[ixM]at h
  by_cases e:j=k
  ·rw[if_pos e]at h;cases h
  ·rw[if_neg e]at h
   simp only[lkM,if_neg e,ix_lk k m _ h]
theorem ix_some {β:Type}(k:Nat):∀ (m:List (Nat×β)) (i j:Nat) (x:β),ixM m k i=some (j,x)→i≤j∧lkM m k=some x∧∀ (f:β→AV) (y:β),(encM f m).set (j - i) (.int .i64 k,f y)=encM f (setM m k y)
 |[],i,j,x,h=>by simp[ixM]at h
 |(q,z)::m,i,j,x,h=>by
  simp only[ixM]at h
  by_cases e:q=k
  ·subst e
   simp only[if_true,Option.some.injEq,Prod.mk.injEq]at h
   obtain⟨rfl,rfl⟩:=h
   exact⟨Nat.le_refl _,by simp[lkM],fun f y=>by simp[encM,setM]⟩
  ·rw[if_neg e]at h
   obtain⟨h1,h2,h3⟩:=ix_some k m _ j x h
   refine⟨by omega,by simp only[lkM,if_neg e,h2],fun f y=> ?_⟩
   have:=h3 f y
   rw[show j - i=(j - (i+1))+1 by omega]
   simp only[encM,setM,if_neg e,map_cons,set_cons_succ]at this ⊢
   rw[this]
theorem upd_enc {β:Type}(f:β→AV)(m:List (Nat×β))(k:Nat)(y:β):updK (.int .i64) (.int .i64 (k:Int)) (f y) (encM f m)=some (encM f (setM m k y)):=by
 unfold updK
 rw[if_pos (by simp[keyOk]),find_enc]
 cases hl:ixM m k 0 with
 |none=>simp[(ix_none k y m 0 hl).2,encM]
 |some q=>
  obtain⟨j,x⟩:=q
  simpa using (ix_some k m 0 j x hl).2.2 f y
theorem look_enc {β : Type} (f : β → AV) (m : List (Nat × β)) (k : Nat) (z : Value) (ok : Bool) : lookA (.int .i64) z (.int .i64 (k : Int)) ok (encM f m) = match lkM m k with
    | some x => some (if ok = true then .tup [f x, boolV true] else f x)
    | none => (zAV z).map fun a => if ok = true then .tup [a, boolV false] else a := by
  unfold lookA
  rw [if_pos (by simp [keyOk]), find_enc]
  cases hl : ixM m k 0 with
  | none => simp [ix_lk k m 0 hl]
  | some q =>
    obtain ⟨j, x⟩ := q
    simp [(ix_some k m 0 j x hl).2.1]
def zero64:List UInt8:=List.replicate 64 0
def secAt (m:List (Nat×List UInt8))(k:Nat):List UInt8:=(lkM m k).getD zero64
theorem zero_sec:zAV (.agg ⟨zB 64⟩)=some (pageA zero64):=by
 have h:(zB 64).all plain=true:=by simp[zB,plain]
 simp only[zAV,h,if_true,Option.some.injEq]
 simp only[pageA,pageC,zero64,zeroA,zB,byteP,List.map_replicate]
 rfl
theorem look_sec (m:List (Nat×List UInt8))(k:Nat):lookA (.int .i64) (.agg ⟨zB 64⟩) (.int .i64 (k:Int)) false (encM pageA m)=some (pageA (secAt m k)):=by
 rw[look_enc]
 unfold secAt
 cases lkM m k with
 |none=>simp[zero_sec]
 |some x=>rfl
def ovr (v:Nat→List UInt8):List (Nat×List UInt8)→Nat→List UInt8
 |[],m=>v m
 |q::ch,m=>ovr (fun m=>if m=q.1 then q.2 else v m) ch m
theorem ovr_app (v:Nat→List UInt8)(q:Nat×List UInt8)(m:Nat):∀ ch,ovr v (ch++[q]) m=if m=q.1 then q.2 else ovr v ch m:=by
 intro ch
 induction ch generalizing v with
 |nil=>rfl
 |cons r ch ih=>exact ih _
theorem ovr_congr {v v':Nat→List UInt8}(h:∀ m,v m=v' m)(m:Nat):∀ ch,ovr v ch m=ovr v' ch m:=by
 intro ch
 have:v=v':=funext h
 rw[this]
structure DiskV where
 size:Nat
 now:List (Nat×List UInt8)
 wait:List (Nat×List UInt8)
 kept:Nat→List UInt8
def wRows (W:List (Nat×List UInt8)):List (List PV):=W.map fun q=>.v (.int .i64 q.1)::q.2.map byteP
theorem wRows_len (W:List (Nat×List UInt8)):(wRows W).length=W.length:=by simp[wRows]
def WaitAt (σ:St)(a:AV)(w:Option Nat)(W:List (Nat×List UInt8)):Prop:=
 (a= .p (.v (.slice none 0 0))∧w=none∧W=[])∨∃ t,a= .own t 65 (wRows W)∧w=some t∧W≠[]∧σ[t]? =some (some (.right 183 (W.length*65)))
theorem ovr_len {v:Nat→List UInt8}{n:Nat}:∀ ch:List (Nat×List UInt8),(∀ k,(v k).length=n)→(∀ q∈ch,q.2.length=n)→∀ k,(ovr v ch k).length=n:=by
 intro ch
 induction ch generalizing v with
 |nil=>intro h _ k;exact h k
 |cons r ch ih=>
  intro h hc k
  refine ih (fun m=> ?_) (fun q hq=>hc q (List.mem_cons_of_mem _ hq)) k
  split
  ·exact hc r (by simp)
  ·exact h m
def KeptI (es:List (Value×AV))(f:Nat→List UInt8):Prop:=∃ km:List (Nat×List UInt8),es=encM pageA km∧∀ k,secAt km k=f k
theorem secAt_setM (m:List (Nat×List UInt8))(k:Nat)(s:List UInt8)(j:Nat):secAt (setM m k s) j=if j=k then s else secAt m j:=by
 unfold secAt
 rw[lk_setM]
 split<;>rfl
theorem KeptI.upd {es:List (Value×AV)}{f:Nat→List UInt8}(h:KeptI es f)(k:Nat)(s:List UInt8):∃ es',updK (.int .i64) (.int .i64 (k:Int)) (pageA s) es=some es'∧KeptI es' fun m=>if m=k then s else f m:=by
 obtain⟨km,rfl,hf⟩:=h
 exact⟨_,upd_enc pageA km k s,setM km k s,rfl,fun j=>by rw[secAt_setM,hf]⟩
theorem KeptI.congr {es:List (Value×AV)}{f g:Nat→List UInt8}(h:KeptI es f)(he:∀ k,f k=g k):KeptI es g:=by
 have:f=g:=funext he
 rw[← this];exact h
structure DiskIn (σ:St)(d kn kk:Nat)(w:Option Nat)(a:AV)(es:List (Value×AV))(D:DiskV):Prop where
 d:σ[d]? =some (some (.row 6 [[intV .i64 (D.size:Nat),.mmap kn,.mmap kk,a,boolV false,intV .i64 (-1)]]))
 now:σ[kn]? =some (some (.map (encM pageA D.now)))
 kept:σ[kk]? =some (some (.map es))
 keys:KeptI es D.kept
 ne:kn≠kk
 wt:WaitAt σ a w D.wait
 len:∀ q∈D.wait,q.2.length=64
 big:D.size≤65536
 ov:∀ k,secAt D.now k=ovr D.kept D.wait k
 kl:∀ k,(D.kept k).length=64
def DiskAt (σ:St)(d:Nat)(F:Nat→Prop)(D:DiskV):Prop:=∃ kn kk w a es,DiskIn σ d kn kk w a es D∧∀ t,F t↔(t=d∨t=kn∨t=kk∨w=some t)
theorem DiskAt.mk' {σ:St}{d kn kk:Nat}{w:Option Nat}{a:AV}{es:List (Value×AV)}{z:Nat}{now W:List (Nat×List UInt8)}{kept:Nat→List UInt8}(h0:σ[d]? =some (some (.row 6 [[intV .i64 (z:Nat),.mmap kn,.mmap kk,a,boolV false,intV .i64 (-1)]])))
 (h1:σ[kn]? =some (some (.map (encM pageA now)))) (h2:σ[kk]? =some (some (.map es))) (hk:KeptI es kept) (hn:kn≠kk) (hw:WaitAt σ a w W) (hl:∀ q∈W,q.2.length=64) (hb:z≤65536) (hov:∀ k,secAt now k=ovr kept W k) (hkl:∀ k,(kept k).length=64):DiskAt σ d (fun t=>t=d∨t=kn∨t=kk∨w=some t) ⟨z,now,W,kept⟩:=
 ⟨kn,kk,w,a,es,⟨h0,h1,h2,hk,hn,hw,hl,hb,hov,hkl⟩,fun t=>Iff.rfl⟩
theorem wait_len {W:List (Nat×List UInt8)}(h:∀ q∈W,q.2.length=64){n:Nat}{s:List UInt8}(hs:s.length=64):∀ q∈W++[(n,s)],q.2.length=64:=fun q hq=>by
 rcases List.mem_append.1 hq with hq|hq
 ·exact h q hq
 ·simp at hq;subst hq;exact hs
theorem wRows_app (W:List (Nat×List UInt8))(n:Nat)(s:List UInt8):wRows W++[.v (.int .i64 (n:Int))::s.map byteP]=wRows (W++[(n,s)]):=by simp[wRows]
theorem DiskAt.lt {σ:St}{d:Nat}{F:Nat→Prop}{D:DiskV}(h:DiskAt σ d F D):∀ t,F t→t<σ.length:=by
 obtain⟨kn,kk,w,a,es,h,hF⟩:=h
 intro t ht
 rcases (hF t).1 ht with rfl|rfl|rfl|hw
 ·exact at_lt h.d
 ·exact at_lt h.now
 ·exact at_lt h.kept
 ·rcases h.wt with⟨_,h1,_⟩|⟨t',_,h1,_,h2⟩
  ·rw[h1]at hw;cases hw
  ·rw[h1]at hw;simp only[Option.some.injEq]at hw;subst hw;exact at_lt h2
theorem DiskAt.same {σ σ':St}{d:Nat}{F:Nat→Prop}{D:DiskV}(h:DiskAt σ d F D)(hs:∀ t,F t→σ'[t]? =σ[t]?):DiskAt σ' d F D:=by
 obtain⟨kn,kk,w,a,es,h,hF⟩:=h
 refine⟨kn,kk,w,a,es,⟨?_,?_,?_,h.keys,h.ne,?_,h.len,h.big,h.ov,h.kl⟩,hF⟩
 ·rw[hs _ ((hF d).2 (.inl rfl))];exact h.d
 ·rw[hs _ ((hF kn).2 (.inr (.inl rfl)))];exact h.now
 ·rw[hs _ ((hF kk).2 (.inr (.inr (.inl rfl))))];exact h.kept
 ·rcases h.wt with h1|⟨t,h1,h2,h3,h4⟩
  ·exact .inl h1
  ·exact .inr ⟨t,h1,h2,h3,by rw[hs _ ((hF t).2 (.inr (.inr (.inr h2))))];exact h4⟩
theorem DiskAt.frame {σ σ':St}{d:Nat}{F G G':Nat→Prop}{D:DiskV}(h:DiskAt σ d F D)(hf:Fr σ σ' G G')(hd:∀ t,F t→G t→False):DiskAt σ' d F D:=
 h.same fun t ht=>hf.keep t (h.lt t ht) fun hg=>hd t ht hg
theorem DiskAt.app {σ:St}{d:Nat}{F:Nat→Prop}{D:DiskV}(h:DiskAt σ d F D)(τ:St):DiskAt (σ++τ) d F D:=
 h.same fun t ht=>getElem?_append_left (h.lt t ht)
theorem pageC_512 {l:List UInt8}(h:l.length=512):(pageC l).length=512:=by simp[pageC,h]
theorem pageC_64 {l:List UInt8}(h:l.length=64):(pageC l).length=64:=by simp[pageC,h]
theorem zB_64:(List.map (fun x=>AV.p (PV.v x)) (zB 64))=pageC zero64:=by
 simp only[pageC,zero64,zB,byteP,List.map_replicate];rfl
theorem len_zero64:zero64.length=64:=rfl
theorem DiskAt.root {σ:St}{d:Nat}{F:Nat→Prop}{D:DiskV}(h:DiskAt σ d F D):F d:=by
 obtain⟨kn,kk,w,a,es,h,hF⟩:=h
 exact (hF d).2 (.inl rfl)
def pl107_6Dk:Plan:=(.det 0 (.det 1 (.det 2 (.det 3 (.det 4 (.det 5 (.fin 6 .done)))))))
def pl107_7Dk:Plan:=(.det 0 (.det 1 (.det 2 (.det 3 (.det 4 (.det 5 (.det 6 (.det 7 (.act 8 (.fin 9 (.det 10 (.det 11 (.fin 12 .done)))))))))))))
def tDk:=aa wX <| aa wbu <| aa T3 <| aa T4 <| aa T29 <| aa T39 <| aa T91 <| aa T92 <| aa T94 <| aa T131 T183
theorem adsize {σ:St}{d:Nat}{F:Nat→Prop}{D:DiskV}(h:DiskAt σ d F D):ACalls Tryz.prog 33 [.mp d 6 0 0] σ fun r σ'=>σ'=σ∧r=intV .i64 (D.size:Nat):=by
 obtain⟨kn,kk,w,a,es,hd,hF⟩:=h
 have h0:=hd.d
 refine acalls_of cx_ok dr_ok Tryz.func33 (by kernel_rfl) rfl (nt:=8) (rs:=[.tmp 2]) rfl rfl ?_
 repeat' first|((with_reducible first|apply cs|apply ws)<;>intro h<;>try simp only[h])|simp only[↓wBA,tDk,convA,seval,h0]
 all_goals refine ret_st ?_ (Nat.le_refl _)
 all_goals simp only[wS]
 all_goals simp
theorem admay {σ:St}{d:Nat}{F:Nat→Prop}{D:DiskV}(h:DiskAt σ d F D)(n:Nat)(hn:n<D.size∨n=0):ACalls Tryz.prog 100 [.mp d 6 0 0,intV .i64 (n:Nat)] σ fun r σ'=>σ'=σ∧r=intV .i64 0:=by
 obtain⟨kn,kk,w,a,es,hd,hF⟩:=h
 have h0:=hd.d
 have e1:decide ((n:Int)<0)=false:=by simp
 refine acalls_of cx_ok dr_ok Tryz.func100 (by kernel_rfl) rfl (nt:=26) (rs:=[.tmp 4]) rfl rfl ?_
 repeat' first|((with_reducible first|apply cs|apply ws)<;>intro h<;>try simp only[h])|simp only[↓wBA,tDk,convA,seval,h0,e1]
 all_goals try (exfalso;simp_all;omega)
 all_goals refine ret_st ?_ (Nat.le_refl _)
 all_goals simp only[wS]
 all_goals simp
theorem adchange {σ:St}{d:Nat}{c0 c1 c2 c3 c4:AV}(h0:σ[d]? =some (some (.row 6 [[c0,c1,c2,c3,c4,.p (.v (.int .i64 (-1)))]]))):ACalls Tryz.prog 108 [.mp d 6 0 0] σ fun r σ'=>σ'=σ∧r= .tup []:=by
 refine acalls_of cx_ok dr_ok Tryz.func108 (by kernel_rfl) rfl (nt:=21) (rs:=[]) rfl rfl ?_
 repeat' first|((with_reducible first|apply cs|apply ws)<;>intro h<;>try simp only[h])|simp only[↓wBA,tDk,convA,seval,h0]
 all_goals refine ret_st ?_ (Nat.le_refl _)
 all_goals simp only[wS]
 all_goals simp
theorem adread {σ:St}{d:Nat}{F:Nat→Prop}{D:DiskV}(h:DiskAt σ d F D)(n:Nat)(hn:n<D.size)(hs:(secAt D.now n).length=64):ACalls Tryz.prog 64 [.mp d 6 0 0,intV .i64 (n:Nat)] σ fun r σ'=>Ap σ σ'∧r= .tup [pageA (secAt D.now n),intV .i64 0]:=by
 have hm:=fun τ=>admay (h.app τ) n (.inl hn)
 obtain⟨kn,kk,w,a,es,hd,hF⟩:=h
 have h0:=hd.d
 have h1:=hd.now
 have l0:=at_lt h0
 have l1:=at_lt h1
 have e1:decide ((n:Int)≥(D.size:Int))=false:=by simp;omega
 have e2:=look_sec D.now n
 have e3:=pageC_64 hs
 have e4:=pageC_64 len_zero64
 refine acalls_of cx_ok dr_ok Tryz.func64 (by kernel_rfl) rfl (nt:=29) (rs:=[.cell 4 131,.tmp 5]) rfl rfl ?_
 repeat' first|((with_reducible first|apply cs|apply ws)<;>intro h<;>try simp only[h])|simp only[↓wBA,tDk,convA,seval,wH,h0,h1,l0,l1,e1,e2,e3,e4,zB_64,pageA]|((with_reducible show ACalls _ _ _ _ _);refine (hm _).eq ?_)
 all_goals refine ret_st ?_ (by first|exact Nat.le_refl _|(simp only[length_set,length_append];omega)|omega)
 all_goals simp only[resA.eq_1,resL.eq_1,resL.eq_2,resV.eq_1,resV.eq_2,↓wBA,tDk,convA,seval,wH,h0,h1,l0,l1,e3]
 all_goals exact Ap.app _ _
theorem adwrite {σ:St}{d:Nat}{F:Nat→Prop}{D:DiskV}(h:DiskAt σ d F D)(n:Nat)(hn:n<D.size)(s:List UInt8)(hs:s.length=64)(hw:D.wait.length≤1000000000000):
 ACalls Tryz.prog 107 [.mp d 6 0 0,intV .i64 (n:Nat),pageA s] σ fun r σ'=>r=intV .i64 0∧∃ F',Fr σ σ' F F'∧DiskAt σ' d F' { D with now:=setM D.now n s,wait:=D.wait++[(n,s)] }:=by
 have hm:=fun τ=>admay (h.app τ) n (.inl hn)
 obtain⟨kn,kk,w,a,es,hd,hF⟩:=h
 have h0:=hd.d
 have h1:=hd.now
 have l0:=at_lt h0
 have l1:=at_lt h1
 have e1:decide ((n:Int)≥(D.size:Int))=false:=by simp;omega
 have e2:=upd_enc pageA D.now n s
 have e3:=pageC_64 hs
 simp only[pageA]at e2
 have n0:(d=kn)=False:=nf (ne_of_ob h0 h1 (by simp))
 have n1:(kn=d)=False:=nf (ne_of_ob h1 h0 (by simp))
 have hl1:=tL (n:=(D.wait.length+1)*72) (by omega)
 have hl2:=lM (n:=D.wait.length+1) (by omega)
 refine acalls_of cx_ok dr_ok Tryz.func107 (by kernel_rfl) rfl (nt:=41) (rs:=[.tmp 6]) rfl rfl ?_
 have hl3:=lM (n:=1) (by omega)
 have h3:=hd.kept
 have l3:=at_lt h3
 have n2:(d=kk)=False:=nf (ne_of_ob h0 h3 (by simp))
 have n3:(kn=kk)=False:=nf hd.ne
 rcases hd.wt with⟨rfl,rfl,hW⟩|⟨t,rfl,rfl,hW,h2⟩
 ·skip
  repeat' first|((with_reducible first|apply cs|apply ws|apply wd|apply wu)<;>intro h<;>try simp only[h])|simp only[↓wBA,tDk,convA,seval,pl107_6Dk,pl107_7Dk,wH,h0,h1,l0,l1,e1,e2,e3,pageA,n0,n1,wZt,appendA,srcA,wRows_len,hl1,hl2,hl3]|((with_reducible show ACalls _ _ _ _ _);first|refine (hm _).eq ?_|(refine (adchange (by simp only[wH,h0,h1,l0,l1,n0,n1,Nat.zero_add,Nat.reduceAdd];rfl)).eq ?_))|(with_reducible first|refine dQ pl107_6Dk 7 (some 24) ?_|refine dQ pl107_7Dk 13 (some 30) ?_)
  all_goals refine ret_st ?_ (by first|exact Nat.le_refl _|(simp only[length_set,length_append];omega)|omega)
  all_goals simp only[resA.eq_1,resL.eq_1,resL.eq_2,resV.eq_1,resV.eq_2,↓wBA,tDk,convA,seval,wH,h0,h1,l0,l1]
  refine⟨_,?_,DiskAt.mk' (kn:=kn) (kk:=kk) (w:=some (σ.length+2)) (a:=.own (σ.length+2) 65 (wRows (D.wait++[(n,s)]))) (es:=es) ?_ ?_ ?_ hd.keys hd.ne (.inr ⟨_,rfl,rfl,by simp,?_⟩) (wait_len hd.len hs) hd.big (fun j=>by rw[secAt_setM,ovr_app,hd.ov]) hd.kl⟩
  ·refine (((((((Fr.refl σ F).set _ ((hF kn).2 (by simp))).set _ ((hF d).2 (by simp))).app _).app _).app _).to fun t ht=> ?_)
   rcases ht with rfl|rfl|rfl|h
   ·exact .inl ((hF _).2 (by simp))
   ·exact .inl ((hF _).2 (by simp))
   ·exact .inl ((hF _).2 (by simp))
   ·simp at h;omega
  ·simp only[wH,l0,n0,n1,hW,nil_append,wRows,map_cons,map_nil,intV,boolV]
  ·simp only[wH,l0,l1,n0,n1,n2,n3,h1]
  ·simp only[wH,l0,l1,l3,n0,n1,n2,n3,h3]
  ·simp only[wH,l0,hW,length_cons,length_nil,Nat.zero_add,Nat.reduceAdd,Nat.reduceMul]
 ·have l2:=at_lt h2
  have n4:(t=kn)=False:=nf (ne_of_ob h2 h1 (by simp))
  have n5:(kn=t)=False:=nf (ne_of_ob h1 h2 (by simp))
  have n6:(t=d)=False:=nf (ne_of_ob h2 h0 (by simp))
  have n7:(d=t)=False:=nf (ne_of_ob h0 h2 (by simp))
  have n8:(t=kk)=False:=nf (ne_of_ob h2 h3 (by simp))
  repeat' first|((with_reducible first|apply cs|apply ws|apply wd|apply wu)<;>intro h<;>try simp only[h])|simp only[↓wBA,tDk,convA,seval,pl107_6Dk,pl107_7Dk,wH,h0,h1,h2,l0,l1,l2,e1,e2,e3,pageA,n0,n1,n4,n5,n6,n7,wZt,appendA,srcA,wRows_len,hl1,hl2]|((with_reducible show ACalls _ _ _ _ _);first|refine (hm _).eq ?_|(refine (adchange (by simp only[wH,h0,h1,l0,l1,l2,n0,n1,n6,n7,Nat.zero_add,Nat.reduceAdd];rfl)).eq ?_))|(with_reducible first|refine dQ pl107_6Dk 7 (some 24) ?_|refine dQ pl107_7Dk 13 (some 30) ?_)
  all_goals refine ret_st ?_ (by first|exact Nat.le_refl _|(simp only[length_set,length_append];omega)|omega)
  all_goals simp only[resA.eq_1,resL.eq_1,resL.eq_2,resV.eq_1,resV.eq_2,↓wBA,tDk,convA,seval,wH,h0,h1,l0,l1]
  refine⟨_,?_,DiskAt.mk' (kn:=kn) (kk:=kk) (w:=some t) (a:=.own t 65 (wRows (D.wait++[(n,s)]))) (es:=es) ?_ ?_ ?_ hd.keys hd.ne (.inr ⟨_,rfl,rfl,by simp,?_⟩) (wait_len hd.len hs) hd.big (fun j=>by rw[secAt_setM,ovr_app,hd.ov]) hd.kl⟩
  ·refine ((((((Fr.refl σ F).set _ ((hF kn).2 (by simp))).set _ ((hF t).2 (by simp))).set _ ((hF d).2 (by simp))).app _).app _).to fun t ht=> ?_
   exact .inl ((hF _).2 ht)
  ·simp only[wH,l0,l1,l2,n0,n1,n6,n7,wRows_app,intV,boolV]
  ·simp only[wH,l0,l1,l2,n0,n1,n2,n3,n4,n5,h1]
  ·simp only[wH,l0,l1,l2,l3,n0,n1,n2,n3,n4,n5,n6,n7,n8,h3]
  ·simp only[wH,l0,l1,l2,n0,n1,n6,n7,n4,n5,length_cons,length_nil]
end Go.Proofs.YthhbnenaihkggaaGreat
