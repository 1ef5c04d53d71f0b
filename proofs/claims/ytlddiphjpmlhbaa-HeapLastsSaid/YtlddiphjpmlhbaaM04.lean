/- That a world that bears the abstract machine's state does what the abstract machine does: loads, stores, new variables, and what only computes. That a world that bears the abstract machine's state does what the abstract machine does: each operation. -/
import Derived.Test.YtlddiphjpmlhbaaM03
import Derived.WalkKit
set_option linter.unusedSimpArgs false
set_option linter.unusedVariables false
set_option linter.defProp false
set_option maxRecDepth 100000
set_option maxHeartbeats 32000000
namespace Go.Proofs.Ytlddiphjpmlhbaa
open Go.RowKit
theorem setCells_other (b : Nat) : ∀ (vs : List Value) (o : Nat) (w : World) (k : Nat), k ≠ b → (w.setCells b o vs).heap[k]? = w.heap[k]?
 | [], o, w, k, h => rfl
 | v :: vs, o, w, k, h => by
   rw [World.setCells, setCells_other b vs (o + 1) _ k h, Below.heap_setCell _ _ _ _ h]
theorem setCells_size (b : Nat) : ∀ (vs : List Value) (o : Nat) (w : World), (w.setCells b o vs).heap.size = w.heap.size
 | [], o, w => rfl
 | v :: vs, o, w => by rw [World.setCells, setCells_size b vs (o + 1) _]; simp [World.setCell]
theorem setCells_rest (b : Nat) : ∀ (vs : List Value) (o : Nat) (w : World), (w.setCells b o vs).os = w.os ∧ (w.setCells b o vs).tape = w.tape ∧ (w.setCells b o vs).output = w.output
 | [], o, w => ⟨rfl, rfl, rfl⟩
 | v :: vs, o, w => by rw [World.setCells]; exact setCells_rest b vs (o + 1) _
theorem setCells_heap (b : Nat) : ∀ (vs : List Value) (o : Nat) (w : World) (cur : Array Value) (T : TypeId) (fr : Nat × Nat), w.heap[b]? = some (.cells cur T fr) →
 ∃ cur', (w.setCells b o vs).heap[b]? = some (.cells cur' T fr) ∧ cur'.size = cur.size ∧ ∀ k, cur'[k]? = if o ≤ k ∧ k < o + vs.length ∧ k < cur.size then vs[k - o]? else cur[k]?
 | [], o, w, cur, T, fr, h => ⟨cur, h, rfl, fun k => by rw [if_neg (by simp; omega)]⟩
 | v :: vs, o, w, cur, T, fr, h => by
   have h1 : (w.setCell ⟨b, o, none⟩ v).heap[b]? = some (.cells (cur.setIfInBounds o v) T fr) := by
    simp [World.setCell, Array.getElem?_modify, h]
   obtain ⟨cur', h2, h3, h4⟩ := setCells_heap b vs (o + 1) _ _ T fr h1
   refine ⟨cur', h2, by simpa using h3, fun k => ?_⟩
   rw [h4 k]
   simp only [Array.size_setIfInBounds, List.length_cons]
   by_cases hk : o + 1 ≤ k ∧ k < o + 1 + vs.length ∧ k < cur.size
   ·rw [if_pos hk, if_pos (by omega), show k - o = (k - (o + 1)) + 1 by omega]; simp
   ·rw [if_neg hk, Array.getElem?_setIfInBounds]
    by_cases he : o = k
    ·subst he
     by_cases hs : o < cur.size
     ·rw [if_pos rfl, if_pos hs, if_pos (by omega)]; simp
     ·rw [if_pos rfl, if_neg hs, if_neg (by omega), Array.getElem?_eq_none (by omega)]
    ·rw [if_neg he, if_neg (by omega)]
theorem part_cases {r : Bool} {s off : Nat} {l : List AV} {a : AV} (h : partA r s off l = some a) : (r = true ∧ off + s ≤ l.length ∧ a = .agg ((l.drop off).take s)) ∨ (r = false ∧ l[off]? = some a) := by
 unfold partA at h
 split at h
 ·rename_i hr
  left
  split at h
  ·rename_i h1
   obtain ⟨rfl, rfl⟩ := h1
   simp at h; subst h
   exact ⟨hr, by omega, by simp⟩
  ·split at h
   ·rename_i h2; simp at h; exact ⟨hr, h2, h.symm⟩
   ·simp at h
 ·rename_i hr
  exact .inr ⟨by simpa using hr, h⟩
theorem splice_eq {l m : List AV} {off : Nat} (h : off + m.length ≤ l.length) : spliceA l off m = l.take off ++ m ++ l.drop (off + m.length) := by
 unfold spliceA
 split
 ·rename_i h1; obtain ⟨rfl, h2⟩ := h1; simp [h2]
 ·rfl
theorem splice_len {l m : List AV} {off : Nat} (h : off + m.length ≤ l.length) : (spliceA l off m).length = l.length := by
 rw [splice_eq h]; simp; omega
theorem splice_get {l m : List AV} {off : Nat} (h : off + m.length ≤ l.length) (j : Nat) : (spliceA l off m)[j]? = if off ≤ j ∧ j < off + m.length then m[j - off]? else l[j]? := by
 rw [splice_eq h, List.append_assoc, List.getElem?_append, List.length_take]
 by_cases h1 : j < off
 ·rw [if_pos (by omega), if_neg (by omega), List.getElem?_take, if_pos h1]
 ·rw [if_neg (by omega), List.getElem?_append]
  by_cases h2 : j < off + m.length
  ·rw [if_pos (by omega), if_pos (by omega)]; congr 1; omega
  ·rw [if_neg (by omega), if_neg (by omega), List.getElem?_drop]; congr 1; omega
theorem cells_rep {M : View} {a : AV} {m : List AV} {u : Value} (hc : cellsA a = some m) (h : ARep M a u) : m.all leaf = true ∧ ∃ us, u.cells = us.toArray ∧ ARepL M m us := by
 unfold cellsA at hc
 split at hc
 ·simp only [Option.some.injEq] at hc; subst hc
  simp only [ARep] at h
  obtain ⟨h0, us, rfl, h2⟩ := h
  exact ⟨h0, us, rfl, h2⟩
 ·split at hc
  ·rename_i hl
   simp only [Option.some.injEq] at hc; subst hc
   refine ⟨by simpa using hl, [u], ?_, ?_⟩
   ·have := ARep.one hl h
    cases u <;> simp_all [Value.cells, Value.oneCell']
   ·simp only [ARepL]; exact ⟨u, [], rfl, h, rfl⟩
  ·simp at hc
theorem ARepL.ones {M : View} {m : List AV} {us : List Value} (h : ARepL M m us) (hl : m.all leaf = true) : ∀ u ∈ us, u.oneCell' = true := by
 intro u hu
 obtain ⟨i, hi⟩ := List.mem_iff_getElem?.1 hu
 obtain ⟨h1, h2⟩ := ARepL_iff.1 h
 have hlt := (List.getElem?_eq_some_iff.1 hi).1
 have ha : m[i]? = some (m[i]'(by omega)) := List.getElem?_eq_getElem _
 exact ARep.one (List.all_eq_true.1 hl _ (List.getElem_mem _)) (h2 i _ u ha hi)
theorem Match.store {M : View} {σ : St} (h : Match M σ) {t e i o b : Nat} {ls : List (List AV)} {c m : List AV} {us : List Value} (ht : σ.at t (.row e ls)) (hb : M.mu t = some b) (hc : ls[i]? = some c)
 (ho : o + m.length ≤ c.length) (hm : ARepL M m us) (hl : m.all leaf = true) :
 ∃ M', M'.w = M.w.setCells b (i * e + o) us ∧ Ext M σ M' (σ.set t (some (.row e (ls.set i (spliceA c o m))))) ∧ Match M' (σ.set t (some (.row e (ls.set i (spliceA c o m))))) := by
 have htl : t < σ.length := (List.getElem?_eq_some_iff.1 ht).1
 obtain ⟨hlen, b', cur, T, hb', hh, hI, hr, hcs⟩ := h.obj t _ ht
 have : b' = b := by rw [hb] at hb'; simpa using hb'.symm
 subst this
 obtain ⟨cur', h1, h2, h3⟩ := setCells_heap b' us (i * e + o) M.w cur T (0, 0) hh
 have hul := ARepL.len hm
 let M' : View := { M with w := M.w.setCells b' (i * e + o) us }
 have hcell : ∀ k q, M.I k q → M'.w.cell? ⟨k, q, none⟩ = M.w.cell? ⟨k, q, none⟩ := fun k q hk =>
  World.cell?_of_block (setCells_other b' us _ M.w k (fun e => hI q (e ▸ hk)))
 have hL : Later M M' := ⟨fun _ _ h h' => ⟨h, h', rfl⟩, own_same (fun _ => rfl) (fun _ => rfl) (fun _ => rfl), fun _ _ h => h, hcell⟩
 have hat : ∀ s ob, St.at (σ.set t (some (.row e (ls.set i (spliceA c o m))))) s ob → (s = t ∧ ob = .row e (ls.set i (spliceA c o m))) ∨ (s ≠ t ∧ σ.at s ob) := fun s ob hs => by
  unfold St.at at hs
  rw [List.getElem?_set] at hs
  split at hs
  ·rename_i e; subst e; simp [htl] at hs; exact .inl ⟨rfl, hs.symm⟩
  ·rename_i hne; exact .inr ⟨fun e => hne e.symm, hs⟩
 have hE : Ext M σ M' (σ.set t (some (.row e (ls.set i (spliceA c o m))))) := by
  refine ⟨hL.mu, hL.own, hL.imm, hcell, fun k hk hn => ⟨setCells_other b' us _ M.w k (fun e => hn t _ ht (e ▸ hb)), fun _ h => h⟩, fun s ob k hs hk => ?_, by simp [M', setCells_size], (setCells_rest b' us _ M.w).1, (setCells_rest b' us _ M.w).2.1, (setCells_rest b' us _ M.w).2.2⟩
  rcases hat s ob hs with ⟨rfl, rfl⟩ | ⟨h5, h6⟩
  ·exact .inr ⟨s, _, ht, hk⟩
  ·exact .inr ⟨s, ob, h6, hk⟩
 refine ⟨M', rfl, hE, ?_⟩
 ·refine ⟨fun s ob hs => ?_, fun s s' ob ob' k hs hs' hk hk' => ?_, fun s hs => h.fresh s (by simpa using hs), fun s k hs => by simpa [M', setCells_size] using h.lt s k hs, fun k q hq => by simpa [M', setCells_size] using h.imm k q hq, h.glob.ext hE⟩
  ·rcases hat s ob hs with ⟨rfl, rfl⟩ | ⟨h5, h6⟩
   ·refine ⟨hlen, b', cur', T, hb, h1, hI, ?_, h2.trans hcs⟩
    intro i' c' hc'
    have hcl := (hr i c hc).1
    rw [List.getElem?_set] at hc'
    split at hc'
    ·rename_i hi; subst hi
     have hil := (List.getElem?_eq_some_iff.1 hc).1
     simp [hil] at hc'; subst hc'
     refine ⟨by rw [splice_len ho]; exact hcl, fun j x hx => ?_⟩
     rw [splice_get ho] at hx
     have hcs : ∀ j, j < c.length → i * e + j < cur.size := fun j hj => by
      obtain ⟨u, hu, _⟩ := ((hr i c hc).2 j c[j] (List.getElem?_eq_getElem hj)).2
      exact (Array.getElem?_eq_some_iff.1 hu).1
     by_cases hin : o ≤ j ∧ j < o + m.length
     ·rw [if_pos hin] at hx
      refine ⟨List.all_eq_true.1 hl _ (List.mem_of_getElem? hx), ?_⟩
      obtain ⟨u, hu1, hu2⟩ := hm.get hx
      refine ⟨u, ?_, ARep.later hL _ _ hu2⟩
      rw [h3, if_pos ⟨by omega, by omega, hcs j (by omega)⟩, show i * e + j - (i * e + o) = j - o by omega]
      exact hu1
     ·rw [if_neg hin] at hx
      obtain ⟨hx1, u, hu1, hu2⟩ := (hr i c hc).2 j x hx
      refine ⟨hx1, u, ?_, ARep.later hL _ _ hu2⟩
      rw [h3, if_neg (by omega)]
      exact hu1
    ·rename_i hi
     refine ⟨(hr i' c' hc').1, fun j x hx => ?_⟩
     obtain ⟨hx1, u, hu1, hu2⟩ := (hr i' c' hc').2 j x hx
     have hj : j < e := by rw [← (hr i' c' hc').1]; exact (List.getElem?_eq_some_iff.1 hx).1
     refine ⟨hx1, u, ?_, ARep.later hL _ _ hu2⟩
     rw [h3, if_neg]
     ·exact hu1
     ·rintro ⟨g1, g2, _⟩
      rcases Nat.lt_or_gt_of_ne hi with hlt | hgt
      ·have : (i + 1) * e ≤ i' * e := Nat.mul_le_mul_right _ hlt
       rw [Nat.succ_mul] at this; omega
      ·have : (i' + 1) * e ≤ i * e := Nat.mul_le_mul_right _ hgt
       rw [Nat.succ_mul] at this; omega
   ·exact (h.obj s ob h6).later hL rfl rfl rfl fun k h7 => ⟨setCells_other b' us _ M.w k (fun e => h5 (h.inj s t _ _ k h6 ht h7 (e ▸ hb))), fun _ h => h⟩
  ·rcases hat s ob hs with ⟨rfl, rfl⟩ | ⟨h5, h6⟩ <;> rcases hat s' ob' hs' with ⟨rfl, rfl⟩ | ⟨h7, h8⟩
   ·rfl
   ·exact h.inj _ _ _ _ k ht h8 hk hk'
   ·exact h.inj _ _ _ _ k h6 ht hk hk'
   ·exact h.inj _ _ _ _ k h6 h8 hk hk'
end Go.Proofs.Ytlddiphjpmlhbaa
namespace Go.Proofs.Ytlddiphjpmlhbaa
open Go.RowKit
section
variable {P : Program} {C : Ctx} {o : Oper} {a : Act} {M : View} {σ σ' : St} {r : AV}
theorem does_stay {v : Value} (hM : Match M σ) (h : (execOp a.eval o).run P M.w = .ok (.value v) M.w) (hr : ARep M r v) : Does P o a M σ r σ := ⟨v, M, .inl h, Ext.refl M σ, hM, hr⟩
def DoesS (P : Program) (o : Oper) (a : Act) (M : View) (r : AV) : Prop := ∃ v, (∀ w, (execOp a.eval o).run P w = .ok (.value v) w) ∧ ARep M r v
theorem does_still {v : Value} (h : ∀ w, (execOp a.eval o).run P w = .ok (.value v) w) (hr : ARep M r v) : DoesS P o a M r := ⟨v, h, hr⟩
theorem DoesS.does (h : DoesS P o a M r) (hM : Match M σ) : Does P o a M σ r σ := by
 obtain ⟨v, h1, h2⟩ := h
 exact does_stay hM (h1 M.w) h2
theorem rep_int {k : IntKind} {n : Int} {u : Value} (h : ARep M (.p (.v (.int k n))) u) : u = .int k n := by simp only [ARep, PRep] at h; exact h.2
theorem rep_v {x u : Value} (h : ARep M (.p (.v x)) u) : plain x = true ∧ u = x := by simpa only [ARep, PRep] using h
theorem rep_mk {x : Value} (h : plain x = true) : ARep M (.p (.v x)) x := by simp only [ARep, PRep]; exact ⟨h, trivial⟩
theorem intA_eq {x : AV} {k : IntKind} {n : Int} (h : intA x = some (k, n)) : x = .p (.v (.int k n)) := by
 unfold intA at h
 split at h
 ·simp at h; obtain ⟨rfl, rfl⟩ := h; rfl
 ·simp at h
theorem kind_ok (hC : C.ok P) {T : TypeId} {k : TK} (h : C.kind T = some k) : ∃ ti, C.ty T = some ti ∧ ti.kind = k ∧ TyOk P T ti := by
 unfold Ctx.kind at h
 split at h
 ·rename_i ti hti; simp at h; exact ⟨ti, hti, h, hC.1 T ti hti⟩
 ·simp at h
theorem kind_und (hC : C.ok P) {T : TypeId} {k : TK} (h : C.kind T = some k) : ∃ d, P.underlying T = some d ∧ TKOk P d k := by
 obtain ⟨ti, _, rfl, _, d, _, _, _, hd, _, _, _, _, _, _, hk⟩ := kind_ok hC h
 exact ⟨d, hd, hk⟩
theorem zero_rep {z : List Value} (hp : z.all plain = true) : ARepL M (zeroA z) z := by
 refine ARepL_iff.2 ⟨by simp [zeroA], fun i b u hb hu => ?_⟩
 simp only [zeroA, List.getElem?_map, hu, Option.map_some, Option.some.injEq] at hb
 subst hb
 exact rep_mk (List.all_eq_true.1 hp _ (List.mem_of_getElem? hu))
theorem zero_leaf (z : List Value) : (zeroA z).all leaf = true := by simp [zeroA, leaf]
theorem row_of_list {l : List AV} {us : List Value} (h : ARepL M l us) (hl : l.all leaf = true) (e : Nat) (he : l.length = e) : RowRep M us.toArray e [l] := by
 intro i c hc
 cases i with
 | zero =>
   simp at hc; subst hc
   refine ⟨he, fun j x hx => ⟨List.all_eq_true.1 hl _ (List.mem_of_getElem? hx), ?_⟩⟩
   obtain ⟨u, h1, h2⟩ := h.get hx
   exact ⟨u, by simpa using h1, h2⟩
 | succ i => simp at hc
theorem does_new {T : TypeId} {l : List AV} {us : List Value} {e tk : Nat} (hM : Match M σ) (htk : tk = σ.length) (h : ARepL M l us) (hl : l.all leaf = true) (he : l.length = e)
 (hrun : (execOp a.eval o).run P M.w = .ok (.value (.pointer (some ⟨M.w.heap.size, 0, none⟩))) (M.w.alloc (.cells us.toArray T))) : Does P o a M σ (.mp tk e 0 0) (σ.put tk (.row e [l])) := by
 obtain ⟨M', h1, h2, h2', _, h3, h4⟩ := hM.row htk us T e [l] (row_of_list h hl e he)
 refine ⟨_, M', .inl (by rw [h1]; exact hrun), h3, h4, ?_⟩
 simp only [ARep]
 exact ⟨_, h2, h2', by simp⟩
theorem does_alloc {T : TypeId} {tk : Nat} {ti : TI} (hop : o.op = .alloc T) (hM : Match M σ) (htk : tk = σ.length) (hC : TyOk P T ti) : Does P o a M σ (.mp tk ti.size 0 0) (σ.put tk (.row ti.size [zeroA ti.zero])) := by
 obtain ⟨i, d, z, hi, hs, hd, hrow, hz, hzc, hp, hlen, _, _⟩ := hC
 refine does_new hM htk (zero_rep hp) (zero_leaf _) (by simp [zeroA, hlen]) (T := T) ?_
 unfold execOp
 simp [hop, Instr.alloc, zeroValue, typeInfo, hi, hz, newVar, newRow, ← hzc]
theorem does_box {T : TypeId} {x : Operand} {tk : Nat} {ti : TI} {fr : List AV} {l : List AV} (hop : o.op = .box T x) (hM : Match M σ) (hF : FRep M a fr) (htk : tk = σ.length) (hc : cellsA (evA fr x) = some l) (hl : l.length = ti.size) :
 Does P o a M σ (.mp tk ti.size 0 0) (σ.put tk (.row ti.size [l])) := by
 obtain ⟨h1, us, h2, h3⟩ := cells_rep hc (hF.ev x)
 refine does_new hM htk h3 h1 hl (T := T) ?_
 unfold execOp
 simp [hop, Instr.box, newVar, newRow, h2]
theorem part_rep {r : Bool} {s off : Nat} {l : List AV} {us : List Value} {x : AV} (hl : l.all leaf = true) (h : ARepL M l us) (hx : partA r s off l = some x) : ∃ u, ARep M x u ∧ ((r = true ∧ off + s ≤ us.length ∧ u = .agg ((us.drop off).take s).toArray) ∨ (r = false ∧ us[off]? = some u)) := by
 have hlen := h.len
 rcases part_cases hx with ⟨hr, h1, rfl⟩ | ⟨hr, h1⟩
 ·refine ⟨_, ?_, .inl ⟨hr, by omega, rfl⟩⟩
  simp only [ARep]
  exact ⟨List.all_eq_true.2 fun y hy => List.all_eq_true.1 hl y (List.mem_of_mem_drop (List.mem_of_mem_take hy)), _, rfl, (h.drop off).take s⟩
 ·obtain ⟨u, h2, h3⟩ := h.get h1
  exact ⟨u, h3, .inr ⟨hr, h2⟩⟩
theorem run_loadAt_one {w : World} {b off : Nat} {T : TypeId} {d : TypeDesc} {u : Value} (hd : P.underlying T = some d) (hrow : d.isRow = false) (hc : w.cell? ⟨b, off, none⟩ = some u) :
 (Instr.loadAt T (.pointer (some ⟨b, off, none⟩))).run P w = .ok u w := by
 have hagg : (isAgg T).run P w = .ok false w := by
  unfold isAgg
  rw [Sem.run_bind, run_underlying hd w]
  cases d <;> simp_all
 simp [Instr.loadAt, Instr.sureAddr, loadVar, hagg, load, Sem.run, hc]
theorem load_all {T : TypeId} {ti : TI} {o' : Nat} {l : List AV} {us : List Value} {x : AV} (hC : TyOk P T ti) (hl : l.all leaf = true) (h : ARepL M l us) (hx : partA ti.row ti.size o' l = some x) :
 ∃ u, ARep M x u ∧ ∀ (w : World) (b base : Nat), w.rangeAt b base us → (Instr.loadAt T (.pointer (some ⟨b, base + o', none⟩))).run P w = .ok u w := by
 obtain ⟨i, d, z, hi, hs, hd, hrow, hz, hzc, hp, hlen, h1, _⟩ := hC
 obtain ⟨u, h2, h3⟩ := part_rep hl h hx
 refine ⟨u, h2, fun w b base hr => ?_⟩
 rcases h3 with ⟨hr', h4, rfl⟩ | ⟨hr', h4⟩
 ·refine run_loadAt_mid w b (base + o') T _ d (fun j v hj => ?_) hd (by rw [hrow, hr']) (by rw [hi]; simp [hs]; omega)
  rw [List.getElem?_take] at hj
  split at hj
  ·rw [List.getElem?_drop] at hj
   rw [Nat.add_assoc]; exact hr _ v hj
  ·simp at hj
 ·exact run_loadAt_one hd (by rw [hrow, hr']) (hr o' u h4)
theorem load_at {T : TypeId} {ti : TI} {b base o' : Nat} {l : List AV} {us : List Value} {x : AV} {w : World} (hC : TyOk P T ti) (hl : l.all leaf = true) (h : ARepL M l us) (hx : partA ti.row ti.size o' l = some x) (hr : w.rangeAt b base us) :
 ∃ u, ARep M x u ∧ (Instr.loadAt T (.pointer (some ⟨b, base + o', none⟩))).run P w = .ok u w := by
 obtain ⟨u, h1, h2⟩ := load_all hC hl h hx
 exact ⟨u, h1, h2 w b base hr⟩
theorem rangeAt_row {w : World} {b : Nat} {cur : Array Value} {T : TypeId} {fr : Nat × Nat} (hh : w.heap[b]? = some (.cells cur T fr)) {e i : Nat} {ls : List (List AV)} {c : List AV} (hr : RowRep M cur e ls) (hc : ls[i]? = some c) :
 ∃ us, ARepL M c us ∧ c.all leaf = true ∧ w.rangeAt b (i * e) us := by
 obtain ⟨h1, h2⟩ := hr i c hc
 refine ⟨(cur.toList.drop (i * e)).take c.length, ARepL_iff.2 ⟨?_, fun j x u hx hu => ?_⟩, ?_, fun j v hv => ?_⟩
 ·rw [List.length_take, List.length_drop, Nat.min_eq_left]
  cases hcl : c.length with
  | zero => omega
  | succ n =>
    obtain ⟨_, u, h3, _⟩ := h2 n c[n] (List.getElem?_eq_getElem (by omega))
    have := (Array.getElem?_eq_some_iff.1 h3).1
    simp; omega
 ·obtain ⟨_, u', h3, h4⟩ := h2 j x hx
  rw [List.getElem?_take, if_pos (List.getElem?_eq_some_iff.1 hx).1, List.getElem?_drop, Array.getElem?_toList, h3] at hu
  simp at hu; subst hu; exact h4
 ·refine List.all_eq_true.2 fun x hx => ?_
  obtain ⟨j, hj⟩ := List.mem_iff_getElem?.1 hx
  exact (h2 j x hj).1
 ·rw [cell_of_row w b _ cur T fr hh]
  rw [List.getElem?_take] at hv
  split at hv
  ·rw [List.getElem?_drop, Array.getElem?_toList] at hv; exact hv
  ·simp at hv
theorem rangeAt_imm {c : List PV} {b off : Nat} (h : PRepC M.w M.I b off c) : ∃ us, ARepL M (c.map .p) us ∧ (c.map AV.p).all leaf = true ∧ M.w.rangeAt b off us := by
 have h1 : ∀ j : Nat, ∃ u, ∀ a, c[j]? = some a → M.w.cell? ⟨b, off + j, none⟩ = some u ∧ PRep M.w M.I a u := fun j => by
  cases hc : c[j]? with
  | none => exact ⟨undef, fun a ha => by simp at ha⟩
  | some a =>
    obtain ⟨u, h2, _, h3⟩ := h.get hc
    exact ⟨u, fun a' ha' => by simp at ha'; subst ha'; exact ⟨h2, h3⟩⟩
 obtain ⟨U, hU⟩ := Classical.axiomOfChoice h1
 refine ⟨(List.range c.length).map U, ARepL_iff.2 ⟨by simp, fun j x u hx hu => ?_⟩, by simp [leaf], fun j v hv => ?_⟩
 ·rw [List.getElem?_map] at hx
  cases hc : c[j]? with
  | none => rw [hc] at hx; simp at hx
  | some y =>
    rw [hc] at hx; simp at hx; subst hx
    have hj := (List.getElem?_eq_some_iff.1 hc).1
    simp [hj] at hu; subst hu
    simp only [ARep]; exact (hU j y hc).2
 ·by_cases hj : j < c.length
  ·simp [hj] at hv; subst hv
   exact (hU j _ (List.getElem?_eq_getElem hj)).1
  ·simp [hj] at hv
theorem does_load {T : TypeId} {x : Operand} {ti : TI} {fr : List AV} (hop : o.op = .load T x) (hM : Match M σ) (hF : FRep M a fr) (hC : TyOk P T ti) (h : loadA ti (evA fr x) σ = some r) : Does P o a M σ r σ := by
 have hx := hF.ev x
 have key : ∃ u, ARep M r u ∧ (Instr.loadAt T (a.eval x)).run P M.w = .ok u M.w := by
  unfold loadA at h
  split at h
  ·rename_i t e i o' hev
   rw [hev] at hx
   simp only [ARep] at hx
   obtain ⟨b, hb, hbl, hx⟩ := hx
   split at h
   ·rename_i e' ls hσ
    split at h
    ·rename_i he; subst he
     split at h
     ·rename_i c hc
      obtain ⟨_, b', cur, T', hb', hh, hI, hr, _⟩ := hM.obj t _ hσ
      have : b' = b := by rw [hb] at hb'; simpa using hb'.symm
      subst this
      obtain ⟨us, h1, h2, h3⟩ := rangeAt_row hh hr hc
      rw [hx]
      exact load_at hC h2 h1 h h3
     ·simp at h
    ·simp at h
   ·simp at h
  ·rename_i c o' hev
   rw [hev] at hx
   simp only [ARep] at hx
   obtain ⟨b, off, hx, hc⟩ := hx
   obtain ⟨us, h1, h2, h3⟩ := rangeAt_imm hc
   rw [hx]
   exact load_at hC h2 h1 h h3
  ·simp at h
 obtain ⟨u, h1, h2⟩ := key
 refine does_stay hM (v := u) ?_ h1
 unfold execOp
 simp [hop, h2]
theorem does_store {T : TypeId} {x y : Operand} {ti : TI} {fr : List AV} (hop : o.op = .store T x y) (hM : Match M σ) (hF : FRep M a fr) (hC : TyOk P T ti) (h : storeA ti (evA fr x) (evA fr y) σ = some σ') : Does P o a M σ (.tup []) σ' := by
 have hx := hF.ev x
 have hy := hF.ev y
 obtain ⟨ii, d, z, hi, hs, hd, hrow, hz, hzc, hp, hlen, _, _⟩ := hC
 unfold storeA at h
 split at h
 ·rename_i t e i o' m hev hm
  rw [hev] at hx
  simp only [ARep] at hx
  obtain ⟨b, hb, hbl, hx⟩ := hx
  obtain ⟨hml, us, hu1, hu2⟩ := cells_rep hm hy
  split at h
  ·rename_i e' ls hσ
   split at h
   ·rename_i he; obtain ⟨rfl, hms⟩ := he
    split at h
    ·rename_i c hc
     split at h
     ·rename_i ho
      simp at h; subst h
      obtain ⟨M', h1, h2, h3⟩ := hM.store hσ hb hc ho hu2 hml
      refine ⟨undef, M', .inr ⟨rfl, ?_⟩, h2, h3, by simp only [ARep, ARepL]; exact ⟨[], rfl, rfl⟩⟩
      have hul := hu2.len
      obtain ⟨_, b', cur, T', hb', hh, hI, hr, _⟩ := hM.obj t _ hσ
      have : b' = b := by rw [hb] at hb'; simpa using hb'.symm
      subst this
      have hth : M.w.there b' (i * e' + o') us.length := fun j hj => by
       obtain ⟨_, u, h5, _⟩ := (hr i c hc).2 (o' + j) c[o' + j] (List.getElem?_eq_getElem (by omega))
       rw [Nat.add_assoc, cell_of_row _ _ _ _ _ _ hh, h5]
       exact ⟨rfl, by simp [World.frozen?, hh]⟩
      have h6 := run_storeAt_mid (P := P) M.w b' (i * e' + o') T us.toArray (by simpa using hth) (by rw [hi]; simp [hs]; omega) (all_oneCell_toArray (hu2.ones hml))
      have h7 : (Instr.storeAt T (a.eval x) (a.eval y)).run P M.w = .ok () (M.w.setCells b' (i * e' + o') us) := by
       rw [hx]
       have : Instr.storeAt T (.pointer (some ⟨b', i * e' + o', none⟩)) (a.eval y) = Instr.storeAt T (.pointer (some ⟨b', i * e' + o', none⟩)) (.agg us.toArray) := by
        simp only [Instr.storeAt, storeVar, hu1]
        rfl
       rw [this]; exact h6
      unfold execOp
      simp [hop, h7, h1]
     ·simp at h
    ·simp at h
   ·simp at h
  ·simp at h
 ·simp at h
end
end Go.Proofs.Ytlddiphjpmlhbaa
