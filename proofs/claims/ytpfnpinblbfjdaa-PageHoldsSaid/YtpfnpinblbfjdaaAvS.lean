/- That a world that bears the abstract machine's state does what the abstract machine does: loads, stores, new variables, and what only computes. -/
import Derived.Test.YtpfnpinblbfjdaaAvOp
set_option linter.unusedSimpArgs false
set_option linter.unusedVariables false
namespace Go.Proofs.Ytpfnpinblbfjdaa
open Go.RowKit

theorem setCells_other (b : Nat) : ∀ (vs : List Value) (o : Nat) (w : World) (k : Nat), k ≠ b → (w.setCells b o vs).heap[k]? = w.heap[k]?
  | [], o, w, k, h => rfl
  | v :: vs, o, w, k, h => by
    rw [World.setCells, setCells_other b vs (o + 1) _ k h, Below.heap_setCell _ _ _ _ h]
theorem setCells_size (b : Nat) : ∀ (vs : List Value) (o : Nat) (w : World), (w.setCells b o vs).heap.size = w.heap.size
  | [], o, w => rfl
  | v :: vs, o, w => by rw [World.setCells, setCells_size b vs (o + 1) _]; simp [World.setCell]
theorem setCells_rest (b : Nat) : ∀ (vs : List Value) (o : Nat) (w : World), (w.setCells b o vs).os = w.os ∧ (w.setCells b o vs).tape = w.tape ∧ (w.setCells b o vs).output = w.output
  | [], o, w => ⟨rfl, rfl, rfl⟩
  | v :: vs, o, w => by rw [World.setCells]; exact setCells_rest b vs (o + 1) _
theorem setCells_heap (b : Nat) : ∀ (vs : List Value) (o : Nat) (w : World) (cur : Array Value) (T : TypeId) (fr : Nat × Nat), w.heap[b]? = some (.cells cur T fr) →
    ∃ cur', (w.setCells b o vs).heap[b]? = some (.cells cur' T fr) ∧ cur'.size = cur.size ∧ ∀ k, cur'[k]? = if o ≤ k ∧ k < o + vs.length ∧ k < cur.size then vs[k - o]? else cur[k]?
  | [], o, w, cur, T, fr, h => ⟨cur, h, rfl, fun k => by rw [if_neg (by simp; omega)]⟩
  | v :: vs, o, w, cur, T, fr, h => by
    have h1 : (w.setCell ⟨b, o, none⟩ v).heap[b]? = some (.cells (cur.setIfInBounds o v) T fr) := by
      simp [World.setCell, Array.getElem?_modify, h]
    obtain ⟨cur', h2, h3, h4⟩ := setCells_heap b vs (o + 1) _ _ T fr h1
    refine ⟨cur', h2, by simpa using h3, fun k => ?_⟩
    rw [h4 k]
    simp only [Array.size_setIfInBounds, List.length_cons]
    by_cases hk : o + 1 ≤ k ∧ k < o + 1 + vs.length ∧ k < cur.size
    · rw [if_pos hk, if_pos (by omega), show k - o = (k - (o + 1)) + 1 by omega]; simp
    · rw [if_neg hk, Array.getElem?_setIfInBounds]
      by_cases he : o = k
      · subst he
        by_cases hs : o < cur.size
        · rw [if_pos rfl, if_pos hs, if_pos (by omega)]; simp
        · rw [if_pos rfl, if_neg hs, if_neg (by omega), Array.getElem?_eq_none (by omega)]
      · rw [if_neg he, if_neg (by omega)]

theorem part_cases {r : Bool} {s off : Nat} {l : List AV} {a : AV} (h : partA r s off l = some a) : (r = true ∧ off + s ≤ l.length ∧ a = .agg ((l.drop off).take s)) ∨ (r = false ∧ l[off]? = some a) := by
  unfold partA at h
  split at h
  · rename_i hr
    left
    split at h
    · rename_i h1
      obtain ⟨rfl, rfl⟩ := h1
      simp at h; subst h
      exact ⟨hr, by omega, by simp⟩
    · split at h
      · rename_i h2; simp at h; exact ⟨hr, h2, h.symm⟩
      · simp at h
  · rename_i hr
    exact .inr ⟨by simpa using hr, h⟩
theorem splice_eq {l m : List AV} {off : Nat} (h : off + m.length ≤ l.length) : spliceA l off m = l.take off ++ m ++ l.drop (off + m.length) := by
  unfold spliceA
  split
  · rename_i h1; obtain ⟨rfl, h2⟩ := h1; simp [h2]
  · rfl
theorem splice_len {l m : List AV} {off : Nat} (h : off + m.length ≤ l.length) : (spliceA l off m).length = l.length := by
  rw [splice_eq h]; simp; omega
theorem splice_get {l m : List AV} {off : Nat} (h : off + m.length ≤ l.length) (j : Nat) : (spliceA l off m)[j]? = if off ≤ j ∧ j < off + m.length then m[j - off]? else l[j]? := by
  rw [splice_eq h, List.append_assoc, List.getElem?_append, List.length_take]
  by_cases h1 : j < off
  · rw [if_pos (by omega), if_neg (by omega), List.getElem?_take, if_pos h1]
  · rw [if_neg (by omega), List.getElem?_append]
    by_cases h2 : j < off + m.length
    · rw [if_pos (by omega), if_pos (by omega)]; congr 1; omega
    · rw [if_neg (by omega), if_neg (by omega), List.getElem?_drop]; congr 1; omega

theorem cells_rep {M : View} {a : AV} {m : List AV} {u : Value} (hc : cellsA a = some m) (h : ARep M a u) : m.all leaf = true ∧ ∃ us, u.cells = us.toArray ∧ ARepL M m us := by
  unfold cellsA at hc
  split at hc
  · simp only [Option.some.injEq] at hc; subst hc
    simp only [ARep] at h
    obtain ⟨h0, us, rfl, h2⟩ := h
    exact ⟨h0, us, rfl, h2⟩
  · split at hc
    · rename_i hl
      simp only [Option.some.injEq] at hc; subst hc
      refine ⟨by simpa using hl, [u], ?_, ?_⟩
      · have := ARep.one hl h
        cases u <;> simp_all [Value.cells, Value.oneCell']
      · simp only [ARepL]; exact ⟨u, [], rfl, h, rfl⟩
    · simp at hc
theorem ARepL.ones {M : View} {m : List AV} {us : List Value} (h : ARepL M m us) (hl : m.all leaf = true) : ∀ u ∈ us, u.oneCell' = true := by
  intro u hu
  obtain ⟨i, hi⟩ := List.mem_iff_getElem?.1 hu
  obtain ⟨h1, h2⟩ := ARepL_iff.1 h
  have hlt := (List.getElem?_eq_some_iff.1 hi).1
  have ha : m[i]? = some (m[i]'(by omega)) := List.getElem?_eq_getElem _
  exact ARep.one (List.all_eq_true.1 hl _ (List.getElem_mem _)) (h2 i _ u ha hi)

/-- A store into an object. -/
theorem Match.store {M : View} {σ : St} (h : Match M σ) {t e i o b : Nat} {ls : List (List AV)} {c m : List AV} {us : List Value} (ht : σ.at t (.row e ls)) (hb : M.mu t = some b) (hc : ls[i]? = some c)
    (ho : o + m.length ≤ c.length) (hm : ARepL M m us) (hl : m.all leaf = true) :
    ∃ M', M'.w = M.w.setCells b (i * e + o) us ∧ Ext M σ M' (σ.set t (some (.row e (ls.set i (spliceA c o m))))) ∧ Match M' (σ.set t (some (.row e (ls.set i (spliceA c o m))))) := by
  have htl : t < σ.length := (List.getElem?_eq_some_iff.1 ht).1
  obtain ⟨hlen, b', cur, T, hb', hh, hI, hr⟩ := h.obj t _ ht
  have : b' = b := by rw [hb] at hb'; simpa using hb'.symm
  subst this
  obtain ⟨cur', h1, h2, h3⟩ := setCells_heap b' us (i * e + o) M.w cur T (0, 0) hh
  have hul := ARepL.len hm
  let M' : View := { M with w := M.w.setCells b' (i * e + o) us }
  have hcell : ∀ k q, M.I k q → M'.w.cell? ⟨k, q, none⟩ = M.w.cell? ⟨k, q, none⟩ := fun k q hk =>
    World.cell?_of_block (setCells_other b' us _ M.w k (fun e => hI q (e ▸ hk)))
  have hL : Later M M' := ⟨fun _ _ h h' => ⟨h, h'⟩, own_same (fun _ => rfl) (fun _ => rfl) (fun _ => rfl), fun _ _ h => h, hcell⟩
  have hat : ∀ s ob, St.at (σ.set t (some (.row e (ls.set i (spliceA c o m))))) s ob → (s = t ∧ ob = .row e (ls.set i (spliceA c o m))) ∨ (s ≠ t ∧ σ.at s ob) := fun s ob hs => by
    unfold St.at at hs
    rw [List.getElem?_set] at hs
    split at hs
    · rename_i e; subst e; simp [htl] at hs; exact .inl ⟨rfl, hs.symm⟩
    · rename_i hne; exact .inr ⟨fun e => hne e.symm, hs⟩
  refine ⟨M', rfl, ⟨hL.mu, hL.own, hL.imm, hcell, fun k hk hn => ⟨setCells_other b' us _ M.w k (fun e => hn t _ ht (e ▸ hb)), fun _ h => h⟩, fun s ob k hs hk => ?_, by simp [M', setCells_size], (setCells_rest b' us _ M.w).1, (setCells_rest b' us _ M.w).2.1, (setCells_rest b' us _ M.w).2.2⟩, ?_⟩
  · rcases hat s ob hs with ⟨rfl, rfl⟩ | ⟨h5, h6⟩
    · exact .inr ⟨s, _, ht, hk⟩
    · exact .inr ⟨s, ob, h6, hk⟩
  · refine ⟨fun s ob hs => ?_, fun s s' ob ob' k hs hs' hk hk' => ?_, fun s hs => h.fresh s (by simpa using hs), fun s k hs => by simpa [M', setCells_size] using h.lt s k hs, fun k q hq => by simpa [M', setCells_size] using h.imm k q hq⟩
    · rcases hat s ob hs with ⟨rfl, rfl⟩ | ⟨h5, h6⟩
      · refine ⟨hlen, b', cur', T, hb, h1, hI, fun i' c' hc' => ?_⟩
        have hcl := (hr i c hc).1
        rw [List.getElem?_set] at hc'
        split at hc'
        · rename_i hi; subst hi
          have hil := (List.getElem?_eq_some_iff.1 hc).1
          simp [hil] at hc'; subst hc'
          refine ⟨by rw [splice_len ho]; exact hcl, fun j x hx => ?_⟩
          rw [splice_get ho] at hx
          have hcs : ∀ j, j < c.length → i * e + j < cur.size := fun j hj => by
            obtain ⟨u, hu, _⟩ := ((hr i c hc).2 j c[j] (List.getElem?_eq_getElem hj)).2
            exact (Array.getElem?_eq_some_iff.1 hu).1
          by_cases hin : o ≤ j ∧ j < o + m.length
          · rw [if_pos hin] at hx
            refine ⟨List.all_eq_true.1 hl _ (List.mem_of_getElem? hx), ?_⟩
            obtain ⟨u, hu1, hu2⟩ := hm.get hx
            refine ⟨u, ?_, ARep.later hL _ _ hu2⟩
            rw [h3, if_pos ⟨by omega, by omega, hcs j (by omega)⟩, show i * e + j - (i * e + o) = j - o by omega]
            exact hu1
          · rw [if_neg hin] at hx
            obtain ⟨hx1, u, hu1, hu2⟩ := (hr i c hc).2 j x hx
            refine ⟨hx1, u, ?_, ARep.later hL _ _ hu2⟩
            rw [h3, if_neg (by omega)]
            exact hu1
        · rename_i hi
          refine ⟨(hr i' c' hc').1, fun j x hx => ?_⟩
          obtain ⟨hx1, u, hu1, hu2⟩ := (hr i' c' hc').2 j x hx
          have hj : j < e := by rw [← (hr i' c' hc').1]; exact (List.getElem?_eq_some_iff.1 hx).1
          refine ⟨hx1, u, ?_, ARep.later hL _ _ hu2⟩
          rw [h3, if_neg]
          · exact hu1
          · rintro ⟨g1, g2, _⟩
            rcases Nat.lt_or_gt_of_ne hi with hlt | hgt
            · have : (i + 1) * e ≤ i' * e := Nat.mul_le_mul_right _ hlt
              rw [Nat.succ_mul] at this; omega
            · have : (i' + 1) * e ≤ i * e := Nat.mul_le_mul_right _ hgt
              rw [Nat.succ_mul] at this; omega
      · exact (h.obj s ob h6).later hL rfl rfl rfl fun k h7 => ⟨setCells_other b' us _ M.w k (fun e => h5 (h.inj s t _ _ k h6 ht h7 (e ▸ hb))), fun _ h => h⟩
    · rcases hat s ob hs with ⟨rfl, rfl⟩ | ⟨h5, h6⟩ <;> rcases hat s' ob' hs' with ⟨rfl, rfl⟩ | ⟨h7, h8⟩
      · rfl
      · exact h.inj _ _ _ _ k ht h8 hk hk'
      · exact h.inj _ _ _ _ k h6 ht hk hk'
      · exact h.inj _ _ _ _ k h6 h8 hk hk'
end Go.Proofs.Ytpfnpinblbfjdaa
