/- Slots of a page in memory: a slice of slices of bytes; the walks of page.cost and page.free. -/
import Derived.Test.YtpfnpinblbfjdaaBase
set_option linter.unusedSimpArgs false
namespace Go.Proofs.Ytpfnpinblbfjdaa
open Go.RowKit

/-- A slot's cell: nil, or a slice of bytes of the call's own. -/
def Rec (w : World) (base : Nat) (x : Value) : Option (List UInt8) → Prop
  | none => x = .slice none 0 0
  | some r => w.ownsRow base 5 1 x r.length (bytesL r) ∧ ∃ g cap, x = .slice (some ⟨g, 0, none⟩) r.length cap
/-- Slots: the slice that holds the slots' cells. -/
def SlotsR (w : World) (base : Nat) (v : Value) (ss : List (Option (List UInt8))) : Prop :=
  ∃ xs, w.ownsRow base 24 1 v ss.length xs ∧ xs.length = ss.length ∧ ∀ k, k < ss.length → Rec w base (xs.getD k undef) (ss.getD k none)

def recLen : Option (List UInt8) → Nat
  | none => 0
  | some r => r.length
theorem Rec.form {w : World} {base : Nat} {x : Value} {o : Option (List UInt8)} (h : Rec w base x o) :
    (o = none ∧ x = .slice none 0 0) ∨ ∃ r g cap, o = some r ∧ x = .slice (some ⟨g, 0, none⟩) r.length cap := by
  cases o with
  | none => exact .inl ⟨rfl, h⟩
  | some r => obtain ⟨_, g, cap, hx⟩ := h; exact .inr ⟨r, g, cap, rfl, hx⟩
theorem Rec.len {w : World} {base : Nat} {x : Value} {o : Option (List UInt8)} (h : Rec w base x o) : ∃ a c, x = .slice a (recLen o) c := by
  rcases h.form with ⟨rfl, rfl⟩ | ⟨r, g, cap, rfl, rfl⟩
  · exact ⟨_, _, rfl⟩
  · exact ⟨_, _, rfl⟩
/-- The world's other blocks turn: the records stand. -/
theorem Rec.kept {w w' : World} {base : Nat} {x : Value} {o : Option (List UInt8)} (h : Rec w base x o)
    (hk : ∀ (g : Nat) (cur : Array Value), w.heap[g]? = some (Obj.cells cur 5 (0, 0)) → w'.heap[g]? = w.heap[g]?) : Rec w' base x o := by
  cases o with
  | none => exact h
  | some r =>
    obtain ⟨⟨h1, h2⟩, h3⟩ := h
    refine ⟨⟨h1, ?_⟩, h3⟩
    rcases h2 with h2 | ⟨g, cap, cur, hv, hg, hh, rest⟩
    · exact .inl h2
    · exact .inr ⟨g, cap, cur, hv, hg, (hk g cur hh).trans hh, rest⟩
theorem SlotsR.kept {w w' : World} {base : Nat} {v : Value} {ss : List (Option (List UInt8))} (h : SlotsR w base v ss)
    (hk : ∀ g, g < w.heap.size → base ≤ g → w'.heap[g]? = w.heap[g]?) : SlotsR w' base v ss := by
  obtain ⟨xs, ⟨h1, h2⟩, hl, hr⟩ := h
  refine ⟨xs, ⟨h1, ?_⟩, hl, fun k hkk => ?_⟩
  · rcases h2 with h2 | ⟨g, cap, cur, hv, hg, hh, rest⟩
    · exact .inl h2
    · exact .inr ⟨g, cap, cur, hv, hg, (hk g (Array.getElem?_eq_some_iff.1 hh).1 hg).trans hh, rest⟩
  · have := hr k hkk
    cases ho : ss.getD k none with
    | none => rw [ho] at this; exact this
    | some r =>
      rw [ho] at this
      obtain ⟨⟨h1, h2⟩, h3⟩ := this
      refine ⟨⟨h1, ?_⟩, h3⟩
      rcases h2 with h2 | ⟨g, cap, cur, hv, hg, hh, rest⟩
      · exact .inl h2
      · exact .inr ⟨g, cap, cur, hv, hg, (hk g (Array.getElem?_eq_some_iff.1 hh).1 hg).trans hh, rest⟩
theorem SlotsR.mono {w : World} {base base' : Nat} {v : Value} {ss : List (Option (List UInt8))} (h : SlotsR w base v ss) (hb : base' ≤ base) : SlotsR w base' v ss := by
  obtain ⟨xs, ⟨h1, h2⟩, hl, hr⟩ := h
  have ow : ∀ {e v n ys}, w.ownsRow base e 1 v n ys → w.ownsRow base' e 1 v n ys := by
    intro e v n ys ⟨h1, h2⟩
    refine ⟨h1, ?_⟩
    rcases h2 with h2 | ⟨g, cap, cur, hv, hg, rest⟩
    · exact .inl h2
    · exact .inr ⟨g, cap, cur, hv, Nat.le_trans hb hg, rest⟩
  refine ⟨xs, ow ⟨h1, h2⟩, hl, fun k hkk => ?_⟩
  have := hr k hkk
  cases ho : ss.getD k none with
  | none => rw [ho] at this; exact this
  | some r => rw [ho] at this; exact ⟨ow this.1, this.2⟩
/-- What a walk that reads the slots wants. -/
theorem SlotsR.cells {w : World} {base : Nat} {v : Value} {ss : List (Option (List UInt8))} (h : SlotsR w base v ss) :
    (v = .slice none 0 0 ∧ ss = []) ∨ ∃ g cap, v = .slice (some ⟨g, 0, none⟩) ss.length cap ∧ base ≤ g ∧ ss.length ≤ cap ∧ ∀ k, k < ss.length → ∃ x, w.cell? ⟨g, k, none⟩ = some x ∧ w.frozen? ⟨g, k, none⟩ = false ∧ Rec w base x (ss.getD k none) := by
  obtain ⟨xs, ⟨h1, h2⟩, hl, hr⟩ := h
  rcases h2 with ⟨rfl, h2⟩ | ⟨g, cap, cur, rfl, hg, hh, hnc, hcm, hcs, ht⟩
  · exact .inl ⟨rfl, List.eq_nil_of_length_eq_zero h2⟩
  · refine .inr ⟨g, cap, rfl, hg, hnc, fun k hk => ⟨xs.getD k undef, ?_, frozen_of_row w g k cur _ hh, hr k hk⟩⟩
    rw [cell_of_row w g k cur _ _ hh]
    have h0 : xs[k]? = some (xs.getD k undef) := by simp [hl, hk]
    have h3 : (cur.toList.take (ss.length * 1))[k]? = xs[k]? := by rw [ht]
    rw [List.getElem?_take, if_pos (by omega)] at h3
    rw [← h0, ← h3]
    simp

/-! the cost -/
def lens (ss : List (Option (List UInt8))) : Nat := (ss.map recLen).sum
def costL (ss : List (Option (List UInt8))) : Nat := 4 * ss.length + lens ss
theorem lens_take_succ (ss : List (Option (List UInt8))) (k : Nat) (h : k < ss.length) : lens (ss.take (k + 1)) = lens (ss.take k) + recLen (ss.getD k none) := by
  rw [List.take_succ_eq_append_getElem h]
  unfold lens
  rw [List.map_append, List.sum_append]
  simp [h]
theorem lens_take_le (ss : List (Option (List UInt8))) (k : Nat) : lens (ss.take k) ≤ lens ss := by
  have : lens ss = lens (ss.take k) + lens (ss.drop k) := by
    conv => lhs; rw [← List.take_append_drop k ss]
    simp only [lens, List.map_append, List.sum_append]
  omega

set_option maxHeartbeats 400000 in
theorem cost_any (ss : List (Option (List UInt8))) (v : Value) (base : Nat) (w : World) (h : SlotsR w base v ss) (hm : costL ss ≤ 4611686018427387904) :
    Calls Try.prog 26 #[v] w fun e w' => e = .returned (.int .i64 (costL ss)) ∧ w = w' := by
  rcases h.cells with ⟨rfl, rfl⟩ | ⟨g, cap, rfl, hg, hcap, hc⟩
  · go_enter Try.func26, Try.ntmps26
    go_wp2
    refine wp_loop_rounds 1 ?_
    rw [rounds_succ]
    go_wp2
    go_ret
    exact ⟨rfl, rfl⟩
  · clear h
    have HC := Lib.hid hc; clear hc
    have HM := Lib.hid (show costL ss = 4 * ss.length + lens ss from rfl)
    have HT := Lib.hid (lens_take_succ ss)
    have HE := Lib.hid (lens_take_le ss)
    have hb1 : 4 * ss.length + lens ss ≤ 4611686018427387904 := hm
    clear hm
    go_enter Try.func26, Try.ntmps26
    go_wp2
    go_loop [3, 11] (fun n i => ∃ k : Nat, k ≤ ss.length ∧ i = .int .i64 k ∧ n = .int .i64 (4 * ss.length + lens (ss.take k))) (fun _ i => ss.length - (intOf i).toNat)
    case atStart => exact ⟨0, Nat.zero_le _, rfl, by simp [lens]⟩
    case round =>
      obtain ⟨k, hk, rfl, rfl⟩ := hrel
      by_cases hlt : k < ss.length
      · obtain ⟨x, hx, _, hrec⟩ := HC.out k hlt
        obtain ⟨a, c, rfl⟩ := hrec.len
        have h1 := HT.out k hlt
        have h2 := HE.out (k + 1)
        have hle : 4 * ss.length + lens (ss.take k) + recLen (ss.getD k none) ≤ 4611686018427387904 := by omega
        have HS := Lib.hid h1
        clear h1 h2 hrec
        generalize recLen (ss.getD k none) = q at *
        go_wp2
        go_round
        case rel => exact ⟨k + 1, by omega, by go_num, by rw [HS.out]; go_num⟩
        case measure => simp [intOf]; omega
      · obtain rfl : k = ss.length := by omega
        go_wp2
        go_ret
        exact ⟨ret_int (by rw [HM.out]; omega), rfl⟩

/-- The lowest empty slot. -/
def freeL (ss : List (Option (List UInt8))) : Nat := ss.findIdx (·.isNone)
theorem freeL_le (ss : List (Option (List UInt8))) : freeL ss ≤ ss.length := List.findIdx_le_length
theorem freeL_at {ss : List (Option (List UInt8))} {k : Nat} (h : k < ss.length) (hn : ss.getD k none = none) (hb : ∀ j, j < k → ss.getD j none ≠ none) : freeL ss = k := by
  unfold freeL
  rw [List.findIdx_eq h]
  refine ⟨by simp [h] at hn; simp [hn], fun j hj => ?_⟩
  have := hb j hj
  have hj' : j < ss.length := by omega
  simp [hj'] at this
  cases h : ss[j] <;> simp_all
theorem freeL_none {ss : List (Option (List UInt8))} (hb : ∀ j, j < ss.length → ss.getD j none ≠ none) : freeL ss = ss.length := by
  unfold freeL
  rw [List.findIdx_eq_length]
  intro x hx
  obtain ⟨i, hi, rfl⟩ := List.getElem_of_mem hx
  have := hb i hi
  simp [hi] at this
  cases h : ss[i] <;> simp_all

theorem eql_nil (w : World) (a : Option Addr) (n c : Nat) : (binOp .eql 24 (.slice a n c) (.slice none 0 0)).run Try.prog w = .ok (.bool a.isNone) w :=
  Lib.run_eql_slice_nil (P := Try.prog) w 24 5 a n c 0 0 Try.underlying24

set_option maxHeartbeats 400000 in
theorem free_any (ss : List (Option (List UInt8))) (v : Value) (base : Nat) (w : World) (h : SlotsR w base v ss) (hm : ss.length ≤ 1000) :
    Calls Try.prog 27 #[v] w fun e w' => e = .returned (.int .i64 (freeL ss)) ∧ w = w' := by
  have hn := eql_nil
  rcases h.cells with ⟨rfl, rfl⟩ | ⟨g, cap, rfl, hg, hcap, hc⟩
  · go_enter Try.func27, Try.ntmps27
    go_wp2
    refine wp_loop_rounds 1 ?_
    rw [rounds_succ]
    go_wp2
    go_ret
    exact ⟨rfl, rfl⟩
  · clear h
    have HC := Lib.hid hc; clear hc
    go_enter Try.func27, Try.ntmps27
    go_wp2
    go_loop [7] (fun i => ∃ k : Nat, k ≤ ss.length ∧ i = .int .i64 k ∧ ∀ j, j < k → ss.getD j none ≠ none) (fun i => ss.length - (intOf i).toNat)
    case atStart => exact ⟨0, Nat.zero_le _, rfl, by simp⟩
    case round =>
      obtain ⟨k, hk, rfl, hb⟩ := hrel
      have HB := Lib.hid hb; clear hb
      by_cases hlt : k < ss.length
      · obtain ⟨x, hx, _, hrec⟩ := HC.out k hlt
        rcases hrec.form with ⟨ho, rfl⟩ | ⟨r, g', cap', ho, rfl⟩
        · have HF := Lib.hid (freeL_at hlt ho HB.out)
          clear hrec ho
          go_wp2
          go_ret
          exact ⟨ret_int (by rw [HF.out]), rfl⟩
        · have HO := Lib.hid ho
          clear hrec ho
          go_wp2
          go_round
          case rel => exact ⟨k + 1, by omega, by go_num, fun j hj => by
            by_cases e : j = k
            · rw [e, HO.out]; simp
            · exact HB.out j (by omega)⟩
          case measure => simp [intOf]; omega
      · obtain rfl : k = ss.length := by omega
        have HF := Lib.hid (freeL_none HB.out)
        go_wp2
        go_ret
        exact ⟨ret_int (by rw [HF.out]), rfl⟩
end Go.Proofs.Ytpfnpinblbfjdaa
