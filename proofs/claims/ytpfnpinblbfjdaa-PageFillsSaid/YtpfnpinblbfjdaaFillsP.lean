/- Plain lemmas on pages whose slots are all the same record. -/
import Derived.Test.YtpfnpinblbfjdaaAwake
set_option linter.unusedSimpArgs false
namespace Go.Proofs.Ytpfnpinblbfjdaa

def rep (k : Nat) (z : List UInt8) : List (Option (List UInt8)) := List.replicate k (some z)
theorem length_rep (k : Nat) (z : List UInt8) : (rep k z).length = k := List.length_replicate
theorem get_rep {k : Nat} {z : List UInt8} {i : Nat} (h : i < k) : (rep k z).getD i none = some z := by simp [rep, h]
theorem lens_rep (k : Nat) (z : List UInt8) : lens (rep k z) = k * z.length := by simp [lens, rep, recLen]
theorem cost_rep (k : Nat) (z : List UInt8) : costL (rep k z) = k * (z.length + 4) := by
  unfold costL; rw [length_rep, lens_rep, Nat.mul_add]; omega
theorem free_rep (k : Nat) (z : List UInt8) : freeL (rep k z) = k := by
  have := freeL_none (ss := rep k z) (fun j hj => by rw [get_rep (by rwa [length_rep] at hj)]; simp)
  rwa [length_rep] at this
theorem rep_succ (k : Nat) (z : List UInt8) : rep (k + 1) z = rep k z ++ [some z] := by simp [rep, List.replicate_succ']
theorem put_rep (k : Nat) (z : List UInt8) : putL (rep k z) k z = rep (k + 1) z := by
  unfold putL
  rw [if_pos (length_rep k z).symm, rep_succ]
  apply List.ext_getElem?
  intro i
  have hl := length_rep k z
  rw [List.getElem?_set]
  by_cases e : k = i
  · subst e
    rw [List.getElem?_append_right (by omega)]
    simp [hl]
  · rw [if_neg e]
    by_cases h : i < k
    · rw [List.getElem?_append_left (by omega), List.getElem?_append_left (by omega)]
    · rw [List.getElem?_eq_none (by simp [hl]; omega), List.getElem?_eq_none (by simp [hl]; omega)]
theorem room_rep (k : Nat) (z : List UInt8) : roomL (rep k z) = (max (-1) (min 400 (496 - (((k * (z.length + 4) : Nat) : Int) + 4))) : Int) := by
  unfold roomL
  rw [free_rep, length_rep, cost_rep, if_pos rfl]

/-- What is left when one of them is dropped. -/
def holed (k : Nat) (z : List UInt8) (d : Nat) : List (Option (List UInt8)) := trimL ((rep k z).set d none)
theorem lens_set {ss : List (Option (List UInt8))} {d : Nat} (h : d < ss.length) (o : Option (List UInt8)) : lens (ss.set d o) + recLen (ss.getD d none) = lens ss + recLen o := by
  induction ss generalizing d with
  | nil => simp at h
  | cons a ss ih =>
    cases d with
    | zero => simp [lens]; omega
    | succ d =>
      have := ih (d := d) (by simpa using h)
      simp only [lens, List.set_cons_succ, List.map_cons, List.sum_cons, List.getD_cons_succ] at *
      omega
theorem holed_facts (k : Nat) (z : List UInt8) (d : Nat) (hd : d < k) (hz : z.length ≤ 400) (hc : k * (z.length + 4) ≤ 496) :
    costL ((rep k z).set d none) ≤ 496 ∧ freeL (holed k z d) = d ∧ putL (holed k z d) d z = rep k z ∧ (z.length : Int) ≤ roomL (holed k z d) := by
  have hl := length_rep k z
  have hls := lens_set (ss := rep k z) (d := d) (by omega) none
  rw [get_rep hd, lens_rep] at hls
  simp only [recLen, Nat.add_zero] at hls
  have hkm : k * (z.length + 4) = k * z.length + 4 * k := by rw [Nat.mul_add]; omega
  have hcs : costL ((rep k z).set d none) + z.length = k * (z.length + 4) := by
    unfold costL
    rw [List.length_set, hl]
    omega
  refine ⟨by omega, ?_⟩
  by_cases e : d = k - 1
  · have ht : holed k z d = rep d z := by
      unfold holed
      have g1 : ∀ i, d ≤ i → ((rep k z).set d none).getD i none = none := fun i hi => by
        simp only [List.getD_eq_getElem?_getD, List.getElem?_set, hl]
        by_cases ei : d = i
        · simp [ei]; split <;> rfl
        · rw [if_neg ei, List.getElem?_eq_none (by rw [hl]; omega)]; rfl
      have g2 : d = 0 ∨ ((rep k z).set d none).getD (d - 1) none ≠ none := by
        by_cases hd0 : d = 0
        · exact .inl hd0
        · right
          simp only [List.getD_eq_getElem?_getD]
          rw [List.getElem?_set_ne (by omega)]
          simp [rep, show d - 1 < k by omega]
      rw [trimL_eq _ d (by simp [hl]; omega) g1 g2]
      apply List.ext_getElem?
      intro i
      rw [List.getElem?_take]
      by_cases hi : i < d
      · rw [if_pos hi, List.getElem?_set_ne (by omega)]
        simp [rep, hi, show i < k by omega]
      · rw [if_neg hi, List.getElem?_eq_none (by rw [length_rep]; omega)]
    rw [ht, free_rep, put_rep, room_rep]
    have hk1 : d + 1 = k := by omega
    rw [hk1]
    have hsm : k * (z.length + 4) = d * (z.length + 4) + (z.length + 4) := by rw [← hk1, Nat.succ_mul]
    refine ⟨rfl, rfl, ?_⟩
    generalize d * (z.length + 4) = q at *
    generalize k * (z.length + 4) = q2 at *
    omega
  · have ht : holed k z d = (rep k z).set d none := by
      unfold holed
      apply trimL_last
      simp only [List.length_set, hl, List.getD_eq_getElem?_getD]
      rw [List.getElem?_set_ne (by omega)]
      simp [rep, show k - 1 < k by omega]
    have hf : freeL ((rep k z).set d none) = d := by
      refine freeL_at (by simp [hl]; exact hd) (by simp [List.getElem?_set, hl, hd]) (fun j hj => ?_)
      simp only [List.getD_eq_getElem?_getD]
      rw [List.getElem?_set_ne (by omega)]
      simp [rep, show j < k by omega]
    rw [ht]
    refine ⟨hf, ?_, ?_⟩
    · unfold putL
      rw [if_neg (by simp [hl]; omega), List.set_set]
      apply List.ext_getElem?
      intro i
      rw [List.getElem?_set]
      by_cases ei : d = i
      · subst ei; rw [if_pos rfl]; simp [rep, hd]
      · rw [if_neg ei]
    · unfold roomL
      rw [hf, List.length_set, hl, if_neg (by omega)]
      generalize k * (z.length + 4) = q2 at *
      generalize k * z.length = q3 at *
      omega
end Go.Proofs.Ytpfnpinblbfjdaa
