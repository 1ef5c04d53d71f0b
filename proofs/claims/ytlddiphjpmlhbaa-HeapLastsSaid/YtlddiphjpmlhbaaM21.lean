/- The walk of page.slots. -/
import Derived.Test.YtlddiphjpmlhbaaM20
import Derived.Deep.QuietTactic
import Derived.BigQuiet
set_option linter.unusedSimpArgs false
set_option linter.unusedVariables false
set_option linter.defProp false
set_option maxRecDepth 100000
set_option maxHeartbeats 32000000
namespace Go.Proofs.Ytlddiphjpmlhbaa
open Go.RowKit
def two (l : List UInt8) (i : Nat) : Nat := (l.getD i 0).toNat + 256 * (l.getD (i + 1) 0).toNat
def slotAt (l : List UInt8) (F n : Nat) : Option (List UInt8) := if n = 0 ∨ F < 6 ∨ 512 < F + n - 1 then none else some ((l.drop F).take (n - 1))
def slotL (l : List UInt8) (i : Nat) : Option (List UInt8) := slotAt l (two l (6 + 4 * i)) (two l (6 + 4 * i + 2))
def slotsL (l : List UInt8) : List (Option (List UInt8)) := (List.range (min (l.getD 5 0).toNat 124)).map (slotL l)
theorem or_nat (x y : Nat) (hx : x < 256) (hy : y < 256) : bits BinOp.or IntKind.i64 (x : Int) ((y : Int) * 256) = ((x + 256 * y : Nat) : Int) := by
 have e1 : ((y : Int) * 256) = ((y * 256 : Nat) : Int) := by omega
 rw [e1]
 show IntKind.i64.wrap (((BitVec.ofInt 64 (x : Int)) ||| (BitVec.ofInt 64 ((y * 256 : Nat) : Int))).toNat : Int) = _
 rw [BitVec.ofInt_natCast, BitVec.ofInt_natCast, BitVec.toNat_or, BitVec.toNat_ofNat, BitVec.toNat_ofNat]
 rw [Nat.mod_eq_of_lt (by omega), Nat.mod_eq_of_lt (by omega)]
 have e : x ||| y * 256 = x + 256 * y := by
  rw [Nat.or_comm, Nat.mul_comm y 256, show 256 = 2 ^ 8 from rfl, ← Nat.two_pow_add_eq_or_of_lt (by omega)]
  omega
 rw [e]
 exact IntWalk.i64_in _ (by omega)
theorem or_bytes (a b : UInt8) : bits BinOp.or IntKind.i64 (a.toNat : Int) ((b.toNat : Int) * 256) = ((a.toNat + 256 * b.toNat : Nat) : Int) :=
 or_nat _ _ (UInt8.toNat_lt a) (UInt8.toNat_lt b)
theorem slice_page (g lo m : Nat) (hi : Int) (h1 : hi = lo + m) (h2 : lo + m ≤ 512) (w : World) :
 (Instr.sliceAt 86 (.pointer (some ⟨g, 0, none⟩)) (some (.int .i64 lo)) (some (.int .i64 hi)) none).run Try.prog w = .ok (.slice (some ⟨g, if lo = 512 then 0 else lo, none⟩) m (512 - lo)) w := by
 have ht : Try.prog.underlying 86 = some (.array (Try.prog.arrayLen 86) (Try.prog.elem 86)) := by kernel_rfl
 have hn : Try.prog.arrayLen 86 = 512 := by kernel_rfl
 have hs : (sizeOf (Try.prog.elem 86)).run Try.prog w = .ok 1 w := by kernel_rfl
 rw [run_sliceAt_array_lh w 86 _ ht .i64 .i64 lo hi (by omega) (by omega) (by rw [hn]; omega), hs]
 subst h1
 simp only [Result.andThen_ok, slicedAt, hn]
 have e1 : ((lo : Int) + m).toNat = lo + m := by omega
 rw [Int.toNat_natCast, e1]
 by_cases h : lo = 512
 ·subst h; simp
 ·rw [if_neg (by omega), if_neg h]
  simp [Addr.add]
  intro e; exact e.symm
theorem SlotsR.snoc {w w' : World} {base n : Nat} {v v' x : Value} {xs : List Value} {ss : List (Option (List UInt8))} {o : Option (List UInt8)} (hown : w.ownsRow base 23 1 v n xs) (hl : xs.length = ss.length) (hn : n = ss.length)
 (hr : ∀ k, k < ss.length → Rec w base (xs.getD k undef) (ss.getD k none)) (hx : Rec w base x o)
 (hown' : w'.ownsRow base 23 1 v' (n + 1) (xs ++ [x])) (hg : w.grownBy w' v.ownBlock) : SlotsR w' base v' (ss ++ [o]) := by
 have hk : ∀ (g : Nat) (cur : Array Value), w.heap[g]? = some (Obj.cells cur 5 (0, 0)) → w'.heap[g]? = w.heap[g]? := by
  intro g cur hgc
  refine hg.block g (Array.getElem?_eq_some_iff.1 hgc).1 fun e => ?_
  rcases hown.2 with ⟨rfl, _⟩ | ⟨g', cap', cur', rfl, _, hh, _⟩
  ·simp [Value.ownBlock] at e
  ·simp [Value.ownBlock] at e
   subst e
   rw [hgc] at hh
   simp at hh
 subst hn
 refine ⟨xs ++ [x], by simpa using hown', by simp [hl], fun k hkk => ?_⟩
 by_cases hlt : k < ss.length
 ·have := (hr k hlt).kept hk
  simpa [List.getElem?_append_left (show k < xs.length by omega), List.getElem?_append_left hlt] using this
 ·have e : k = ss.length := by simp at hkk; omega
  subst e
  have := hx.kept hk
  simp only [List.getD_eq_getElem?_getD]
  rw [List.getElem?_append_right (by omega), List.getElem?_append_right (by omega)]
  simpa [hl] using this
theorem map_range_succ {α : Type} (f : Nat → α) (k : Nat) : (List.range (k + 1)).map f = (List.range k).map f ++ [f k] := by simp [List.range_succ]
theorem slotL_two (l : List UInt8) (k : Nat) : slotL l k = slotAt l ((l.getD (6 + 4 * k) 0).toNat + 256 * (l.getD (6 + 4 * k + 1) 0).toNat) ((l.getD (6 + 4 * k + 2) 0).toNat + 256 * (l.getD (6 + 4 * k + 3) 0).toNat) := rfl
theorem slots_any (l : List UInt8) (w : World) (hl : l.length = 512) :
 Calls Try.prog 57 #[.agg (bytesA l)] w fun e w' => ∃ v, e = .returned v ∧ SlotsR w' w.heap.size v (slotsL l) ∧ Below w.heap.size w w' := by
 have HL := Lib.hid hl; clear hl
 have hc5 := get_bytesL l 5 (by rw [HL.out]; omega)
 have HD := Lib.hid (show slotsL l = (List.range (min (l.getD 5 0).toNat 124)).map (slotL l) from rfl)
 generalize l.getD 5 0 = n0 at *
 have hn0b := UInt8.toNat_lt n0
 generalize n0.toNat = M at *
 obtain ⟨N, hN, hN1, hN2, hN3⟩ : ∃ N : Nat, N = min M 124 ∧ N ≤ 124 ∧ (M ≤ 124 → N = M) ∧ (124 < M → N = 124) := ⟨_, rfl, by omega, by omega, by omega⟩
 rw [← hN] at HD
 have HN := Lib.hid hN; have HN2 := Lib.hid hN2; have HN3 := Lib.hid hN3
 clear hN hN2 hN3
 go_enter Try.func57, Try.ntmps57
 by_cases h124 : M ≤ 124
 case' pos =>
  obtain rfl := HN2.out h124
  go_wp2_with fail
 case' neg =>
  go_wp2_with fail
  rw [show (124 : Int) = ((N : Nat) : Int) from by have := HN3.out (by omega); omega]
 all_goals
  have h0 : (w.alloc (.cells (bytesA l) 86)).heap[w.heap.size]? = some (.cells (bytesA l) 86 (0, 0)) := heap_alloc_new _ _
  have hb0 : Below w.heap.size w (w.alloc (.cells (bytesA l) 86)) := (Below.refl _ _).alloc (Nat.le_refl _) _
  have hlt0 : w.heap.size + 1 ≤ (w.alloc (.cells (bytesA l) 86)).heap.size := by simp
  generalize w.alloc (.cells (bytesA l) 86) = w1 at *
  go_loopw [3, 12] (fun v i wr => ∃ k : Nat, k ≤ N ∧ i = .int .i64 k ∧ SlotsR wr (w.heap.size + 1) v ((List.range k).map (slotL l)) ∧ Below (w.heap.size + 1) w1 wr) (fun _ i _ => N - (intOf i).toNat)
  case atStart => exact ⟨0, Nat.zero_le _, rfl, ⟨[], World.ownsRow_nil _ _ _ _, rfl, fun k hk => absurd hk (by simp)⟩, Below.refl _ _⟩
  case round =>
   obtain ⟨k, hk, rfl, hsl, hbw⟩ := hrel
   by_cases hlt : k < N
   ·have hh : wr.heap[w.heap.size]? = some (.cells (bytesA l) 86 (0, 0)) := (hbw.block _ (by omega)).trans h0
    have hg : ∀ j, j < 512 → wr.cell? ⟨w.heap.size, j, none⟩ = some (.int .u8 (l.getD j 0).toNat) := fun j hj => by
     rw [cell_of_row wr _ j _ _ _ hh]; simpa using get_bytesL l j (by rw [HL.out]; exact hj)
    have hA := hg (6 + 4 * k) (by omega)
    have hB := hg (6 + 4 * k + 1) (by omega)
    have hC := hg (6 + 4 * k + 2) (by omega)
    have hD := hg (6 + 4 * k + 3) (by omega)
    have HH := Lib.hid hh
    have HF := Lib.hid (map_range_succ (slotL l) k)
    rw [slotL_two l k] at HF
    have hlen : ((List.range k).map (slotL l)).length = k := by simp
    clear hg h0 hb0 hc5 hh
    have HSL := Lib.hid hsl
    clear hsl
    generalize (List.range k).map (slotL l) = ss at *
    generalize l.getD (6 + 4 * k) 0 = a at *
    generalize l.getD (6 + 4 * k + 1) 0 = b at *
    generalize l.getD (6 + 4 * k + 2) 0 = c at *
    generalize l.getD (6 + 4 * k + 3) 0 = d at *
    have ha := UInt8.toNat_lt a
    have hb := UInt8.toNat_lt b
    have hc := UInt8.toNat_lt c
    have hd := UInt8.toNat_lt d
    have HLEN := Lib.hid hlen
    clear hlen
    go_wp2_with fail
    go_quiet (fail)
    rw [or_bytes a b, or_bytes c d]
    have hF : a.toNat + 256 * b.toNat ≤ 65535 := by omega
    have hnn : c.toNat + 256 * d.toNat ≤ 65535 := by omega
    clear hA hB hC hD ha hb hc hd
    generalize a.toNat + 256 * b.toNat = F at *
    generalize c.toNat + 256 * d.toNat = n at *
    obtain ⟨xs, hown, hxl, hxr⟩ := HSL.out
    have hown2 : (wr.drewN nq).ownsRow (w.heap.size + 1) 23 1 u3 ss.length xs := hown
    have hbw2 : Below (w.heap.size + 1) w1 (wr.drewN nq) := below_drewN hbw nq
    have hxr2 : ∀ j, j < ss.length → Rec (wr.drewN nq) (w.heap.size + 1) (xs.getD j undef) (ss.getD j none) := hxr
    have HH2 := Lib.hid (show (wr.drewN nq).heap[w.heap.size]? = some (.cells (bytesA l) 86 (0, 0)) from HH.out)
    have hsz2 : w.heap.size + 1 ≤ (wr.drewN nq).heap.size := Nat.le_trans hlt0 hbw2.size
    have HXL := Lib.hid hxl
    have HXR := Lib.hid hxr2
    clear hown hbw hxr HSL HH hxl hxr2
    generalize wr.drewN nq = w2 at *
    have HB2 := Lib.hid hbw2
    clear hbw2
    by_cases hcase : n = 0 ∨ F < 6 ∨ 512 < F + n - 1
    ·have HO := Lib.hid (show slotAt l F n = none by simp [slotAt, hcase])
     rw [HO.out] at HF
     clear HO
     have hcase3 : (((n : Int) == 0) = true ∧ n = 0) ∨ (((n : Int) == 0) = false ∧ F < 6) ∨ (((n : Int) == 0) = false ∧ 6 ≤ F ∧ 512 < F + n - 1) := by
      rcases hcase with h | h | h <;> simp <;> omega
     clear hcase
     rcases hcase3 with ⟨h1, _⟩ | ⟨h1, h2⟩ | ⟨h1, h2, h3⟩
     all_goals
      go_wp2_with (at_builtin; refine append_src 22 23 (.slice none 0 0) 1 24 Try.underlying22 info_bytes rfl (by decide) rfl _ _ rfl (w.heap.size + 1) u3 _ xs rfl (hown2.alloc _) 1 [.slice none 0 0] (Src.one _ _ _) rfl (by simp [Value.oneCell']) (by rw [HLEN.out]; unfold maxLen; omega) (by rw [HLEN.out]; omega) (by simp; omega) ?_; intro v' w' hown' hgrow _)
      go_roundw
      case rel =>
       refine ⟨k + 1, by omega, by go_num, ?_, ?_⟩
       ·rw [HF.out]
        exact SlotsR.snoc (hown2.alloc _) HXL.out rfl (fun j hj => (HXR.out j hj).kept (fun g cur hg => Below.heap_alloc _ _ g (Array.getElem?_eq_some_iff.1 hg).1)) rfl hown' hgrow
       ·exact (HB2.out.alloc hsz2 _).grown hgrow (by simp; omega) (fun q hq => (hown2.lt q hq).1)
      case measure => simp [intOf]; omega
    ·have hc1 : ((n : Int) == 0) = false := by simp; omega
     have hc2 : 6 ≤ F := by omega
     have hc3 : F + n - 1 ≤ 512 := by omega
     have hc4 : 1 ≤ n := by omega
     have HO := Lib.hid (show slotAt l F n = some ((l.drop F).take (n - 1)) by simp [slotAt, hcase])
     rw [HO.out] at HF
     clear HO hcase
     have HRL := Lib.hid (show ((l.drop F).take (n - 1)).length = n - 1 by simp [HL.out]; omega)
     have HRG := Lib.hid (show ∀ j u, (bytesL ((l.drop F).take (n - 1)))[j]? = some u → w2.cell? ⟨w.heap.size, F + j, none⟩ = some u from fun j u hj => by
      rw [cell_of_row w2 _ (F + j) _ _ _ HH2.out, bytesL_take, bytesL_drop] at *
      rw [List.getElem?_take] at hj
      split at hj
      ·rw [List.getElem?_drop] at hj; simpa using hj
      ·cases hj)
     generalize (l.drop F).take (n - 1) = r at *
     have hsl := slice_page w.heap.size F (n - 1) (F + n - 1) (by omega) (by omega)
     obtain ⟨F', hF'⟩ : ∃ F', F' = if F = 512 then 0 else F := ⟨_, rfl⟩
     rw [← hF'] at hsl
     have HRG' := Lib.hid (show ∀ j u, (bytesL r)[j]? = some u → w2.cell? ⟨w.heap.size, F' + j, none⟩ = some u from fun j u hj => by
      by_cases h : F = 512
      ·have : r = [] := List.eq_nil_of_length_eq_zero (by rw [HRL.out]; omega)
       subst this; simp [bytesL] at hj
      ·rw [if_neg h] at hF'; subst hF'; exact HRG.out j u hj)
     clear HRG hF'
     have hown3 : (w2.alloc (.cells #[] 5)).ownsRow (w.heap.size + 1) 5 1 (.slice (some ⟨w2.heap.size, 0, none⟩) 0 0) 0 [] := World.ownsRow_made w2 #[] 0 hsz2 (by unfold maxLen; omega) rfl
     have HNE := Lib.hid (show u3.ownBlock = none ∨ u3.ownBlock ≠ Value.ownBlock (.slice (some ⟨w2.heap.size, 0, none⟩) 0 0) from by
      cases ho : u3.ownBlock with
      | none => exact .inl rfl
      | some q => right; have := (hown2.lt q ho).2; simp [Value.ownBlock]; omega)
     go_wp2_with (first
      | (at_builtin; refine append_some 23 5 (.int .u8 0) 1 1 Try.underlying23 info_byte rfl (by decide) rfl (.tmp 58) (.tmp 64) rfl (w.heap.size + 1) (.slice (some ⟨w2.heap.size, 0, none⟩) 0 0) 0 [] rfl hown3 (n - 1) (bytesL r) (Src.at (fun j u hj => cell_later ((Below.refl _ _).alloc (Nat.le_refl _) _) (HRG'.out j u hj))) (by rw [length_bytesL, HRL.out]; omega) (oneCell_bytesL r) (by unfold maxLen; omega) (by omega) (by simp; omega) (.inl (by simp)) ?_; intro g5 cap5 w5 hown5 hgrow5; simp only [Nat.zero_add, List.nil_append] at hown5)
      | (at_builtin; refine append_some 22 23 (.slice none 0 0) 1 24 Try.underlying22 info_bytes rfl (by decide) rfl (.tmp 57) (.tmp 66) rfl (w.heap.size + 1) u3 _ xs rfl (((hown2.alloc _).kept hgrow5 HNE.out).alloc _) 1 [_] (Src.one _ _ _) rfl (by simp [Value.oneCell']) (by rw [HLEN.out]; unfold maxLen; omega) (by rw [HLEN.out]; omega) (by have := hgrow5.size; simp at this; simp; omega) (.inr (by omega)) ?_; intro g6 cap6 w6 hown6 hgrow6))
     go_roundw
     case rel =>
      refine ⟨k + 1, by omega, by go_num, ?_, ?_⟩
      ·rw [HF.out]
       have hk5 : ∀ (g : Nat) (cur : Array Value), w2.heap[g]? = some (Obj.cells cur 5 (0, 0)) → (w5.alloc (.cells #[.slice (some ⟨g5, 0, none⟩) (n - 1) cap5] 23)).heap[g]? = w2.heap[g]? := fun g cur hg => by
        have hlt := (Array.getElem?_eq_some_iff.1 hg).1
        have hz := hgrow5.size
        rw [Below.heap_alloc _ _ g (by simp at hz; omega), hgrow5.block g (by simp; omega) (by simp [Value.ownBlock]; omega), Below.heap_alloc _ _ g hlt]
       refine SlotsR.snoc (((hown2.alloc _).kept hgrow5 HNE.out).alloc _) HXL.out rfl (fun j hj => (HXR.out j hj).kept hk5) ?_ hown6 hgrow6
       exact ⟨by rw [HRL.out]; exact hown5.alloc _, g5, cap5, by rw [HRL.out]⟩
      ·have hb5 := (HB2.out.alloc hsz2 (.cells #[] 5)).grown hgrow5 (by simp; omega) (fun q hq => by simp [Value.ownBlock] at hq; omega)
       have hz := hgrow5.size
       exact (hb5.alloc (by simp at hz; omega) _).grown hgrow6 (by simp at hz; simp; omega) (fun q hq => (hown2.lt q hq).1)
     case measure => simp [intOf]; omega
   ·obtain rfl : k = N := by omega
    go_wp2_with fail
    go_ret
    exact ⟨_, rfl, by rw [HD.out]; exact hsl.mono (by omega), (hb0.trans (hbw.mono (by omega)))⟩
end Go.Proofs.Ytlddiphjpmlhbaa
