/- The walk of page.Right, Kind. -/
import Derived.Test.YtpfnpinblbfjdaaSeal
import Derived.Test.YtpfnpinblbfjdaaRegion
import Derived.Stop.BytesEq
set_option linter.unusedSimpArgs false
namespace Go.Proofs.Ytpfnpinblbfjdaa
open Go.RowKit

theorem eql_page (w : World) (l m : List UInt8) (hl : l.length = 512) (hm : m.length = 512) :
    (binOp .eql 26 (.agg (bytesA l)) (.agg (bytesA m))).run Try.prog w = .ok (.bool (l == m)) w :=
  run_eql_bytes w 26 5 512 Try.underlying26 Try.underlying5 (fun w => by kernel_rfl) l m hl hm

theorem page_keep {w w1 w2 : World} {g : Nat} {cs : List Value} (h : w1.rangeAt g 0 cs ∧ Below w.heap.size w w1 ∧ g < w1.heap.size) (hb : Below w1.heap.size w1 w2) :
    w2.rangeAt g 0 cs ∧ Below w.heap.size w w2 ∧ g < w2.heap.size :=
  ⟨fun j v hv => by rw [hb.cell (p := ⟨g, 0 + j, none⟩) h.2.2]; exact h.1 j v hv, h.2.1.trans (hb.mono h.2.1.size), Nat.lt_of_lt_of_le h.2.2 hb.size⟩
/-- Is the seal right? -/
def rightL (l : List UInt8) : Bool := sealL l == l

set_option maxHeartbeats 400000 in
set_option maxRecDepth 100000 in
theorem right_any (l : List UInt8) (w : World) (hl : l.length = 512) :
    Calls Try.prog 15 #[.agg (bytesA l)] w fun e w' => e = .returned (.bool (rightL l)) ∧ Below w.heap.size w w' := by
  have HL := Lib.hid hl; clear hl
  have hu := Try.underlying26
  have hi : (Try.prog.info? 26).map (·.size) = some (bytesL l).length := by rw [length_bytesL, HL.out]; exact info_page
  have heq := fun w => eql_page w (sealL l) l ((length_sealL l).trans HL.out) HL.out
  go_enter Try.func15, Try.ntmps15
  go_wp2_with fail
  have h0 : (w.alloc (.cells (bytesA l) 26)).rangeAt w.heap.size 0 (bytesL l) := by
    intro j v hv; simp; exact hv
  have hb : Below w.heap.size w (w.alloc (.cells (bytesA l) 26)) := (Below.refl _ _).alloc (Nat.le_refl _) _
  have hlt : w.heap.size < (w.alloc (.cells (bytesA l) 26)).heap.size := by simp
  generalize w.alloc (.cells (bytesA l) 26) = w1 at *
  have hS : w1.drew.rangeAt w.heap.size 0 (bytesL l) ∧ Below w.heap.size w w1.drew ∧ w.heap.size < w1.drew.heap.size := ⟨h0, hb.drew, hlt⟩
  refine wp_region_noPanic ?_
  refine wp_region_held_drew (S := fun w' => w'.rangeAt w.heap.size 0 (bytesL l) ∧ Below w.heap.size w w' ∧ w.heap.size < w'.heap.size) (by kernel_rfl) hS (fun hHeld => ?_)
  refine takeH_load 0 3 _ _ _ _ _ (bytesL l) _ rfl rfl rfl (by kernel_rfl) (by kernel_rfl) (by kernel_rfl) rfl rfl hu rfl hi hHeld (fun w h => h.1) ?_
  refine takeH_load 2 5 _ _ _ _ _ (bytesL l) _ rfl rfl rfl (by kernel_rfl) (by kernel_rfl) (by kernel_rfl) rfl rfl hu rfl hi hHeld (fun w h => h.1) ?_
  refine wpAnyH_ready (rs := [1]) (by kernel_rfl) (by simp) (AllReadyH.cons rfl (fun K hK => ?_) AllReadyH.nil)
  go_simp
  refine (seal_any l _ HL.out).mono ?_
  rintro e w2 ⟨rfl, hb2⟩
  go_simp
  refine hK.out _ _ (page_keep hHeld hb2) (fun hHeld2 => ?_)
  clear hK K
  refine takeH 3 6 _ (.bool (sealL l == l)) rfl rfl rfl (by kernel_rfl) (by kernel_rfl) (by kernel_rfl) hHeld2 (fun w _ => by go_simp) ?_
  refine takeH 4 2 _ (.bool (sealL l == l)) rfl rfl rfl (by kernel_rfl) (by kernel_rfl) (by kernel_rfl) hHeld2 (fun w _ => by go_simp) ?_
  refine wpAnyH_done (by kernel_rfl) ?_ _
  simp only [List.setIfInBounds_toArray, List.set_cons_zero, List.set_cons_succ]
  refine NoPanic.normal ?_
  go_wp2_with fail
  go_ret
  exact ⟨rfl, hHeld2.2.1⟩

/-- A page's kind. -/
def kindL (l : List UInt8) : Int := (l.getD 4 0).toNat

set_option maxHeartbeats 400000 in
theorem kind_any (l : List UInt8) (w : World) (hl : l.length = 512) :
    Calls Try.prog 16 #[.agg (bytesA l)] w fun e w' => e = .returned (.int .i64 (kindL l)) ∧ Below w.heap.size w w' := by
  have HL := Lib.hid hl; clear hl
  have hc := get_bytesL l 4 (by rw [HL.out]; omega)
  go_enter Try.func16, Try.ntmps16
  go_wp2_with fail
  go_ret
  exact ⟨by rw [IntWalk.wrap64_in _ ⟨by omega, by have := UInt8.toNat_lt (l.getD 4 0); simp only [List.getD_eq_getElem?_getD] at this; omega⟩]; simp [kindL], (Below.refl _ _).alloc (Nat.le_refl _) _⟩
end Go.Proofs.Ytpfnpinblbfjdaa
