/- A world that holds the listed tables: the witness of law 17's rows; and what the list tells of the powers of ten. Orders: values and rows, rows put in their order. -/
import Derived.Test.YtpcblbbddccgpaaDoorM33
import Derived.Test.YtpcblbbddccgpaaDoorM25
import Derived.Test.YtpcblbbddccgpaaDoorRows
import Derived.Lib.LaidIn
import Derived.Lib.LaidCaseMet
import Derived.PinnedBridge
import Derived.Deep.DeepWitnessRowRef
import Derived.Test.YtpcblbbddccgpaaDoorM30
set_option linter.unusedSimpArgs false
set_option linter.unusedVariables false
set_option linter.defProp false
set_option maxRecDepth 100000
set_option maxHeartbeats 32000000
namespace Go.Proofs.YtpcblbbddccgpaaDoor
open Go.RowKit Go.Lib Go.Shelf
abbrev laidL : List (String × DataW Unit) := [("math/bits.deBruijn32tab", Rows.laid_math_bits_deBruijn32tab), ("math/bits.deBruijn64tab", Rows.laid_math_bits_deBruijn64tab), ("internal/strconv.uint64pow10", Rows.laid_internal_strconv_uint64pow10), ("unicode/utf8.acceptRanges", Rows.laid_unicode_utf8_acceptRanges), ("unicode.CaseRanges", Rows.laid_unicode_CaseRanges), ("unicode/utf8.first", Rows.laid_unicode_utf8_first)]
def litsOf : DataW Unit → List Value
 | .agg l => l.map fun | .lit x => x.value | _ => .bool false
 | _ => []
noncomputable def laidWorld (os : Os) : World :=
 let N := (World.settled Tryd.prog os).heap.size
 let w0 := World.holding Tryd.prog os ⟨#[.cells Lib.caseCells5 147], #[], []⟩
 let put (h : Array Obj) (g : Nat) (cs : Array Value) : Array Obj := h.modify g fun
  | .cells _ t frozen => .cells cs t frozen
  | o => o
 let h0 := put w0.heap 5 (litsOf Rows.laid_math_bits_deBruijn32tab).toArray
 let h1 := put h0 6 (litsOf Rows.laid_math_bits_deBruijn64tab).toArray
 let h2 := put h1 0 (Lib.pow10Tab.map fun z => Value.int .u64 z).toArray
 let h3 := put h2 4 ((List.range 16).flatMap fun i => [Value.int .u8 (Lib.accLo i), Value.int .u8 (Lib.accHi i)]).toArray
 let h4 := put h3 3 (Lib.firstTab.map fun z => Value.int .u8 z).toArray
 let h5 := put h4 1 #[.slice (some ⟨N, 0, none⟩) Lib.caseA.size Lib.caseA.size]
 { w0 with heap := h5 }
noncomputable abbrev N0 : Nat := (World.settled Tryd.prog default).heap.size
theorem pieceA (os : Os) (args : Array Value) : LaidIn Tryd.prog ((laidWorld os).forCall (fun _ _ => 0) ⟨#[], args, []⟩).memory [("math/bits.deBruijn32tab", Rows.laid_math_bits_deBruijn32tab), ("math/bits.deBruijn64tab", Rows.laid_math_bits_deBruijn64tab), ("internal/strconv.uint64pow10", Rows.laid_internal_strconv_uint64pow10), ("unicode/utf8.acceptRanges", Rows.laid_unicode_utf8_acceptRanges)] [5, 6, 0, 4] :=
 LaidIn.of_run _ 8 (by kernel_rfl) (by kernel_rfl) (by kernel_rfl) (by kernel_rfl)
theorem pieceB (os : Os) (args : Array Value) : LaidIn Tryd.prog ((laidWorld os).forCall (fun _ _ => 0) ⟨#[], args, []⟩).memory [("unicode/utf8.first", Lib.firstData)] [3] :=
 LaidIn.of_run _ 8 (by kernel_rfl) (by kernel_rfl) (by kernel_rfl) (by kernel_rfl)
theorem xCase : CaseExtra Tryd.prog Tryd.lays158_ren := ⟨by kernel_rfl, by kernel_rfl, by kernel_rfl, by kernel_rfl, by kernel_rfl, by kernel_rfl⟩
theorem heapV (os : Os) (args : Array Value) : ((laidWorld os).forCall (fun _ _ => 0) ⟨#[], args, []⟩).memory.heap[1]? = some (.cells #[.slice (some ⟨N0, 0, none⟩) Lib.caseA.size Lib.caseA.size] 128 (0, 0)) := by kernel_rfl
theorem heapR (os : Os) (args : Array Value) : ((laidWorld os).forCall (fun _ _ => 0) ⟨#[], args, []⟩).memory.heap[N0]? = some (.cells Lib.caseCells5 147 (0, 0)) := by kernel_rfl
theorem case_in {w : World} {R : Nat} (hgR : (1 : Nat) ≠ R) (hvar : w.heap[1]? = some (.cells #[.slice (some ⟨R, 0, none⟩) Lib.caseA.size Lib.caseA.size] 128 (0, 0))) (hblk : w.heap[R]? = some (.cells Lib.caseCells5 147 (0, 0))) : LaidIn Tryd.prog w [("unicode.CaseRanges", caseData)] [1, R] := by
 have hT := caseTab_of_block hblk
 have hread := case_slice_reads (ρ := Tryd.lays158_ren) { Tryd.lays158 with } Tryd.underlying145 xCase hT caseA_wf (by rw [caseA_size]; unfold maxLen; omega) 0
 rw [case_rows_data] at hread
 have hv : w.var? Tryd.prog "unicode.CaseRanges" = some #[.slice (some ⟨R, 0, none⟩) Lib.caseA.size Lib.caseA.size] := by simp only [World.var?, xCase.n13, Option.bind_some]; exact (by rw [show Tryd.lays158_ren.g 13 = 1 from rfl, hvar])
 refine LaidIn.one (fuel := 4) (p := MemPlace.row ⟨R, 0, none⟩ (Lib.caseA.size * 5)) _ xCase.n13 xCase.y13 hv hread ?_ ?_ ?_
 ·refine List.nodup_append.2 ⟨row_nodup _ _, row_nodup _ _, ?_⟩
  intro a ha b hb e
  obtain ⟨i, _, rfl⟩ := MemPlace.mem_row.1 ha
  obtain ⟨j, _, rfl⟩ := MemPlace.mem_row.1 hb
  simp at e
  exact hgR e.1
 ·intro b off hp
  rcases List.mem_append.1 hp with hp | hp
  ·obtain ⟨i, hi, e⟩ := MemPlace.mem_row.1 hp
   cases e
   refine ⟨⟨_, _, hvar⟩, fun u v hc => ?_⟩
   obtain rfl : i = 0 := by simp at hi; omega
   have hc' := (Lib.cell_of_heap hvar 0).symm.trans hc
   simp at hc'
  ·obtain ⟨i, hi, e⟩ := MemPlace.mem_row.1 hp
   cases e
   refine ⟨⟨_, _, hblk⟩, fun u v hc => ?_⟩
   have hlt : i / 5 < Lib.caseA.size := by rw [Nat.div_lt_iff_lt_mul (by decide)]; exact hi
   have h5 := hT (i / 5) hlt
   have c0 := h5.1
   have c1 := h5.2.1
   have c2 := h5.2.2.1
   have c3 := h5.2.2.2.1
   have c4 := h5.2.2.2.2
   clear h5 hT
   have hi5 : 0 + i = 0 + i / 5 * 5 + i % 5 := by omega
   simp only at hc
   rw [hi5] at hc
   have hm : i % 5 < 5 := Nat.mod_lt _ (by omega)
   match hk : i % 5, hm with
   | 0, _ => rw [hk, Nat.add_zero, c0] at hc; cases hc
   | 1, _ => rw [hk, c1] at hc; cases hc
   | 2, _ => rw [hk, c2] at hc; cases hc
   | 3, _ => rw [hk, c3] at hc; cases hc
   | 4, _ => rw [hk, c4] at hc; cases hc
 ·intro x hx
  rcases List.mem_append.1 hx with hx | hx
  ·obtain ⟨i, _, rfl⟩ := MemPlace.mem_row.1 hx
   exact List.mem_cons_self
  ·obtain ⟨i, _, rfl⟩ := MemPlace.mem_row.1 hx
   exact List.mem_cons_of_mem _ (List.mem_cons_self)
theorem pieceC (os : Os) (args : Array Value) : LaidIn Tryd.prog ((laidWorld os).forCall (fun _ _ => 0) ⟨#[], args, []⟩).memory [("unicode.CaseRanges", caseData)] [1, N0] :=
 case_in (of_decide_eq_true (by kernel_rfl)) (heapV os args) (heapR os args)
theorem laid_met (os : Os) (args : Array Value) : laidMet Tryd.prog laidL ((laidWorld os).forCall (fun _ _ => 0) ⟨#[], args, []⟩).memory := by
 have hB : LaidIn Tryd.prog ((laidWorld os).forCall (fun _ _ => 0) ⟨#[], args, []⟩).memory [("unicode/utf8.first", Rows.laid_unicode_utf8_first)] [3] := by
  unfold Rows.laid_unicode_utf8_first; rw [Pinned.utf8First_eq]; exact pieceB os args
 have hC : LaidIn Tryd.prog ((laidWorld os).forCall (fun _ _ => 0) ⟨#[], args, []⟩).memory [("unicode.CaseRanges", Rows.laid_unicode_CaseRanges)] [1, N0] := by
  unfold Rows.laid_unicode_CaseRanges; rw [Pinned.caseRanges_eq]; exact pieceC os args
 exact (((pieceA os args).append hC (by kernel_rfl)).append hB (by kernel_rfl)).met
theorem cellsPow : Tryd.prog.cellsOf 117 = 20 := by kernel_rfl
theorem cellsU64 : Tryd.prog.cellsOf 100 = 1 := by kernel_rfl
theorem typePow : (Tryd.prog.globals[0]?).map (·.type) = some 117 := by kernel_rfl
theorem powData : Rows.laid_internal_strconv_uint64pow10 (H := Unit) = Lib.tabData .u64 Lib.pow10Tab := by kernel_rfl
theorem pow_of {W : World} (h : laidMet Tryd.prog laidL W) : Lib.TabIs Tryd.prog W "internal/strconv.uint64pow10" .u64 Lib.pow10Tab := by
 have h2 := laidMet.tail (laidMet.tail h)
 rw [powData] at h2
 exact Lib.tabIs_of_head gPow typePow Tryd.underlying117 Tryd.underlying100 cellsU64 cellsPow h2
end Go.Proofs.YtpcblbbddccgpaaDoor
namespace Go.Proofs.YtpcblbbddccgpaaDoor
open Go.RowKit
structure Sto {α : Type} (lt : α → α → Bool) : Prop where
 irr : ∀ a, lt a a = false
 trans : ∀ a b c, lt a b = true → lt b c = true → lt a c = true
 tri : ∀ a b, lt a b = true ∨ a = b ∨ lt b a = true
theorem Sto.asym {α : Type} {lt : α → α → Bool} (h : Sto lt) {a b : α} (h1 : lt a b = true) : lt b a = false := by
 cases h2 : lt b a with
 | false => rfl
 | true => have := h.trans a b a h1 h2; rw [h.irr] at this; cases this
def lexB {α : Type} [DecidableEq α] (lt : α → α → Bool) : List α → List α → Bool
 | _, [] => false
 | [], _ :: _ => true
 | x :: a, y :: b => if x = y then lexB lt a b else lt x y
theorem lexB_sto {α : Type} [DecidableEq α] {lt : α → α → Bool} (h : Sto lt) : Sto (lexB lt) := by
 refine ⟨fun a => ?_, fun a => ?_, fun a => ?_⟩
 ·induction a with
  | nil => rfl
  | cons x a ih => simp [lexB, ih]
 ·induction a with
  | nil =>
    intro b c h1 h2
    cases c with
    | nil => cases b <;> simp [lexB] at h2
    | cons z c => rfl
  | cons x a ih =>
    intro b c h1 h2
    cases b with
    | nil => simp [lexB] at h1
    | cons y b =>
      cases c with
      | nil => simp [lexB] at h2
      | cons z c =>
        simp only [lexB] at h1 h2 ⊢
        by_cases e1 : x = y
        ·subst e1
         rw [if_pos rfl] at h1
         by_cases e2 : x = z
         ·subst e2
          rw [if_pos rfl] at h2 ⊢
          exact ih b c h1 h2
         ·rw [if_neg e2] at h2 ⊢; exact h2
        ·rw [if_neg e1] at h1
         by_cases e2 : y = z
         ·subst e2
          rw [if_neg e1]; exact h1
         ·rw [if_neg e2] at h2
          have h3 := h.trans x y z h1 h2
          have e3 : x ≠ z := fun e => by subst e; rw [h.irr] at h3; cases h3
          rw [if_neg e3]; exact h3
 ·induction a with
  | nil =>
    intro b
    cases b with
    | nil => exact .inr (.inl rfl)
    | cons y b => exact .inl rfl
  | cons x a ih =>
    intro b
    cases b with
    | nil => exact .inr (.inr rfl)
    | cons y b =>
      by_cases e : x = y
      ·subst e
       simp only [lexB, if_true]
       rcases ih b with h1 | h1 | h1
       ·exact .inl h1
       ·exact .inr (.inl (by rw [h1]))
       ·exact .inr (.inr h1)
      ·simp only [lexB, if_neg e, if_neg (fun e' => e (Eq.symm e'))]
       rcases h.tri x y with h1 | h1 | h1
       ·exact .inl h1
       ·exact (e h1).elim
       ·exact .inr (.inr h1)
theorem u8_sto : Sto fun a b : UInt8 => decide (a < b) := by
 refine ⟨fun a => by simp, fun a b c h1 h2 => ?_, fun a b => ?_⟩
 ·simp only [decide_eq_true_eq, UInt8.lt_iff_toNat_lt] at *; omega
 ·simp only [decide_eq_true_eq, UInt8.lt_iff_toNat_lt, ← UInt8.toNat_inj]; omega
theorem bytesLess_lex : ∀ a b : List UInt8, Op.bytesLess a b = lexB (fun a b : UInt8 => decide (a < b)) a b
 | a, [] => by cases a <;> rfl
 | [], _ :: _ => rfl
 | x :: a, y :: b => by
   simp only [Op.bytesLess, lexB, bytesLess_lex a b]
   by_cases e : x = y
   ·subst e; simp
   ·simp [e]
theorem bytesLess_sto : Sto Op.bytesLess := by
 have h := lexB_sto u8_sto
 refine ⟨fun a => by rw [bytesLess_lex]; exact h.irr a, fun a b c => by simp only [bytesLess_lex]; exact h.trans a b c, fun a b => by simp only [bytesLess_lex]; exact h.tri a b⟩
theorem ba_eqL {a b : ByteArray} (h : a.toList = b.toList) : a = b := ba_ext h
theorem cmpS_z {a b : ByteArray} : cmpS a b = 0 ↔ a = b := by
 unfold cmpS
 constructor
 ·intro h
  split at h
  ·simp at h
  ·split at h
   ·rename_i h1; exact ba_eqL (by simpa using h1)
   ·simp at h
 ·rintro rfl
  rw [if_neg (by rw [bytesLess_sto.irr]; simp), if_pos (by simp)]
theorem cmpS_lt {a b : ByteArray} : cmpS a b < 0 ↔ Op.bytesLess a.toList b.toList = true := by
 unfold cmpS
 split
 ·rename_i h; simp [h]
 ·rename_i h
  split <;> simp [h]
theorem cmpI_z {a b : Int} : cmpI a b = 0 ↔ a = b := by unfold cmpI; split <;> (try split) <;> omega
theorem cmpI_self (a : Int) : cmpI a a = 0 := cmpI_z.2 rfl
theorem cmpI_lt {a b : Int} : cmpI a b < 0 ↔ a < b := by unfold cmpI; split <;> (try split) <;> omega
theorem cmpV_z {a b : Va} : cmpV a b = 0 ↔ a = b := by
 obtain ⟨a1, a2, a3⟩ := a
 obtain ⟨b1, b2, b3⟩ := b
 unfold cmpV
 simp only [Prod.mk.injEq]
 by_cases h1 : a1 = b1
 ·have e1 := cmpI_z.2 h1
  by_cases h2 : a2 = b2
  ·have e2 := cmpI_z.2 h2
   subst h1 h2
   simp only [cmpI_self, ne_eq, not_true, if_false, cmpS_z, true_and]
  ·have e2 : cmpI a2 b2 ≠ 0 := fun e => h2 (cmpI_z.1 e)
   simp [e1, e2, h2]
 ·have e1 : cmpI a1 b1 ≠ 0 := fun e => h1 (cmpI_z.1 e)
  simp [e1, h1]
def ltV (a b : Va) : Bool := decide (cmpV a b < 0)
theorem cmpV_lt {a b : Va} : cmpV a b < 0 ↔ a.1 < b.1 ∨ a.1 = b.1 ∧ (a.2.1 < b.2.1 ∨ a.2.1 = b.2.1 ∧ Op.bytesLess a.2.2.toList b.2.2.toList = true) := by
 unfold cmpV
 by_cases h1 : a.1 = b.1
 ·have e1 := cmpI_z.2 h1
  by_cases h2 : a.2.1 = b.2.1
  ·have e2 := cmpI_z.2 h2
   simp only [h1, h2, cmpI_self, ne_eq, not_true, if_false, cmpS_lt, true_and, Int.lt_irrefl, false_or]
  ·have e2 : cmpI a.2.1 b.2.1 ≠ 0 := fun e => h2 (cmpI_z.1 e)
   rw [h1] at *
   simp only [cmpI_self, ne_eq, not_true, if_false, e2, not_false_eq_true, if_true, cmpI_lt, h2, Int.lt_irrefl, false_or, true_and, false_and, or_false]
 ·have e1 : cmpI a.1 b.1 ≠ 0 := fun e => h1 (cmpI_z.1 e)
  simp only [e1, ne_eq, not_false_eq_true, if_true, cmpI_lt, h1, false_and, or_false]
theorem ltV_sto : Sto ltV := by
 have hs := bytesLess_sto
 refine ⟨fun a => ?_, fun a b c h1 h2 => ?_, fun a b => ?_⟩
 ·unfold ltV; rw [cmpV_z.2 rfl]; rfl
 ·simp only [ltV, decide_eq_true_eq, cmpV_lt] at *
  rcases h1 with h1 | ⟨h1, h1'⟩
  ·rcases h2 with h2 | ⟨h2, _⟩ <;> left <;> omega
  ·rcases h2 with h2 | ⟨h2, h2'⟩
   ·left; omega
   ·refine .inr ⟨by omega, ?_⟩
    rcases h1' with h1' | ⟨h1', h1''⟩
    ·rcases h2' with h2' | ⟨h2', _⟩ <;> left <;> omega
    ·rcases h2' with h2' | ⟨h2', h2''⟩
     ·left; omega
     ·exact .inr ⟨by omega, hs.trans _ _ _ h1'' h2''⟩
 ·simp only [ltV, decide_eq_true_eq, cmpV_lt]
  rcases Int.lt_trichotomy a.1 b.1 with h | h | h
  ·exact .inl (.inl h)
  ·rcases Int.lt_trichotomy a.2.1 b.2.1 with h2 | h2 | h2
   ·exact .inl (.inr ⟨h, .inl h2⟩)
   ·rcases hs.tri a.2.2.toList b.2.2.toList with h3 | h3 | h3
    ·exact .inl (.inr ⟨h, .inr ⟨h2, h3⟩⟩)
    ·exact .inr (.inl (Prod.ext h (Prod.ext h2 (ba_eqL h3))))
    ·exact .inr (.inr (.inr ⟨h.symm, .inr ⟨h2.symm, h3⟩⟩))
   ·exact .inr (.inr (.inr ⟨h.symm, .inl h2⟩))
  ·exact .inr (.inr (.inl h))
def ltR (a b : List Va) : Bool := lexB ltV a b
theorem ltR_sto : Sto ltR := lexB_sto ltV_sto
def putIn {α : Type} (lt : α → α → Bool) (x : α) : List α → List α
 | [] => [x]
 | y :: l => if lt y x = true then y :: putIn lt x l else x :: y :: l
def inOrder {α : Type} (lt : α → α → Bool) : List α → List α
 | [] => []
 | x :: l => putIn lt x (inOrder lt l)
section
variable {α : Type} {lt : α → α → Bool}
theorem putIn_comm (h : Sto lt) (x y : α) : ∀ l : List α, putIn lt x (putIn lt y l) = putIn lt y (putIn lt x l)
 | [] => by
   simp only [putIn]
   rcases h.tri x y with h1 | h1 | h1
   ·rw [if_neg (by rw [h.asym h1]; simp), if_pos h1]
   ·subst h1; rw [if_neg (by rw [h.irr]; simp)]
   ·rw [if_pos h1, if_neg (by rw [h.asym h1]; simp)]
 | z :: l => by
   have ih := putIn_comm h x y l
   by_cases e1 : x = y
   ·subst e1; rfl
   by_cases hy : lt z y = true
   ·by_cases hx : lt z x = true
    ·simp only [putIn, if_pos hx, if_pos hy, ih]
    ·simp only [putIn, if_neg hx, if_pos hy]
     have hxy : lt x y = true := by
      rcases h.tri x z with h1 | h1 | h1
      ·exact h.trans _ _ _ h1 hy
      ·subst h1; exact hy
      ·exact (hx h1).elim
     simp only [if_pos hxy, putIn, if_pos hy]
   ·by_cases hx : lt z x = true
    ·simp only [putIn, if_pos hx, if_neg hy]
     have hyx : lt y x = true := by
      rcases h.tri y z with h1 | h1 | h1
      ·exact h.trans _ _ _ h1 hx
      ·subst h1; exact hx
      ·exact (hy h1).elim
     simp only [if_pos hyx, putIn, if_pos hx]
    ·simp only [putIn, if_neg hx, if_neg hy]
     rcases h.tri x y with h1 | h1 | h1
     ·have h2 := h.asym h1
      simp [h1, h2, hy, hx, putIn]
     ·exact (e1 h1).elim
     ·have h2 := h.asym h1
      simp [h1, h2, hy, hx, putIn]
theorem inOrder_perm (h : Sto lt) {l m : List α} (hp : l.Perm m) : inOrder lt l = inOrder lt m := by
 induction hp with
 | nil => rfl
 | cons x _ ih => simp only [inOrder, ih]
 | swap x y l => simp only [inOrder]; exact putIn_comm h y x _
 | trans _ _ ih1 ih2 => exact ih1.trans ih2
theorem putIn_perm (x : α) : ∀ l : List α, (putIn lt x l).Perm (x :: l)
 | [] => List.Perm.refl _
 | y :: l => by
   simp only [putIn]
   split
   ·exact ((putIn_perm x l).cons y).trans (List.Perm.swap x y l)
   ·exact List.Perm.refl _
theorem inOrder_self : ∀ l : List α, (inOrder lt l).Perm l
 | [] => List.Perm.refl _
 | x :: l => (putIn_perm x _).trans ((inOrder_self l).cons x)
def Rising (lt : α → α → Bool) : List α → Prop
 | [] => True
 | x :: l => (∀ y ∈ l, lt y x = false) ∧ Rising lt l
theorem putIn_rising (h : Sto lt) (x : α) : ∀ l : List α, Rising lt l → Rising lt (putIn lt x l)
 | [], _ => ⟨by simp, trivial⟩
 | y :: l, hl => by
   simp only [putIn]
   split
   ·rename_i hyx
    refine ⟨fun z hz => ?_, putIn_rising h x l hl.2⟩
    rcases List.mem_cons.1 ((putIn_perm x l).mem_iff.1 hz) with rfl | hz
    ·exact h.asym hyx
    ·exact hl.1 z hz
   ·rename_i hyx
    refine ⟨fun z hz => ?_, hl⟩
    rcases List.mem_cons.1 hz with rfl | hz
    ·simpa using hyx
    ·cases hzx : lt z x with
     | false => rfl
     | true =>
       have h1 := hl.1 z hz
       rcases h.tri y z with h2 | h2 | h2
       ·exact (hyx (h.trans _ _ _ h2 hzx)).elim
       ·subst h2; exact (hyx hzx).elim
       ·rw [h1] at h2; cases h2
theorem inOrder_rising (h : Sto lt) : ∀ l : List α, Rising lt (inOrder lt l)
 | [] => trivial
 | x :: l => putIn_rising h x _ (inOrder_rising h l)
theorem Rising.drop : ∀ {l : List α} (k : Nat), Rising lt l → Rising lt (l.drop k)
 | [], k, h => by simp [Rising]
 | x :: l, 0, h => h
 | x :: l, k + 1, h => by rw [List.drop_succ_cons]; exact Rising.drop k h.2
theorem least_is (h : Sto lt) {l m : List α} {x y : α} (hr : Rising lt (y :: m)) (hp : l.Perm (y :: m)) (hx : x ∈ l) (hle : ∀ z ∈ l, lt z x = false) : x = y := by
 have h1 := hle y (hp.mem_iff.2 (by simp))
 rcases List.mem_cons.1 (hp.mem_iff.1 hx) with h2 | h2
 ·exact h2
 ·have h3 := hr.1 x h2
  rcases h.tri x y with h4 | h4 | h4
  ·rw [h3] at h4; cases h4
  ·exact h4
  ·rw [h1] at h4; cases h4
end
end Go.Proofs.YtpcblbbddccgpaaDoor
