/- A world that holds the listed tables: the witness of law 17's rows; and what the list tells of the powers of ten. -/
import Derived.Test.YtpcblbbddccgpaaDoorM38
import Derived.Test.YtpcblbbddccgpaaDoorM26
import Derived.Test.YtpcblbbddccgpaaDoorRows
import Derived.Lib.LaidIn
import Derived.Lib.LaidCaseMet
import Derived.PinnedBridge
import Derived.Deep.DeepWitnessRowRef
set_option linter.unusedSimpArgs false
set_option linter.unusedVariables false
set_option linter.defProp false
set_option maxRecDepth 100000
set_option maxHeartbeats 32000000
namespace Go.Proofs.YtpcblbbddccgpaaDoor
open Go.RowKit Go.Lib Go.Shelf
abbrev laidL : List (String × DataW Unit) := [("math/bits.deBruijn32tab", Rows.laid_math_bits_deBruijn32tab), ("math/bits.deBruijn64tab", Rows.laid_math_bits_deBruijn64tab), ("internal/strconv.uint64pow10", Rows.laid_internal_strconv_uint64pow10), ("unicode/utf8.acceptRanges", Rows.laid_unicode_utf8_acceptRanges), ("unicode.CaseRanges", Rows.laid_unicode_CaseRanges), ("unicode/utf8.first", Rows.laid_unicode_utf8_first)]
def litsOf : DataW Unit → List Value
 | .agg l => l.map fun | .lit x => x.value | _ => .bool false
 | _ => []
noncomputable def laidWorld (os : Os) : World :=
 let N := (World.settled Tryd.prog os).heap.size
 let w0 := World.holding Tryd.prog os ⟨#[.cells Lib.caseCells5 147], #[], []⟩
 let put (h : Array Obj) (g : Nat) (cs : Array Value) : Array Obj := h.modify g fun
  | .cells _ t frozen => .cells cs t frozen
  | o => o
 let h0 := put w0.heap 5 (litsOf Rows.laid_math_bits_deBruijn32tab).toArray
 let h1 := put h0 6 (litsOf Rows.laid_math_bits_deBruijn64tab).toArray
 let h2 := put h1 0 (Lib.pow10Tab.map fun z => Value.int .u64 z).toArray
 let h3 := put h2 4 ((List.range 16).flatMap fun i => [Value.int .u8 (Lib.accLo i), Value.int .u8 (Lib.accHi i)]).toArray
 let h4 := put h3 3 (Lib.firstTab.map fun z => Value.int .u8 z).toArray
 let h5 := put h4 1 #[.slice (some ⟨N, 0, none⟩) Lib.caseA.size Lib.caseA.size]
 { w0 with heap := h5 }
noncomputable abbrev N0 : Nat := (World.settled Tryd.prog default).heap.size
theorem pieceA (os : Os) (args : Array Value) : LaidIn Tryd.prog ((laidWorld os).forCall (fun _ _ => 0) ⟨#[], args, []⟩).memory [("math/bits.deBruijn32tab", Rows.laid_math_bits_deBruijn32tab), ("math/bits.deBruijn64tab", Rows.laid_math_bits_deBruijn64tab), ("internal/strconv.uint64pow10", Rows.laid_internal_strconv_uint64pow10), ("unicode/utf8.acceptRanges", Rows.laid_unicode_utf8_acceptRanges)] [5, 6, 0, 4] :=
 LaidIn.of_run _ 8 (by kernel_rfl) (by kernel_rfl) (by kernel_rfl) (by kernel_rfl)
theorem pieceB (os : Os) (args : Array Value) : LaidIn Tryd.prog ((laidWorld os).forCall (fun _ _ => 0) ⟨#[], args, []⟩).memory [("unicode/utf8.first", Lib.firstData)] [3] :=
 LaidIn.of_run _ 8 (by kernel_rfl) (by kernel_rfl) (by kernel_rfl) (by kernel_rfl)
theorem xCase : CaseExtra Tryd.prog Tryd.lays158_ren := ⟨by kernel_rfl, by kernel_rfl, by kernel_rfl, by kernel_rfl, by kernel_rfl, by kernel_rfl⟩
theorem heapV (os : Os) (args : Array Value) : ((laidWorld os).forCall (fun _ _ => 0) ⟨#[], args, []⟩).memory.heap[1]? = some (.cells #[.slice (some ⟨N0, 0, none⟩) Lib.caseA.size Lib.caseA.size] 128 (0, 0)) := by kernel_rfl
theorem heapR (os : Os) (args : Array Value) : ((laidWorld os).forCall (fun _ _ => 0) ⟨#[], args, []⟩).memory.heap[N0]? = some (.cells Lib.caseCells5 147 (0, 0)) := by kernel_rfl
theorem case_in {w : World} {R : Nat} (hgR : (1 : Nat) ≠ R) (hvar : w.heap[1]? = some (.cells #[.slice (some ⟨R, 0, none⟩) Lib.caseA.size Lib.caseA.size] 128 (0, 0))) (hblk : w.heap[R]? = some (.cells Lib.caseCells5 147 (0, 0))) : LaidIn Tryd.prog w [("unicode.CaseRanges", caseData)] [1, R] := by
 have hT := caseTab_of_block hblk
 have hread := case_slice_reads (ρ := Tryd.lays158_ren) { Tryd.lays158 with } Tryd.underlying145 xCase hT caseA_wf (by rw [caseA_size]; unfold maxLen; omega) 0
 rw [case_rows_data] at hread
 have hv : w.var? Tryd.prog "unicode.CaseRanges" = some #[.slice (some ⟨R, 0, none⟩) Lib.caseA.size Lib.caseA.size] := by simp only [World.var?, xCase.n13, Option.bind_some]; exact (by rw [show Tryd.lays158_ren.g 13 = 1 from rfl, hvar])
 refine LaidIn.one (fuel := 4) (p := MemPlace.row ⟨R, 0, none⟩ (Lib.caseA.size * 5)) _ xCase.n13 xCase.y13 hv hread ?_ ?_ ?_
 ·refine List.nodup_append.2 ⟨row_nodup _ _, row_nodup _ _, ?_⟩
  intro a ha b hb e
  obtain ⟨i, _, rfl⟩ := MemPlace.mem_row.1 ha
  obtain ⟨j, _, rfl⟩ := MemPlace.mem_row.1 hb
  simp at e
  exact hgR e.1
 ·intro b off hp
  rcases List.mem_append.1 hp with hp | hp
  ·obtain ⟨i, hi, e⟩ := MemPlace.mem_row.1 hp
   cases e
   refine ⟨⟨_, _, hvar⟩, fun u v hc => ?_⟩
   obtain rfl : i = 0 := by simp at hi; omega
   have hc' := (Lib.cell_of_heap hvar 0).symm.trans hc
   simp at hc'
  ·obtain ⟨i, hi, e⟩ := MemPlace.mem_row.1 hp
   cases e
   refine ⟨⟨_, _, hblk⟩, fun u v hc => ?_⟩
   have hlt : i / 5 < Lib.caseA.size := by rw [Nat.div_lt_iff_lt_mul (by decide)]; exact hi
   have h5 := hT (i / 5) hlt
   have c0 := h5.1
   have c1 := h5.2.1
   have c2 := h5.2.2.1
   have c3 := h5.2.2.2.1
   have c4 := h5.2.2.2.2
   clear h5 hT
   have hi5 : 0 + i = 0 + i / 5 * 5 + i % 5 := by omega
   simp only at hc
   rw [hi5] at hc
   have hm : i % 5 < 5 := Nat.mod_lt _ (by omega)
   match hk : i % 5, hm with
   | 0, _ => rw [hk, Nat.add_zero, c0] at hc; cases hc
   | 1, _ => rw [hk, c1] at hc; cases hc
   | 2, _ => rw [hk, c2] at hc; cases hc
   | 3, _ => rw [hk, c3] at hc; cases hc
   | 4, _ => rw [hk, c4] at hc; cases hc
 ·intro x hx
  rcases List.mem_append.1 hx with hx | hx
  ·obtain ⟨i, _, rfl⟩ := MemPlace.mem_row.1 hx
   exact List.mem_cons_self
  ·obtain ⟨i, _, rfl⟩ := MemPlace.mem_row.1 hx
   exact List.mem_cons_of_mem _ (List.mem_cons_self)
theorem pieceC (os : Os) (args : Array Value) : LaidIn Tryd.prog ((laidWorld os).forCall (fun _ _ => 0) ⟨#[], args, []⟩).memory [("unicode.CaseRanges", caseData)] [1, N0] :=
 case_in (of_decide_eq_true (by kernel_rfl)) (heapV os args) (heapR os args)
theorem laid_met (os : Os) (args : Array Value) : laidMet Tryd.prog laidL ((laidWorld os).forCall (fun _ _ => 0) ⟨#[], args, []⟩).memory := by
 have hB : LaidIn Tryd.prog ((laidWorld os).forCall (fun _ _ => 0) ⟨#[], args, []⟩).memory [("unicode/utf8.first", Rows.laid_unicode_utf8_first)] [3] := by
  unfold Rows.laid_unicode_utf8_first; rw [Pinned.utf8First_eq]; exact pieceB os args
 have hC : LaidIn Tryd.prog ((laidWorld os).forCall (fun _ _ => 0) ⟨#[], args, []⟩).memory [("unicode.CaseRanges", Rows.laid_unicode_CaseRanges)] [1, N0] := by
  unfold Rows.laid_unicode_CaseRanges; rw [Pinned.caseRanges_eq]; exact pieceC os args
 exact (((pieceA os args).append hC (by kernel_rfl)).append hB (by kernel_rfl)).met
theorem cellsPow : Tryd.prog.cellsOf 117 = 20 := by kernel_rfl
theorem cellsU64 : Tryd.prog.cellsOf 100 = 1 := by kernel_rfl
theorem typePow : (Tryd.prog.globals[0]?).map (·.type) = some 117 := by kernel_rfl
theorem powData : Rows.laid_internal_strconv_uint64pow10 (H := Unit) = Lib.tabData .u64 Lib.pow10Tab := by kernel_rfl
theorem pow_of {W : World} (h : laidMet Tryd.prog laidL W) : Lib.TabIs Tryd.prog W "internal/strconv.uint64pow10" .u64 Lib.pow10Tab := by
 have h2 := laidMet.tail (laidMet.tail h)
 rw [powData] at h2
 exact Lib.tabIs_of_head gPow typePow Tryd.underlying117 Tryd.underlying100 cellsU64 cellsPow h2
end Go.Proofs.YtpcblbbddccgpaaDoor
