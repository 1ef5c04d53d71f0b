/- Arguments that are rows; what a row's conditions say of the variables. A world that holds the listed tables: the witness of law 17's rows; and what the list tells of the powers of ten. All pairs of rows. -/
import Derived.Test.YtpcblbbddccgpaaGreatDoorM41
import Derived.Shelf.Vars
import Derived.Stop.LaidErr
import Derived.Lib.LaidTab
import Derived.Lib.ItoaNum
import Derived.Test.YtpcblbbddccgpaaGreatDoorM25
import Derived.Test.YtpcblbbddccgpaaGreatDoorRows
import Derived.Lib.LaidIn
import Derived.Lib.LaidCaseMet
import Derived.PinnedBridge
import Derived.Deep.DeepWitnessRowRef
import Derived.Test.YtpcblbbddccgpaaGreatDoorM39
import Derived.Test.YtpcblbbddccgpaaGreatDoorM23
import Derived.Test.YtpcblbbddccgpaaGreatDoorM27
set_option linter.unusedSimpArgs false
set_option linter.unusedVariables false
set_option linter.defProp false
set_option maxRecDepth 100000
set_option maxHeartbeats 32000000
namespace Go.Proofs.YtpcblbbddccgpaaGreatDoor
open Go.RowKit
theorem valsO_sh : ∀ ls : List (List PV), (∀ c ∈ ls, HasShL [.int .i64, .int .i64, .str] c) → ∃ r : List Va, enV r = ls ∧ ∀ v ∈ r, i64R v.2.1
 | [], _ => ⟨[], rfl, by simp⟩
 | c :: ls, h => by
   obtain ⟨r, rfl, hr⟩ := valsO_sh ls fun c hc => h c (by simp [hc])
   have h0 := h c (by simp)
   simp only [HasShL, HasSh] at h0
   obtain ⟨_, _, rfl, ⟨k, rfl, _⟩, _, _, rfl, ⟨n, rfl, hn⟩, _, _, rfl, ⟨s, rfl, _⟩, rfl⟩ := h0
   refine ⟨(k, n, s) :: r, rfl, fun v hv => ?_⟩
   rcases List.mem_cons.1 hv with rfl | hv
   ·exact wfI hn
   ·exact hr v hv
theorem rowsO_sh : ∀ ls : List (List PV), (∀ c ∈ ls, HasShL [.sl 32 [.int .i64, .int .i64, .str]] c) → ∃ rows : List (List Va), enVV rows = ls ∧ ∀ r ∈ rows, r.length ≤ 4398046511104 ∧ ∀ v ∈ r, i64R v.2.1
 | [], _ => ⟨[], rfl, by simp⟩
 | c :: ls, h => by
   obtain ⟨rows, rfl, hr⟩ := rowsO_sh ls fun c hc => h c (by simp [hc])
   have h0 := h c (by simp)
   simp only [HasShL] at h0
   obtain ⟨x, _, rfl, hx, rfl⟩ := h0
   simp only [HasSh] at hx
   obtain ⟨m, rfl, hl, hm⟩ := hx
   obtain ⟨r, rfl, hv⟩ := valsO_sh m hm
   rw [enV_len] at hl
   refine ⟨r :: rows, rfl, fun q hq => ?_⟩
   rcases List.mem_cons.1 hq with rfl | hq
   ·exact ⟨by omega, hv⟩
   ·exact hr q hq
abbrev rowsSh : Sh := .sl 24 [.sl 32 [.int .i64, .int .i64, .str]]
theorem rows_arg {x : PV} (h : HasSh rowsSh x) : ∃ rows : List (List Va), x = .sl 1 (enVV rows) ∧ rows.length * 24 ≤ 140737488351232 ∧ ∀ r ∈ rows, r.length ≤ 4398046511104 ∧ ∀ v ∈ r, i64R v.2.1 := by
 rw [rowsSh, HasSh] at h
 obtain ⟨ls, rfl, hl, hc⟩ := h
 obtain ⟨rows, rfl, hr⟩ := rowsO_sh ls hc
 rw [enVV_len] at hl
 exact ⟨rows, rfl, hl, hr⟩
theorem gPow : Tryz.prog.globalNamed "internal/strconv.uint64pow10" = some 0 := by kernel_rfl
theorem globW_of {W : World} (hsh : W.ShapedOpen Tryz.prog) (ht : Lib.TabIs Tryz.prog W "internal/strconv.uint64pow10" .u64 Lib.pow10Tab) : GlobW W := by
 intro x hx
 rcases List.mem_append.1 hx with hx | hx
 ·rcases List.mem_append.1 hx with hx | hx
  ·cases hx
  ·simp only [List.mem_singleton] at hx
   subst hx
   obtain ⟨zero, t, h0⟩ : ∃ zero t, ((begin Tryz.prog (fun _ _ => 0) default).world.heap[0]?).bind Obj.row? = some (zero, t) := ⟨(List.replicate 20 (Value.int .u64 0)).toArray, 119, by kernel_rfl⟩
   obtain ⟨cs, hh, _⟩ := hsh.1 _ zero t (of_decide_eq_true (by kernel_rfl)) h0
   refine ⟨cs, t, hh, ?_⟩
   unfold Lib.TabIs World.var? at ht
   rw [gPow] at ht
   simp only [Option.bind_some, hh, Option.some.injEq] at ht
   exact ht
 ·simp only [List.mem_singleton] at hx
  subst hx
  obtain ⟨zero, t, h0, hz, hb, hc, hu⟩ : ∃ zero t, ((begin Tryz.prog (fun _ _ => 0) default).world.heap[2]?).bind Obj.row? = some (zero, t) ∧ zero.size = 1 ∧ Tryz.prog.buildable t = true ∧ Tryz.prog.cellTypes Tryz.prog.depth t = some [t] ∧ Tryz.prog.underlying t = some (.int .i64) := ⟨#[.int .i64 0], 3, by kernel_rfl, rfl, by kernel_rfl, by kernel_rfl, by kernel_rfl⟩
  obtain ⟨cs, hh, hs, _⟩ := hsh.1 _ zero t (of_decide_eq_true (by kernel_rfl)) h0
  obtain ⟨m, hm⟩ := cell_of_shapedOpen_int hsh (of_decide_eq_true (by kernel_rfl)) h0 hz hb hc hu
  refine ⟨cs, t, hh, m, ?_⟩
  rw [cell_of_row _ _ _ _ _ _ hh] at hm
  apply Array.ext_getElem?
  intro i
  rcases i with _ | i
  ·rw [hm]; rfl
  ·rw [Array.getElem?_eq_none (by omega)]; rfl
end Go.Proofs.YtpcblbbddccgpaaGreatDoor
namespace Go.Proofs.YtpcblbbddccgpaaGreatDoor
open Go.RowKit Go.Lib Go.Shelf
abbrev laidL : List (String × DataW Unit) := [("math/bits.deBruijn32tab", Rows.laid_math_bits_deBruijn32tab), ("math/bits.deBruijn64tab", Rows.laid_math_bits_deBruijn64tab), ("internal/strconv.uint64pow10", Rows.laid_internal_strconv_uint64pow10), ("unicode/utf8.acceptRanges", Rows.laid_unicode_utf8_acceptRanges), ("unicode.CaseRanges", Rows.laid_unicode_CaseRanges), ("unicode/utf8.first", Rows.laid_unicode_utf8_first)]
def litsOf : DataW Unit → List Value
 | .agg l => l.map fun | .lit x => x.value | _ => .bool false
 | _ => []
noncomputable def laidWorld (os : Os) : World :=
 let N := (World.settled Tryz.prog os).heap.size
 let w0 := World.holding Tryz.prog os ⟨#[.cells Lib.caseCells5 149], #[], []⟩
 let put (h : Array Obj) (g : Nat) (cs : Array Value) : Array Obj := h.modify g fun
  | .cells _ t frozen => .cells cs t frozen
  | o => o
 let h0 := put w0.heap 5 (litsOf Rows.laid_math_bits_deBruijn32tab).toArray
 let h1 := put h0 6 (litsOf Rows.laid_math_bits_deBruijn64tab).toArray
 let h2 := put h1 0 (Lib.pow10Tab.map fun z => Value.int .u64 z).toArray
 let h3 := put h2 4 ((List.range 16).flatMap fun i => [Value.int .u8 (Lib.accLo i), Value.int .u8 (Lib.accHi i)]).toArray
 let h4 := put h3 3 (Lib.firstTab.map fun z => Value.int .u8 z).toArray
 let h5 := put h4 1 #[.slice (some ⟨N, 0, none⟩) Lib.caseA.size Lib.caseA.size]
 { w0 with heap := h5 }
noncomputable abbrev N0 : Nat := (World.settled Tryz.prog default).heap.size
theorem pieceA (os : Os) (args : Array Value) : LaidIn Tryz.prog ((laidWorld os).forCall (fun _ _ => 0) ⟨#[], args, []⟩).memory [("math/bits.deBruijn32tab", Rows.laid_math_bits_deBruijn32tab), ("math/bits.deBruijn64tab", Rows.laid_math_bits_deBruijn64tab), ("internal/strconv.uint64pow10", Rows.laid_internal_strconv_uint64pow10), ("unicode/utf8.acceptRanges", Rows.laid_unicode_utf8_acceptRanges)] [5, 6, 0, 4] :=
 LaidIn.of_run _ 8 (by kernel_rfl) (by kernel_rfl) (by kernel_rfl) (by kernel_rfl)
theorem pieceB (os : Os) (args : Array Value) : LaidIn Tryz.prog ((laidWorld os).forCall (fun _ _ => 0) ⟨#[], args, []⟩).memory [("unicode/utf8.first", Lib.firstData)] [3] :=
 LaidIn.of_run _ 8 (by kernel_rfl) (by kernel_rfl) (by kernel_rfl) (by kernel_rfl)
theorem xCase : CaseExtra Tryz.prog Tryz.lays158_ren := ⟨by kernel_rfl, by kernel_rfl, by kernel_rfl, by kernel_rfl, by kernel_rfl, by kernel_rfl⟩
theorem heapV (os : Os) (args : Array Value) : ((laidWorld os).forCall (fun _ _ => 0) ⟨#[], args, []⟩).memory.heap[1]? = some (.cells #[.slice (some ⟨N0, 0, none⟩) Lib.caseA.size Lib.caseA.size] 130 (0, 0)) := by kernel_rfl
theorem heapR (os : Os) (args : Array Value) : ((laidWorld os).forCall (fun _ _ => 0) ⟨#[], args, []⟩).memory.heap[N0]? = some (.cells Lib.caseCells5 149 (0, 0)) := by kernel_rfl
theorem case_in {w : World} {R : Nat} (hgR : (1 : Nat) ≠ R) (hvar : w.heap[1]? = some (.cells #[.slice (some ⟨R, 0, none⟩) Lib.caseA.size Lib.caseA.size] 130 (0, 0))) (hblk : w.heap[R]? = some (.cells Lib.caseCells5 149 (0, 0))) : LaidIn Tryz.prog w [("unicode.CaseRanges", caseData)] [1, R] := by
 have hT := caseTab_of_block hblk
 have hread := case_slice_reads (ρ := Tryz.lays158_ren) { Tryz.lays158 with } Tryz.underlying147 xCase hT caseA_wf (by rw [caseA_size]; unfold maxLen; omega) 0
 rw [case_rows_data] at hread
 have hv : w.var? Tryz.prog "unicode.CaseRanges" = some #[.slice (some ⟨R, 0, none⟩) Lib.caseA.size Lib.caseA.size] := by simp only [World.var?, xCase.n13, Option.bind_some]; exact (by rw [show Tryz.lays158_ren.g 13 = 1 from rfl, hvar])
 refine LaidIn.one (fuel := 4) (p := MemPlace.row ⟨R, 0, none⟩ (Lib.caseA.size * 5)) _ xCase.n13 xCase.y13 hv hread ?_ ?_ ?_
 ·refine List.nodup_append.2 ⟨row_nodup _ _, row_nodup _ _, ?_⟩
  intro a ha b hb e
  obtain ⟨i, _, rfl⟩ := MemPlace.mem_row.1 ha
  obtain ⟨j, _, rfl⟩ := MemPlace.mem_row.1 hb
  simp at e
  exact hgR e.1
 ·intro b off hp
  rcases List.mem_append.1 hp with hp | hp
  ·obtain ⟨i, hi, e⟩ := MemPlace.mem_row.1 hp
   cases e
   refine ⟨⟨_, _, hvar⟩, fun u v hc => ?_⟩
   obtain rfl : i = 0 := by simp at hi; omega
   have hc' := (Lib.cell_of_heap hvar 0).symm.trans hc
   simp at hc'
  ·obtain ⟨i, hi, e⟩ := MemPlace.mem_row.1 hp
   cases e
   refine ⟨⟨_, _, hblk⟩, fun u v hc => ?_⟩
   have hlt : i / 5 < Lib.caseA.size := by rw [Nat.div_lt_iff_lt_mul (by decide)]; exact hi
   have h5 := hT (i / 5) hlt
   have c0 := h5.1
   have c1 := h5.2.1
   have c2 := h5.2.2.1
   have c3 := h5.2.2.2.1
   have c4 := h5.2.2.2.2
   clear h5 hT
   have hi5 : 0 + i = 0 + i / 5 * 5 + i % 5 := by omega
   simp only at hc
   rw [hi5] at hc
   have hm : i % 5 < 5 := Nat.mod_lt _ (by omega)
   match hk : i % 5, hm with
   | 0, _ => rw [hk, Nat.add_zero, c0] at hc; cases hc
   | 1, _ => rw [hk, c1] at hc; cases hc
   | 2, _ => rw [hk, c2] at hc; cases hc
   | 3, _ => rw [hk, c3] at hc; cases hc
   | 4, _ => rw [hk, c4] at hc; cases hc
 ·intro x hx
  rcases List.mem_append.1 hx with hx | hx
  ·obtain ⟨i, _, rfl⟩ := MemPlace.mem_row.1 hx
   exact List.mem_cons_self
  ·obtain ⟨i, _, rfl⟩ := MemPlace.mem_row.1 hx
   exact List.mem_cons_of_mem _ (List.mem_cons_self)
theorem pieceC (os : Os) (args : Array Value) : LaidIn Tryz.prog ((laidWorld os).forCall (fun _ _ => 0) ⟨#[], args, []⟩).memory [("unicode.CaseRanges", caseData)] [1, N0] :=
 case_in (of_decide_eq_true (by kernel_rfl)) (heapV os args) (heapR os args)
theorem laid_met (os : Os) (args : Array Value) : laidMet Tryz.prog laidL ((laidWorld os).forCall (fun _ _ => 0) ⟨#[], args, []⟩).memory := by
 have hB : LaidIn Tryz.prog ((laidWorld os).forCall (fun _ _ => 0) ⟨#[], args, []⟩).memory [("unicode/utf8.first", Rows.laid_unicode_utf8_first)] [3] := by
  unfold Rows.laid_unicode_utf8_first; rw [Pinned.utf8First_eq]; exact pieceB os args
 have hC : LaidIn Tryz.prog ((laidWorld os).forCall (fun _ _ => 0) ⟨#[], args, []⟩).memory [("unicode.CaseRanges", Rows.laid_unicode_CaseRanges)] [1, N0] := by
  unfold Rows.laid_unicode_CaseRanges; rw [Pinned.caseRanges_eq]; exact pieceC os args
 exact (((pieceA os args).append hC (by kernel_rfl)).append hB (by kernel_rfl)).met
theorem cellsPow : Tryz.prog.cellsOf 119 = 20 := by kernel_rfl
theorem cellsU64 : Tryz.prog.cellsOf 82 = 1 := by kernel_rfl
theorem typePow : (Tryz.prog.globals[0]?).map (·.type) = some 119 := by kernel_rfl
theorem powData : Rows.laid_internal_strconv_uint64pow10 (H := Unit) = Lib.tabData .u64 Lib.pow10Tab := by kernel_rfl
theorem pow_of {W : World} (h : laidMet Tryz.prog laidL W) : Lib.TabIs Tryz.prog W "internal/strconv.uint64pow10" .u64 Lib.pow10Tab := by
 have h2 := laidMet.tail (laidMet.tail h)
 rw [powData] at h2
 exact Lib.tabIs_of_head gPow typePow Tryz.underlying119 Tryz.underlying82 cellsU64 cellsPow h2
end Go.Proofs.YtpcblbbddccgpaaGreatDoor
namespace Go.Proofs.YtpcblbbddccgpaaGreatDoor
open Go.RowKit
def tPp := aa wX <| aa wbu <| aa T3 <| aa T22 T39
def enVN (l : List (List Va)) : List (List PV) := l.map fun r => [nilSl 3 (enV r)]
theorem enVN_app (l m : List (List Va)) : enVN (l ++ m) = enVN l ++ enVN m := by simp [enVN]
theorem enVN_len (l : List (List Va)) : (enVN l).length = l.length := by simp [enVN]
theorem pairs_step (a b : List (List Va)) (i : Nat) (h : i < a.length) : pairsS (a.take (i + 1)) b = pairsS (a.take i) b ++ b.map fun y => a[i] ++ y := by
 unfold pairsS
 rw [List.take_succ_eq_append_getElem h, List.flatMap_append]
 simp
theorem pairs_len (a b : List (List Va)) : (pairsS a b).length = a.length * b.length := by
 unfold pairsS
 induction a with
 | nil => simp
 | cons x l ih => simp only [List.flatMap_cons, List.length_append, List.length_map, ih, List.length_cons]; rw [Nat.succ_mul]; omega
theorem apairs (a b : List (List Va)) (ha : a.length ≤ 200) (hb : b.length ≤ 200) (hl : ∀ x ∈ a, ∀ y ∈ b, x.length + y.length ≤ 4398046511104) (σ : St) : ACalls Tryz.prog 9 [.p (.sl 1 (enVV a)), .p (.sl 1 (enVV b))] σ fun r s => s = σ ∧ r = .p (nilSl 1 (enVN (pairsS a b))) := by
 refine ACalls.pureF (R := fun r => r = .p (nilSl 1 (enVN (pairsS a b)))) ?_ rfl σ
 refine acalls_of cx_ok dr_ok Tryz.func9 (by kernel_rfl) rfl (nt := 36) (rs := [.tmp 4]) rfl rfl ?_
 repeat' first | ((with_reducible first | refine cs ?_ ?_ | refine ws ?_ ?_) <;> intro h <;> try simp only [h]) | simp only [↓wBA, tPp, convA, seval, enVV_len]
 refine awp_loopT (a.length) (fun i => [(5, .nown 0 1 (enVN (pairsS (a.take i) b))), (6, intV .i64 (i : Nat)), (7, .any), (8, .any), (9, .any), (10, .any), (11, .any), (12, .any), (13, .any), (14, .any), (15, .any), (16, .any), (17, .any), (18, .any), (19, .any), (20, .any), (21, .any), (22, .any), (23, .any), (24, .any), (25, .any), (26, .any), (27, .any), (28, .any), (29, .any), (30, .any), (31, .any), (32, .any), (33, .any), (34, .any), (35, .any), (36, .any)]) (fun i => [some (.nright 39 ((pairsS (a.take i) b).length * 1))]) ?_ ?_ ?_
 ·intro i; simp
 ·skip
  simp only [wR, Nat.reduceAdd, Nat.reduceLT, reduceIte]
  simp [wW, enVN, pairsS]
 ·intro i hi
  simp only [wR, Nat.reduceAdd, Nat.reduceLT, reduceIte]
  by_cases hlt : i < a.length
  ·have hdec := dT (i := i) (n := a.length) (by omega)
   have hi0 := nnI i
   have hw := wI i (by omega)
   have hg := enVV_get a i hlt
   have hmem : a[i] ∈ a := List.getElem_mem hlt
   have hst := pairs_step a b i hlt
   have hpl := pairs_len (a.take i) b
   have hpl2 : (pairsS (a.take i) b).length ≤ 40000 := by rw [hpl]; simp only [List.length_take]; exact Nat.le_trans (Nat.mul_le_mul (by omega) hb) (by decide : 200 * 200 ≤ 40000)
   clear hpl
   generalize pairsS (a.take i) b = P at *
   generalize a[i] = x at *
   obtain ⟨g, hgg⟩ : ∃ g : Nat → List (List Va), ∀ j, g j = P ++ (b.take j).map fun y => x ++ y := ⟨_, fun _ => rfl⟩
   have hg0 : g 0 = P := by rw [hgg]; simp
   repeat' first | ((with_reducible first | refine cs ?_ ?_ | refine ws ?_ ?_) <;> intro h <;> try simp only [h]) | simp only [↓wBA, tPp, convA, seval, enVV_len, hdec, hi0, hw, hg]
   refine awp_loopT (b.length) (fun j => [(5, .nown 0 1 (enVN (g j))), (7, intV .i64 (j : Nat)), (8, .any), (15, .any), (16, .any), (17, .any), (18, .any), (19, .any), (20, .any), (21, .any), (22, .any), (23, .any), (24, .any), (25, .any), (26, .any), (27, .any), (28, .any), (29, .any), (30, .any), (31, .any), (32, .any), (33, .any), (34, .any), (35, .any), (36, .any)]) (fun j => [some (.nright 39 ((g j).length * 1))]) ?_ ?_ ?_
   ·intro j; simp
   ·skip
    simp only [wR, Nat.reduceAdd, Nat.reduceLT, reduceIte]
    simp [wW, hg0]
   ·intro j hj
    simp only [wR, Nat.reduceAdd, Nat.reduceLT, reduceIte]
    by_cases hlj : j < b.length
    ·have hdec2 := dT (i := j) (n := b.length) (by omega)
     have hj0 := nnI j
     have hw2 := wI j (by omega)
     have hg2 := enVV_get b j hlj
     have hmb : b[j] ∈ b := List.getElem_mem hlj
     have hxy := hl x hmem _ hmb
     have hst2 : (b.take (j + 1)).map (fun y => x ++ y) = (b.take j).map (fun y => x ++ y) ++ [x ++ b[j]] := by rw [List.take_succ_eq_append_getElem hlj, List.map_append]; rfl
     have hol : (g j).length ≤ 40200 := by rw [hgg]; simp; omega
     have hst3 : g (j + 1) = g j ++ [x ++ b[j]] := by rw [hgg, hgg, hst2, List.append_assoc]
     clear hst2 hst hgg hg0
     generalize g j = out at *
     generalize b[j] = y at *
     have hlim1 := tL (n := (out.length + 1) * 24) (by omega)
     have hlim2 := lM (n := out.length + 1) (by omega)
     have hmx : ((0 : Nat) ≤ maxLen) = True := eq_true (Nat.zero_le _)
     rcases x with _ | ⟨⟨vk, vn, vt⟩, x'⟩
     ·rcases y with _ | ⟨⟨uk, un, ut⟩, y'⟩
      ·simp only [enV, List.map_nil] at hg hg2
       repeat' first | ((with_reducible first | refine cs ?_ ?_ | refine ws ?_ ?_) <;> intro h <;> try simp only [h]) | simp only [↓wBA, tPp, convA, seval, enVV_len, enVN_len, hdec2, hj0, hi0, hg, hg2, hw2, hmx, hlim1, hlim2, appendA, srcA, List.length_append]
       refine ⟨⟨j + 1, by omega⟩, by show b.length - (j + 1) < b.length - j; omega, ?_⟩
       simp only [hst3, enVN_app]
       simp [wW, enVN, enV, nilSl]
      ·simp only [enV, List.map_nil, List.map_cons, vaC] at hg hg2
       simp only [List.length_nil, List.length_cons] at hxy
       have hlim3 := tL (n := (y'.length + 1) * 32) (by omega)
       have hlim4 := lM (n := y'.length + 1) (by omega)
       repeat' first | ((with_reducible first | refine cs ?_ ?_ | refine ws ?_ ?_) <;> intro h <;> try simp only [h]) | simp only [↓wBA, tPp, convA, seval, enVV_len, enVN_len, hdec2, hj0, hi0, hg, hg2, hw2, hmx, hlim1, hlim2, hlim3, hlim4, appendA, srcA, List.length_append, List.length_map]
       refine ⟨⟨j + 1, by omega⟩, by show b.length - (j + 1) < b.length - j; omega, ?_⟩
       simp only [hst3, enVN_app]
       simp [wW, enVN, enV, nilSl, vaC]
     ·simp only [enV, List.map_nil, List.map_cons, vaC] at hg
      simp only [List.length_cons] at hxy
      have hlim3 := tL (n := (x'.length + 1) * 32) (by omega)
      have hlim4 := lM (n := x'.length + 1) (by omega)
      have hlim5 := tL (n := (x'.length + 1 + y.length) * 32) (by omega)
      have hlim6 := lM (n := x'.length + 1 + y.length) (by omega)
      repeat' first | ((with_reducible first | refine cs ?_ ?_ | refine ws ?_ ?_) <;> intro h <;> try simp only [h]) | simp only [↓wBA, tPp, convA, seval, enVV_len, enVN_len, enV_len, hdec2, hj0, hi0, hg, hg2, hw2, hmx, hlim1, hlim2, hlim3, hlim4, hlim5, hlim6, appendA, srcA, List.length_append, List.length_map]
      refine ⟨⟨j + 1, by omega⟩, by show b.length - (j + 1) < b.length - j; omega, ?_⟩
      simp only [hst3, enVN_app]
      simp [wW, enVN, enV, nilSl, vaC]
    ·have hdec2 := dF (i := j) (n := b.length) (by omega)
     have htk : b.take j = b := List.take_of_length_le (by omega)
     have hgj : g j = pairsS (a.take (i + 1)) b := by rw [hgg, htk, hst]
     simp only [hgj]
     repeat' first | ((with_reducible first | refine cs ?_ ?_ | refine ws ?_ ?_) <;> intro h <;> try simp only [h]) | simp only [↓wBA, tPp, convA, seval, enVV_len, hdec2, hw]
     refine ⟨⟨i + 1, by omega⟩, by show a.length - (i + 1) < a.length - i; omega, ?_⟩
     simp [wW]
  ·have hdec := dF (i := i) (n := a.length) (by omega)
   have ht : a.take i = a := List.take_of_length_le (by omega)
   simp only [ht]
   repeat' first | ((with_reducible first | refine cs ?_ ?_ | refine ws ?_ ?_) <;> intro h <;> try simp only [h]) | simp only [↓wBA, tPp, convA, seval, enVV_len, hdec]
   all_goals refine ret_is (a := _) ?_ rfl rfl
   all_goals simp only [↓wBA, tPp, convA, seval]
   all_goals simp_all [wS]
   all_goals exact .inl ⟨_, _, _, ⟨rfl, rfl, rfl⟩, rfl⟩
end Go.Proofs.YtpcblbbddccgpaaGreatDoor
