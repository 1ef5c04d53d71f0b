/- slices.Insert of rows of four cells, in place and into a new row, as the world sees it. slices.Insert of items, on the machine. Trees: the middle, splits. -/
import Derived.Test.YtockimhceppkbaaGreatM16
import Derived.Shelf.Spec.SlicesInsertGrow
import Derived.Laws.CopyRow
import Derived.Test.YtockimhceppkbaaGreatM37
set_option linter.unusedSimpArgs false
set_option linter.unusedVariables false
set_option linter.defProp false
set_option maxRecDepth 100000
set_option maxHeartbeats 32000000
namespace Go.Proofs.YtockimhceppkbaaGreat
open Go.RowKit
theorem run_copy_rowK {P : Program} (w : World) (dT sT ty elem : TypeId) (g o dLen dCap k : Nat) (a : Addr) (sLen sCap : Nat) (cur : Array Value) (t : TypeId) (cs : List Value)
 (hu : P.underlying dT = some (.slice elem)) (hs : (P.info? elem).map (·.size) = some k)
 (hg : w.heap[g]? = some (.cells cur t (0, 0))) (hn : cs.length = Nat.min sLen dLen * k)
 (hsrc : ∀ j v, cs[j]? = some v → w.cell? (a.add j) = some v) (hfit : o + cs.length ≤ cur.size) (h1 : ∀ v ∈ cs, v.oneCell' = true) :
 (Builtin.copy_ #[dT, sT] ty #[.slice (some ⟨g, o, none⟩) dLen dCap, .slice (some a) sLen sCap]).run P w =
  .ok (goInt (Nat.min sLen dLen)) (w.setRow g (cur.toList.take o ++ cs ++ cur.toList.drop (o + cs.length)).toArray) := by
 have hl := run_loadCells_list (P := P) w a cs hsrc
 have hst := run_storeCells_at P g o t cs 0 cur w hg (by simpa using hfit) h1
 cases hq : P.info? elem with
 | none => simp [hq] at hs
 | some i =>
   have hi : i.size = k := by simpa [hq] using hs
   simp [Builtin.copy_, run_underlying hu, Builtin.lenOf, Builtin.firstCells, sizeOf, typeInfo, hq, hi, ← hn, hl, hst]
theorem cell_at {w : World} {g : Nat} {cur : Array Value} {t : TypeId} {fr : Nat × Nat} (h : w.heap[g]? = some (.cells cur t fr)) (o : Nat) : w.cell? ⟨g, o, none⟩ = cur[o]? := by
 simp only [World.cell?, h]
 first | rfl | simp
theorem add_lit' (g o j : Nat) : (⟨g, o, none⟩ : Addr).add j = ⟨g, o + j, none⟩ := by unfold Addr.add; split <;> simp_all
theorem ins_shift (b n c i vb vo vc : Nat) (cur vcur : Array Value) (T VT : TypeId) (w : World) (hi : i < n) (hroom : n + 1 ≤ c) (hn63 : n + 1 ≤ 9223372036854775807) (hvb : vb ≠ b)
 (hb : w.heap[b]? = some (.cells cur T (0, 0))) (hv : w.heap[vb]? = some (.cells vcur VT (0, 0))) (hfit : c * 4 ≤ cur.size) (hvf : vo + 4 ≤ vcur.size)
 (h1c : ∀ v ∈ (cur.toList.drop (i * 4)).take ((n - i) * 4), v.oneCell' = true) (h1v : ∀ v ∈ (vcur.toList.drop vo).take 4, v.oneCell' = true) :
 Calls Tryz.prog 67 #[.slice (some ⟨b, 0, none⟩) n c, .int .i64 i, .slice (some ⟨vb, vo, none⟩) 1 vc] w fun e w' =>
  e = .returned (.slice (some ⟨b, 0, none⟩) (n + 1) c) ∧ w' = ((w.drew).setRow b (cur.toList.take ((i + 1) * 4) ++ (cur.toList.drop (i * 4)).take ((n - i) * 4) ++ cur.toList.drop ((i + 1) * 4 + (n - i) * 4)).toArray).setRow b
    (cur.toList.take (i * 4) ++ (vcur.toList.drop vo).take 4 ++ (cur.toList.drop (i * 4)).take ((n - i) * 4) ++ cur.toList.drop ((i + 1) * 4 + (n - i) * 4)).toArray := by
 have hu : Tryz.prog.underlying 90 = some (.slice 97) := by kernel_rfl
 have hs : (Tryz.prog.info? 97).map (·.size) = some 4 := by kernel_rfl
 have hsz : ∀ w, (Go.sizeOf 97).run Tryz.prog w = .ok 4 w := fun w => by
  cases hq : Tryz.prog.info? 97 with
  | none => rw [hq] at hs; simp at hs
  | some i => rw [hq] at hs; simp at hs; simp [sizeOf, typeInfo, hq, hs]
 have hz2 : ¬ ((i : Int) = (n : Int)) := by omega
 obtain ⟨mid, hmid⟩ : ∃ mid, mid = (cur.toList.drop (i * 4)).take ((n - i) * 4) := ⟨_, rfl⟩
 obtain ⟨vs, hvs⟩ : ∃ vs, vs = (vcur.toList.drop vo).take 4 := ⟨_, rfl⟩
 have hml : mid.length = (n - i) * 4 := by rw [hmid]; simp; omega
 have hvl : vs.length = 4 := by rw [hvs]; simp; omega
 have hov : ∀ lb cb, (callFunc 98 #[.slice (some ⟨vb, vo, none⟩) 1 vc, .slice (some ⟨b, (i + 1) * 4, none⟩) lb cb]).run Tryz.prog w = .ok (.value (.bool false)) w := fun lb cb => by
  rw [run_callFunc_extern Tryz.func98 (by kernel_rfl) (by kernel_rfl) (by kernel_rfl) (e := Extern.SlicesOverlaps.overlaps #[90, 90] #[4]) (by kernel_rfl),
   Lib.run_overlaps_apart w 90 4 97 hu 4 hsz ⟨vb, vo, none⟩ ⟨b, (i + 1) * 4, none⟩ 1 vc lb cb hvb VT T vcur.size cur.size (by simp [World.shape?, hv]) (by simp [World.shape?, hb]) (by omega) (by simp [World.frozen?, hv]) (by simp [World.frozen?, hv])]
  rfl
 rw [← hmid] at h1c
 rw [← hvs] at h1v
 rw [← hmid, ← hvs]
 obtain ⟨cur1, hcur1⟩ : ∃ cur1, cur1 = (cur.toList.take ((i + 1) * 4) ++ mid ++ cur.toList.drop ((i + 1) * 4 + (n - i) * 4)).toArray := ⟨_, rfl⟩
 rw [← hcur1]
 obtain ⟨cur2, hcur2⟩ : ∃ cur2, cur2 = (cur.toList.take (i * 4) ++ vs ++ mid ++ cur.toList.drop ((i + 1) * 4 + (n - i) * 4)).toArray := ⟨_, rfl⟩
 rw [← hcur2]
 have hc1s : cur1.size = cur.size := by rw [hcur1]; simp; omega
 have hcp1 : ∀ ty dc sc, (Builtin.copy_ #[90, 90] ty #[.slice (some ⟨b, (i + 1) * 4, none⟩) (n - i) dc, .slice (some ⟨b, i * 4, none⟩) (n + 1 - i) sc]).run Tryz.prog w.drew = .ok (goInt ((n - i : Nat) : Int)) (w.drew.setRow b cur1) := fun ty dc sc => by
  have hmin : Nat.min (n + 1 - i) (n - i) = n - i := by simp only [Nat.min_def]; split <;> omega
  have h := run_copy_rowK (P := Tryz.prog) w.drew 90 90 ty 97 b ((i + 1) * 4) (n - i) dc 4 ⟨b, i * 4, none⟩ (n + 1 - i) sc cur T mid hu hs hb (by rw [hml, hmin]) (fun j v hj => by
   rw [add_lit', cell_at (w := w.drew) hb]
   rw [hmid, List.getElem?_take] at hj
   split at hj
   ·rw [List.getElem?_drop] at hj; simpa using hj
   ·simp at hj) (by rw [hml]; omega) h1c
  rw [hmin, hml, ← hcur1] at h
  exact h
 obtain ⟨W1, hW1⟩ : ∃ W1, W1 = w.drew.setRow b cur1 := ⟨_, rfl⟩
 have hb1 : W1.heap[b]? = some (.cells cur1 T (0, 0)) := by rw [hW1]; exact setRow_heap w.drew _ _ _ _ _ hb
 have hv1 : W1.heap[vb]? = some (.cells vcur VT (0, 0)) := by rw [hW1, setRow_other _ _ _ _ hvb]; exact hv
 have hcp2 : ∀ ty dc, (Builtin.copy_ #[90, 90] ty #[.slice (some ⟨b, i * 4, none⟩) (n + 1 - i) dc, .slice (some ⟨vb, vo, none⟩) 1 vc]).run Tryz.prog W1 = .ok (goInt 1) (W1.setRow b cur2) := fun ty dc => by
  have hmin : Nat.min 1 (n + 1 - i) = 1 := by simp only [Nat.min_def]; split <;> omega
  have h := run_copy_rowK (P := Tryz.prog) W1 90 90 ty 97 b (i * 4) (n + 1 - i) dc 4 ⟨vb, vo, none⟩ 1 vc cur1 T vs hu hs hb1 (by rw [hvl, hmin]) (fun j v hj => by
   rw [add_lit', cell_at hv1]
   rw [hvs, List.getElem?_take] at hj
   split at hj
   ·rw [List.getElem?_drop] at hj; simpa using hj
   ·simp at hj) (by rw [hvl, hc1s]; omega) h1v
  rw [hmin, hvl] at h
  have e : (cur1.toList.take (i * 4) ++ vs ++ cur1.toList.drop (i * 4 + 4)).toArray = cur2 := by
   have h1 : (cur.toList.take ((i + 1) * 4)).length = (i + 1) * 4 := by simp; omega
   rw [hcur2, hcur1]
   simp only [List.append_assoc]
   congr 1
   rw [List.take_append_of_le_length (by rw [h1]; omega), List.take_take, Nat.min_eq_left (by omega), show i * 4 + 4 = (i + 1) * 4 by omega, ← List.append_assoc, List.append_assoc, List.drop_append_of_le_length (by rw [h1]; exact Nat.le_refl _), List.drop_eq_nil_of_le (by rw [h1]; exact Nat.le_refl _), List.nil_append]
  rw [e] at h
  exact h
 rw [← hW1] at hcp1
 have hin : i ≤ n := by omega
 have hw1 : IntKind.i64.wrap ((i : Int) + 1) = (i : Int) + 1 := by rw [IntKind.wrap_i64]; omega
 have hw2 : IntKind.i64.wrap ((n : Int) + 1) = (n : Int) + 1 := by rw [IntKind.wrap_i64]; omega
 have hbb1 : (0 : Int) ≤ (i : Int) + 1 := by omega
 have htn : ((i : Int) + 1).toNat = i + 1 := by omega
 have htn2 : ((n : Int) + 1).toNat = n + 1 := by omega
 have hb2 : ¬ (c = i + 1) := by omega
 have hb3 : (i : Int) ≤ (n : Int) + 1 := by omega
 have hb4 : ¬ (c = i) := by omega
 have hb5 : ¬ ((c : Int) < (n : Int) + 1) := by omega
 rw [← hW1]
 clear hmid hvs hcur1 hcur2 hW1
 have mixed : Tryz.prog.follows Departure.mixedOrders = true := by kernel_rfl
 go_enter Tryz.func67, Tryz.ntmps67
 go_wp2_with (simp only [hov])
 go_region_law_o (refine step_copy_runI rfl _ _ 90 90 rfl _ _ (by simp [Act.eval, Act.put]) (by simp [Act.eval, Act.put]) (hcp1 _ _ _) ?_)
 go_wp2_with (at_builtin; refine wpList_copy_runI _ rfl _ _ 90 90 rfl _ _ rfl rfl (hcp2 _ _) ?_)
 go_ret
 exact ⟨rfl, rfl⟩
theorem setRow_alloc (w : World) (row row' : Array Value) (E : TypeId) : (w.alloc (.cells row E)).setRow w.heap.size row' = w.alloc (.cells row' E) := by
 cases w with
 | mk heap tape drawn os output =>
   simp only [World.alloc, World.setRow]
   congr 1
   apply Array.ext
   ·simp
   ·intro k h1 h2
    simp only [Array.getElem_modify, Array.getElem_push]
    split <;> rename_i hk
    ·subst hk; simp
    ·split <;> rename_i hk2
     ·rfl
     ·simp at h1; omega
theorem ins_grow (b n c i vb vo vc : Nat) (cur vcur : Array Value) (T VT : TypeId) (w : World) (hi : i < n) (hnc : n ≤ c) (hroom : c < n + 1) (hbig : (n + 1) * 48 ≤ 140737488355328)
 (hb : w.heap[b]? = some (.cells cur T (0, 0))) (hv : w.heap[vb]? = some (.cells vcur VT (0, 0))) (hfit : c * 4 ≤ cur.size) (hvf : vo + 4 ≤ vcur.size)
 (h1c : ∀ v ∈ (cur.toList.drop (i * 4)).take ((n - i) * 4), v.oneCell' = true) (h1v : ∀ v ∈ (vcur.toList.drop vo).take 4, v.oneCell' = true) :
 Calls Tryz.prog 67 #[.slice (some ⟨b, 0, none⟩) n c, .int .i64 i, .slice (some ⟨vb, vo, none⟩) 1 vc] w fun e w' => ∃ G z, z.length = (G - (n + 1)) * 4 ∧ n + 1 ≤ G ∧
  e = .returned (.slice (some ⟨w.heap.size, 0, none⟩) (n + 1) G) ∧ w' = (w.drew.drew).alloc (.cells (cur.toList.take (i * 4) ++ (vcur.toList.drop vo).take 4 ++ (cur.toList.drop (i * 4)).take ((n - i) * 4) ++ z).toArray 97) := by
 have hu : Tryz.prog.underlying 90 = some (.slice 97) := by kernel_rfl
 have hun : Tryz.prog.underlying 3 = some (.int .i64) := by kernel_rfl
 obtain ⟨i0, hi0, hz0, hzs, hzb⟩ : ∃ i0, Tryz.prog.info? 97 = some i0 ∧ i0.zero = some (.agg #[.slice none 0 0, .int .i64 0, .int .i64 0, .int .i64 0]) ∧ i0.size = 4 ∧ i0.bytes = 48 := by
  have h1 : (Tryz.prog.info? 97).map (·.zero) = some (some (.agg #[.slice none 0 0, .int .i64 0, .int .i64 0, .int .i64 0])) := by kernel_rfl
  have h2 : (Tryz.prog.info? 97).map (·.size) = some 4 := by kernel_rfl
  have h3 : (Tryz.prog.info? 97).map (·.bytes) = some 48 := by kernel_rfl
  cases hq : Tryz.prog.info? 97 with
  | none => rw [hq] at h2; simp at h2
  | some i0 => rw [hq] at h1 h2 h3; exact ⟨i0, rfl, by simpa using h1, by simpa using h2, by simpa using h3⟩
 have hs : (Tryz.prog.info? 97).map (·.size) = some 4 := by rw [hi0]; simp [hzs]
 have hz2 : ¬ ((i : Int) = (n : Int)) := by omega
 have hz3 : (c : Int) < (n : Int) + 1 := by omega
 have hbw : b < w.heap.size := (Array.getElem?_eq_some_iff.1 hb).1
 have hvw : vb < w.heap.size := (Array.getElem?_eq_some_iff.1 hv).1
 obtain ⟨mid, hmid⟩ : ∃ mid, mid = (cur.toList.drop (i * 4)).take ((n - i) * 4) := ⟨_, rfl⟩
 obtain ⟨vs, hvs⟩ : ∃ vs, vs = (vcur.toList.drop vo).take 4 := ⟨_, rfl⟩
 obtain ⟨olds, holds⟩ : ∃ olds, olds = cur.toList.take (i * 4) := ⟨_, rfl⟩
 have hml : mid.length = (n - i) * 4 := by rw [hmid]; simp; omega
 have hvl : vs.length = 4 := by rw [hvs]; simp; omega
 have hol : olds.length = i * 4 := by rw [holds]; simp; omega
 rw [← hmid] at h1c
 rw [← hvs] at h1v
 rw [← hmid, ← hvs, ← holds]
 have hkk : (n : Int) + 1 - (i : Int) = ((n + 1 - i : Nat) : Int) := by omega
 have hik : i + (n + 1 - i) = n + 1 := by omega
 have hold : (Builtin.firstCells i0.size i (.slice (some ⟨b, 0, none⟩) i c)).run Tryz.prog w.drew = .ok olds.toArray w.drew := by
  rw [hzs]
  exact run_firstCells_some w.drew 4 i ⟨b, 0, none⟩ i c olds hol (fun j v hj => by
   rw [add_lit', cell_at (w := w.drew) hb]
   rw [holds, List.getElem?_take] at hj
   split at hj
   ·simpa using hj
   ·simp at hj)
 obtain ⟨Z, hZ⟩ : ∃ Z, Z = (Builtin.zeroCells (Value.agg #[.slice none 0 0, .int .i64 0, .int .i64 0, .int .i64 0]).cells (n + 1 - i) ++ Builtin.zeroCells (Value.agg #[.slice none 0 0, .int .i64 0, .int .i64 0, .int .i64 0]).cells (grownCap w (n + 1) c 97 - (n + 1))).toList := ⟨_, rfl⟩
 have hrz : ∀ ty, (Builtin.append_ #[90, 3] ty #[.slice (some ⟨b, 0, none⟩) i c, .int .i64 ((n : Int) + 1 - (i : Int))]).run Tryz.prog w =
  .ok (.slice (some ⟨w.heap.size, 0, none⟩) (n + 1) (grownCap w (n + 1) c 97)) (w.drew.alloc (.cells (olds ++ Z).toArray 97)) := fun ty => by
  have h := Lib.run_append_grow_zeros w 90 3 ty 97 i0 _ .i64 .i64 hu hun hi0 hz0 (some ⟨b, 0, none⟩) i c olds hold (n + 1 - i) (by omega) (by omega) (by omega) (by omega) (by rw [hzb]; omega) (by rw [hzb, hik]; exact growslice_fits hroom hbig)
  rw [hik] at h
  rw [hkk, h, hZ]
  congr 3
  apply Array.ext'
  simp
 have hGn : n + 1 ≤ grownCap w (n + 1) c 97 := grownCap_ge w _ _ _
 have hG63 : grownCap w (n + 1) c 97 ≤ 9223372036854775807 := by
  have := grownCap_le_maxLen w (n + 1) c 97 (by unfold maxLen; omega)
  unfold maxLen at this
  omega
 obtain ⟨G, hG⟩ : ∃ G, G = grownCap w (n + 1) c 97 := ⟨_, rfl⟩
 have hZl : Z.length = (G - i) * 4 := by
  rw [hZ, ← hG]
  simp [size_zeroCells, Value.cells]
  omega
 rw [← hG] at hrz hGn hG63
 obtain ⟨row1, hrow1⟩ : ∃ row1, row1 = (olds ++ vs ++ (olds ++ Z).drop (i * 4 + 4)).toArray := ⟨_, rfl⟩
 obtain ⟨row2, hrow2⟩ : ∃ row2, row2 = (olds ++ vs ++ mid ++ (olds ++ Z).drop ((n + 1) * 4)).toArray := ⟨_, rfl⟩
 have hN0 : ∀ (w : World) (row : Array Value), (w.alloc (.cells row 97)).heap[w.heap.size]? = some (.cells row 97 (0, 0)) := fun w row => by show (w.heap.push (.cells row 97 (0, 0)))[w.heap.size]? = _; simp
 have hOld : ∀ (w : World) (row : Array Value) (k : Nat), k < w.heap.size → (w.alloc (.cells row 97)).heap[k]? = w.heap[k]? := fun w row k hk => by show (w.heap.push (.cells row 97 (0, 0)))[k]? = _; simp [Array.getElem?_push, Nat.ne_of_lt hk]
 obtain ⟨W1, hW1⟩ : ∃ W1, W1 = w.drew.alloc (.cells (olds ++ Z).toArray 97) := ⟨_, rfl⟩
 have hcpA : ∀ (W : World), W.heap = W1.heap → ∀ ty dc, (Builtin.copy_ #[90, 90] ty #[.slice (some ⟨w.heap.size, i * 4, none⟩) (n + 1 - i) dc, .slice (some ⟨vb, vo, none⟩) 1 vc]).run Tryz.prog W = .ok (goInt 1) (W.setRow w.heap.size row1) := fun W hW ty dc => by
  have hg : W.heap[w.heap.size]? = some (.cells (olds ++ Z).toArray 97 (0, 0)) := by rw [hW, hW1]; exact hN0 w.drew _
  have hv1 : W.heap[vb]? = some (.cells vcur VT (0, 0)) := by rw [hW, hW1, hOld w.drew _ vb hvw]; exact hv
  have hmin : Nat.min 1 (n + 1 - i) = 1 := by simp only [Nat.min_def]; split <;> omega
  have h := run_copy_rowK (P := Tryz.prog) W 90 90 ty 97 w.heap.size (i * 4) (n + 1 - i) dc 4 ⟨vb, vo, none⟩ 1 vc _ _ vs hu hs hg (by rw [hvl, hmin]) (fun j v hj => by
   rw [add_lit', cell_at hv1]
   rw [hvs, List.getElem?_take] at hj
   split at hj
   ·rw [List.getElem?_drop] at hj; simpa using hj
   ·simp at hj) (by simp [hvl, hol, hZl]; omega) h1v
  rw [hmin, hvl] at h
  have e : ((olds ++ Z).toArray.toList.take (i * 4) ++ vs ++ (olds ++ Z).toArray.toList.drop (i * 4 + 4)).toArray = row1 := by
   rw [hrow1, ← hol]
   simp
  rw [e] at h
  exact h
 have hcpB : ∀ (W : World), W.heap = (W1.setRow w.heap.size row1).heap → ∀ ty dc sc, (Builtin.copy_ #[90, 90] ty #[.slice (some ⟨w.heap.size, (i + 1) * 4, none⟩) (n - i) dc, .slice (some ⟨b, i * 4, none⟩) (n - i) sc]).run Tryz.prog W = .ok (goInt ((n - i : Nat) : Int)) (W.setRow w.heap.size row2) := fun W hW ty dc sc => by
  have hg : W.heap[w.heap.size]? = some (.cells row1 97 (0, 0)) := by rw [hW, hW1]; exact setRow_heap _ _ _ _ _ _ (hN0 w.drew _)
  have hb1 : W.heap[b]? = some (.cells cur T (0, 0)) := by rw [hW, setRow_other _ _ _ _ (by omega), hW1, hOld w.drew _ b hbw]; exact hb
  have hmin : Nat.min (n - i) (n - i) = n - i := Nat.min_self _
  have h := run_copy_rowK (P := Tryz.prog) W 90 90 ty 97 w.heap.size ((i + 1) * 4) (n - i) dc 4 ⟨b, i * 4, none⟩ (n - i) sc _ _ mid hu hs hg (by rw [hml, hmin]) (fun j v hj => by
   rw [add_lit', cell_at hb1]
   rw [hmid, List.getElem?_take] at hj
   split at hj
   ·rw [List.getElem?_drop] at hj; simpa using hj
   ·simp at hj) (by rw [hrow1]; simp [hml, hvl, hol, hZl]; omega) h1c
  rw [hmin, hml] at h
  have e : (row1.toList.take ((i + 1) * 4) ++ mid ++ row1.toList.drop ((i + 1) * 4 + (n - i) * 4)).toArray = row2 := by
   have h1 : (olds ++ vs).length = (i + 1) * 4 := by simp [hol, hvl]; omega
   rw [hrow2, hrow1]
   simp only
   rw [List.take_append_of_le_length (by rw [h1]; exact Nat.le_refl _), ← h1, List.take_length, List.drop_append, List.drop_eq_nil_of_le (by omega), List.nil_append, List.drop_drop]
   congr 3
   omega
  rw [e] at h
  exact h
 have hin : i ≤ n := by omega
 have hbN : b ≠ w.heap.size := by omega
 have hw1 : IntKind.i64.wrap ((i : Int) + 1) = (i : Int) + 1 := by rw [IntKind.wrap_i64]; omega
 have hw2 : IntKind.i64.wrap ((n : Int) + 1) = (n : Int) + 1 := by rw [IntKind.wrap_i64]; omega
 have hw3 : IntKind.i64.wrap ((n : Int) + 1 - i) = (n : Int) + 1 - i := by rw [IntKind.wrap_i64]; omega
 have hbb1 : (0 : Int) ≤ (i : Int) + 1 := by omega
 have htn : ((i : Int) + 1).toNat = i + 1 := by omega
 have hGi : ¬ (G = i) := by omega
 have hGim : ¬ (G = i + 1) := by omega
 have hci : ¬ (c = i) := by omega
 have hb3 : (i : Int) ≤ (n : Int) := by omega
 have mixed : Tryz.prog.follows Departure.mixedOrders = true := by kernel_rfl
 have hcpC : ∀ ty dc sc, (Builtin.copy_ #[90, 90] ty #[.slice (some ⟨w.heap.size, (i + 1) * 4, none⟩) (n - i) dc, .slice (some ⟨b, i * 4, none⟩) (n - i) sc]).run Tryz.prog (W1.setRow w.heap.size row1).drew = .ok (goInt ((n - i : Nat) : Int)) ((W1.setRow w.heap.size row1).drew.setRow w.heap.size row2) := fun ty dc sc => hcpB (W1.setRow w.heap.size row1).drew rfl ty dc sc
 have hfin : ((W1.setRow w.heap.size row1).drew).setRow w.heap.size row2 = (w.drew.drew).alloc (.cells row2 97) := by
  rw [hW1]
  rw [show (w.drew.alloc (.cells (olds ++ Z).toArray 97)).setRow w.heap.size row1 = w.drew.alloc (.cells row1 97) from setRow_alloc w.drew _ _ _]
  exact setRow_alloc w.drew.drew _ _ _
 rw [← hW1] at hrz
 have hzz : ((olds ++ Z).drop ((n + 1) * 4)).length = (G - (n + 1)) * 4 := by simp [hol, hZl]; omega
 have hfin2 : ((W1.setRow w.heap.size row1).drew).setRow w.heap.size row2 = (w.drew.drew).alloc (.cells (olds ++ vs ++ mid ++ (olds ++ Z).drop ((n + 1) * 4)).toArray 97) := by rw [hfin, hrow2]
 clear hkk hik hold hZ hG hmid hvs holds hrow1 hW1 hrow2 hfin
 go_enter Tryz.func67, Tryz.ntmps67
 go_wp2_with (first
  | (at_builtin; refine Lib.wpList_append_run _ rfl _ _ _ _ rfl _ _ rfl rfl _ _ (hrz _) ?_)
  | (at_builtin; refine wpList_copy_runI _ rfl _ _ 90 90 rfl _ _ rfl rfl (hcpA _ rfl _ _) ?_))
 go_region_law_o (refine step_copy_runI rfl _ _ 90 90 rfl _ _ (by simp [Act.eval, Act.put]) (by simp [Act.eval, Act.put]) (hcpC _ _ _) ?_)
 go_wp2
 go_ret
 exact ⟨G, _, hzz, hGn, rfl, by first | exact hfin2 | (simp only [List.append_assoc]; rfl) | (refine hfin2.trans ?_; simp only [List.append_assoc]) | simpa [List.append_assoc] using hfin2⟩
end Go.Proofs.YtockimhceppkbaaGreat
namespace Go.Proofs.YtockimhceppkbaaGreat
open Go.RowKit
def pl67_11Yi : Plan := (.det 0 (.det 1 (.det 2 (.det 3 (.det 4 (.det 5 (.det 6 (.det 7 (.fin 8 .done)))))))))
def pl67_15Yi : Plan := (.det 0 (.det 1 (.det 2 (.det 3 (.det 4 (.det 5 (.det 6 (.det 7 (.fin 8 .done)))))))))
def tYi := aa wX <| aa wbu <| aa T3 <| aa T4 T90
def cxI : Ctx := { cx with muts := [90 * 100000 + 25] }
theorem cxI_ok : cxI.ok Tryz.prog := cx_ok
theorem drI_ok : DrawOk Tryz.prog (aDraw Tryz.prog cxI) := aDraw_ok cxI_ok (by kernel_rfl)
theorem kindI (t : TypeId) : cxI.kind t = cx.kind t := nr rfl
theorem tyI (t : TypeId) : cxI.ty t = cx.ty t := nr rfl
theorem mutsI : cxI.muts = [90 * 100000 + 25] := nr rfl
theorem lenI {T : TypeId} {x : AV} : lenA cxI T x = lenA cx T x := nr rfl
theorem sliceI {T : TypeId} {x : AV} {lo hi : Option AV} : sliceA cxI T x lo hi = sliceA cx T x lo hi := nr rfl
theorem slEnd (t n : Nat) (h : (0 < n) = True) : sliceA cx 90 (.ms t 4 0 n) (some (.p (.v (.int .i64 (n : Nat))))) none = some (.p (.sl 4 [])) := by
 unfold sliceA
 rw [ck_90]
 cases n with
 | zero => simp at h
 | succ n =>
   have e1 : boundA (some (.p (.v (.int .i64 ((n + 1 : Nat) : Int))))) 0 = some (Int.ofNat (n + 1)) := rfl
   have e2 : boundA none ((n + 1 : Nat) : Int) = some (Int.ofNat (n + 1)) := rfl
   simp only [elemsA, e1, e2]
   rw [if_neg (by rintro ⟨_, _, h1, _⟩; omega), if_pos (by refine ⟨trivial, ?_, trivial, ?_⟩ <;> simp <;> omega)]
theorem slFrom (t i n k : Nat) (h0 : 0 < k) (h : k < n) : sliceA cx 90 (.ms t 4 i n) (some (.p (.v (.int .i64 (k : Nat))))) none = some (.ms t 4 (i + k) (n - k)) := by
 unfold sliceA
 rw [ck_90]
 cases k with
 | zero => omega
 | succ k =>
   have e1 : boundA (some (.p (.v (.int .i64 ((k + 1 : Nat) : Int))))) 0 = some (Int.ofNat (k + 1)) := rfl
   have e2 : boundA none (n : Int) = some (Int.ofNat n) := rfl
   simp only [elemsA, e1, e2]
   rw [if_pos (by refine ⟨trivial, ?_, ?_, ?_⟩ <;> simp <;> omega)]
   rfl
theorem slTo (t i n k : Nat) (h : k ≤ n) : sliceA cx 90 (.ms t 4 i n) none (some (.p (.v (.int .i64 (k : Nat))))) = some (.ms t 4 i k) := by
 unfold sliceA
 rw [ck_90]
 have e2 : boundA (some (.p (.v (.int .i64 (k : Nat))))) (n : Int) = some (Int.ofNat k) := rfl
 change (match boundA (some (AV.p (PV.v (Value.int IntKind.i64 (k : Nat))))) (n : Int) with | some h => (if 4 = 4 ∧ (0 : Int) ≤ h ∧ h ≤ (n : Int) then some (AV.ms t 4 i h.toNat) else none) | none => none) = _
 rw [e2]
 dsimp only
 rw [if_pos (by refine ⟨rfl, ?_, ?_⟩ <;> simp <;> omega)]
 rfl
theorem slNil : sliceA cx 90 (.p (.v (.slice none 0 0))) (some (.p (.v (.int .i64 0)))) none = some (.p (.v (.slice none 0 0))) := by
 unfold sliceA
 rw [ck_90]
 rfl
theorem ainsEnd {σ : St} {t tv : Nat} {l : List Itm} {x : Itm} (hl : l.length ≤ 1000000) (hl0 : 0 < l.length) (ht : σ[t]? = some (some (.row 4 (l.map itC)))) (hv : σ[tv]? = some (some (.right 97 4))) :
 ACalls Tryz.prog 67 [.ms t 4 0 l.length, intV .i64 (l.length : Nat), .own tv 4 [itP x]] σ fun r s => r = .ms σ.length 4 0 (l.length + 1) ∧ s = σ.set t none ++ [some (.row 4 ((l ++ [x]).map itC))] := by
 have hs := slEnd t l.length (eq_true hl0)
 have yt := at_lt ht
 have yv := at_lt hv
 have hlm : (List.map itC l).length = l.length := by simp
 have htt : List.take l.length (List.map itC l) = List.map itC l := List.take_of_length_le (by simp)
 have ht1 := tL (n := (l.length + 1) * 48) (by omega)
 have ht2 := lM (n := l.length + 1) (by omega)
 have hii : (l.length ≤ l.length) = True := eq_true (Nat.le_refl _)
 refine acalls_of cxI_ok drI_ok Tryz.func67 (by kernel_rfl) rfl (nt := 92) (rs := [.tmp 6]) rfl rfl ?_
 repeat' first | ((with_reducible first | refine cs ?_ ?_ | refine ws ?_ ?_ | refine wd ?_ ?_ | refine wu ?_ ?_) <;> intro h <;> try simp only [h]) | simp only [↓wBA, tYi, convA, seval, pl67_11Yi, pl67_15Yi, wH, kindI, tyI, mutsI, lenI, sliceI, ht, yt, hv, yv, hlm, htt, ht1, ht2, hii, appendM, srcM, srcA, itP, hs] | (with_reducible refine dP pl67_11Yi 9 (some 46) (by decide) (by kernel_rfl) ?_) | (with_reducible refine dP pl67_15Yi 9 (some 69) (by decide) (by kernel_rfl) ?_)
 all_goals refine ret_st ?_ (by first | exact Nat.le_refl _ | (simp only [List.length_set, List.length_append]; omega) | omega)
 all_goals simp only [resA.eq_1, resL.eq_1, resL.eq_2, resV.eq_1, resV.eq_2, ↓wBA, tYi, convA, seval, wH, kindI, tyI]
 simp [itC, intV]
theorem ainsNil {σ : St} {tv : Nat} {x : Itm} (hv : σ[tv]? = some (some (.right 97 4))) :
 ACalls Tryz.prog 67 [.p (.v (.slice none 0 0)), intV .i64 0, .own tv 4 [itP x]] σ fun r s => r = .ms σ.length 4 0 1 ∧ s = σ ++ [some (.row 4 [itC x])] := by
 have yv := at_lt hv
 have ht2 := lM (n := 1) (by omega)
 refine acalls_of cxI_ok drI_ok Tryz.func67 (by kernel_rfl) rfl (nt := 92) (rs := [.tmp 6]) rfl rfl ?_
 repeat' first | ((with_reducible first | refine cs ?_ ?_ | refine ws ?_ ?_ | refine wd ?_ ?_ | refine wu ?_ ?_) <;> intro h <;> try simp only [h]) | simp only [↓wBA, tYi, convA, seval, pl67_11Yi, pl67_15Yi, wH, kindI, tyI, mutsI, lenI, sliceI, hv, yv, ht2, appendM, srcM, srcA, itP, slNil] | (with_reducible refine dP pl67_11Yi 9 (some 46) (by decide) (by kernel_rfl) ?_) | (with_reducible refine dP pl67_15Yi 9 (some 69) (by decide) (by kernel_rfl) ?_)
 all_goals refine ret_st ?_ (by first | exact Nat.le_refl _ | (simp only [List.length_set, List.length_append]; omega) | omega)
 all_goals simp only [resA.eq_1, resL.eq_1, resL.eq_2, resV.eq_1, resV.eq_2, ↓wBA, tYi, convA, seval, wH, kindI, tyI]
 simp [itC, intV]
theorem ainsMid {σ : St} {t tv i : Nat} {l : List Itm} {x : Itm} (hl : l.length ≤ 1000000) (hi : i < l.length) (ht : σ[t]? = some (some (.row 4 (l.map itC)))) (hv : σ[tv]? = some (some (.right 97 4))) :
 ACalls Tryz.prog 67 [.ms t 4 0 l.length, intV .i64 (i : Nat), .own tv 4 [itP x]] σ fun r s => r = .ms σ.length 4 0 (l.length + 1) ∧ s = σ.set t none ++ [some (.row 4 ((l.take i ++ x :: l.drop i).map itC))] := by
 refine ⟨en _ (by kernel_rfl), fun M vs hM hvs => ?_⟩
 obtain ⟨u1, us1, rfl, h1, u2, us2, rfl, h2, u3, us3, rfl, h3, rfl⟩ : ∃ u us', vs = u :: us' ∧ ARep M (.ms t 4 0 l.length) u ∧ ∃ u2 us2, us' = u2 :: us2 ∧ ARep M (intV .i64 (i : Nat)) u2 ∧ ∃ u3 us3, us2 = u3 :: us3 ∧ ARep M (.own tv 4 [itP x]) u3 ∧ us3 = [] := by simpa only [ARepL] using hvs
 have hsz : σ.put σ.length (.row 4 ((l.take i ++ x :: l.drop i).map itC)) = σ ++ [some (.row 4 ((l.take i ++ x :: l.drop i).map itC))] := put_new rfl
 have hput : ∀ (σ0 : St), σ0.length = σ.length → St.put σ0 σ.length (.row 4 ((l.take i ++ x :: l.drop i).map itC)) = σ0 ++ [some (.row 4 ((l.take i ++ x :: l.drop i).map itC))] := fun σ0 h => put_new h.symm
 obtain ⟨_, b, cur, T, hb, hh, hI, hr, hcs⟩ := hM.obj t _ ht
 simp only [ARep] at h1
 obtain ⟨b', c, hb', _, rfl, hn, hf⟩ := h1
 have : b' = b := by rw [hb] at hb'; simpa using hb'.symm
 subst this
 rw [← hcs] at hf
 have e2 : u2 = .int .i64 (i : Nat) := rep_int h2
 subst e2
 simp only [ARep] at h3
 obtain ⟨vb, vc, n0, rfl, hvc, _, hpr, hvn, _, himp⟩ := h3
 obtain ⟨hvl, vb', vcur, hvb', hvh, hvcs, hvI⟩ := hM.obj tv _ hv
 rw [hvl] at hvn
 simp only [Option.some.injEq] at hvn
 obtain ⟨hvmu, hvcap⟩ := himp (by rw [← hvn]; rfl)
 have : vb' = vb := by rw [hvmu] at hvb'; simpa using hvb'.symm
 subst this
 have hne : vb' ≠ b' := fun e => hI 0 (by rw [← e]; exact (hvI 0).2 (by omega))
 have hvr : RowRep M vcur 4 [itC x] := fun j cc hj => by
  cases j with
  | succ j => simp at hj
  | zero =>
    simp at hj; subst hj
    refine ⟨rfl, fun q a ha => ?_⟩
    rw [← itC_P, List.getElem?_map] at ha
    cases hq : (itP x)[q]? with
    | none => rw [hq] at ha; simp at ha
    | some y =>
      rw [hq] at ha; simp at ha; subst ha
      obtain ⟨_, hpc⟩ := hpr.get (i := 0) (c := itP x) rfl
      obtain ⟨u, g1, _, g2⟩ := hpc.get hq
      rw [cell_of_row _ _ _ _ _ _ hvh] at g1
      exact ⟨rfl, u, by simpa using g1, by simpa only [ARep] using g2⟩
 have hvc1 : 1 ≤ vc := by simpa using hvc
 have hvsz : 0 + 4 ≤ vcur.size := by rw [hvcs, hvcap]; omega
 have hlm : (l.map itC).length = l.length := by simp
 have hcf : c * 4 ≤ cur.size := by omega
 obtain ⟨a1, a2, a3, a4⟩ := row_part hr 0 i (by rw [hlm]; omega) (by omega) (by omega)
 obtain ⟨b1, b2, b3, b4⟩ := row_part hr i (l.length - i) (by rw [hlm]; omega) (by omega) (by omega)
 obtain ⟨c1, c2, c3, c4⟩ := row_part hvr 0 1 (by simp) (by omega) (by omega)
 simp only [Nat.zero_mul, List.drop_zero, Nat.one_mul] at a1 a2 a3 a4 c1 c2 c3 c4
 have hms : ((l.map itC).take i ++ [itC x].take 1 ++ ((l.map itC).drop i).take (l.length - i)) = (l.take i ++ x :: l.drop i).map itC := by
  rw [List.map_append, List.map_cons, List.map_take, List.map_drop, List.take_of_length_le (l := List.drop i (List.map itC l)) (by simp)]
  simp
 have hrow : ∀ z : List Value, RowRep M (cur.toList.take (i * 4) ++ (vcur.toList.drop 0).take 4 ++ (cur.toList.drop (i * 4)).take ((l.length - i) * 4) ++ z).toArray 4 ((l.take i ++ x :: l.drop i).map itC) := fun z => by
  rw [← hms]
  refine row_app (us := cur.toList.take (i * 4) ++ (vcur.toList.drop 0).take 4) (vs := (cur.toList.drop (i * 4)).take ((l.length - i) * 4)) ?_ ?_ b4 fun q u hq => ?_
  ·rw [List.length_append, List.drop_zero, a1, c1]; simp; omega
  ·refine row_app (us := cur.toList.take (i * 4)) (vs := (vcur.toList.drop 0).take 4) ?_ a4 (by rw [List.drop_zero]; exact c4) fun q u hq => ?_
   ·rw [a1]; simp; omega
   ·simpa using hq
  ·rw [List.getElem?_toArray, List.getElem?_append_left (List.getElem?_eq_some_iff.1 hq).1]
   exact hq
 have hone : ∀ v ∈ (vcur.toList.drop 0).take 4, v.oneCell' = true := by rw [List.drop_zero]; exact c3
 by_cases hroom : l.length + 1 ≤ c
 ·refine (ins_shift b' l.length c i vb' 0 vc cur vcur T 97 M.w hi hroom (by omega) hne hh hvh hcf hvsz b3 hone).mono ?_
  rintro e w' ⟨rfl, hw'⟩
  obtain ⟨cur2, hc2⟩ : ∃ cur2, cur2 = (cur.toList.take (i * 4) ++ (vcur.toList.drop 0).take 4 ++ (cur.toList.drop (i * 4)).take ((l.length - i) * 4) ++ cur.toList.drop ((i + 1) * 4 + (l.length - i) * 4)).toArray := ⟨_, rfl⟩
  have hrow2 := hrow (cur.toList.drop ((i + 1) * 4 + (l.length - i) * 4))
  rw [← hc2] at hrow2 hw'
  have hcs2 : cur2.size = cur.size := by rw [hc2]; simp only [List.size_toArray, List.length_append, a1, b1, List.drop_zero, c1, List.length_drop, Array.length_toList]; omega
  obtain ⟨cur1, hc1⟩ : ∃ cur1, w' = (M.w.drew.setRow b' cur1).setRow b' cur2 := ⟨_, hw'⟩
  obtain ⟨M', h5, h6, h6', hct, h7, h8⟩ := hM.rowAt (tk := σ.length) (w' := w') ht hb hI rfl (by rw [hc1]; exact setRow_heap _ _ _ _ _ _ (setRow_heap M.w.drew _ _ _ _ _ hh)) (fun k hk => by rw [hc1, setRow_other _ _ _ _ hk, setRow_other _ _ _ _ hk]; rfl) (by rw [hc1]; simp) (by rw [hc1]; rfl) (by rw [hc1]; rfl) (by rw [hc1]; rfl) hrow2
  rw [hput _ (by simp)] at h7 h8
  refine ⟨_, .ms σ.length 4 0 (l.length + 1), _, M', rfl, h5, h7, h8, ?_, by simp, rfl, rfl⟩
  simp only [ARep]
  refine ⟨b', c, h6, h6', by simp, hroom, ?_⟩
  rw [hct, hcs2]; omega
 ·refine (ins_grow b' l.length c i vb' 0 vc cur vcur T 97 M.w hi hn (by omega) (by omega) hh hvh hcf hvsz b3 hone).mono ?_
  rintro e w' ⟨G, z, hz, hG, rfl, rfl⟩
  obtain ⟨M', h5, h6, h6', hct, h7, h8⟩ := ((hM.drew.drew).forget t).row (t := σ.length) (by simp) _ 97 4 _ (((hrow z).later (Later.drew M)).later (Later.drew M.drew))
  rw [hput _ (by simp)] at h7 h8
  refine ⟨_, .ms σ.length 4 0 (l.length + 1), _, M', rfl, h5, ((Ext.drew M σ).trans (Ext.drew M.drew σ)).trans ((Ext.forget M.drew.drew σ t).trans h7), h8, ?_, by simp, rfl, rfl⟩
  simp only [ARep]
  refine ⟨_, G, h6, h6', rfl, hG, ?_⟩
  rw [hct]
  simp only [List.length_append, a1, b1, hz, List.drop_zero, c1]
  omega
end Go.Proofs.YtockimhceppkbaaGreat
namespace Go.Proofs.YtockimhceppkbaaGreat
open Go.RowKit
def tYe := aa wX <| aa wbu <| aa T3 <| aa T35 <| aa T48 <| aa T90 T97
theorem halfF_step (l : List Itm) (i : Nat) (x : Itm) (h : l[i]? = some x) (all : Nat) : halfF all (l.drop i) (szL (l.take i)) i = if 2 * szL (l.take i) < all then halfF all (l.drop (i + 1)) (szL (l.take (i + 1))) (i + 1) else i := by
 have hd : l.drop i = x :: l.drop (i + 1) := by
  rw [List.drop_eq_getElem_cons (List.getElem?_eq_some_iff.1 h).1]
  rw [(List.getElem?_eq_some_iff.1 h).2]
 rw [hd]
 rw [halfF, takeI l i x h, szL_app, szL_cons, szL_nil]
 simp only [Nat.add_zero]
theorem atMid0 (l : List Itm) (hl : l.length ≤ 1000000) (hok : ∀ x ∈ l, x.ok) : ACalls Tryz.prog 100 [.p (.sl 4 (encI l))] [] fun r _ => r = intV .i64 (midF l : Nat) := by
 have hszt : ∀ i, szL (l.take i) ≤ 150 * i := fun i => by
  have : ∀ m : List Itm, (∀ x ∈ m, x.ok) → szL m ≤ 150 * m.length := by
   intro m
   induction m with
   | nil => intro _; exact Nat.le_refl _
   | cons x m ih => intro h; have h1 := ih fun y hy => h y (by simp [hy]); have h2 := szI_le (h x (by simp)); rw [szL_cons]; simp only [List.length_cons]; omega
  have h1 := this (l.take i) fun x hx => hok x (List.mem_of_mem_take hx)
  have h2 : (l.take i).length ≤ i := by rw [List.length_take]; omega
  have := Nat.mul_le_mul_left 150 h2
  omega
 refine acalls_of cx_ok dr_ok Tryz.func100 (by kernel_rfl) rfl (nt := 38) (rs := [.tmp 2]) rfl rfl ?_
 repeat' first | ((with_reducible first | refine cs ?_ ?_ | refine ws ?_ ?_) <;> intro h <;> try simp only [h]) | simp only [↓wBA, tYe, convA, seval, encI_len]
 refine awp_loopS (X := { i : Nat // i ≤ l.length }) (fun i => l.length - i.1) (fun i => [(3, intV .i64 (szL (l.take i.1) : Nat)), (10, intV .i64 (i.1 : Nat))]) [7, 11, 12, 13, 14, 15, 16, 17, 18, 19, 20, 21] (fun i s => True) (⟨0, by omega⟩) ?_ ?_ ?_ ?_
 ·simp only [wHl, wHf, List.take_zero, szL_nil]
 ·trivial
 ·intro _ _ _; simp
 ·intro y J s hI
  simp only [wHl]
  obtain ⟨i, hi⟩ := y
  dsimp only at *
  have hi0 := nnI i
  by_cases hlt : i < l.length
  ·have hdec := dT (i := i) (n := l.length) hlt
   have hw := wI i (by omega)
   obtain ⟨x, hx⟩ : ∃ x, l[i]? = some x := ⟨l[i], by simp⟩
   have hg := encI_get l i x hx
   have hxo := (hok x (List.mem_of_getElem? hx)).1.1
   have hz := hszt i
   have hek := encB_len' x.e.k
   have hw2 : IntKind.i64.wrap ((x.e.k.length : Int) + 10) = ((x.e.k.length + 10 : Nat) : Int) := by rw [wrap_i64 (by omega) (by omega)]; simp
   have hw3 : IntKind.i64.wrap ((szL (l.take i) : Int) + ((x.e.k.length + 10 : Nat) : Int)) = ((szL (l.take (i + 1)) : Nat) : Int) := by
    rw [takeI l i x hx, szL_app, szL_cons, szL_nil, wrap_i64 (by omega) (by omega)]
    unfold szI; omega
   repeat' first | ((with_reducible first | refine cs ?_ ?_ | refine ws ?_ ?_) <;> intro h <;> try simp only [h]) | simp only [↓wBA, tYe, convA, seval, wH, wHl, encI_len, hdec, hi0, hg, itP, hw, hek, hw2, hw3]
   refine ⟨⟨i + 1, by omega⟩, by show l.length - (i + 1) < l.length - i; omega, by simp only [wHl, wHf]⟩
  ·obtain rfl : i = l.length := by omega
   have hdec := dF (i := l.length) (n := l.length) hlt
   have hall : szL (l.take l.length) = szL l := by rw [List.take_length]
   have hall2 := hszt l.length
   rw [hall] at hall2
   repeat' first | ((with_reducible first | refine cs ?_ ?_ | refine ws ?_ ?_) <;> intro h <;> try simp only [h]) | simp only [↓wBA, tYe, convA, seval, wH, wHl, encI_len, hdec, hall]
   refine awp_loopS (X := { i : Nat // i ≤ l.length ∧ halfF (szL l) (l.drop i) (szL (l.take i)) i = midF l }) (fun i => l.length - i.1) (fun i => [(4, intV .i64 (szL (l.take i.1) : Nat)), (5, intV .i64 (i.1 : Nat))]) [22, 23, 24, 25, 26, 27, 28, 29, 30, 31, 32, 33, 34, 35, 36, 37] (fun i q => List.length s ≤ List.length q) (⟨0, by omega, rfl⟩) ?_ ?_ ?_ ?_
   ·simp only [wHl, wHf, List.take_zero, szL_nil]
   ·exact Nat.le_refl _
   ·intro _ _ h; exact h
   ·intro y J2 s2 hI2
    simp only [wHl]
    obtain ⟨i, hi, hmid⟩ := y
    dsimp only at *
    have hi0 := nnI i
    have hz := hszt i
    have hzz : szL (l.take i) ≤ szL l := by
     have := szL_app (l.take i) (l.drop i)
     rw [List.take_append_drop] at this; omega
    have hm : IntKind.i64.wrap (2 * (szL (l.take i) : Int)) = ((2 * szL (l.take i) : Nat) : Int) := by rw [wrap_i64 (by omega) (by omega)]; simp
    by_cases hc : 2 * szL (l.take i) < szL l
    ·have hlt2 : i < l.length := by
      rcases Nat.lt_or_ge i l.length with h | h
      ·exact h
      ·rw [List.take_of_length_le h] at hc; omega
     have hdec2 := dT (i := 2 * szL (l.take i)) (n := szL l) hc
     have hw := wI i (by omega)
     obtain ⟨x, hx⟩ : ∃ x, l[i]? = some x := ⟨l[i], by simp⟩
     have hg := encI_get l i x hx
     have hxo := (hok x (List.mem_of_getElem? hx)).1.1
     have hek := encB_len' x.e.k
     have hw2 : IntKind.i64.wrap ((x.e.k.length : Int) + 10) = ((x.e.k.length + 10 : Nat) : Int) := by rw [wrap_i64 (by omega) (by omega)]; simp
     have hw3 : IntKind.i64.wrap ((szL (l.take i) : Int) + ((x.e.k.length + 10 : Nat) : Int)) = ((szL (l.take (i + 1)) : Nat) : Int) := by
      rw [takeI l i x hx, szL_app, szL_cons, szL_nil, wrap_i64 (by omega) (by omega)]
      unfold szI; omega
     have hst := halfF_step l i x hx (szL l)
     rw [if_pos hc, hmid] at hst
     repeat' first | ((with_reducible first | refine cs ?_ ?_ | refine ws ?_ ?_) <;> intro h <;> try simp only [h]) | simp only [↓wBA, tYe, convA, seval, wH, wHl, hm, hdec2, hi0, hg, itP, hw, hek, hw2, hw3]
     refine ⟨⟨i + 1, by omega, hst.symm⟩, by show l.length - (i + 1) < l.length - i; omega, hI2, by simp only [wHl, wHf]⟩
    ·have hdec2 := dF (i := 2 * szL (l.take i)) (n := szL l) hc
     have hfi : midF l = i := by
      rcases Nat.lt_or_ge i l.length with h | h
      ·obtain ⟨x, hx⟩ : ∃ x, l[i]? = some x := ⟨l[i], by simp⟩
       have hst := halfF_step l i x hx (szL l)
       rw [if_neg hc, hmid] at hst
       exact hst
      ·rw [List.drop_eq_nil_of_le h] at hmid
       rw [← hmid]; rfl
     repeat' first | ((with_reducible first | refine cs ?_ ?_ | refine ws ?_ ?_) <;> intro h <;> try simp only [h]) | simp only [↓wBA, tYe, convA, seval, wH, wHl, hm, hdec2]
     all_goals refine ret_st ?_ (by first | exact Nat.le_refl _ | (simp only [List.length_set, List.length_append]; omega) | omega)
     all_goals simp only [resA.eq_1, resL.eq_1, resL.eq_2, resV.eq_1, resV.eq_2, ↓wBA, tYe, convA, seval, wH, hfi]
theorem atMid {σ : St} {a : AV} {l : List Itm} (ha : ItA σ a l) (hl : l.length ≤ 1000000) (hok : ∀ x ∈ l, x.ok) : ACalls Tryz.prog 100 [a] σ fun r s => s = σ ∧ r = intV .i64 (midF l : Nat) := by
 refine ACalls.borrowS (atMid0 l hl hok) (fun r hr M M' u h => ?_) fun M vs hM hv => ?_
 ·subst hr; exact noM_p M M' u h
 ·simp only [ARepL] at hv ⊢
  obtain ⟨u1, us1, rfl, h1, rfl⟩ := hv
  exact ⟨u1, _, rfl, by simp only [ARep]; exact ha M u1 hM h1, rfl⟩
end Go.Proofs.YtockimhceppkbaaGreat
