/- PageApart: for every list of records, every slot and every record the statement returns true, and nothing that was there turns. No condition. -/
import Derived.Test.YtpfnpinblbfjdaaRoom
set_option linter.unusedSimpArgs false
namespace Go.Proofs.Ytpfnpinblbfjdaa
open Go.RowKit

theorem trimL_getD : ∀ (ss : List (Option (List UInt8))) (i : Nat), (trimL ss).getD i none = ss.getD i none
  | [], i => rfl
  | none :: r, i => by
    rw [show trimL (none :: r) = if trimL r = [] then [] else none :: trimL r from rfl]
    split
    · rename_i h
      cases i with
      | zero => rfl
      | succ i =>
        have := trimL_getD r i
        rw [h] at this
        simpa using this
    · cases i with
      | zero => rfl
      | succ i => simpa using trimL_getD r i
  | some x :: r, i => by
    cases i with
    | zero => rfl
    | succ i => simpa [trimL] using trimL_getD r i
theorem free_somes (us : List (List UInt8)) : freeL (us.map some) = us.length := by
  have := freeL_none (ss := us.map some) (fun j hj => by
    have hj' : j < us.length := by simpa using hj
    simp [hj'])
  simpa using this
theorem put_somes (us : List (List UInt8)) (r : List UInt8) : putL (us.map some) us.length r = (us ++ [r]).map some := by
  unfold putL
  rw [if_pos (by simp)]
  apply List.ext_getElem?
  intro i
  rw [List.getElem?_set]
  by_cases e : us.length = i
  · subst e; simp
  · rw [if_neg e]
    by_cases h : i < us.length
    · simp [List.getElem?_append_left, h]
    · rw [List.getElem?_eq_none (by simp; omega), List.getElem?_eq_none (by simp; omega)]

/-- The string of bytes, wherever they lie. -/
theorem str_any {w : World} {v : Value} {r : List UInt8} (h : ByteS w v r) : (convert 24 9 v).run Try.prog w = .ok (.string ⟨r.toArray⟩) w := by
  by_cases hr : r = []
  · subst hr
    obtain ⟨ao, c, rfl, hc⟩ := h
    rcases hc with ⟨rfl, h2, rfl⟩ | ⟨ad, rfl, h2⟩
    · exact run_convert_bytes_nil w 24 5 Try.underlying24 Try.underlying5 _ _ 9 Try.underlying9
    · rw [run_convert_bytes_string w 24 9 5 _ _ c Try.underlying24 Try.underlying5 Try.underlying9, run_bytesToString w ad _ c [] (by simp [loadCells, loadCellsFrom])]
      rfl
  · refine str_of h fun ad n c e => ?_
    subst e
    obtain ⟨ao, c', he, hc⟩ := h
    simp only [Value.slice.injEq] at he
    obtain ⟨rfl, _, _⟩ := he
    rcases hc with ⟨h1, _⟩ | ⟨ad', h1, h2⟩
    · cases h1
    · obtain rfl : ad = ad' := by simpa using h1
      have hl : 0 < r.length := List.length_pos_iff.2 hr
      have hsp := spot_none (h2 0 _ (get_bytesL r 0 hl))
      rw [show ad.add 0 = ad by simp [Addr.add]] at hsp
      rw [hsp]
theorem neq_page (w : World) (l m : List UInt8) (hl : l.length = 512) (hm : m.length = 512) :
    (binOp .neq 26 (.agg (bytesA l)) (.agg (bytesA m))).run Try.prog w = .ok (.bool (!(l == m))) w := by
  rw [run_neq_struct]
  have := run_equalIn_bytes (P := Try.prog) w 9998 26 5 512 Try.underlying26 Try.underlying5 (fun w => by kernel_rfl) l m hl hm
  rw [show (Op.equalIn 10000 26 (.agg (bytesA l)) (.agg (bytesA m))).run Try.prog w = .ok (l == m) w from this]
  rfl
theorem wrap_rem (s : Int) (n : Nat) (h : 0 < n) (hn : n ≤ 1000) : ∃ k : Nat, k < n ∧ wrap64 ((IntKind.u64.wrap s).tmod (n : Int)) = (k : Int) := by
  have h0 : 0 ≤ IntKind.u64.wrap s := by rw [IntKind.wrap_u64]; omega
  rw [Int.tmod_eq_emod_of_nonneg h0]
  have h1 := Int.emod_nonneg (IntKind.u64.wrap s) (show (n : Int) ≠ 0 by omega)
  have h2 := Int.emod_lt_of_pos (IntKind.u64.wrap s) (show (0 : Int) < (n : Int) by omega)
  generalize IntKind.u64.wrap s % (n : Int) = q at *
  exact ⟨q.toNat, by omega, by rw [IntWalk.wrap64_in _ ⟨by omega, by omega⟩]; omega⟩

/-- Pages that stand in variables, and all that was there. -/
def Pgs (w : World) (ps : List (Nat × List UInt8)) (w' : World) : Prop := (∀ q ∈ ps, w'.heap[q.1]? = some (.cells (bytesA q.2) 26 (0, 0))) ∧ Below w.heap.size w w'
theorem Pgs.next {w w' w'' : World} {ps : List (Nat × List UInt8)} (h : Pgs w ps w') (hb : Below w'.heap.size w' w'') : Pgs w ps w'' :=
  ⟨fun q hq => (hb.block _ (Array.getElem?_eq_some_iff.1 (h.1 q hq)).1).trans (h.1 q hq), h.2.trans (hb.mono h.2.size)⟩
theorem Pgs.add {w w' : World} {ps : List (Nat × List UInt8)} (h : Pgs w ps w') (l : List UInt8) : Pgs w ((w'.heap.size, l) :: ps) (w'.alloc (.cells (bytesA l) 26)) :=
  ⟨fun q hq => by
    rcases List.mem_cons.1 hq with rfl | hq
    · exact heap_alloc_new _ _
    · exact heap_alloc_lt _ (h.1 q hq), h.2.alloc h.2.size _⟩
theorem Pgs.lt {w w' : World} {ps : List (Nat × List UInt8)} (h : Pgs w ps w') (q : Nat × List UInt8) (hq : q ∈ ps) : q.1 < w'.heap.size := (Array.getElem?_eq_some_iff.1 (h.1 q hq)).1
theorem Pgs.setCell {w w' : World} {ps : List (Nat × List UInt8)} (h : Pgs w ps w') (B g j : Nat) (x : Value) (hB : ∀ q ∈ ps, q.1 < B) (hw : w.heap.size ≤ B) (hg : B ≤ g) : Pgs w ps (w'.setCell ⟨g, j, none⟩ x) :=
  ⟨fun q hq => (Below.heap_setCell _ _ _ _ (by have := hB q hq; show q.1 ≠ g; omega)).trans (h.1 q hq), h.2.setCell (by show w.heap.size ≤ g; omega) _⟩

/-- A page all of whose slots have a record. -/
def AllRel (w : World) (g : Nat) (n : Value) (wr : World) : Prop := ∃ l us, Pg l 2 (List.map some us) ∧ One w g l wr ∧ n = .int .i64 ((us.length : Nat) : Int)

theorem recLen_le (ss : List (Option (List UInt8))) (k : Nat) (h : k < ss.length) : recLen (ss.getD k none) ≤ lens ss := by
  have h1 := lens_take_succ ss k h
  have h2 := lens_take_le ss (k + 1)
  omega
/-- What stands while the bytes of an answer are written over. -/
def InRel (w : World) (ps : List (Nat × List UInt8)) (B ga n ca : Nat) (wq : World) : Prop :=
  Pgs w ps wq ∧ ∃ r : List UInt8, r.length = n ∧ wq.ownsRow B 5 1 (.slice (some ⟨ga, 0, none⟩) n ca) n (bytesL r)
theorem InRel.cell {w wq : World} {ps : List (Nat × List UInt8)} {B ga n ca : Nat} (h : InRel w ps B ga n ca wq) (t : Nat) (ht : t < n) : ∃ c : UInt8, wq.cell? ⟨ga, t, none⟩ = some (.int .u8 c.toNat) ∧ wq.frozen? ⟨ga, t, none⟩ = false := by
  obtain ⟨_, r, hr, ho⟩ := h
  refine ⟨r.getD t 0, ?_, ?_⟩
  · have := ho.cells (g := ga) rfl t _ (get_bytesL r t (by omega))
    rw [Addr.add_lit] at this
    simpa using this
  · rcases ho.2 with ⟨h', _⟩ | ⟨g', cap', cur', h', _, hh, _⟩
    · simp at h'
    · simp only [Value.slice.injEq, Option.some.injEq, Addr.mk.injEq, and_true, true_and] at h'
      rw [h'.1]
      exact frozen_of_row _ _ _ _ _ hh
theorem InRel.store {w wq : World} {ps : List (Nat × List UInt8)} {B ga n ca : Nat} (h : InRel w ps B ga n ca wq) (hB : ∀ q ∈ ps, q.1 < B) (hw : w.heap.size ≤ B) (t : Nat) (x : Int) (h0 : 0 ≤ x) (h1 : x < 256) : InRel w ps B ga n ca (wq.setCell ⟨ga, t, none⟩ (.int .u8 x)) := by
  obtain ⟨hp, r, hr, ho⟩ := h
  refine ⟨hp.setCell B ga t _ hB hw (ho.lt ga rfl).1, r.set t (toB x), by simpa using hr, ?_⟩
  rw [← bytesL_set r t x h0 h1]
  exact (ho.stored t _).1

set_option maxHeartbeats 8000000 in
set_option maxRecDepth 100000 in
theorem apart_law (rs : List (List UInt8)) (sl : Int) (rc : List UInt8) (v u : Value) (w : World) (hv : BytesS w v rs) (hu : ByteS w u rc) (hl : rs.length ≤ 140737488351232) (hrc : rc.length ≤ 140737488351232) (hr : ∀ i, i < rs.length → (rs.getD i []).length ≤ 140737488351232) :
    Calls Try.prog 6 #[v, .int .i64 sl, u] w fun e w' => e = .returned (.bool true) ∧ Below w.heap.size w w' := by
  have hz := zero_page
  have HV := Lib.hid hv; have HU := Lib.hid hu; have HRL := Lib.hid hr
  obtain ⟨va, vc, rfl, -⟩ := hv
  obtain ⟨ua, uc, rfl⟩ := hu.form
  clear hu hr
  go_enter Try.func6, Try.ntmps6
  go_wp2_with fail
  refine (awake_any _).mono ?_
  rintro e w1 ⟨rfl, hb1⟩
  have HB1 := Lib.hid hb1; clear hb1
  go_wp2_with fail
  refine (new_any 2 _).mono ?_
  rintro e w3 ⟨rfl, hb3⟩
  have HP := Lib.hid (Pg.new 2)
  have HB3 := Lib.hid (HB1.out.trans (hb3.mono HB1.out.size))
  clear hb3 HB1
  generalize newL 2 = l0 at *
  go_upto_region 4 with (refine store_page_new HP.out.len length_zeroPage rfl _ _ rfl rfl rfl ?_)
  have HO4 := Lib.hid (show One w w3.heap.size l0 (w3.alloc (.cells (bytesA l0) 26)) from ⟨heap_alloc_new _ _, HB3.out.alloc HB3.out.size _⟩)
  have hgp : w.heap.size ≤ w3.heap.size := HB3.out.size
  clear HB3
  generalize w3.alloc (.cells (bytesA l0) 26) = w4 at *
  generalize w3.heap.size = gp at *
  go_wp2_with fail
  go_loopw [8, 9] (fun n c wr => ∃ i : Nat, i ≤ rs.length ∧ c = .int .i64 i ∧ AllRel w gp n wr) (fun _ c _ => rs.length - (intOf c).toNat)
  case atStart => exact ⟨0, Nat.zero_le _, rfl, l0, [], HP.out, HO4.out, rfl⟩
  case round =>
    obtain ⟨i, hi, rfl, l, us, hp, ho, rfl⟩ := hrel
    have HPA := Lib.hid hp; have HOA := Lib.hid ho; clear hp ho HP HO4
    have has : us.length ≤ 124 := by have := slotsL_le l; rw [HPA.out.slots] at this; simpa using this
    by_cases hlt : i < rs.length
    · obtain ⟨vb, voff, x, hva, hx, hxb⟩ : ∃ b off x, va = some ⟨b, off, none⟩ ∧ w.cell? ⟨b, off + i, none⟩ = some x ∧ ByteS w x (rs.getD i []) := by
        obtain ⟨ao, c, he, hc⟩ := HV.out
        obtain ⟨b, off, x, h1, h2, h3⟩ := hc i hlt
        simp only [Value.slice.injEq] at he
        exact ⟨b, off, x, he.1.trans h1, h2, h3⟩
      subst hva
      have hrl := HRL.out i hlt
      generalize rs.getD i [] = r at *
      have HX := Lib.hid hx; have HXB := Lib.hid hxb
      clear hx hxb
      obtain ⟨an, han⟩ : ∃ an, an = addL l r := ⟨_, rfl⟩
      have HML := Lib.hid (show an.1.length = 512 from by rw [han]; exact length_addL l r)
      have HAN := Lib.hid han; clear han
      go_upto_region 8 with fail
      go_cut [10, 11, 12] from 30 to 49 (fun s7 s8 s9 wc => Rel7 w gp l an s7 s8 s9 wc)
      case rest =>
        obtain ⟨g7, rfl, rfl, rfl, hg7, hone, hne⟩ := hcut
        have HG7 := Lib.hid hg7; have HN := Lib.hid hone
        clear hg7 hone HX HXB HOA
        generalize wc = wA at *
        have key : an = (zeroPage, 0, false) ∨ ∃ m k7, an = (m, k7, true) ∧ Pg m 2 ((us ++ [r]).map some) := by
          rw [HAN.out]
          by_cases hc : 400 < r.length ∨ 496 < costL (putL (us.map some) (freeL (us.map some)) r)
          · exact .inl (HPA.out.add_not r hc)
          · obtain ⟨h1, h2, h3⟩ := HPA.out.add r (by omega) (by omega)
            rw [free_somes, put_somes] at h3
            exact .inr ⟨(addL l r).1, (addL l r).2.1, by rw [← h2], h3⟩
        rcases key with h | ⟨m, k7, h, hpm⟩
        · subst h
          go_wp2_with fail
          go_roundw
          case rel => exact ⟨i + 1, by omega, by go_num, l, us, HPA.out, HN.out, rfl⟩
          case measure => simp [intOf]; omega
        · subst h
          have HPM := Lib.hid hpm; clear hpm
          go_wp2_with (first
            | refine load_page HPM.out.len HG7.out rfl _ rfl rfl ?_
            | refine store_page HPM.out.len HPA.out.len HN.out.1 rfl _ _ rfl rfl rfl ?_)
          go_roundw
          case rel => exact ⟨i + 1, by omega, by go_num, m, us ++ [r], HPM.out, HN.out.set m hgp, by simp⟩
          case measure => simp [intOf]; omega
      refine wp_region_noPanic ?_
      refine wp_region_held_drew (S := One w gp l) (by kernel_rfl) HOA.out.drew (fun hH => ?_)
      refine takeH_load 0 37 _ _ _ _ _ (bytesL l) _ rfl rfl rfl (by kernel_rfl) (by kernel_rfl) (by kernel_rfl) rfl rfl Try.underlying26 rfl (info_of HPA.out.len) hH (fun w h => page_range h.1) ?_
      simp only [List.setIfInBounds_toArray, List.set_cons_zero, List.set_cons_succ]
      refine takeH 1 38 _ (.slice (some ⟨vb, voff, none⟩) rs.length vc) rfl rfl rfl (by kernel_rfl) (by kernel_rfl) (by kernel_rfl) hH (fun w _ => by go_simp) ?_
      simp only [List.setIfInBounds_toArray, List.set_cons_zero, List.set_cons_succ]
      refine takeH 2 39 _ (.int .i64 (i : Int)) rfl rfl rfl (by kernel_rfl) (by kernel_rfl) (by kernel_rfl) hH (fun w _ => by go_simp) ?_
      simp only [List.setIfInBounds_toArray, List.set_cons_zero, List.set_cons_succ]
      refine takeH 3 40 _ (.pointer (some ⟨vb, voff + i, none⟩)) rfl rfl rfl (by kernel_rfl) (by kernel_rfl) (by kernel_rfl) hH (fun w _ => by go_simp) ?_
      simp only [List.setIfInBounds_toArray, List.set_cons_zero, List.set_cons_succ]
      refine takeH_cell 4 41 _ _ _ _ _ (x) _ rfl rfl rfl (by kernel_rfl) (by kernel_rfl) (by kernel_rfl) rfl rfl Try.underlying24 rfl hH (fun w h => (cell_later h.2 HX.out)) ?_
      simp only [List.setIfInBounds_toArray, List.set_cons_zero, List.set_cons_succ]
      refine wpAnyH_ready (rs := [5, 10]) (by kernel_rfl) (by simp) (AllReadyH.cons rfl (fun K hK => ?_) (AllReadyH.cons rfl (fun K hK => ?_) AllReadyH.nil))
      ·
        go_simp
        refine (add_any l r x _ HPA.out.len (HXB.out.later hH.2) hrl).mono ?_
        rw [← HAN.out]
        rintro e w6 ⟨rfl, hb6⟩
        go_simp
        refine hK.out _ _ (hH.next hb6) (fun hH6 => ?_)
        clear hK K
        refine takeH 6 36 _ (.tuple #[.agg (bytesA an.1), .int .i64 an.2.1, .bool an.2.2]) rfl rfl rfl (by kernel_rfl) (by kernel_rfl) (by kernel_rfl) hH6 (fun w _ => by go_simp) ?_
        simp only [List.setIfInBounds_toArray, List.set_cons_zero, List.set_cons_succ]
        refine takeH 7 43 _ (.agg (bytesA an.1)) rfl rfl rfl (by kernel_rfl) (by kernel_rfl) (by kernel_rfl) hH6 (fun w _ => by go_simp) ?_
        simp only [List.setIfInBounds_toArray, List.set_cons_zero, List.set_cons_succ]
        refine takeH 8 44 _ (.int .i64 an.2.1) rfl rfl rfl (by kernel_rfl) (by kernel_rfl) (by kernel_rfl) hH6 (fun w _ => by go_simp) ?_
        simp only [List.setIfInBounds_toArray, List.set_cons_zero, List.set_cons_succ]
        refine takeH 9 45 _ (.bool an.2.2) rfl rfl rfl (by kernel_rfl) (by kernel_rfl) (by kernel_rfl) hH6 (fun w _ => by go_simp) ?_
        simp only [List.setIfInBounds_toArray, List.set_cons_zero, List.set_cons_succ]
        refine wpAnyH_ready (rs := [10]) (by kernel_rfl) (by simp) (AllReadyH.cons rfl (fun K hK => ?_) AllReadyH.nil)
        go_simp
        refine hK.out _ _ (hH6.alloc _) (fun hH7 => ?_)
        clear hK K
        refine wpAnyH_ready (rs := [11]) (by kernel_rfl) (by simp) (AllReadyH.cons rfl (fun K hK => ?_) AllReadyH.nil)
        rw [if_pos (by rfl)]
        refine wp_store_row 26 (.tmp 10) (.tmp 43) rfl _ _ rfl rfl _ _ (heap_alloc_new _ _) (info_page' _ HML.out) (by rw [size_bytesA, size_bytesA, HML.out]; exact length_zeroPage) (oneCell_bytesA _) ?_
        rw [World.setRow_alloc_new]
        refine hK.out _ _ (hH6.alloc _) (fun hH8 => ?_)
        clear hK K
        simp only [Act.put]
        refine takeH 12 11 _ (.int .i64 an.2.1) rfl rfl rfl (by kernel_rfl) (by kernel_rfl) (by kernel_rfl) hH8 (fun w _ => by go_simp) ?_
        simp only [List.setIfInBounds_toArray, List.set_cons_zero, List.set_cons_succ]
        refine takeH 13 12 _ (.bool an.2.2) rfl rfl rfl (by kernel_rfl) (by kernel_rfl) (by kernel_rfl) hH8 (fun w _ => by go_simp) ?_
        simp only [List.setIfInBounds_toArray, List.set_cons_zero, List.set_cons_succ]
        refine wpAnyH_done (by kernel_rfl) ?_ _
        refine NoPanic.normal ?_
        go_wp2_with fail
        go_meet
        case rel => exact ⟨_, rfl, rfl, rfl, heap_alloc_new _ _, hH8, Nat.ne_of_lt hH6.lt⟩
      ·
        go_simp
        refine hK.out _ _ (hH.alloc _) (fun hH6 => ?_)
        clear hK K
        refine wpAnyH_ready (rs := [5]) (by kernel_rfl) (by simp) (AllReadyH.cons rfl (fun K hK => ?_) AllReadyH.nil)
        go_simp
        refine (add_any l r x _ HPA.out.len (HXB.out.later hH6.2) hrl).mono ?_
        rw [← HAN.out]
        rintro e w7 ⟨rfl, hb7⟩
        go_simp
        refine hK.out _ _ (hH6.next hb7) (fun hH7 => ?_)
        clear hK K
        have hN7 := (hb7.block wr.drew.heap.size (by simp)).trans (heap_alloc_new wr.drew _)
        refine takeH 6 36 _ (.tuple #[.agg (bytesA an.1), .int .i64 an.2.1, .bool an.2.2]) rfl rfl rfl (by kernel_rfl) (by kernel_rfl) (by kernel_rfl) hH7 (fun w _ => by go_simp) ?_
        simp only [List.setIfInBounds_toArray, List.set_cons_zero, List.set_cons_succ]
        refine takeH 7 43 _ (.agg (bytesA an.1)) rfl rfl rfl (by kernel_rfl) (by kernel_rfl) (by kernel_rfl) hH7 (fun w _ => by go_simp) ?_
        simp only [List.setIfInBounds_toArray, List.set_cons_zero, List.set_cons_succ]
        refine takeH 8 44 _ (.int .i64 an.2.1) rfl rfl rfl (by kernel_rfl) (by kernel_rfl) (by kernel_rfl) hH7 (fun w _ => by go_simp) ?_
        simp only [List.setIfInBounds_toArray, List.set_cons_zero, List.set_cons_succ]
        refine takeH 9 45 _ (.bool an.2.2) rfl rfl rfl (by kernel_rfl) (by kernel_rfl) (by kernel_rfl) hH7 (fun w _ => by go_simp) ?_
        simp only [List.setIfInBounds_toArray, List.set_cons_zero, List.set_cons_succ]
        have hS8 : One w gp l (w7.setRow wr.drew.heap.size (bytesA an.1)) := ⟨(setRow_other _ _ _ _ (Nat.ne_of_lt hH.lt)).trans hH7.1, hH7.2.trans (Below.setRow _ _ _ _ hH.2.size)⟩
        refine wpAnyH_ready (rs := [11]) (by kernel_rfl) (by simp) (AllReadyH.cons rfl (fun K hK => ?_) AllReadyH.nil)
        rw [if_pos (by rfl)]
        refine wp_store_row 26 (.tmp 10) (.tmp 43) rfl _ _ rfl rfl _ _ hN7 (info_page' _ HML.out) (by rw [size_bytesA, size_bytesA, HML.out]; exact length_zeroPage) (oneCell_bytesA _) ?_
        refine hK.out _ _ (hS8) (fun hH8 => ?_)
        clear hK K
        simp only [Act.put]
        refine takeH 12 11 _ (.int .i64 an.2.1) rfl rfl rfl (by kernel_rfl) (by kernel_rfl) (by kernel_rfl) hH8 (fun w _ => by go_simp) ?_
        simp only [List.setIfInBounds_toArray, List.set_cons_zero, List.set_cons_succ]
        refine takeH 13 12 _ (.bool an.2.2) rfl rfl rfl (by kernel_rfl) (by kernel_rfl) (by kernel_rfl) hH8 (fun w _ => by go_simp) ?_
        simp only [List.setIfInBounds_toArray, List.set_cons_zero, List.set_cons_succ]
        refine wpAnyH_done (by kernel_rfl) ?_ _
        refine NoPanic.normal ?_
        go_wp2_with fail
        go_meet
        case rel => exact ⟨_, rfl, rfl, rfl, setRow_heap _ _ _ _ _ _ hN7, hH8, Nat.ne_of_lt hH.lt⟩
    · clear HV HRL
      by_cases hn0 : us.length = 0
      · obtain rfl := List.eq_nil_of_length_eq_zero hn0
        go_wp2_with (refine load_page HPA.out.len HOA.out.1 rfl _ rfl rfl ?_)
        refine (nslots_any l _ HPA.out.len).mono ?_
        rw [HPA.out.slots]
        rintro e w6 ⟨rfl, hb6⟩
        have HO6 := Lib.hid (HOA.out.next hb6)
        clear hb6 HOA
        go_wp2_with fail
        go_ret
        exact ⟨rfl, HO6.out.2⟩
      · obtain ⟨k, hk, hke⟩ := wrap_rem sl us.length (by omega) (by omega)
        have HKE := Lib.hid hke; clear hke
        go_upto_region 15 with fail
        rw [HKE.out]
        clear HKE
        have HQ0 := Lib.hid (show Pgs w [(gp, l)] wr from ⟨fun q hq => by obtain rfl := List.mem_singleton.1 hq; exact HOA.out.1, HOA.out.2⟩)
        clear HOA
        go_upto_region 16 with (first
          | refine load_page HPA.out.len (HQ0.out.1 (gp, l) (by simp)) rfl _ rfl rfl ?_
          | refine store_page_new HPA.out.len length_zeroPage rfl _ _ rfl rfl rfl ?_)
        have HQ1 := Lib.hid (HQ0.out.add l)
        clear HQ0
        generalize wr.heap.size = gw at *
        generalize wr.alloc (.cells (bytesA l) 26) = w5 at *
        go_wp2_with (refine load_page HPA.out.len (HQ1.out.1 (gp, l) (by simp)) rfl _ rfl rfl ?_)
        refine (set_any l k rc _ _ HPA.out.len (HU.out.later HQ1.out.2) hrc).mono ?_
        have HSL := Lib.hid (length_setL l (k : Int) rc)
        have HSQ := Lib.hid (show setL l (k : Int) rc = (zeroPage, false) ∨ ∃ m, setL l (k : Int) rc = (m, true) ∧ Pg m 2 ((us.map some).set k (some rc)) from by
          have hg : getL l (k : Int) ≠ none := by rw [HPA.out.get, if_neg (by omega), Int.toNat_natCast]; simp [hk]
          have hpl : putL (us.map some) k rc = (us.map some).set k (some rc) := by unfold putL; rw [if_neg (by simp; omega)]
          unfold setL
          rw [if_neg hg, Int.toNat_natCast]
          by_cases hc : 400 < rc.length ∨ 496 < costL (putL (us.map some) k rc)
          · exact .inl (HPA.out.put_not k rc hc)
          · obtain ⟨h1, h2⟩ := HPA.out.put k (by simp; omega) rc (by omega) (by omega)
            rw [hpl] at h2
            exact .inr ⟨_, by rw [← h1], h2⟩)
        generalize setL l (k : Int) rc = sq at *
        rintro e w6 ⟨rfl, hb6⟩
        have HQ2 := Lib.hid ((HQ1.out.next hb6).add sq.1)
        clear hb6 HQ1
        go_upto_region 17 with (refine store_page_new HSL.out length_zeroPage rfl _ _ rfl rfl rfl ?_)
        generalize w6.heap.size = gq at *
        generalize w6.alloc (.cells (bytesA sq.1) 26) = w7 at *
        go_wp2_with (refine load_page HPA.out.len (HQ2.out.1 (gp, l) (by simp)) rfl _ rfl rfl ?_)
        refine (drop_any l k _ HPA.out.len).mono ?_
        obtain ⟨ld, hld, hpd⟩ : ∃ m, dropL l (k : Int) = (m, true) ∧ Pg m 2 (trimL ((us.map some).set k none)) := by
          have hg : getL l (k : Int) ≠ none := by rw [HPA.out.get, if_neg (by omega), Int.toNat_natCast]; simp [hk]
          have hc : costL ((us.map some).set k none) ≤ 496 := by
            have h1 := lens_set_le (us.map some) k none
            have h2 : 4 * (us.map some).length + lens (us.map some) ≤ 496 := HPA.out.cost
            unfold costL
            rw [List.length_set]
            simp only [recLen] at h1
            omega
          unfold dropL
          rw [HPA.out.slots, HPA.out.kind, Int.toNat_natCast, if_neg (by rintro (h | h); exact hg h; omega)]
          exact ⟨_, rfl, Pg.made 2 (by omega) (by omega) _ hc⟩
        rw [hld]
        have HPD := Lib.hid hpd
        clear hld hpd
        rintro e w8 ⟨rfl, hb8⟩
        have HQ3 := Lib.hid ((HQ2.out.next hb8).add ld)
        clear hb8 HQ2
        go_upto_region 18 with (refine store_page_new HPD.out.len length_zeroPage rfl _ _ rfl rfl rfl ?_)
        generalize w8.heap.size = gd at *
        generalize w8.alloc (.cells (bytesA ld) 26) = w9 at *
        have heq := fun wx => eql_page wx l l HPA.out.len HPA.out.len
        have hnq : ∀ wx, (binOp .neq 26 (.agg (bytesA l)) (.agg (bytesA l))).run Try.prog wx = .ok (.bool false) wx := fun wx => by rw [neq_page wx l l HPA.out.len HPA.out.len]; simp
        go_wp2_with (first
          | refine load_page HPA.out.len (HQ3.out.1 (gp, l) (by simp)) rfl (.tmp 7) rfl rfl ?_
          | refine load_page HPA.out.len (HQ3.out.1 (gw, l) (by simp)) rfl (.tmp 14) rfl rfl ?_)
        clear hnq
        have hkz : ∀ ok : Bool, True := fun _ => trivial
        clear hkz
        go_loopw [19] (fun c wq => ∃ j : Nat, j ≤ us.length ∧ c = .int .i64 j ∧ Hid (Pgs w [(gd, ld), (gq, sq.1), (gw, l), (gp, l)] wq)) (fun c _ => us.length - (intOf c).toNat)
        case atStart => exact ⟨0, Nat.zero_le _, rfl, HQ3.out⟩
        case round =>
          obtain ⟨j, hj, rfl, hok⟩ := hrel
          clear HQ3
          by_cases hjl : j < us.length
          · have HA := Lib.hid (show getL l (j : Int) = some (us.getD j []) from by rw [HPA.out.get, if_neg (by omega), Int.toNat_natCast]; simp [hjl])
            have HD := Lib.hid (show getL ld (j : Int) = if j = k then none else some (us.getD j []) from by
              rw [HPD.out.get, if_neg (by omega), Int.toNat_natCast, trimL_getD]
              simp only [List.getD_eq_getElem?_getD, List.getElem?_set, List.length_map]
              by_cases e : k = j
              · simp [e, hjl]
              · rw [if_neg e, if_neg (fun h => e h.symm)]; simp [hjl])
            have HQQ := Lib.hid (show sq.2 = true → getL sq.1 (j : Int) = some (if j = k then rc else us.getD j []) from by
              rcases HSQ.out with h | ⟨m, h, hp⟩
              · rw [h]; intro h; cases h
              · intro _
                rw [h]
                show getL m (j : Int) = _
                rw [hp.get, if_neg (by omega), Int.toNat_natCast]
                simp only [List.getD_eq_getElem?_getD, List.getElem?_set, List.length_map]
                by_cases e : k = j
                · subst e; simp [hjl]
                · rw [if_neg e, if_neg (fun h => e h.symm)]; simp [hjl])
            have haj : (us.getD j []).length ≤ 496 := by
              have h1 := recLen_le (us.map some) j (by simpa using hjl)
              have h2 : 4 * (us.map some).length + lens (us.map some) ≤ 496 := HPA.out.cost
              simp only [List.getD_eq_getElem?_getD, List.getElem?_map, List.getElem?_eq_getElem hjl, Option.map_some, Option.getD_some, recLen] at h1 ⊢
              omega
            generalize us.getD j [] = aj at *
            go_wp2_with (refine load_page HPA.out.len (hok.out.1 (gp, l) (by simp)) rfl _ rfl rfl ?_)
            refine (get_any l j _ HPA.out.len).mono ?_
            rw [HA.out]
            rintro e w10 ⟨va, rfl, hrec, hb10⟩
            have HBV := Lib.hid hrec
            obtain ⟨ga, ca, rfl⟩ := hrec.2
            have HK10 := Lib.hid (hok.out.next hb10)
            have HLT := Lib.hid (fun q hq => hok.out.lt q hq)
            have hwq : w.heap.size ≤ wr.heap.size := hok.out.2.size
            clear hrec hb10 hok
            go_wp2_with (refine load_page HSL.out (HK10.out.1 (gq, sq.1) (by simp)) rfl _ rfl rfl ?_)
            refine (get_any sq.1 j _ HSL.out).mono ?_
            rintro e w11 ⟨vb, rfl, hrecb, hb11⟩
            have HBV11 := Lib.hid (HBV.out.kept (w' := w11) (fun g cur hg => hb11.block g (Array.getElem?_eq_some_iff.1 hg).1))
            have HK11 := Lib.hid (HK10.out.next hb11)
            have HRB := Lib.hid hrecb
            clear hrecb hb11 HK10 HBV
            go_wp2_with (refine load_page HPD.out.len (HK11.out.1 (gd, ld) (by simp)) rfl _ rfl rfl ?_)
            refine (get_any ld j _ HPD.out.len).mono ?_
            rw [HD.out]
            rintro e w12 ⟨vc', rfl, hrecc, hb12⟩
            have HBV12 := Lib.hid (HBV11.out.kept (w' := w12) (fun g cur hg => hb12.block g (Array.getElem?_eq_some_iff.1 hg).1))
            have HRB12 := Lib.hid (HRB.out.kept (w' := w12) (fun g cur hg => hb12.block g (Array.getElem?_eq_some_iff.1 hg).1))
            have HK12 := Lib.hid (HK11.out.next hb12)
            have HRC := Lib.hid hrecc
            clear hrecc hb12 HK11 HBV11 HRB
            have hsa := str_any HBV12.out.bytes
            have hsr := str_any (HU.out.later HK12.out.2)
            obtain ⟨lq, ok⟩ := sq
            have hy0 : ok = true → (getL lq (j : Int)).isSome = true := fun h => by rw [show getL lq (j : Int) = _ from HQQ.out h]; rfl
            have hsb0 : ok = true → (convert 24 9 vb).run Try.prog w12 = .ok (.string ⟨(if j = k then rc else aj).toArray⟩) w12 := fun h => by
              have hrb : Rec w12 w10.heap.size vb (getL lq (j : Int)) := HRB12.out
              rw [show getL lq (j : Int) = _ from HQQ.out h] at hrb
              exact str_any hrb.bytes
            obtain ⟨ab, cb, hvb⟩ := (show Rec w12 w10.heap.size vb (getL lq (j : Int)) from HRB12.out).len
            subst hvb
            have hsc0 : ¬ j = k → (convert 24 9 vc').run Try.prog w12 = .ok (.string ⟨aj.toArray⟩) w12 := fun h => by
              have hrb := HRC.out
              rw [if_neg h] at hrb
              exact str_any hrb.bytes
            obtain ⟨ac, cc, hvc⟩ := HRC.out.len
            subst hvc
            have HZ := Lib.hid (show (if j = k then none else some aj).isSome = !decide (j = k) from by by_cases h : j = k <;> simp [h])
            clear HRC HRB12 HQQ HA HD
            generalize recLen (if j = k then none else some aj) = nc at *
            rw [HZ.out]
            clear HZ
            generalize recLen (getL lq (j : Int)) = nb at *
            generalize (getL lq (j : Int)).isSome = y at *
            have hne : ((j : Int) != (k : Int)) = !decide (j = k) := by by_cases h : j = k <;> simp [h] <;> omega
            have heq2 : ((j : Int) == (k : Int)) = decide (j = k) := by by_cases h : j = k <;> simp [h] <;> omega
            have hsb1 : ok = true → decide (j = k) = true → (convert 24 9 (.slice ab nb cb)).run Try.prog w12 = .ok (.string ⟨rc.toArray⟩) w12 := fun h1 h2 => by
              have := hsb0 h1; rw [if_pos (by simpa using h2)] at this; exact this
            have hsb2 : ok = true → decide (j = k) = false → (convert 24 9 (.slice ab nb cb)).run Try.prog w12 = .ok (.string ⟨aj.toArray⟩) w12 := fun h1 h2 => by
              have := hsb0 h1; rw [if_neg (by simpa using h2)] at this; exact this
            have hsc1 : decide (j = k) = false → (convert 24 9 (.slice ac nc cc)).run Try.prog w12 = .ok (.string ⟨aj.toArray⟩) w12 := fun h => hsc0 (by simpa using h)
            clear hsb0 hsc0
            generalize decide (j = k) = b1 at *
            cases ok
            all_goals cases b1
            all_goals (first | (have hyy := hy0 rfl; subst hyy) | skip)
            all_goals clear hy0
            all_goals (first | (have hsbb := hsb1 rfl rfl) | (have hsbb := hsb2 rfl rfl) | skip)
            all_goals (first | (have hscc := hsc1 rfl) | skip)
            all_goals clear hsb1 hsb2 hsc1
            all_goals
              go_upto_if 157 with fail
              clear hsa hsr hne heq2 heq
              try clear hsbb
              try clear hscc
              generalize wr.heap.size = B at *
              have HIN := Lib.hid (show InRel w [(gd, ld), (gq, lq), (gw, l), (gp, l)] B ga aj.length ca w12 from ⟨HK12.out, aj, rfl, HBV12.out.1⟩)
              clear HBV12 HK12
              go_wp2_with fail
              go_loopw [26] (fun c wq => ∃ t : Nat, t ≤ aj.length ∧ c = .int .i64 t ∧ Hid (InRel w [(gd, ld), (gq, lq), (gw, l), (gp, l)] B ga aj.length ca wq)) (fun c _ => aj.length - (intOf c).toNat)
              case atStart => exact ⟨0, Nat.zero_le _, rfl, HIN.out⟩
              case round =>
                obtain ⟨t, ht, rfl, hin⟩ := hrel
                clear HIN
                by_cases htl : t < aj.length
                · obtain ⟨c, hc, hcf⟩ := hin.out.cell t htl
                  have hcb := UInt8.toNat_lt c
                  generalize c.toNat = cn at *
                  go_wp2_with fail
                  go_roundw
                  case rel => exact ⟨t + 1, by omega, by go_num, hin.out.store HLT.out hwq t _ (by omega) (by omega)⟩
                  case measure => simp [intOf]; omega
                · go_wp2_with fail
                  go_roundw
                  case rel => exact ⟨j + 1, by omega, by go_num, hin.out.1⟩
                  case measure => simp [intOf]; omega
          · have hld : ld ≠ zeroPage := fun e => by
              have := HPD.out.kind
              rw [e] at this
              unfold kindL at this
              rw [getD_zeroPage] at this
              simp at this
            have hnz : ∀ wx, (binOp .neq 26 (.agg (bytesA ld)) (.agg (bytesA zeroPage))).run Try.prog wx = .ok (.bool true) wx := fun wx => by
              rw [neq_page wx ld zeroPage HPD.out.len length_zeroPage]; simp [hld]
            have heq3 : ∀ wx, (binOp .eql 26 (.agg (bytesA l)) (.agg (bytesA l))).run Try.prog wx = .ok (.bool true) wx := fun wx => by rw [heq wx]; simp
            clear heq
            go_wp2_with (first
              | refine load_page HPA.out.len (hok.out.1 (gp, l) (by simp)) rfl (.tmp 7) rfl rfl ?_
              | refine load_page HPA.out.len (hok.out.1 (gw, l) (by simp)) rfl (.tmp 14) rfl rfl ?_)
            refine (right_any l _ HPA.out.len).mono ?_
            rw [HPA.out.right]
            rintro e w10 ⟨rfl, hb10⟩
            have HK10 := Lib.hid (hok.out.next hb10)
            clear hb10 hok
            go_wp2_with (refine load_page HPD.out.len (HK10.out.1 (gd, ld) (by simp)) rfl (.tmp 17) rfl rfl ?_)
            refine (kind_any ld _ HPD.out.len).mono ?_
            rw [HPD.out.kind]
            rintro e w11 ⟨rfl, hb11⟩
            have HK11 := Lib.hid (HK10.out.next hb11)
            clear hb11 HK10
            rcases HSQ.out with h | ⟨m, h, hpm⟩
            · subst h
              go_wp2_with (refine load_page HPD.out.len (HK11.out.1 (gd, ld) (by simp)) rfl (.tmp 17) rfl rfl ?_)
              go_ret
              exact ⟨rfl, HK11.out.2⟩
            · subst h
              have HPM := Lib.hid hpm; clear hpm
              go_wp2_with (refine load_page HPM.out.len (HK11.out.1 (gq, m) (by simp)) rfl (.tmp 15) rfl rfl ?_)
              refine (kind_any m _ HPM.out.len).mono ?_
              rw [HPM.out.kind]
              rintro e w13 ⟨rfl, hb13⟩
              have HK13 := Lib.hid (HK11.out.next hb13)
              clear hb13 HK11
              go_wp2_with (refine load_page HPD.out.len (HK13.out.1 (gd, ld) (by simp)) rfl (.tmp 17) rfl rfl ?_)
              go_ret
              exact ⟨rfl, HK13.out.2⟩
end Go.Proofs.Ytpfnpinblbfjdaa
