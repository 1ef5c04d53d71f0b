/- The reference's slots on the abstract machine; cost, Free, Get, New. -/
import Derived.Test.YtpfnpinblbfjdaaCx
set_option linter.unusedSimpArgs false
set_option linter.unusedVariables false
namespace Go.Proofs.Ytpfnpinblbfjdaa
open Go.RowKit

def rowZ (z : Bool × PV) : List PV := [.v (.bool z.1), z.2]
/-- How many elements. -/
def lenP : PV → Nat
  | .v _ => 0
  | .sl _ ls => ls.length
/-- A slice of elements of a size. -/
def isSl (e : Nat) (x : PV) : Prop := x = .v (.slice none 0 0) ∨ ∃ ls, x = .sl e ls
theorem len_isSl {e : Nat} {x : PV} {C : Ctx} {T E es eb : Nat} {ez : List Value} (h : isSl e x) (hk : C.kind T = some (.slice E es eb ez)) : lenA C T (.p x) = some (lenP x) := by
  rcases h with rfl | ⟨ls, rfl⟩ <;> simp [lenA, hk, elemsA, lenP]
def sumZ (zs : List (Bool × PV)) : Nat := (zs.map fun z => 4 + lenP z.2).sum
theorem sum_take (zs : List (Bool × PV)) (k : Nat) (z : Bool × PV) (h : zs[k]? = some z) : sumZ (zs.take (k + 1)) = sumZ (zs.take k) + 4 + lenP z.2 := by
  have hk := (List.getElem?_eq_some_iff.1 h).1
  unfold sumZ
  rw [List.take_succ_eq_append_getElem hk]
  have : zs[k] = z := by simpa [hk] using h
  simp [this]; omega
theorem sum_take_le (zs : List (Bool × PV)) (k : Nat) : sumZ (zs.take k) ≤ sumZ zs := by
  have : sumZ zs = sumZ (zs.take k) + sumZ (zs.drop k) := by
    conv => lhs; rw [← List.take_append_drop k zs]
    unfold sumZ
    rw [List.map_append, List.sum_append]
  omega
/-- The reference's slots. -/
def ZL (x : PV) (zs : List (Bool × PV)) : Prop := x = .sl 2 (zs.map rowZ) ∨ (x = .v (.slice none 0 0) ∧ zs = [])
theorem ZL.len {x : PV} {zs : List (Bool × PV)} (h : ZL x zs) {C : Ctx} {T E es eb : Nat} {ez : List Value} (hk : C.kind T = some (.slice E es eb ez)) : lenA C T (.p x) = some zs.length := by
  rcases h with rfl | ⟨rfl, rfl⟩ <;> simp [lenA, hk, elemsA]
theorem ZL.elems {x : PV} {zs : List (Bool × PV)} (h : ZL x zs) {k : Nat} (hk : k < zs.length) : elemsA (.p x) = some (2, zs.map rowZ) := by
  rcases h with rfl | ⟨rfl, rfl⟩
  · rfl
  · simp at hk
theorem tok_p (n : Nat) (x : PV) : tokLt n (.p x) = true := rfl

set_option maxRecDepth 100000 in
set_option maxHeartbeats 1000000 in
theorem acost (zs : List (Bool × PV)) (x : PV) (hx : ZL x zs) (hz : ∀ z ∈ zs, isSl 1 z.2) (hm : sumZ zs ≤ 4611686018427387904) (hl : zs.length ≤ 4611686018427387904) :
    ACalls Try.prog 32 [.p x] [] fun r σ' => tokLt 0 r = true ∧ r = intV .i64 (sumZ zs : Nat) := by
  refine acalls_of cx_ok dr_ok Try.func32 (by kernel_rfl) rfl (nt := 20) rfl rfl ?_
  simp only [↓pl_done, ↓pl_det, ↓pl_act, ↓pl_two, ↓det_none, det_none, ↓det_some, det_some, ↓act_none, act_none, ↓act_some, act_some, wd_tt, wd_ff, wd_tf, wd_ft, wd_no, wu_tt, wu_ff, wu_tf, wu_ft, wu_no, ↓ku_app, ld_some, st_some, ↓do_load, loadT, tok_mp, tok_ip, mask_nil, mask_cons, unmaskS, ↓do_move, ↓do_assign, ↓do_pick, ↓do_build, ↓do_nilCheck, ↓do_binOp, ↓do_unOp, ↓do_convert, ↓do_makeFunc, ↓do_slice, ↓do_fieldAddr, ↓do_field, ↓do_indexAddr, ↓do_index, ↓do_extract, ↓do_call, ↓awp_draw, ↓awp_seq, ↓awp_skip, ↓awp_region, ↓awp_cond, ↓awp_block, ↓awp_exit, ↓awp_ret, ↓then_normal, ↓then_exit, ↓then_ret, ↓block_normal, ↓block_ret, ↓block_exit, ↓round_exit, ↓round_ret, ↓cond_true, cond_true, ↓cond_false, cond_false, ↓onSome_some, onSome_some, ↓aops_nil, ↓aops_cons, ↓aops_guard, ↓kont_app, ↓want_tt, want_tt, ↓want_ff, want_ff, ↓want_tf, want_tf, ↓want_ft, want_ft, ↓want_no, want_no, ↓step_call, ↓step_dyn, ↓step_builtin, ↓step_move, ↓step_assign, ↓step_pick, ↓step_alloc, ↓step_box, ↓step_build, ↓step_buildSlice, ↓step_load, ↓step_store, ↓step_nilCheck, ↓step_binOp, ↓step_unOp, ↓step_convert, ↓step_makeFunc, ↓step_makeSlice, ↓step_slice, ↓step_fieldAddr, ↓step_field, ↓step_indexAddr, ↓step_index, ↓step_extract, ↓dyn_fn, dyn_fn, aop, bm_append, bm_appendM, key_some, cx_muts, List.contains_cons, List.contains_nil, Nat.reduceBEq, Bool.or_false, Bool.false_or, Bool.or_self, bm_len, bm_min, bm_max, ev_tmp, ev_bool, ev_int, ev_str, ev_nilslice, ev_nilptr, ev_func, setA, yieldA, List.replicate, List.cons_append, List.nil_append, List.append_nil, List.set_cons_zero, List.set_cons_succ, List.getD_cons_zero, List.getD_cons_succ, List.getElem?_cons_zero, List.getElem?_cons_succ, List.getElem?_toArray, List.map_cons, List.map_nil, List.length_cons, List.length_nil, List.length_map, Option.bind_some, Option.map_some, Option.map_none, plain, if_true, if_false, Bool.false_eq_true, reduceIte, reduceCtorEq, and_self, and_true, true_and, and_false, false_and, Nat.zero_add, Nat.add_zero, Int.toNat_natCast, Int.natCast_nonneg, binA, binInt, intV, boolV, unA, convA, int_v, nil_nil, nil_sl, nil_own, nil_nown, el_sl, el_own, el_nown, load_ip, load_mp, part_one, part_row, cells_p, cells_own, cells_nown, cells_mp, cells_ip, cells_agg, cells_fn, store_mp, spliceA, fillA, zeroA, nilA, len_sl, len_own, len_nown, len_nil, len_str, List.take, List.drop, Nat.reduceAdd, Nat.reduceMul, Nat.reduceEqDiff, Nat.reduceLeDiff, Nat.reduceLT, St.put, Nat.lt_irrefl, resA, resL, resV, Bool.not_true, Bool.not_false, bne_self_eq_false, beq_self_eq_true, ck_3, cx_3, ck_24, cx_24, ck_40, cx_40, ck_65, cx_65]
  refine awp_loop' (X := { k : Nat // k ≤ zs.length }) (fun k => ([.p x, .any, .any, intV .i64 (sumZ (zs.take k.1) : Nat), intV .i64 (k.1 : Nat), .any, .any, .any, .any, .any, .any, .any, .any, .any, .any, .any, .any, .any, .any, .any, .any], [])) (fun k => zs.length - k.1) ⟨0, by omega⟩ (fun _ => Nat.le_refl _) ?_ ?_
  · simp [Weak, leL, leA, leS, tokLt, sumZ, intV]
  · rintro ⟨k, hk⟩
    have hle := sum_take_le zs k
    by_cases hlt : k < zs.length
    · obtain ⟨z, hzk⟩ : ∃ z, zs[k]? = some z := ⟨zs[k], List.getElem?_eq_getElem hlt⟩
      have hzl := len_isSl (C := cx) (hz z (List.mem_of_getElem? hzk)) ck_24
      have hs := sum_take zs k z hzk
      have hle' := sum_take_le zs (k + 1)
      have hget : (zs.map rowZ)[k]? = some [.v (.bool z.1), z.2] := by simp [hzk, rowZ]
      have hdec : decide ((k : Int) < (zs.length : Int)) = true := by simp; omega
      have hln := hx.len (C := cx) ck_40
      have hel := hx.elems hlt
      simp only [↓pl_done, ↓pl_det, ↓pl_act, ↓pl_two, ↓det_none, det_none, ↓det_some, det_some, ↓act_none, act_none, ↓act_some, act_some, wd_tt, wd_ff, wd_tf, wd_ft, wd_no, wu_tt, wu_ff, wu_tf, wu_ft, wu_no, ↓ku_app, ld_some, st_some, ↓do_load, loadT, tok_mp, tok_ip, mask_nil, mask_cons, unmaskS, ↓do_move, ↓do_assign, ↓do_pick, ↓do_build, ↓do_nilCheck, ↓do_binOp, ↓do_unOp, ↓do_convert, ↓do_makeFunc, ↓do_slice, ↓do_fieldAddr, ↓do_field, ↓do_indexAddr, ↓do_index, ↓do_extract, ↓do_call, ↓awp_draw, ↓awp_seq, ↓awp_skip, ↓awp_region, ↓awp_cond, ↓awp_block, ↓awp_exit, ↓awp_ret, ↓then_normal, ↓then_exit, ↓then_ret, ↓block_normal, ↓block_ret, ↓block_exit, ↓round_exit, ↓round_ret, ↓cond_true, cond_true, ↓cond_false, cond_false, ↓onSome_some, onSome_some, ↓aops_nil, ↓aops_cons, ↓aops_guard, ↓kont_app, ↓want_tt, want_tt, ↓want_ff, want_ff, ↓want_tf, want_tf, ↓want_ft, want_ft, ↓want_no, want_no, ↓step_call, ↓step_dyn, ↓step_builtin, ↓step_move, ↓step_assign, ↓step_pick, ↓step_alloc, ↓step_box, ↓step_build, ↓step_buildSlice, ↓step_load, ↓step_store, ↓step_nilCheck, ↓step_binOp, ↓step_unOp, ↓step_convert, ↓step_makeFunc, ↓step_makeSlice, ↓step_slice, ↓step_fieldAddr, ↓step_field, ↓step_indexAddr, ↓step_index, ↓step_extract, ↓dyn_fn, dyn_fn, aop, bm_append, bm_appendM, key_some, cx_muts, List.contains_cons, List.contains_nil, Nat.reduceBEq, Bool.or_false, Bool.false_or, Bool.or_self, bm_len, bm_min, bm_max, ev_tmp, ev_bool, ev_int, ev_str, ev_nilslice, ev_nilptr, ev_func, setA, yieldA, List.replicate, List.cons_append, List.nil_append, List.append_nil, List.set_cons_zero, List.set_cons_succ, List.getD_cons_zero, List.getD_cons_succ, List.getElem?_cons_zero, List.getElem?_cons_succ, List.getElem?_toArray, List.map_cons, List.map_nil, List.length_cons, List.length_nil, List.length_map, Option.bind_some, Option.map_some, Option.map_none, plain, if_true, if_false, Bool.false_eq_true, reduceIte, reduceCtorEq, and_self, and_true, true_and, and_false, false_and, Nat.zero_add, Nat.add_zero, Int.toNat_natCast, Int.natCast_nonneg, binA, binInt, intV, boolV, unA, convA, int_v, nil_nil, nil_sl, nil_own, nil_nown, el_sl, el_own, el_nown, load_ip, load_mp, part_one, part_row, cells_p, cells_own, cells_nown, cells_mp, cells_ip, cells_agg, cells_fn, store_mp, spliceA, fillA, zeroA, nilA, len_sl, len_own, len_nown, len_nil, len_str, List.take, List.drop, Nat.reduceAdd, Nat.reduceMul, Nat.reduceEqDiff, Nat.reduceLeDiff, Nat.reduceLT, St.put, Nat.lt_irrefl, resA, resL, resV, Bool.not_true, Bool.not_false, bne_self_eq_false, beq_self_eq_true, ck_3, cx_3, ck_24, cx_24, ck_40, cx_40, ck_65, cx_65, hdec, hget, hzl, hln, hel]
      rw [wrap_i64 (n := (k : Int) + 1) (by omega) (by omega), wrap_i64 (n := ((sumZ (zs.take k) : Nat) : Int) + 4) (by omega) (by omega), wrap_i64 (n := ((sumZ (zs.take k) : Nat) : Int) + 4 + (lenP z.2 : Nat)) (by omega) (by omega)]
      refine ⟨⟨k + 1, by omega⟩, by simp; omega, ?_⟩
      simp [Weak, leL, leA, leS, tokLt, intV, hs]
    · have hdec : decide ((k : Int) < (zs.length : Int)) = false := by simp; omega
      have hln := hx.len (C := cx) ck_40
      have hkz : zs.take k = zs := List.take_of_length_le (by omega)
      simp only [↓pl_done, ↓pl_det, ↓pl_act, ↓pl_two, ↓det_none, det_none, ↓det_some, det_some, ↓act_none, act_none, ↓act_some, act_some, wd_tt, wd_ff, wd_tf, wd_ft, wd_no, wu_tt, wu_ff, wu_tf, wu_ft, wu_no, ↓ku_app, ld_some, st_some, ↓do_load, loadT, tok_mp, tok_ip, mask_nil, mask_cons, unmaskS, ↓do_move, ↓do_assign, ↓do_pick, ↓do_build, ↓do_nilCheck, ↓do_binOp, ↓do_unOp, ↓do_convert, ↓do_makeFunc, ↓do_slice, ↓do_fieldAddr, ↓do_field, ↓do_indexAddr, ↓do_index, ↓do_extract, ↓do_call, ↓awp_draw, ↓awp_seq, ↓awp_skip, ↓awp_region, ↓awp_cond, ↓awp_block, ↓awp_exit, ↓awp_ret, ↓then_normal, ↓then_exit, ↓then_ret, ↓block_normal, ↓block_ret, ↓block_exit, ↓round_exit, ↓round_ret, ↓cond_true, cond_true, ↓cond_false, cond_false, ↓onSome_some, onSome_some, ↓aops_nil, ↓aops_cons, ↓aops_guard, ↓kont_app, ↓want_tt, want_tt, ↓want_ff, want_ff, ↓want_tf, want_tf, ↓want_ft, want_ft, ↓want_no, want_no, ↓step_call, ↓step_dyn, ↓step_builtin, ↓step_move, ↓step_assign, ↓step_pick, ↓step_alloc, ↓step_box, ↓step_build, ↓step_buildSlice, ↓step_load, ↓step_store, ↓step_nilCheck, ↓step_binOp, ↓step_unOp, ↓step_convert, ↓step_makeFunc, ↓step_makeSlice, ↓step_slice, ↓step_fieldAddr, ↓step_field, ↓step_indexAddr, ↓step_index, ↓step_extract, ↓dyn_fn, dyn_fn, aop, bm_append, bm_appendM, key_some, cx_muts, List.contains_cons, List.contains_nil, Nat.reduceBEq, Bool.or_false, Bool.false_or, Bool.or_self, bm_len, bm_min, bm_max, ev_tmp, ev_bool, ev_int, ev_str, ev_nilslice, ev_nilptr, ev_func, setA, yieldA, List.replicate, List.cons_append, List.nil_append, List.append_nil, List.set_cons_zero, List.set_cons_succ, List.getD_cons_zero, List.getD_cons_succ, List.getElem?_cons_zero, List.getElem?_cons_succ, List.getElem?_toArray, List.map_cons, List.map_nil, List.length_cons, List.length_nil, List.length_map, Option.bind_some, Option.map_some, Option.map_none, plain, if_true, if_false, Bool.false_eq_true, reduceIte, reduceCtorEq, and_self, and_true, true_and, and_false, false_and, Nat.zero_add, Nat.add_zero, Int.toNat_natCast, Int.natCast_nonneg, binA, binInt, intV, boolV, unA, convA, int_v, nil_nil, nil_sl, nil_own, nil_nown, el_sl, el_own, el_nown, load_ip, load_mp, part_one, part_row, cells_p, cells_own, cells_nown, cells_mp, cells_ip, cells_agg, cells_fn, store_mp, spliceA, fillA, zeroA, nilA, len_sl, len_own, len_nown, len_nil, len_str, List.take, List.drop, Nat.reduceAdd, Nat.reduceMul, Nat.reduceEqDiff, Nat.reduceLeDiff, Nat.reduceLT, St.put, Nat.lt_irrefl, resA, resL, resV, Bool.not_true, Bool.not_false, bne_self_eq_false, beq_self_eq_true, ck_3, cx_3, ck_24, cx_24, ck_40, cx_40, ck_65, cx_65, hdec, hln, hkz]
      exact ret_pure rfl rfl rfl
end Go.Proofs.Ytpfnpinblbfjdaa
