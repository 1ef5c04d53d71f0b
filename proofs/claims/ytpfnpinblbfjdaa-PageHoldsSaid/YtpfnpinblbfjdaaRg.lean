/- The reference's New, Free, Get, with on the abstract machine. -/
import Derived.Test.YtpfnpinblbfjdaaPb
set_option linter.unusedSimpArgs false
set_option linter.unusedVariables false
namespace Go.Proofs.Ytpfnpinblbfjdaa
open Go.RowKit

def BXo (x : PV) : Option (List UInt8) → Prop
  | none => x = .v (.slice none 0 0)
  | some r => BX x r
/-- A slot of the reference's. -/
def SX (z : Bool × PV) (o : Option (List UInt8)) : Prop := z.1 = o.isSome ∧ BXo z.2 o
def SZ (zs : List (Bool × PV)) (ss : List (Option (List UInt8))) : Prop := zs.length = ss.length ∧ ∀ (i : Nat) (z : Bool × PV) (o : Option (List UInt8)), zs[i]? = some z → ss[i]? = some o → SX z o
theorem BXo.isSl {x : PV} {o : Option (List UInt8)} (h : BXo x o) : isSl 1 x := by
  cases o with
  | none => exact .inl h
  | some r =>
    rcases h with h | ⟨h, _⟩
    · exact .inr ⟨_, h⟩
    · exact .inl h
theorem BXo.len {x : PV} {o : Option (List UInt8)} (h : BXo x o) : lenP x = recLen o := by
  cases o with
  | none => rw [h]; rfl
  | some r =>
    rcases h with h | ⟨h, h'⟩
    · rw [h]; simp [lenP, encB, recLen]
    · rw [h, h']; rfl
theorem SZ.get {zs : List (Bool × PV)} {ss : List (Option (List UInt8))} (h : SZ zs ss) {i : Nat} (hi : i < ss.length) : ∃ z, zs[i]? = some z ∧ SX z (ss.getD i none) := by
  have hi' : i < zs.length := by have := h.1; omega
  refine ⟨zs[i], List.getElem?_eq_getElem hi', h.2 i _ _ (List.getElem?_eq_getElem hi') ?_⟩
  simp [hi]
theorem SZ.mem {zs : List (Bool × PV)} {ss : List (Option (List UInt8))} (h : SZ zs ss) : ∀ z ∈ zs, isSl 1 z.2 := by
  intro z hz
  obtain ⟨i, hi⟩ := List.mem_iff_getElem?.1 hz
  have hlt := (List.getElem?_eq_some_iff.1 hi).1
  obtain ⟨z', h1, h2⟩ := h.get (i := i) (by have := h.1; omega)
  rw [hi] at h1; simp at h1; subst h1
  exact h2.2.isSl
theorem SZ.sum : ∀ {zs : List (Bool × PV)} {ss : List (Option (List UInt8))}, SZ zs ss → sumZ zs = costL ss
  | [], [], _ => rfl
  | [], _ :: _, h => by simp [SZ] at h
  | _ :: _, [], h => by simp [SZ] at h
  | z :: zs, o :: ss, h => by
    have h0 := h.2 0 z o rfl rfl
    have ih := SZ.sum (zs := zs) (ss := ss) ⟨by have := h.1; simpa using this, fun i z' o' h1 h2 => h.2 (i + 1) z' o' (by simpa using h1) (by simpa using h2)⟩
    have hl := h0.2.len
    simp only [sumZ, costL, lens, List.map_cons, List.sum_cons, List.length_cons] at ih ⊢
    rw [hl]
    omega
theorem tokLt_agg (n : Nat) (l : List AV) : tokLt n (.agg l) = tokLtL n l := rfl

theorem mod_twice' (k : Int) : (IntKind.i64.wrap (k.tmod 256 + 256)).tmod 256 = k % 256 := by
  have h1 : -256 < k.tmod 256 := Int.lt_tmod_of_pos k (by omega)
  have h2 : k.tmod 256 < 256 := Int.tmod_lt_of_pos k (by omega)
  rw [wrap_i64 (by omega) (by omega), Int.tmod_eq_emod_of_nonneg (by omega), Int.tmod_eq_emod]
  split <;> omega

set_option maxRecDepth 100000 in
set_option maxHeartbeats 1000000 in
theorem arnew (k : Int) (σ : St) : ACalls Try.prog 17 [intV .i64 k] σ fun r σ' => σ' = σ ∧ r = .agg [intV .i64 (k % 256), .p (.v (.slice none 0 0))] := by
  refine ACalls.pure ?_ rfl σ
  refine acalls_of cx_ok dr_ok Try.func17 (by kernel_rfl) rfl (nt := 7) rfl rfl ?_
  have h256 : ¬ ((256 : Int) = 0) := by omega
  have hmod := mod_twice' k
  simp only [↓pl_done, ↓pl_det, ↓pl_act, ↓pl_two, ↓det_none, det_none, ↓det_some, det_some, ↓act_none, act_none, ↓act_some, act_some, wd_tt, wd_ff, wd_tf, wd_ft, wd_no, wu_tt, wu_ff, wu_tf, wu_ft, wu_no, ↓ku_app, ld_some, st_some, ↓do_load, loadT, tok_mp, tok_ip, mask_nil, mask_cons, unmaskS, ↓do_move, ↓do_assign, ↓do_pick, ↓do_build, ↓do_nilCheck, ↓do_binOp, ↓do_unOp, ↓do_convert, ↓do_makeFunc, ↓do_slice, ↓do_fieldAddr, ↓do_field, ↓do_indexAddr, ↓do_index, ↓do_extract, ↓do_call, ↓awp_draw, ↓awp_seq, ↓awp_skip, ↓awp_region, ↓awp_cond, ↓awp_block, ↓awp_exit, ↓awp_ret, ↓then_normal, ↓then_exit, ↓then_ret, ↓block_normal, ↓block_ret, ↓block_exit, ↓round_exit, ↓round_ret, ↓cond_true, cond_true, ↓cond_false, cond_false, ↓onSome_some, onSome_some, ↓aops_nil, ↓aops_cons, ↓aops_guard, ↓kont_app, ↓want_tt, want_tt, ↓want_ff, want_ff, ↓want_tf, want_tf, ↓want_ft, want_ft, ↓want_no, want_no, ↓step_call, ↓step_dyn, ↓step_builtin, ↓step_move, ↓step_assign, ↓step_pick, ↓step_alloc, ↓step_box, ↓step_build, ↓step_buildSlice, ↓step_load, ↓step_store, ↓step_nilCheck, ↓step_binOp, ↓step_unOp, ↓step_convert, ↓step_makeFunc, ↓step_makeSlice, ↓step_slice, ↓step_fieldAddr, ↓step_field, ↓step_indexAddr, ↓step_index, ↓step_extract, ↓dyn_fn, dyn_fn, aop, bm_append, bm_appendM, key_some, cx_muts, List.contains_cons, List.contains_nil, Nat.reduceBEq, Bool.or_false, Bool.false_or, Bool.or_self, bm_len, bm_min, bm_max, ev_tmp, ev_bool, ev_int, ev_str, ev_nilslice, ev_nilptr, ev_func, setA, yieldA, List.replicate, List.cons_append, List.nil_append, List.append_nil, List.set_cons_zero, List.set_cons_succ, List.getD_cons_zero, List.getD_cons_succ, List.getElem?_cons_zero, List.getElem?_cons_succ, List.getElem?_toArray, List.map_cons, List.map_nil, List.length_cons, List.length_nil, List.length_map, Option.bind_some, Option.map_some, Option.map_none, plain, if_true, if_false, Bool.false_eq_true, reduceIte, reduceCtorEq, and_self, and_true, true_and, and_false, false_and, Nat.zero_add, Nat.add_zero, Int.toNat_natCast, Int.natCast_nonneg, binA, binInt, intV, boolV, unA, convA, int_v, nil_nil, nil_sl, nil_own, nil_nown, el_sl, el_own, el_nown, load_ip, load_mp, part_one, part_row, cells_p, cells_own, cells_nown, cells_mp, cells_ip, cells_agg, cells_fn, store_mp, spliceA, fillA, zeroA, nilA, len_sl, len_own, len_nown, len_nil, len_str, List.take, List.drop, Nat.reduceAdd, Nat.reduceMul, Nat.reduceEqDiff, Nat.reduceLeDiff, Nat.reduceLT, St.put, Nat.lt_irrefl, resA, resL, resV, Bool.not_true, Bool.not_false, bne_self_eq_false, beq_self_eq_true, ck_3, cx_3, ck_42, cx_42, h256, hmod]
  exact ret_pure rfl rfl rfl

set_option maxRecDepth 100000 in
set_option maxHeartbeats 1000000 in
theorem arfree (kd : Int) (zs : List (Bool × PV)) (ss : List (Option (List UInt8))) (x : PV) (hx : ZL x zs) (hs : SZ zs ss) (hm : ss.length ≤ 1000) (σ : St) :
    ACalls Try.prog 30 [.agg [intV .i64 kd, .p x]] σ fun r σ' => σ' = σ ∧ r = intV .i64 (freeL ss : Nat) := by
  refine ACalls.pure ?_ rfl σ
  refine acalls_of cx_ok dr_ok Try.func30 (by kernel_rfl) rfl (nt := 21) rfl rfl ?_
  simp only [↓pl_done, ↓pl_det, ↓pl_act, ↓pl_two, ↓det_none, det_none, ↓det_some, det_some, ↓act_none, act_none, ↓act_some, act_some, wd_tt, wd_ff, wd_tf, wd_ft, wd_no, wu_tt, wu_ff, wu_tf, wu_ft, wu_no, ↓ku_app, ld_some, st_some, ↓do_load, loadT, tok_mp, tok_ip, mask_nil, mask_cons, unmaskS, ↓do_move, ↓do_assign, ↓do_pick, ↓do_build, ↓do_nilCheck, ↓do_binOp, ↓do_unOp, ↓do_convert, ↓do_makeFunc, ↓do_slice, ↓do_fieldAddr, ↓do_field, ↓do_indexAddr, ↓do_index, ↓do_extract, ↓do_call, ↓awp_draw, ↓awp_seq, ↓awp_skip, ↓awp_region, ↓awp_cond, ↓awp_block, ↓awp_exit, ↓awp_ret, ↓then_normal, ↓then_exit, ↓then_ret, ↓block_normal, ↓block_ret, ↓block_exit, ↓round_exit, ↓round_ret, ↓cond_true, cond_true, ↓cond_false, cond_false, ↓onSome_some, onSome_some, ↓aops_nil, ↓aops_cons, ↓aops_guard, ↓kont_app, ↓want_tt, want_tt, ↓want_ff, want_ff, ↓want_tf, want_tf, ↓want_ft, want_ft, ↓want_no, want_no, ↓step_call, ↓step_dyn, ↓step_builtin, ↓step_move, ↓step_assign, ↓step_pick, ↓step_alloc, ↓step_box, ↓step_build, ↓step_buildSlice, ↓step_load, ↓step_store, ↓step_nilCheck, ↓step_binOp, ↓step_unOp, ↓step_convert, ↓step_makeFunc, ↓step_makeSlice, ↓step_slice, ↓step_fieldAddr, ↓step_field, ↓step_indexAddr, ↓step_index, ↓step_extract, ↓dyn_fn, dyn_fn, aop, bm_append, bm_appendM, key_some, cx_muts, List.contains_cons, List.contains_nil, Nat.reduceBEq, Bool.or_false, Bool.false_or, Bool.or_self, bm_len, bm_min, bm_max, ev_tmp, ev_bool, ev_int, ev_str, ev_nilslice, ev_nilptr, ev_func, setA, yieldA, List.replicate, List.cons_append, List.nil_append, List.append_nil, List.set_cons_zero, List.set_cons_succ, List.getD_cons_zero, List.getD_cons_succ, List.getElem?_cons_zero, List.getElem?_cons_succ, List.getElem?_toArray, List.map_cons, List.map_nil, List.length_cons, List.length_nil, List.length_map, Option.bind_some, Option.map_some, Option.map_none, plain, if_true, if_false, Bool.false_eq_true, reduceIte, reduceCtorEq, and_self, and_true, true_and, and_false, false_and, Nat.zero_add, Nat.add_zero, Int.toNat_natCast, Int.natCast_nonneg, binA, binInt, intV, boolV, unA, convA, int_v, nil_nil, nil_sl, nil_own, nil_nown, el_sl, el_own, el_nown, load_ip, load_mp, part_one, part_row, cells_p, cells_own, cells_nown, cells_mp, cells_ip, cells_agg, cells_fn, store_mp, spliceA, fillA, zeroA, nilA, len_sl, len_own, len_nown, len_nil, len_str, List.take, List.drop, Nat.reduceAdd, Nat.reduceMul, Nat.reduceEqDiff, Nat.reduceLeDiff, Nat.reduceLT, St.put, Nat.lt_irrefl, resA, resL, resV, Bool.not_true, Bool.not_false, bne_self_eq_false, beq_self_eq_true, ck_3, cx_3, ck_4, cx_4, ck_40, cx_40, ck_42, cx_42, ck_65, cx_65]
  refine awp_loop' (X := { k : Nat // k ≤ ss.length ∧ ∀ j, j < k → ss.getD j none ≠ none }) (fun k => ([.any, .mp 0 2 0 0, .any, intV .i64 (k.1 : Nat), .any, .any, .any, .any, .any, .any, .any, .any, .any, .any, .any, .any, .any, .any, .any, .any, .any, .any], [some (.row 2 [[intV .i64 kd, .p x]])])) (fun k => ss.length - k.1) ⟨0, by omega, fun j hj => by omega⟩ (fun _ => Nat.le_refl _) ?_ ?_
  · simp [Weak, leL, leA, leS, leO, tokLt, tokLtL, intV]
  · rintro ⟨k, hk, hb⟩
    have hzl := hs.1
    have hln := hx.len (C := cx) ck_40
    by_cases hlt : k < ss.length
    · obtain ⟨z, hzk, hsx⟩ := hs.get hlt
      have hget : (zs.map rowZ)[k]? = some [.v (.bool z.1), z.2] := by simp [hzk, rowZ]
      have hdec : decide ((k : Int) < (zs.length : Int)) = true := by simp; omega
      have hel := hx.elems (k := k) (by omega)
      cases ho : ss.getD k none with
      | none =>
        have hz1 : z.1 = false := by rw [hsx.1, ho]; rfl
        rw [hz1] at hget
        have hfr := freeL_at hlt ho hb
        simp only [↓pl_done, ↓pl_det, ↓pl_act, ↓pl_two, ↓det_none, det_none, ↓det_some, det_some, ↓act_none, act_none, ↓act_some, act_some, wd_tt, wd_ff, wd_tf, wd_ft, wd_no, wu_tt, wu_ff, wu_tf, wu_ft, wu_no, ↓ku_app, ld_some, st_some, ↓do_load, loadT, tok_mp, tok_ip, mask_nil, mask_cons, unmaskS, ↓do_move, ↓do_assign, ↓do_pick, ↓do_build, ↓do_nilCheck, ↓do_binOp, ↓do_unOp, ↓do_convert, ↓do_makeFunc, ↓do_slice, ↓do_fieldAddr, ↓do_field, ↓do_indexAddr, ↓do_index, ↓do_extract, ↓do_call, ↓awp_draw, ↓awp_seq, ↓awp_skip, ↓awp_region, ↓awp_cond, ↓awp_block, ↓awp_exit, ↓awp_ret, ↓then_normal, ↓then_exit, ↓then_ret, ↓block_normal, ↓block_ret, ↓block_exit, ↓round_exit, ↓round_ret, ↓cond_true, cond_true, ↓cond_false, cond_false, ↓onSome_some, onSome_some, ↓aops_nil, ↓aops_cons, ↓aops_guard, ↓kont_app, ↓want_tt, want_tt, ↓want_ff, want_ff, ↓want_tf, want_tf, ↓want_ft, want_ft, ↓want_no, want_no, ↓step_call, ↓step_dyn, ↓step_builtin, ↓step_move, ↓step_assign, ↓step_pick, ↓step_alloc, ↓step_box, ↓step_build, ↓step_buildSlice, ↓step_load, ↓step_store, ↓step_nilCheck, ↓step_binOp, ↓step_unOp, ↓step_convert, ↓step_makeFunc, ↓step_makeSlice, ↓step_slice, ↓step_fieldAddr, ↓step_field, ↓step_indexAddr, ↓step_index, ↓step_extract, ↓dyn_fn, dyn_fn, aop, bm_append, bm_appendM, key_some, cx_muts, List.contains_cons, List.contains_nil, Nat.reduceBEq, Bool.or_false, Bool.false_or, Bool.or_self, bm_len, bm_min, bm_max, ev_tmp, ev_bool, ev_int, ev_str, ev_nilslice, ev_nilptr, ev_func, setA, yieldA, List.replicate, List.cons_append, List.nil_append, List.append_nil, List.set_cons_zero, List.set_cons_succ, List.getD_cons_zero, List.getD_cons_succ, List.getElem?_cons_zero, List.getElem?_cons_succ, List.getElem?_toArray, List.map_cons, List.map_nil, List.length_cons, List.length_nil, List.length_map, Option.bind_some, Option.map_some, Option.map_none, plain, if_true, if_false, Bool.false_eq_true, reduceIte, reduceCtorEq, and_self, and_true, true_and, and_false, false_and, Nat.zero_add, Nat.add_zero, Int.toNat_natCast, Int.natCast_nonneg, binA, binInt, intV, boolV, unA, convA, int_v, nil_nil, nil_sl, nil_own, nil_nown, el_sl, el_own, el_nown, load_ip, load_mp, part_one, part_row, cells_p, cells_own, cells_nown, cells_mp, cells_ip, cells_agg, cells_fn, store_mp, spliceA, fillA, zeroA, nilA, len_sl, len_own, len_nown, len_nil, len_str, List.take, List.drop, Nat.reduceAdd, Nat.reduceMul, Nat.reduceEqDiff, Nat.reduceLeDiff, Nat.reduceLT, St.put, Nat.lt_irrefl, resA, resL, resV, Bool.not_true, Bool.not_false, bne_self_eq_false, beq_self_eq_true, ck_3, cx_3, ck_4, cx_4, ck_40, cx_40, ck_42, cx_42, ck_65, cx_65, hdec, hget, hln, hel]
        rw [hfr]
        exact ret_pure rfl rfl rfl
      | some r =>
        have hz1 : z.1 = true := by rw [hsx.1, ho]; rfl
        rw [hz1] at hget
        simp only [↓pl_done, ↓pl_det, ↓pl_act, ↓pl_two, ↓det_none, det_none, ↓det_some, det_some, ↓act_none, act_none, ↓act_some, act_some, wd_tt, wd_ff, wd_tf, wd_ft, wd_no, wu_tt, wu_ff, wu_tf, wu_ft, wu_no, ↓ku_app, ld_some, st_some, ↓do_load, loadT, tok_mp, tok_ip, mask_nil, mask_cons, unmaskS, ↓do_move, ↓do_assign, ↓do_pick, ↓do_build, ↓do_nilCheck, ↓do_binOp, ↓do_unOp, ↓do_convert, ↓do_makeFunc, ↓do_slice, ↓do_fieldAddr, ↓do_field, ↓do_indexAddr, ↓do_index, ↓do_extract, ↓do_call, ↓awp_draw, ↓awp_seq, ↓awp_skip, ↓awp_region, ↓awp_cond, ↓awp_block, ↓awp_exit, ↓awp_ret, ↓then_normal, ↓then_exit, ↓then_ret, ↓block_normal, ↓block_ret, ↓block_exit, ↓round_exit, ↓round_ret, ↓cond_true, cond_true, ↓cond_false, cond_false, ↓onSome_some, onSome_some, ↓aops_nil, ↓aops_cons, ↓aops_guard, ↓kont_app, ↓want_tt, want_tt, ↓want_ff, want_ff, ↓want_tf, want_tf, ↓want_ft, want_ft, ↓want_no, want_no, ↓step_call, ↓step_dyn, ↓step_builtin, ↓step_move, ↓step_assign, ↓step_pick, ↓step_alloc, ↓step_box, ↓step_build, ↓step_buildSlice, ↓step_load, ↓step_store, ↓step_nilCheck, ↓step_binOp, ↓step_unOp, ↓step_convert, ↓step_makeFunc, ↓step_makeSlice, ↓step_slice, ↓step_fieldAddr, ↓step_field, ↓step_indexAddr, ↓step_index, ↓step_extract, ↓dyn_fn, dyn_fn, aop, bm_append, bm_appendM, key_some, cx_muts, List.contains_cons, List.contains_nil, Nat.reduceBEq, Bool.or_false, Bool.false_or, Bool.or_self, bm_len, bm_min, bm_max, ev_tmp, ev_bool, ev_int, ev_str, ev_nilslice, ev_nilptr, ev_func, setA, yieldA, List.replicate, List.cons_append, List.nil_append, List.append_nil, List.set_cons_zero, List.set_cons_succ, List.getD_cons_zero, List.getD_cons_succ, List.getElem?_cons_zero, List.getElem?_cons_succ, List.getElem?_toArray, List.map_cons, List.map_nil, List.length_cons, List.length_nil, List.length_map, Option.bind_some, Option.map_some, Option.map_none, plain, if_true, if_false, Bool.false_eq_true, reduceIte, reduceCtorEq, and_self, and_true, true_and, and_false, false_and, Nat.zero_add, Nat.add_zero, Int.toNat_natCast, Int.natCast_nonneg, binA, binInt, intV, boolV, unA, convA, int_v, nil_nil, nil_sl, nil_own, nil_nown, el_sl, el_own, el_nown, load_ip, load_mp, part_one, part_row, cells_p, cells_own, cells_nown, cells_mp, cells_ip, cells_agg, cells_fn, store_mp, spliceA, fillA, zeroA, nilA, len_sl, len_own, len_nown, len_nil, len_str, List.take, List.drop, Nat.reduceAdd, Nat.reduceMul, Nat.reduceEqDiff, Nat.reduceLeDiff, Nat.reduceLT, St.put, Nat.lt_irrefl, resA, resL, resV, Bool.not_true, Bool.not_false, bne_self_eq_false, beq_self_eq_true, ck_3, cx_3, ck_4, cx_4, ck_40, cx_40, ck_42, cx_42, ck_65, cx_65, hdec, hget, hln, hel]
        rw [wrap_i64 (n := (k : Int) + 1) (by omega) (by omega)]
        refine ⟨⟨k + 1, by omega, fun j hj => ?_⟩, by simp; omega, ?_⟩
        · by_cases hjk : j = k
          · subst hjk; rw [ho]; simp
          · exact hb j (by omega)
        · simp [Weak, leL, leA, leS, leO, tokLt, tokLtL, intV]
    · have hdec : decide ((k : Int) < (zs.length : Int)) = false := by simp; omega
      have hfr := freeL_none (ss := ss) fun j hj => hb j (by omega)
      simp only [↓pl_done, ↓pl_det, ↓pl_act, ↓pl_two, ↓det_none, det_none, ↓det_some, det_some, ↓act_none, act_none, ↓act_some, act_some, wd_tt, wd_ff, wd_tf, wd_ft, wd_no, wu_tt, wu_ff, wu_tf, wu_ft, wu_no, ↓ku_app, ld_some, st_some, ↓do_load, loadT, tok_mp, tok_ip, mask_nil, mask_cons, unmaskS, ↓do_move, ↓do_assign, ↓do_pick, ↓do_build, ↓do_nilCheck, ↓do_binOp, ↓do_unOp, ↓do_convert, ↓do_makeFunc, ↓do_slice, ↓do_fieldAddr, ↓do_field, ↓do_indexAddr, ↓do_index, ↓do_extract, ↓do_call, ↓awp_draw, ↓awp_seq, ↓awp_skip, ↓awp_region, ↓awp_cond, ↓awp_block, ↓awp_exit, ↓awp_ret, ↓then_normal, ↓then_exit, ↓then_ret, ↓block_normal, ↓block_ret, ↓block_exit, ↓round_exit, ↓round_ret, ↓cond_true, cond_true, ↓cond_false, cond_false, ↓onSome_some, onSome_some, ↓aops_nil, ↓aops_cons, ↓aops_guard, ↓kont_app, ↓want_tt, want_tt, ↓want_ff, want_ff, ↓want_tf, want_tf, ↓want_ft, want_ft, ↓want_no, want_no, ↓step_call, ↓step_dyn, ↓step_builtin, ↓step_move, ↓step_assign, ↓step_pick, ↓step_alloc, ↓step_box, ↓step_build, ↓step_buildSlice, ↓step_load, ↓step_store, ↓step_nilCheck, ↓step_binOp, ↓step_unOp, ↓step_convert, ↓step_makeFunc, ↓step_makeSlice, ↓step_slice, ↓step_fieldAddr, ↓step_field, ↓step_indexAddr, ↓step_index, ↓step_extract, ↓dyn_fn, dyn_fn, aop, bm_append, bm_appendM, key_some, cx_muts, List.contains_cons, List.contains_nil, Nat.reduceBEq, Bool.or_false, Bool.false_or, Bool.or_self, bm_len, bm_min, bm_max, ev_tmp, ev_bool, ev_int, ev_str, ev_nilslice, ev_nilptr, ev_func, setA, yieldA, List.replicate, List.cons_append, List.nil_append, List.append_nil, List.set_cons_zero, List.set_cons_succ, List.getD_cons_zero, List.getD_cons_succ, List.getElem?_cons_zero, List.getElem?_cons_succ, List.getElem?_toArray, List.map_cons, List.map_nil, List.length_cons, List.length_nil, List.length_map, Option.bind_some, Option.map_some, Option.map_none, plain, if_true, if_false, Bool.false_eq_true, reduceIte, reduceCtorEq, and_self, and_true, true_and, and_false, false_and, Nat.zero_add, Nat.add_zero, Int.toNat_natCast, Int.natCast_nonneg, binA, binInt, intV, boolV, unA, convA, int_v, nil_nil, nil_sl, nil_own, nil_nown, el_sl, el_own, el_nown, load_ip, load_mp, part_one, part_row, cells_p, cells_own, cells_nown, cells_mp, cells_ip, cells_agg, cells_fn, store_mp, spliceA, fillA, zeroA, nilA, len_sl, len_own, len_nown, len_nil, len_str, List.take, List.drop, Nat.reduceAdd, Nat.reduceMul, Nat.reduceEqDiff, Nat.reduceLeDiff, Nat.reduceLT, St.put, Nat.lt_irrefl, resA, resL, resV, Bool.not_true, Bool.not_false, bne_self_eq_false, beq_self_eq_true, ck_3, cx_3, ck_4, cx_4, ck_40, cx_40, ck_42, cx_42, ck_65, cx_65, hdec, hln]
      rw [hfr, ← hzl]
      exact ret_pure rfl rfl rfl

/-- What the reference has in a slot. -/
def getO (ss : List (Option (List UInt8))) (k : Int) : Option (List UInt8) := if k < 0 then none else ss.getD k.toNat none
theorem BXo.tok {x : PV} : tokLt 0 (.p x) = true := rfl

set_option maxRecDepth 100000 in
set_option maxHeartbeats 1000000 in
theorem arget (kd k : Int) (zs : List (Bool × PV)) (ss : List (Option (List UInt8))) (x : PV) (hx : ZL x zs) (hs : SZ zs ss) (σ : St) :
    ACalls Try.prog 33 [.agg [intV .i64 kd, .p x], intV .i64 k] σ fun r σ' => σ' = σ ∧ ∃ y, BXo y (getO ss k) ∧ r = .tup [.p y, boolV (getO ss k).isSome] := by
  refine ACalls.pure ?_ rfl σ
  have hln := hx.len (C := cx) ck_40
  have hzl := hs.1
  refine acalls_of cx_ok dr_ok Try.func33 (by kernel_rfl) rfl (nt := 28) rfl rfl ?_
  by_cases h0 : k < 0
  · have hdec : decide (k < 0) = true := by simp [h0]
    have ho : getO ss k = none := by simp [getO, h0]
    rw [ho]
    simp only [↓pl_done, ↓pl_det, ↓pl_act, ↓pl_two, ↓det_none, det_none, ↓det_some, det_some, ↓act_none, act_none, ↓act_some, act_some, wd_tt, wd_ff, wd_tf, wd_ft, wd_no, wu_tt, wu_ff, wu_tf, wu_ft, wu_no, ↓ku_app, ld_some, st_some, ↓do_load, loadT, tok_mp, tok_ip, mask_nil, mask_cons, unmaskS, ↓do_move, ↓do_assign, ↓do_pick, ↓do_build, ↓do_nilCheck, ↓do_binOp, ↓do_unOp, ↓do_convert, ↓do_makeFunc, ↓do_slice, ↓do_fieldAddr, ↓do_field, ↓do_indexAddr, ↓do_index, ↓do_extract, ↓do_call, ↓awp_draw, ↓awp_seq, ↓awp_skip, ↓awp_region, ↓awp_cond, ↓awp_block, ↓awp_exit, ↓awp_ret, ↓then_normal, ↓then_exit, ↓then_ret, ↓block_normal, ↓block_ret, ↓block_exit, ↓round_exit, ↓round_ret, ↓cond_true, cond_true, ↓cond_false, cond_false, ↓onSome_some, onSome_some, ↓aops_nil, ↓aops_cons, ↓aops_guard, ↓kont_app, ↓want_tt, want_tt, ↓want_ff, want_ff, ↓want_tf, want_tf, ↓want_ft, want_ft, ↓want_no, want_no, ↓step_call, ↓step_dyn, ↓step_builtin, ↓step_move, ↓step_assign, ↓step_pick, ↓step_alloc, ↓step_box, ↓step_build, ↓step_buildSlice, ↓step_load, ↓step_store, ↓step_nilCheck, ↓step_binOp, ↓step_unOp, ↓step_convert, ↓step_makeFunc, ↓step_makeSlice, ↓step_slice, ↓step_fieldAddr, ↓step_field, ↓step_indexAddr, ↓step_index, ↓step_extract, ↓dyn_fn, dyn_fn, aop, bm_append, bm_appendM, key_some, cx_muts, List.contains_cons, List.contains_nil, Nat.reduceBEq, Bool.or_false, Bool.false_or, Bool.or_self, bm_len, bm_min, bm_max, ev_tmp, ev_bool, ev_int, ev_str, ev_nilslice, ev_nilptr, ev_func, setA, yieldA, List.replicate, List.cons_append, List.nil_append, List.append_nil, List.set_cons_zero, List.set_cons_succ, List.getD_cons_zero, List.getD_cons_succ, List.getElem?_cons_zero, List.getElem?_cons_succ, List.getElem?_toArray, List.map_cons, List.map_nil, List.length_cons, List.length_nil, List.length_map, Option.bind_some, Option.map_some, Option.map_none, plain, if_true, if_false, Bool.false_eq_true, reduceIte, reduceCtorEq, and_self, and_true, true_and, and_false, false_and, Nat.zero_add, Nat.add_zero, Int.toNat_natCast, Int.natCast_nonneg, binA, binInt, intV, boolV, unA, convA, int_v, nil_nil, nil_sl, nil_own, nil_nown, el_sl, el_own, el_nown, load_ip, load_mp, part_one, part_row, cells_p, cells_own, cells_nown, cells_mp, cells_ip, cells_agg, cells_fn, store_mp, spliceA, fillA, zeroA, nilA, len_sl, len_own, len_nown, len_nil, len_str, List.take, List.drop, Nat.reduceAdd, Nat.reduceMul, Nat.reduceEqDiff, Nat.reduceLeDiff, Nat.reduceLT, St.put, Nat.lt_irrefl, resA, resL, resV, Bool.not_true, Bool.not_false, bne_self_eq_false, beq_self_eq_true, ck_3, cx_3, ck_4, cx_4, ck_24, cx_24, ck_40, cx_40, ck_42, cx_42, ck_65, cx_65, hdec]
    exact ret_pure rfl rfl ⟨_, rfl, rfl⟩
  · have hdec : decide (k < 0) = false := by simp; omega
    by_cases h1 : k < (zs.length : Int)
    · obtain ⟨j, rfl⟩ : ∃ j : Nat, k = j := ⟨k.toNat, by omega⟩
      have hdec1 : decide ((zs.length : Int) ≤ (j : Int)) = false := by simp; omega
      obtain ⟨z, hzk, hsx⟩ := hs.get (i := j) (by omega)
      have hget : (zs.map rowZ)[j]? = some [.v (.bool z.1), z.2] := by simp [hzk, rowZ]
      have hel := hx.elems (k := j) (by omega)
      have ho : getO ss j = ss.getD j none := by simp [getO, h0]
      rw [ho]
      cases hoo : ss.getD j none with
      | none =>
        have hz1 : z.1 = false := by rw [hsx.1, hoo]; rfl
        rw [hz1] at hget
        simp only [↓pl_done, ↓pl_det, ↓pl_act, ↓pl_two, ↓det_none, det_none, ↓det_some, det_some, ↓act_none, act_none, ↓act_some, act_some, wd_tt, wd_ff, wd_tf, wd_ft, wd_no, wu_tt, wu_ff, wu_tf, wu_ft, wu_no, ↓ku_app, ld_some, st_some, ↓do_load, loadT, tok_mp, tok_ip, mask_nil, mask_cons, unmaskS, ↓do_move, ↓do_assign, ↓do_pick, ↓do_build, ↓do_nilCheck, ↓do_binOp, ↓do_unOp, ↓do_convert, ↓do_makeFunc, ↓do_slice, ↓do_fieldAddr, ↓do_field, ↓do_indexAddr, ↓do_index, ↓do_extract, ↓do_call, ↓awp_draw, ↓awp_seq, ↓awp_skip, ↓awp_region, ↓awp_cond, ↓awp_block, ↓awp_exit, ↓awp_ret, ↓then_normal, ↓then_exit, ↓then_ret, ↓block_normal, ↓block_ret, ↓block_exit, ↓round_exit, ↓round_ret, ↓cond_true, cond_true, ↓cond_false, cond_false, ↓onSome_some, onSome_some, ↓aops_nil, ↓aops_cons, ↓aops_guard, ↓kont_app, ↓want_tt, want_tt, ↓want_ff, want_ff, ↓want_tf, want_tf, ↓want_ft, want_ft, ↓want_no, want_no, ↓step_call, ↓step_dyn, ↓step_builtin, ↓step_move, ↓step_assign, ↓step_pick, ↓step_alloc, ↓step_box, ↓step_build, ↓step_buildSlice, ↓step_load, ↓step_store, ↓step_nilCheck, ↓step_binOp, ↓step_unOp, ↓step_convert, ↓step_makeFunc, ↓step_makeSlice, ↓step_slice, ↓step_fieldAddr, ↓step_field, ↓step_indexAddr, ↓step_index, ↓step_extract, ↓dyn_fn, dyn_fn, aop, bm_append, bm_appendM, key_some, cx_muts, List.contains_cons, List.contains_nil, Nat.reduceBEq, Bool.or_false, Bool.false_or, Bool.or_self, bm_len, bm_min, bm_max, ev_tmp, ev_bool, ev_int, ev_str, ev_nilslice, ev_nilptr, ev_func, setA, yieldA, List.replicate, List.cons_append, List.nil_append, List.append_nil, List.set_cons_zero, List.set_cons_succ, List.getD_cons_zero, List.getD_cons_succ, List.getElem?_cons_zero, List.getElem?_cons_succ, List.getElem?_toArray, List.map_cons, List.map_nil, List.length_cons, List.length_nil, List.length_map, Option.bind_some, Option.map_some, Option.map_none, plain, if_true, if_false, Bool.false_eq_true, reduceIte, reduceCtorEq, and_self, and_true, true_and, and_false, false_and, Nat.zero_add, Nat.add_zero, Int.toNat_natCast, Int.natCast_nonneg, binA, binInt, intV, boolV, unA, convA, int_v, nil_nil, nil_sl, nil_own, nil_nown, el_sl, el_own, el_nown, load_ip, load_mp, part_one, part_row, cells_p, cells_own, cells_nown, cells_mp, cells_ip, cells_agg, cells_fn, store_mp, spliceA, fillA, zeroA, nilA, len_sl, len_own, len_nown, len_nil, len_str, List.take, List.drop, Nat.reduceAdd, Nat.reduceMul, Nat.reduceEqDiff, Nat.reduceLeDiff, Nat.reduceLT, St.put, Nat.lt_irrefl, resA, resL, resV, Bool.not_true, Bool.not_false, bne_self_eq_false, beq_self_eq_true, ck_3, cx_3, ck_4, cx_4, ck_24, cx_24, ck_40, cx_40, ck_42, cx_42, ck_65, cx_65, hdec, hdec1, hget, hln, hel]
        exact ret_pure rfl rfl ⟨_, rfl, rfl⟩
      | some r =>
        have hz1 : z.1 = true := by rw [hsx.1, hoo]; rfl
        rw [hz1] at hget
        have hz2 := hsx.2
        rw [hoo] at hz2
        simp only [↓pl_done, ↓pl_det, ↓pl_act, ↓pl_two, ↓det_none, det_none, ↓det_some, det_some, ↓act_none, act_none, ↓act_some, act_some, wd_tt, wd_ff, wd_tf, wd_ft, wd_no, wu_tt, wu_ff, wu_tf, wu_ft, wu_no, ↓ku_app, ld_some, st_some, ↓do_load, loadT, tok_mp, tok_ip, mask_nil, mask_cons, unmaskS, ↓do_move, ↓do_assign, ↓do_pick, ↓do_build, ↓do_nilCheck, ↓do_binOp, ↓do_unOp, ↓do_convert, ↓do_makeFunc, ↓do_slice, ↓do_fieldAddr, ↓do_field, ↓do_indexAddr, ↓do_index, ↓do_extract, ↓do_call, ↓awp_draw, ↓awp_seq, ↓awp_skip, ↓awp_region, ↓awp_cond, ↓awp_block, ↓awp_exit, ↓awp_ret, ↓then_normal, ↓then_exit, ↓then_ret, ↓block_normal, ↓block_ret, ↓block_exit, ↓round_exit, ↓round_ret, ↓cond_true, cond_true, ↓cond_false, cond_false, ↓onSome_some, onSome_some, ↓aops_nil, ↓aops_cons, ↓aops_guard, ↓kont_app, ↓want_tt, want_tt, ↓want_ff, want_ff, ↓want_tf, want_tf, ↓want_ft, want_ft, ↓want_no, want_no, ↓step_call, ↓step_dyn, ↓step_builtin, ↓step_move, ↓step_assign, ↓step_pick, ↓step_alloc, ↓step_box, ↓step_build, ↓step_buildSlice, ↓step_load, ↓step_store, ↓step_nilCheck, ↓step_binOp, ↓step_unOp, ↓step_convert, ↓step_makeFunc, ↓step_makeSlice, ↓step_slice, ↓step_fieldAddr, ↓step_field, ↓step_indexAddr, ↓step_index, ↓step_extract, ↓dyn_fn, dyn_fn, aop, bm_append, bm_appendM, key_some, cx_muts, List.contains_cons, List.contains_nil, Nat.reduceBEq, Bool.or_false, Bool.false_or, Bool.or_self, bm_len, bm_min, bm_max, ev_tmp, ev_bool, ev_int, ev_str, ev_nilslice, ev_nilptr, ev_func, setA, yieldA, List.replicate, List.cons_append, List.nil_append, List.append_nil, List.set_cons_zero, List.set_cons_succ, List.getD_cons_zero, List.getD_cons_succ, List.getElem?_cons_zero, List.getElem?_cons_succ, List.getElem?_toArray, List.map_cons, List.map_nil, List.length_cons, List.length_nil, List.length_map, Option.bind_some, Option.map_some, Option.map_none, plain, if_true, if_false, Bool.false_eq_true, reduceIte, reduceCtorEq, and_self, and_true, true_and, and_false, false_and, Nat.zero_add, Nat.add_zero, Int.toNat_natCast, Int.natCast_nonneg, binA, binInt, intV, boolV, unA, convA, int_v, nil_nil, nil_sl, nil_own, nil_nown, el_sl, el_own, el_nown, load_ip, load_mp, part_one, part_row, cells_p, cells_own, cells_nown, cells_mp, cells_ip, cells_agg, cells_fn, store_mp, spliceA, fillA, zeroA, nilA, len_sl, len_own, len_nown, len_nil, len_str, List.take, List.drop, Nat.reduceAdd, Nat.reduceMul, Nat.reduceEqDiff, Nat.reduceLeDiff, Nat.reduceLT, St.put, Nat.lt_irrefl, resA, resL, resV, Bool.not_true, Bool.not_false, bne_self_eq_false, beq_self_eq_true, ck_3, cx_3, ck_4, cx_4, ck_24, cx_24, ck_40, cx_40, ck_42, cx_42, ck_65, cx_65, hdec, hdec1, hget, hln, hel]
        exact ret_pure rfl rfl ⟨_, hz2, rfl⟩
    · have hdec1 : decide ((zs.length : Int) ≤ k) = true := by simp; omega
      have ho : getO ss k = none := by
        simp only [getO, h0, if_false, List.getD_eq_getElem?_getD]
        rw [List.getElem?_eq_none (by omega)]; rfl
      rw [ho]
      simp only [↓pl_done, ↓pl_det, ↓pl_act, ↓pl_two, ↓det_none, det_none, ↓det_some, det_some, ↓act_none, act_none, ↓act_some, act_some, wd_tt, wd_ff, wd_tf, wd_ft, wd_no, wu_tt, wu_ff, wu_tf, wu_ft, wu_no, ↓ku_app, ld_some, st_some, ↓do_load, loadT, tok_mp, tok_ip, mask_nil, mask_cons, unmaskS, ↓do_move, ↓do_assign, ↓do_pick, ↓do_build, ↓do_nilCheck, ↓do_binOp, ↓do_unOp, ↓do_convert, ↓do_makeFunc, ↓do_slice, ↓do_fieldAddr, ↓do_field, ↓do_indexAddr, ↓do_index, ↓do_extract, ↓do_call, ↓awp_draw, ↓awp_seq, ↓awp_skip, ↓awp_region, ↓awp_cond, ↓awp_block, ↓awp_exit, ↓awp_ret, ↓then_normal, ↓then_exit, ↓then_ret, ↓block_normal, ↓block_ret, ↓block_exit, ↓round_exit, ↓round_ret, ↓cond_true, cond_true, ↓cond_false, cond_false, ↓onSome_some, onSome_some, ↓aops_nil, ↓aops_cons, ↓aops_guard, ↓kont_app, ↓want_tt, want_tt, ↓want_ff, want_ff, ↓want_tf, want_tf, ↓want_ft, want_ft, ↓want_no, want_no, ↓step_call, ↓step_dyn, ↓step_builtin, ↓step_move, ↓step_assign, ↓step_pick, ↓step_alloc, ↓step_box, ↓step_build, ↓step_buildSlice, ↓step_load, ↓step_store, ↓step_nilCheck, ↓step_binOp, ↓step_unOp, ↓step_convert, ↓step_makeFunc, ↓step_makeSlice, ↓step_slice, ↓step_fieldAddr, ↓step_field, ↓step_indexAddr, ↓step_index, ↓step_extract, ↓dyn_fn, dyn_fn, aop, bm_append, bm_appendM, key_some, cx_muts, List.contains_cons, List.contains_nil, Nat.reduceBEq, Bool.or_false, Bool.false_or, Bool.or_self, bm_len, bm_min, bm_max, ev_tmp, ev_bool, ev_int, ev_str, ev_nilslice, ev_nilptr, ev_func, setA, yieldA, List.replicate, List.cons_append, List.nil_append, List.append_nil, List.set_cons_zero, List.set_cons_succ, List.getD_cons_zero, List.getD_cons_succ, List.getElem?_cons_zero, List.getElem?_cons_succ, List.getElem?_toArray, List.map_cons, List.map_nil, List.length_cons, List.length_nil, List.length_map, Option.bind_some, Option.map_some, Option.map_none, plain, if_true, if_false, Bool.false_eq_true, reduceIte, reduceCtorEq, and_self, and_true, true_and, and_false, false_and, Nat.zero_add, Nat.add_zero, Int.toNat_natCast, Int.natCast_nonneg, binA, binInt, intV, boolV, unA, convA, int_v, nil_nil, nil_sl, nil_own, nil_nown, el_sl, el_own, el_nown, load_ip, load_mp, part_one, part_row, cells_p, cells_own, cells_nown, cells_mp, cells_ip, cells_agg, cells_fn, store_mp, spliceA, fillA, zeroA, nilA, len_sl, len_own, len_nown, len_nil, len_str, List.take, List.drop, Nat.reduceAdd, Nat.reduceMul, Nat.reduceEqDiff, Nat.reduceLeDiff, Nat.reduceLT, St.put, Nat.lt_irrefl, resA, resL, resV, Bool.not_true, Bool.not_false, bne_self_eq_false, beq_self_eq_true, ck_3, cx_3, ck_4, cx_4, ck_24, cx_24, ck_40, cx_40, ck_42, cx_42, ck_65, cx_65, hdec, hdec1, hln]
      exact ret_pure rfl rfl ⟨_, rfl, rfl⟩

theorem PRep.nil {w : World} {I : Nat → Nat → Prop} {u : Value} (h : PRep w I (.v (.slice none 0 0)) u) : u = .slice none 0 0 := by
  simp only [PRep] at h; exact h.2
theorem arwith (k : Nat) (zs : List (Bool × PV)) (ss : List (Option (List UInt8))) (x : PV) (z : Bool × PV) (o : Option (List UInt8)) (hx : ZL x zs) (hs : SZ zs ss) (hz : SX z o) (hk : k ≤ ss.length) (hm : ss.length ≤ 1000) (σ : St) :
    ACalls Try.prog 31 [.p x, intV .i64 (k : Nat), .agg [boolV z.1, .p z.2]] σ fun r σ' => σ' = σ ∧ ∃ zs', SZ zs' (trimL (wL ss k o)) ∧ r = .p (.sl 2 (zs'.map rowZ)) :=
  ACalls.of_calls (en _ (by kernel_rfl)) fun M vs hM hv => by
    obtain ⟨u1, u2, u3, rfl, h1, h2, h3⟩ := rep3 hv
    rw [rep_int h2]
    simp only [ARep, ARepL] at h1 h3
    obtain ⟨_, _, rfl, y1, _, rfl, h4, y2, _, rfl, h5, rfl⟩ := h3
    have hy1 : y1 = .bool o.isSome := by rw [(rep_v (M := M) h4).2, hz.1]
    subst hy1
    have hRX : LenX (fun u o => ∃ y, BXo y o ∧ PRep M.w M.I y u) := by
      rintro u o ⟨y, hy, hp⟩
      have hl := hy.len
      rcases hy.isSl with rfl | ⟨ls, rfl⟩
      · rw [hp.nil, ← hl]; exact ⟨_, _, rfl⟩
      · simp only [PRep] at hp
        obtain ⟨rfl, ad, cap, rfl⟩ | ⟨b, off, cap, rfl, _⟩ := hp
        · rw [← hl]; exact ⟨_, _, rfl⟩
        · rw [← hl]; exact ⟨_, _, rfl⟩
    have hS : SlS (fun u o => ∃ y, BXo y o ∧ PRep M.w M.I y u) M.w u1 ss := by
      rcases hx with rfl | ⟨rfl, rfl⟩
      · simp only [PRep, List.length_map] at h1
        obtain ⟨h0, ad, cap, rfl⟩ | ⟨b, off, cap, rfl, hc, hr⟩ := h1
        · have hz0 : zs = [] := by simpa using h0
          have hss : ss = [] := by have := hs.1; rw [hz0] at this; cases ss <;> simp_all
          subst hss
          exact ⟨some ad, cap, rfl, by simp, fun i hi => by simp at hi⟩
        refine ⟨some ⟨b, off, none⟩, cap, by rw [hs.1], by simp, fun i hi => ?_⟩
        obtain ⟨z', hz1, hz2⟩ := hs.get hi
        obtain ⟨_, hr2⟩ := hr.get (i := i) (c := rowZ z') (by simp [hz1])
        obtain ⟨c1, g1, _, g2⟩ := hr2.get (j := 0) rfl
        obtain ⟨c2, g3, _, g4⟩ := hr2.get (j := 1) rfl
        simp only [PRep] at g2
        refine ⟨b, off, c2, rfl, ?_, ?_, z'.2, hz2.2, g4⟩
        · rw [← hz2.1, ← g2.2]; simpa using g1
        · simpa [Nat.add_assoc] using g3
      · have hss : ss = [] := by have := hs.1; cases ss <;> simp_all
        subst hss
        rw [h1.nil]
        exact ⟨none, 0, rfl, fun _ => rfl, fun i hi => by simp at hi⟩
    refine (with_any _ hRX ss k o u1 y2 M.w hS ⟨z.2, hz.2, h5⟩ hk hm).mono ?_
    rintro e w' ⟨v', rfl, ⟨ao, c, rfl, hn, hc⟩, ⟨g, n, cap, hv', hg, hcap⟩, hb⟩
    simp only [Value.slice.injEq] at hv'
    obtain ⟨rfl, rfl, rfl⟩ := hv'
    generalize trimL (wL ss k o) = ts at *
    have hY : ∀ i, ∃ y, i < ts.length → ∃ v, w'.cell? ⟨g, i * 2, none⟩ = some (.bool (ts.getD i none).isSome) ∧ w'.cell? ⟨g, i * 2 + 1, none⟩ = some v ∧ BXo y (ts.getD i none) ∧ PRep M.w M.I y v := fun i => by
      by_cases hi : i < ts.length
      · obtain ⟨b, off, v, he, g1, g2, y, g3, g4⟩ := hc i hi
        simp only [Option.some.injEq, Addr.mk.injEq, and_true] at he
        obtain ⟨rfl, rfl⟩ := he
        exact ⟨y, fun _ => ⟨v, by simpa using g1, by simpa using g2, g3, g4⟩⟩
      · exact ⟨.v undef, fun h => absurd h hi⟩
    obtain ⟨Y, hY⟩ := Classical.axiomOfChoice hY
    let zs' : List (Bool × PV) := (List.range ts.length).map fun i => ((ts.getD i none).isSome, Y i)
    have hlen : zs'.length = ts.length := by simp [zs']
    have hat : ∀ i, i < ts.length → zs'[i]? = some ((ts.getD i none).isSome, Y i) := fun i hi => by simp [zs', hi]
    refine ⟨_, .p (.sl 2 (zs'.map rowZ)), fun b q => b = g ∧ q < ts.length * 2, rfl, hb, ?_, ?_, zs', ⟨hlen, ?_⟩, rfl⟩
    · rintro b q ⟨rfl, hq⟩
      refine ⟨hg, ?_⟩
      obtain ⟨v, g1, _⟩ := hY 0 (by omega)
      exact World.block_lt_of_cell? w' _ g1
    · simp only [ARep, PRep, List.length_map, hlen]
      refine .inr ⟨g, 0, c, rfl, hcap, PRepR.of_get fun i cc hcc => ?_⟩
      have hi : i < ts.length := by
        have := (List.getElem?_eq_some_iff.1 hcc).1
        simp only [List.length_map] at this; omega
      rw [List.getElem?_map, hat i hi] at hcc
      simp only [Option.map_some, Option.some.injEq] at hcc
      subst hcc
      obtain ⟨v, g1, g2, g3, g4⟩ := hY i hi
      refine ⟨rfl, PRepC.of_get fun j a ha => ?_⟩
      match j, ha with
      | 0, ha =>
        simp [rowZ] at ha; subst ha
        exact ⟨_, by simpa using g1, .inr ⟨rfl, by omega⟩, by simp only [PRep]; exact ⟨rfl, trivial⟩⟩
      | 1, ha =>
        simp [rowZ] at ha; subst ha
        exact ⟨_, by simpa using g2, .inr ⟨rfl, by omega⟩, PRep.later (fun _ _ h => .inl h) (fun b q hq => hb.cell (p := ⟨b, q, none⟩) (hM.imm b q hq)) _ _ g4⟩
      | j + 2, ha => simp [rowZ] at ha
    · intro i z' o' hz' ho'
      have hi := (List.getElem?_eq_some_iff.1 ho').1
      rw [hat i hi] at hz'
      simp only [Option.some.injEq] at hz'
      subst hz'
      have : ts.getD i none = o' := by simp [ho']
      obtain ⟨v, _, _, g3, _⟩ := hY i hi
      rw [this] at g3
      exact ⟨by rw [this], g3⟩
end Go.Proofs.Ytpfnpinblbfjdaa
