/- The reference's Room on the abstract machine. -/
import Derived.Test.YtpfnpinblbfjdaaRh
set_option linter.unusedSimpArgs false
set_option linter.unusedVariables false
namespace Go.Proofs.Ytpfnpinblbfjdaa
open Go.RowKit

theorem ACalls.weak {P : Program} {f : FuncId} {args args' : List AV} {σ : St} {R : AV → St → Prop} (hc : ACalls P f args' σ R) (h : ∀ M vs, ARepL M args vs → ARepL M args' vs) : ACalls P f args σ R :=
  ⟨hc.1, fun M vs hM hv => hc.2 M vs hM (h M vs hv)⟩
theorem own_p {M : View} {t e : Nat} {ls : List (List PV)} {u : Value} (h : ARep M (.own t e ls) u) : ARep M (.p (.sl e ls)) u := by
  simp only [ARep, PRep] at h ⊢
  obtain ⟨b, cap, n, h1, h2, h3, h4, _⟩ := h
  exact .inr ⟨b, 0, cap, h1, h2, h4⟩
theorem weak2 {M : View} {a b b' : AV} (h : ∀ u, ARep M b u → ARep M b' u) {vs : List Value} (hv : ARepL M [a, b] vs) : ARepL M [a, b'] vs := by
  simp only [ARepL] at hv ⊢
  obtain ⟨u, us, rfl, h1, v, us', rfl, h2, rfl⟩ := hv
  exact ⟨u, _, rfl, h1, v, _, rfl, h _ h2, rfl⟩
theorem lens_set' {ss : List (Option (List UInt8))} {d : Nat} (h : d < ss.length) (o : Option (List UInt8)) : lens (ss.set d o) + recLen (ss.getD d none) = lens ss + recLen o := by
  induction ss generalizing d with
  | nil => simp at h
  | cons a ss ih =>
    cases d with
    | zero => simp [lens]; omega
    | succ d =>
      have := ih (d := d) (by simpa using h)
      simp only [lens, List.set_cons_succ, List.map_cons, List.sum_cons, List.getD_cons_succ] at *
      omega
theorem wL_putL {ss : List (Option (List UInt8))} (k : Nat) (r : List UInt8) : wL ss k (some r) = putL ss k r := by
  unfold wL putL
  by_cases h : k = ss.length
  · subst h; simp
  · simp [h]
theorem cost_putL {ss : List (Option (List UInt8))} {k : Nat} (hk : k ≤ ss.length) (r : List UInt8) : costL (putL ss k r) ≤ costL ss + 4 + r.length := by
  unfold putL costL
  by_cases h : k = ss.length
  · subst h; simp [lens, recLen]; omega
  · have := lens_set' (ss := ss) (d := k) (by omega) (some r)
    simp only [h, if_false, List.length_set, recLen] at *; omega
theorem cost_free (ss : List (Option (List UInt8))) (r : List UInt8) : costL (putL ss (freeL ss) r) = costL ss + (if freeL ss = ss.length then 4 else 0) + r.length := by
  have hle := freeL_le ss
  unfold putL costL
  by_cases h : freeL ss = ss.length
  · rw [h]; simp [lens, recLen]; omega
  · have hlt : freeL ss < ss.length := by omega
    have hn : ss.getD (freeL ss) none = none := by
      have h1 := List.findIdx_getElem (p := fun o : Option (List UInt8) => o.isNone) (xs := ss) (w := hlt)
      rw [List.getD_eq_getElem?_getD, List.getElem?_eq_getElem hlt]
      exact Option.isNone_iff_eq_none.1 h1
    have := lens_set' (ss := ss) (d := freeL ss) hlt (some r)
    rw [hn] at this
    simp only [h, if_false, List.length_set, recLen] at *; omega
/-- What Room has found behind so many rounds. -/
def bestR (ss : List (Option (List UInt8))) (k : Nat) : Int := max (-1) (min ((k : Int) - 1) (496 - ((costL ss : Int) + if freeL ss = ss.length then 4 else 0)))
theorem bestR_end (ss : List (Option (List UInt8))) : bestR ss 401 = roomL ss := rfl
theorem bestR_fit {ss : List (Option (List UInt8))} (ht : trimL ss = ss) (k : Nat) (hk : k ≤ 400) (r : List UInt8) (hr : r.length = k) : bestR ss (k + 1) = if fitR ss (freeL ss) r then (k : Int) else bestR ss k := by
  have h1 := cost_free ss r
  rw [← trimL_putL ht _ (freeL_le ss), ← wL_putL, hr] at h1
  unfold bestR fitR
  rw [h1, hr]
  have h2 : decide (400 < (k : Int)) = false := by simp; omega
  rw [h2]
  by_cases h3 : freeL ss = ss.length
  · simp only [h3, if_true]
    by_cases h4 : 496 < costL ss + 4 + k
    · have : decide (496 < ((costL ss + 4 + k : Nat) : Int)) = true := by simp; omega
      rw [this]; simp; omega
    · have : decide (496 < ((costL ss + 4 + k : Nat) : Int)) = false := by simp; omega
      rw [this]; simp; omega
  · simp only [h3, if_false]
    by_cases h4 : 496 < costL ss + 0 + k
    · have : decide (496 < ((costL ss + 0 + k : Nat) : Int)) = true := by simp; omega
      rw [this]; simp; omega
    · have : decide (496 < ((costL ss + 0 + k : Nat) : Int)) = false := by simp; omega
      rw [this]; simp; omega

set_option maxRecDepth 100000 in
set_option maxHeartbeats 1000000 in
theorem arroom (kd : Int) (ss : List (Option (List UInt8))) (x : PV) (hx : RL x ss) (ht : trimL ss = ss) (hc : costL ss ≤ 496) (hm : ss.length ≤ 1000) (σ : St) :
    ACalls Try.prog 23 [.agg [intV .i64 kd, .p x]] σ fun u σ' => σ' = σ ∧ u = intV .i64 (roomL ss) := by
  refine ACalls.pure ?_ rfl σ
  refine acalls_of cx_ok dr_ok Try.func23 (by kernel_rfl) rfl (nt := 22) rfl rfl ?_
  simp only [↓pl_done, ↓pl_det, ↓pl_act, ↓pl_two, ↓det_none, det_none, ↓det_some, det_some, ↓act_none, act_none, ↓act_some, act_some, wd_tt, wd_ff, wd_tf, wd_ft, wd_no, wu_tt, wu_ff, wu_tf, wu_ft, wu_no, ↓ku_app, ld_some, st_some, ↓do_load, loadT, tok_mp, tok_ip, mask_nil, mask_cons, unmaskS, ↓do_move, ↓do_assign, ↓do_pick, ↓do_build, ↓do_nilCheck, ↓do_binOp, ↓do_unOp, ↓do_convert, ↓do_makeFunc, ↓do_slice, ↓do_fieldAddr, ↓do_field, ↓do_indexAddr, ↓do_index, ↓do_extract, ↓do_call, ↓awp_draw, ↓awp_seq, ↓awp_skip, ↓awp_region, ↓awp_cond, ↓awp_block, ↓awp_exit, ↓awp_ret, ↓then_normal, ↓then_exit, ↓then_ret, ↓block_normal, ↓block_ret, ↓block_exit, ↓round_exit, ↓round_ret, ↓cond_true, cond_true, ↓cond_false, cond_false, ↓onSome_some, onSome_some, ↓aops_nil, ↓aops_cons, ↓aops_guard, ↓kont_app, ↓want_tt, want_tt, ↓want_ff, want_ff, ↓want_tf, want_tf, ↓want_ft, want_ft, ↓want_no, want_no, ↓step_call, ↓step_dyn, ↓step_builtin, ↓step_move, ↓step_assign, ↓step_pick, ↓step_alloc, ↓step_box, ↓step_build, ↓step_buildSlice, ↓step_load, ↓step_store, ↓step_nilCheck, ↓step_binOp, ↓step_unOp, ↓step_convert, ↓step_makeFunc, ↓step_makeSlice, ↓step_slice, ↓step_fieldAddr, ↓step_field, ↓step_indexAddr, ↓step_index, ↓step_extract, ↓dyn_fn, dyn_fn, aop, bm_append, bm_appendM, key_some, cx_muts, List.contains_cons, List.contains_nil, Nat.reduceBEq, Bool.or_false, Bool.false_or, Bool.or_self, bm_len, bm_min, bm_max, ev_tmp, ev_bool, ev_int, ev_str, ev_nilslice, ev_nilptr, ev_func, setA, yieldA, List.replicate, List.cons_append, List.nil_append, List.append_nil, List.set_cons_zero, List.set_cons_succ, List.getD_cons_zero, List.getD_cons_succ, List.getElem?_cons_zero, List.getElem?_cons_succ, List.getElem?_toArray, List.map_cons, List.map_nil, List.length_cons, List.length_nil, List.length_map, Option.bind_some, Option.map_some, Option.map_none, plain, if_true, if_false, Bool.false_eq_true, reduceIte, reduceCtorEq, and_self, and_true, true_and, and_false, false_and, Nat.zero_add, Nat.add_zero, Int.toNat_natCast, Int.natCast_nonneg, binA, binInt, intV, boolV, unA, convA, int_v, nil_nil, nil_sl, nil_own, nil_nown, el_sl, el_own, el_nown, load_ip, load_mp, part_one, part_row, cells_p, cells_own, cells_nown, cells_mp, cells_ip, cells_agg, cells_fn, store_mp, spliceA, fillA, zeroA, nilA, len_sl, len_own, len_nown, len_nil, len_str, List.take, List.drop, Nat.reduceAdd, Nat.reduceMul, Nat.reduceEqDiff, Nat.reduceLeDiff, Nat.reduceLT, St.put, Nat.lt_irrefl, resA, resL, resV, Bool.not_true, Bool.not_false, bne_self_eq_false, beq_self_eq_true, ck_3, cx_3, ck_24, cx_24, ck_42, cx_42]
  refine awp_loop' (X := { k : Nat // k ≤ 401 }) (fun k => ([.any, .mp 0 2 0 0, .any, intV .i64 (bestR ss k.1), intV .i64 (k.1 : Nat), .any, .any, .any, .any, .any, .any, .any, .any, .any, .any, .any, .any, .any, .any, .any, .any, .any, .any], [some (.row 2 [[intV .i64 kd, .p x]])])) (fun k => 401 - k.1) ⟨0, by omega⟩ (fun _ => Nat.le_refl _) ?_ ?_
  · have h0 : bestR ss 0 = -1 := by unfold bestR; simp; omega
    simp [Weak, leL, leA, leS, leO, tokLt, tokLtL, intV, h0]
  · rintro ⟨k, hk⟩
    by_cases hlt : k < 401
    · have hdec : decide ((k : Int) ≤ 400) = true := by simp; omega
      simp only [↓pl_done, ↓pl_det, ↓pl_act, ↓pl_two, ↓det_none, det_none, ↓det_some, det_some, ↓act_none, act_none, ↓act_some, act_some, wd_tt, wd_ff, wd_tf, wd_ft, wd_no, wu_tt, wu_ff, wu_tf, wu_ft, wu_no, ↓ku_app, ld_some, st_some, ↓do_load, loadT, tok_mp, tok_ip, mask_nil, mask_cons, unmaskS, ↓do_move, ↓do_assign, ↓do_pick, ↓do_build, ↓do_nilCheck, ↓do_binOp, ↓do_unOp, ↓do_convert, ↓do_makeFunc, ↓do_slice, ↓do_fieldAddr, ↓do_field, ↓do_indexAddr, ↓do_index, ↓do_extract, ↓do_call, ↓awp_draw, ↓awp_seq, ↓awp_skip, ↓awp_region, ↓awp_cond, ↓awp_block, ↓awp_exit, ↓awp_ret, ↓then_normal, ↓then_exit, ↓then_ret, ↓block_normal, ↓block_ret, ↓block_exit, ↓round_exit, ↓round_ret, ↓cond_true, cond_true, ↓cond_false, cond_false, ↓onSome_some, onSome_some, ↓aops_nil, ↓aops_cons, ↓aops_guard, ↓kont_app, ↓want_tt, want_tt, ↓want_ff, want_ff, ↓want_tf, want_tf, ↓want_ft, want_ft, ↓want_no, want_no, ↓step_call, ↓step_dyn, ↓step_builtin, ↓step_move, ↓step_assign, ↓step_pick, ↓step_alloc, ↓step_box, ↓step_build, ↓step_buildSlice, ↓step_load, ↓step_store, ↓step_nilCheck, ↓step_binOp, ↓step_unOp, ↓step_convert, ↓step_makeFunc, ↓step_makeSlice, ↓step_slice, ↓step_fieldAddr, ↓step_field, ↓step_indexAddr, ↓step_index, ↓step_extract, ↓dyn_fn, dyn_fn, aop, bm_append, bm_appendM, key_some, cx_muts, List.contains_cons, List.contains_nil, Nat.reduceBEq, Bool.or_false, Bool.false_or, Bool.or_self, bm_len, bm_min, bm_max, ev_tmp, ev_bool, ev_int, ev_str, ev_nilslice, ev_nilptr, ev_func, setA, yieldA, List.replicate, List.cons_append, List.nil_append, List.append_nil, List.set_cons_zero, List.set_cons_succ, List.getD_cons_zero, List.getD_cons_succ, List.getElem?_cons_zero, List.getElem?_cons_succ, List.getElem?_toArray, List.map_cons, List.map_nil, List.length_cons, List.length_nil, List.length_map, Option.bind_some, Option.map_some, Option.map_none, plain, if_true, if_false, Bool.false_eq_true, reduceIte, reduceCtorEq, and_self, and_true, true_and, and_false, false_and, Nat.zero_add, Nat.add_zero, Int.toNat_natCast, Int.natCast_nonneg, binA, binInt, intV, boolV, unA, convA, int_v, nil_nil, nil_sl, nil_own, nil_nown, el_sl, el_own, el_nown, load_ip, load_mp, part_one, part_row, cells_p, cells_own, cells_nown, cells_mp, cells_ip, cells_agg, cells_fn, store_mp, spliceA, fillA, zeroA, nilA, len_sl, len_own, len_nown, len_nil, len_str, List.take, List.drop, Nat.reduceAdd, Nat.reduceMul, Nat.reduceEqDiff, Nat.reduceLeDiff, Nat.reduceLT, St.put, Nat.lt_irrefl, resA, resL, resV, Bool.not_true, Bool.not_false, bne_self_eq_false, beq_self_eq_true, ck_3, cx_3, ck_24, cx_24, ck_42, cx_42, hdec]
      refine ⟨(.det 0 (.det 1 (.two 2 (.two 3 (.det 4 (.det 5 (.det 6 (.det 7 (.act 8 (.act 9 (.det 10 (.det 11 .done)))))))) 8 (.act 3 (.det 4 (.det 5 (.det 6 (.det 7 (.act 9 (.det 10 (.det 11 .done))))))))) 8 (.act 2 (.act 3 (.det 4 (.det 5 (.det 6 (.det 7 (.act 9 (.det 10 (.det 11 .done)))))))))))), by decide, by kernel_rfl, by kernel_rfl, ?_⟩
      have hi1 : (((1 : Nat) : Int) * (k : Int) ≤ 140737488355328) = True := eq_true (by omega)
      have hi2 : ((k : Int) ≤ (maxLen : Nat)) = True := eq_true (by unfold maxLen; omega)
      have henc : List.replicate k [PV.v (Value.int IntKind.u8 0)] = encB (List.replicate k 0) := by simp [encB, byteP]
      have hlr : (List.replicate k (0 : UInt8)).length = k := by simp
      have hb := bestR_fit ht k (by omega) _ hlr
      simp only [↓pl_done, ↓pl_det, ↓pl_act, ↓pl_two, ↓det_none, det_none, ↓det_some, det_some, ↓act_none, act_none, ↓act_some, act_some, wd_tt, wd_ff, wd_tf, wd_ft, wd_no, wu_tt, wu_ff, wu_tf, wu_ft, wu_no, ↓ku_app, ld_some, st_some, ↓do_load, loadT, tok_mp, tok_ip, mask_nil, mask_cons, unmaskS, ↓do_move, ↓do_assign, ↓do_pick, ↓do_build, ↓do_nilCheck, ↓do_binOp, ↓do_unOp, ↓do_convert, ↓do_makeFunc, ↓do_slice, ↓do_fieldAddr, ↓do_field, ↓do_indexAddr, ↓do_index, ↓do_extract, ↓do_call, ↓awp_draw, ↓awp_seq, ↓awp_skip, ↓awp_region, ↓awp_cond, ↓awp_block, ↓awp_exit, ↓awp_ret, ↓then_normal, ↓then_exit, ↓then_ret, ↓block_normal, ↓block_ret, ↓block_exit, ↓round_exit, ↓round_ret, ↓cond_true, cond_true, ↓cond_false, cond_false, ↓onSome_some, onSome_some, ↓aops_nil, ↓aops_cons, ↓aops_guard, ↓kont_app, ↓want_tt, want_tt, ↓want_ff, want_ff, ↓want_tf, want_tf, ↓want_ft, want_ft, ↓want_no, want_no, ↓step_call, ↓step_dyn, ↓step_builtin, ↓step_move, ↓step_assign, ↓step_pick, ↓step_alloc, ↓step_box, ↓step_build, ↓step_buildSlice, ↓step_load, ↓step_store, ↓step_nilCheck, ↓step_binOp, ↓step_unOp, ↓step_convert, ↓step_makeFunc, ↓step_makeSlice, ↓step_slice, ↓step_fieldAddr, ↓step_field, ↓step_indexAddr, ↓step_index, ↓step_extract, ↓dyn_fn, dyn_fn, aop, bm_append, bm_appendM, key_some, cx_muts, List.contains_cons, List.contains_nil, Nat.reduceBEq, Bool.or_false, Bool.false_or, Bool.or_self, bm_len, bm_min, bm_max, ev_tmp, ev_bool, ev_int, ev_str, ev_nilslice, ev_nilptr, ev_func, setA, yieldA, List.replicate, List.cons_append, List.nil_append, List.append_nil, List.set_cons_zero, List.set_cons_succ, List.getD_cons_zero, List.getD_cons_succ, List.getElem?_cons_zero, List.getElem?_cons_succ, List.getElem?_toArray, List.map_cons, List.map_nil, List.length_cons, List.length_nil, List.length_map, Option.bind_some, Option.map_some, Option.map_none, plain, if_true, if_false, Bool.false_eq_true, reduceIte, reduceCtorEq, and_self, and_true, true_and, and_false, false_and, Nat.zero_add, Nat.add_zero, Int.toNat_natCast, Int.natCast_nonneg, binA, binInt, intV, boolV, unA, convA, int_v, nil_nil, nil_sl, nil_own, nil_nown, el_sl, el_own, el_nown, load_ip, load_mp, part_one, part_row, cells_p, cells_own, cells_nown, cells_mp, cells_ip, cells_agg, cells_fn, store_mp, spliceA, fillA, zeroA, nilA, len_sl, len_own, len_nown, len_nil, len_str, List.take, List.drop, Nat.reduceAdd, Nat.reduceMul, Nat.reduceEqDiff, Nat.reduceLeDiff, Nat.reduceLT, St.put, Nat.lt_irrefl, resA, resL, resV, Bool.not_true, Bool.not_false, bne_self_eq_false, beq_self_eq_true, ck_3, cx_3, ck_24, cx_24, ck_42, cx_42, hdec, hi1, hi2, henc]
      generalize List.replicate k (0 : UInt8) = r at *
      have hcc : costL (trimL (wL ss (freeL ss) (some r))) ≤ 900 := by
        have h1 := costL_trim (wL ss (freeL ss) (some r))
        have h2 := cost_putL (freeL_le ss) r
        rw [wL_putL] at *; omega
      have hcl : (trimL (wL ss (freeL ss) (some r))).length ≤ 900 := by unfold costL at hcc; omega
      refine ⟨⟨?_, ?_⟩, ?_⟩
      all_goals
        refine ((aradd kd ss x _ r hx (.inl rfl) hm (by omega) (by omega) (by omega) _).weak fun M vs => weak2 fun _ => own_p).mono ?_
        rintro _ _ ⟨rfl, x', hx', rfl⟩
        cases hf : fitR ss (freeL ss) r
      all_goals
        rw [hf] at hb
        try simp only [Bool.false_eq_true, if_false, if_true] at hb
        simp only [↓pl_done, ↓pl_det, ↓pl_act, ↓pl_two, ↓det_none, det_none, ↓det_some, det_some, ↓act_none, act_none, ↓act_some, act_some, wd_tt, wd_ff, wd_tf, wd_ft, wd_no, wu_tt, wu_ff, wu_tf, wu_ft, wu_no, ↓ku_app, ld_some, st_some, ↓do_load, loadT, tok_mp, tok_ip, mask_nil, mask_cons, unmaskS, ↓do_move, ↓do_assign, ↓do_pick, ↓do_build, ↓do_nilCheck, ↓do_binOp, ↓do_unOp, ↓do_convert, ↓do_makeFunc, ↓do_slice, ↓do_fieldAddr, ↓do_field, ↓do_indexAddr, ↓do_index, ↓do_extract, ↓do_call, ↓awp_draw, ↓awp_seq, ↓awp_skip, ↓awp_region, ↓awp_cond, ↓awp_block, ↓awp_exit, ↓awp_ret, ↓then_normal, ↓then_exit, ↓then_ret, ↓block_normal, ↓block_ret, ↓block_exit, ↓round_exit, ↓round_ret, ↓cond_true, cond_true, ↓cond_false, cond_false, ↓onSome_some, onSome_some, ↓aops_nil, ↓aops_cons, ↓aops_guard, ↓kont_app, ↓want_tt, want_tt, ↓want_ff, want_ff, ↓want_tf, want_tf, ↓want_ft, want_ft, ↓want_no, want_no, ↓step_call, ↓step_dyn, ↓step_builtin, ↓step_move, ↓step_assign, ↓step_pick, ↓step_alloc, ↓step_box, ↓step_build, ↓step_buildSlice, ↓step_load, ↓step_store, ↓step_nilCheck, ↓step_binOp, ↓step_unOp, ↓step_convert, ↓step_makeFunc, ↓step_makeSlice, ↓step_slice, ↓step_fieldAddr, ↓step_field, ↓step_indexAddr, ↓step_index, ↓step_extract, ↓dyn_fn, dyn_fn, aop, bm_append, bm_appendM, key_some, cx_muts, List.contains_cons, List.contains_nil, Nat.reduceBEq, Bool.or_false, Bool.false_or, Bool.or_self, bm_len, bm_min, bm_max, ev_tmp, ev_bool, ev_int, ev_str, ev_nilslice, ev_nilptr, ev_func, setA, yieldA, List.replicate, List.cons_append, List.nil_append, List.append_nil, List.set_cons_zero, List.set_cons_succ, List.getD_cons_zero, List.getD_cons_succ, List.getElem?_cons_zero, List.getElem?_cons_succ, List.getElem?_toArray, List.map_cons, List.map_nil, List.length_cons, List.length_nil, List.length_map, Option.bind_some, Option.map_some, Option.map_none, plain, if_true, if_false, Bool.false_eq_true, reduceIte, reduceCtorEq, and_self, and_true, true_and, and_false, false_and, Nat.zero_add, Nat.add_zero, Int.toNat_natCast, Int.natCast_nonneg, binA, binInt, intV, boolV, unA, convA, int_v, nil_nil, nil_sl, nil_own, nil_nown, el_sl, el_own, el_nown, load_ip, load_mp, part_one, part_row, cells_p, cells_own, cells_nown, cells_mp, cells_ip, cells_agg, cells_fn, store_mp, spliceA, fillA, zeroA, nilA, len_sl, len_own, len_nown, len_nil, len_str, List.take, List.drop, Nat.reduceAdd, Nat.reduceMul, Nat.reduceEqDiff, Nat.reduceLeDiff, Nat.reduceLT, St.put, Nat.lt_irrefl, resA, resL, resV, Bool.not_true, Bool.not_false, bne_self_eq_false, beq_self_eq_true, ck_3, cx_3, ck_24, cx_24, ck_42, cx_42]
        rw [wrap_i64 (n := (k : Int) + 1) (by omega) (by omega)]
        refine ⟨⟨k + 1, by omega⟩, by simp; omega, ?_⟩
        simp [Weak, leL, leA, leS, leO, tokLt, tokLtL, intV, hb]
    · have hdec : decide ((k : Int) ≤ 400) = false := by simp; omega
      obtain rfl : k = 401 := by omega
      rw [← bestR_end]
      simp only [↓pl_done, ↓pl_det, ↓pl_act, ↓pl_two, ↓det_none, det_none, ↓det_some, det_some, ↓act_none, act_none, ↓act_some, act_some, wd_tt, wd_ff, wd_tf, wd_ft, wd_no, wu_tt, wu_ff, wu_tf, wu_ft, wu_no, ↓ku_app, ld_some, st_some, ↓do_load, loadT, tok_mp, tok_ip, mask_nil, mask_cons, unmaskS, ↓do_move, ↓do_assign, ↓do_pick, ↓do_build, ↓do_nilCheck, ↓do_binOp, ↓do_unOp, ↓do_convert, ↓do_makeFunc, ↓do_slice, ↓do_fieldAddr, ↓do_field, ↓do_indexAddr, ↓do_index, ↓do_extract, ↓do_call, ↓awp_draw, ↓awp_seq, ↓awp_skip, ↓awp_region, ↓awp_cond, ↓awp_block, ↓awp_exit, ↓awp_ret, ↓then_normal, ↓then_exit, ↓then_ret, ↓block_normal, ↓block_ret, ↓block_exit, ↓round_exit, ↓round_ret, ↓cond_true, cond_true, ↓cond_false, cond_false, ↓onSome_some, onSome_some, ↓aops_nil, ↓aops_cons, ↓aops_guard, ↓kont_app, ↓want_tt, want_tt, ↓want_ff, want_ff, ↓want_tf, want_tf, ↓want_ft, want_ft, ↓want_no, want_no, ↓step_call, ↓step_dyn, ↓step_builtin, ↓step_move, ↓step_assign, ↓step_pick, ↓step_alloc, ↓step_box, ↓step_build, ↓step_buildSlice, ↓step_load, ↓step_store, ↓step_nilCheck, ↓step_binOp, ↓step_unOp, ↓step_convert, ↓step_makeFunc, ↓step_makeSlice, ↓step_slice, ↓step_fieldAddr, ↓step_field, ↓step_indexAddr, ↓step_index, ↓step_extract, ↓dyn_fn, dyn_fn, aop, bm_append, bm_appendM, key_some, cx_muts, List.contains_cons, List.contains_nil, Nat.reduceBEq, Bool.or_false, Bool.false_or, Bool.or_self, bm_len, bm_min, bm_max, ev_tmp, ev_bool, ev_int, ev_str, ev_nilslice, ev_nilptr, ev_func, setA, yieldA, List.replicate, List.cons_append, List.nil_append, List.append_nil, List.set_cons_zero, List.set_cons_succ, List.getD_cons_zero, List.getD_cons_succ, List.getElem?_cons_zero, List.getElem?_cons_succ, List.getElem?_toArray, List.map_cons, List.map_nil, List.length_cons, List.length_nil, List.length_map, Option.bind_some, Option.map_some, Option.map_none, plain, if_true, if_false, Bool.false_eq_true, reduceIte, reduceCtorEq, and_self, and_true, true_and, and_false, false_and, Nat.zero_add, Nat.add_zero, Int.toNat_natCast, Int.natCast_nonneg, binA, binInt, intV, boolV, unA, convA, int_v, nil_nil, nil_sl, nil_own, nil_nown, el_sl, el_own, el_nown, load_ip, load_mp, part_one, part_row, cells_p, cells_own, cells_nown, cells_mp, cells_ip, cells_agg, cells_fn, store_mp, spliceA, fillA, zeroA, nilA, len_sl, len_own, len_nown, len_nil, len_str, List.take, List.drop, Nat.reduceAdd, Nat.reduceMul, Nat.reduceEqDiff, Nat.reduceLeDiff, Nat.reduceLT, St.put, Nat.lt_irrefl, resA, resL, resV, Bool.not_true, Bool.not_false, bne_self_eq_false, beq_self_eq_true, ck_3, cx_3, ck_24, cx_24, ck_42, cx_42, hdec]
      exact ret_pure rfl rfl rfl
end Go.Proofs.Ytpfnpinblbfjdaa
