/- The reader's operators. -/
import Derived.Test.YtcnkmandddfdmaaM09
import Derived.Test.YtcnkmandddfdmaaM10
set_option linter.unusedSimpArgs false
set_option linter.unusedVariables false
namespace Go.Proofs.Ytcnkmandddfdmaa
open Go.RowKit
open Nat (reducePow reduceAdd reduceSub reduceMul reduceEqDiff reduceLeDiff)
theorem ty71_XRb : (type_of% ck_3) ∧ (type_of% cx_3) ∧ (type_of% ck_9) ∧ (type_of% cx_9) ∧ (type_of% ck_75) ∧ (type_of% cx_75) ∧ (type_of% ck_102) ∧ (type_of% cx_102) ∧ (type_of% ce_102) ∧ (type_of% ck_156) ∧ (type_of% cx_156) ∧ (type_of% ck_157) ∧ (type_of% cx_157) := ⟨ck_3, cx_3, ck_9, cx_9, ck_75, cx_75, ck_102, cx_102, ce_102, ck_156, cx_156, ck_157, cx_157⟩

theorem tx_get : ∀ k < 13, ∃ s : ByteArray, ([.p (.v (.string ⟨#[79, 82]⟩)), .p (.v (.string ⟨#[65, 78, 68]⟩)), .p (.v (.string ⟨#[61]⟩)), .p (.v (.string ⟨#[60, 62]⟩)), .p (.v (.string ⟨#[60]⟩)), .p (.v (.string ⟨#[60, 61]⟩)), .p (.v (.string ⟨#[62]⟩)), .p (.v (.string ⟨#[62, 61]⟩)), .p (.v (.string ⟨#[43]⟩)), .p (.v (.string ⟨#[45]⟩)), .p (.v (.string ⟨#[42]⟩)), .p (.v (.string ⟨#[47]⟩)), .p (.v (.string ⟨#[37]⟩))] : List AV)[k]? = some (.p (.v (.string s))) := by
  intro k hk
  match k, hk with
  | 0, _ => exact ⟨_, rfl⟩
  | 1, _ => exact ⟨_, rfl⟩
  | 2, _ => exact ⟨_, rfl⟩
  | 3, _ => exact ⟨_, rfl⟩
  | 4, _ => exact ⟨_, rfl⟩
  | 5, _ => exact ⟨_, rfl⟩
  | 6, _ => exact ⟨_, rfl⟩
  | 7, _ => exact ⟨_, rfl⟩
  | 8, _ => exact ⟨_, rfl⟩
  | 9, _ => exact ⟨_, rfl⟩
  | 10, _ => exact ⟨_, rfl⟩
  | 11, _ => exact ⟨_, rfl⟩
  | 12, _ => exact ⟨_, rfl⟩
theorem kd_get : ∀ k < 13, ∃ n : Int, ([.p (.v (.int .i64 17)), .p (.v (.int .i64 16)), .p (.v (.int .i64 10)), .p (.v (.int .i64 11)), .p (.v (.int .i64 12)), .p (.v (.int .i64 13)), .p (.v (.int .i64 14)), .p (.v (.int .i64 15)), .p (.v (.int .i64 5)), .p (.v (.int .i64 6)), .p (.v (.int .i64 7)), .p (.v (.int .i64 8)), .p (.v (.int .i64 9))] : List AV)[k]? = some (.p (.v (.int .i64 n))) := by
  intro k hk
  match k, hk with
  | 0, _ => exact ⟨_, rfl⟩
  | 1, _ => exact ⟨_, rfl⟩
  | 2, _ => exact ⟨_, rfl⟩
  | 3, _ => exact ⟨_, rfl⟩
  | 4, _ => exact ⟨_, rfl⟩
  | 5, _ => exact ⟨_, rfl⟩
  | 6, _ => exact ⟨_, rfl⟩
  | 7, _ => exact ⟨_, rfl⟩
  | 8, _ => exact ⟨_, rfl⟩
  | 9, _ => exact ⟨_, rfl⟩
  | 10, _ => exact ⟨_, rfl⟩
  | 11, _ => exact ⟨_, rfl⟩
  | 12, _ => exact ⟨_, rfl⟩
theorem bd_get : ∀ k < 13, ∃ n : Int, ([.p (.v (.int .i64 1)), .p (.v (.int .i64 2)), .p (.v (.int .i64 4)), .p (.v (.int .i64 4)), .p (.v (.int .i64 4)), .p (.v (.int .i64 4)), .p (.v (.int .i64 4)), .p (.v (.int .i64 4)), .p (.v (.int .i64 5)), .p (.v (.int .i64 5)), .p (.v (.int .i64 6)), .p (.v (.int .i64 6)), .p (.v (.int .i64 6))] : List AV)[k]? = some (.p (.v (.int .i64 n))) := by
  intro k hk
  match k, hk with
  | 0, _ => exact ⟨_, rfl⟩
  | 1, _ => exact ⟨_, rfl⟩
  | 2, _ => exact ⟨_, rfl⟩
  | 3, _ => exact ⟨_, rfl⟩
  | 4, _ => exact ⟨_, rfl⟩
  | 5, _ => exact ⟨_, rfl⟩
  | 6, _ => exact ⟨_, rfl⟩
  | 7, _ => exact ⟨_, rfl⟩
  | 8, _ => exact ⟨_, rfl⟩
  | 9, _ => exact ⟨_, rfl⟩
  | 10, _ => exact ⟨_, rfl⟩
  | 11, _ => exact ⟨_, rfl⟩
  | 12, _ => exact ⟨_, rfl⟩
def BinR (ts : List Tok) (k : Nat) (b : Bool) (r : AV) (k' : Nat) (b' : Bool) : Prop := k' = k ∧ b' = b ∧ ∃ kd bd : Int, r = .tup [intV .i64 kd, intV .i64 bd] ∧ (kd > 0 → b = false ∧ k < ts.length)
set_option maxRecDepth 100000 in
set_option maxHeartbeats 4000000 in
theorem abinary (ts : List Tok) (k : Nat) (b : Bool) : RCalls 71 [] ts k b (BinR ts k b) := by
  refine RCalls.of rfl ?_
  refine acalls_of cx_ok dr_ok Try.func71 (by kernel_rfl) rfl (nt := 47) (rs := [.tmp 2, .tmp 3]) rfl rfl ?_
  simp only [↓wBA, wBB, wBC, cx_muts, cx_arr, wBD, convA, Nat.reduceBEq, reduceIte, reduceCtorEq, reducePow, reduceAdd, reduceSub, reduceMul, reduceEqDiff, reduceLeDiff, Nat.reduceLT, Int.reduceLT, Int.reduceLE, Int.reduceToNat, ty71_XRb]
  refine (apeek ts k b _ 0 rfl).mono ?_
  rintro _ _ ⟨k', b', ⟨rfl, rfl, t, rfl, ht⟩, rfl⟩
  simp only [tokA, rdO, intV, boolV]
  simp only [↓wBA, wBB, wBC, cx_muts, cx_arr, wBD, convA, Nat.reduceBEq, reduceIte, reduceCtorEq, reducePow, reduceAdd, reduceSub, reduceMul, reduceEqDiff, reduceLeDiff, Nat.reduceLT, Int.reduceLT, Int.reduceLE, Int.reduceToNat, ty71_XRb]
  refine awp_loopS (X := { i : Nat // i ≤ 13 }) (fun i => [.mp 0 3 0 0, .any, .any, .any, .mp 1 3 0 0, .mp 2 13 0 0, .mp 3 13 0 0, .mp 4 13 0 0, intV .i64 (i.1 : Nat), .any, .any, .any, .any, .any, .any, .any, .any, .any, .any, .any, .any, .any, .any, .any, .any, .any, .any, .any, .any, .any, .any, .any, .any, .any, .any, .any, .any, .any, .any, .any, .any, .any, .any, .any, .any, .any, .any, .any]) (fun i => 13 - i.1) ⟨0, by omega⟩ ?_ ?_
  · simp [WeakE, Weak, leL, leT, leM, leG, leA, leC, leS, leO, tokLt, tokLtL, intV, boolV]
  · rintro ⟨i, hi⟩
    by_cases hlt : i < 13
    · have hdec : decide ((i : Int) < 13) = true := by simp; omega
      obtain ⟨s, hs⟩ := tx_get i hlt
      obtain ⟨kd, hkd⟩ := kd_get i hlt
      obtain ⟨bd, hbd⟩ := bd_get i hlt
      have hi0 : ((0 : Int) ≤ (i : Int)) = True := eq_true (by omega)
      have hi1 : ((i : Int) < ((13 : Nat) : Int)) = True := eq_true (by omega)
      have hw : IntKind.i64.wrap ((i : Int) + 1) = ((i + 1 : Nat) : Int) := by rw [wrap_i64 (by omega) (by omega)]; simp
      simp only [↓wBA, wBB, wBC, cx_muts, cx_arr, wBD, convA, Nat.reduceBEq, reduceIte, reduceCtorEq, reducePow, reduceAdd, reduceSub, reduceMul, reduceEqDiff, reduceLeDiff, Nat.reduceLT, Int.reduceLT, Int.reduceLE, Int.reduceToNat, ty71_XRb, hdec]
      refine ⟨(.det 0 (.det 1 (.det 2 (.det 3 (.det 4 (.det 5 (.det 6 (.det 7 (.det 8 (.det 9 (.det 10 (.det 11 (.det 12 (.det 13 (.det 14 (.det 15 (.det 16 (.det 17 (.det 18 (.det 19 (.det 20 (.det 21 (.det 22 (.det 23 .done)))))))))))))))))))))))), by decide, by kernel_rfl, by kernel_rfl, ?_⟩
      cases hA : (t.2.1.toList == s.toList)
      · skip
        simp only [↓wBA, wBB, wBC, cx_muts, cx_arr, wBD, convA, Nat.reduceBEq, reduceIte, reduceCtorEq, reducePow, reduceAdd, reduceSub, reduceMul, reduceEqDiff, reduceLeDiff, Nat.reduceLT, Int.reduceLT, Int.reduceLE, Int.reduceToNat, ty71_XRb, hi0, hi1, Nat.mul_one, hs, hA, binStr, unmaskS, hw]
        refine ⟨⟨i + 1, by omega⟩, by show 13 - (i + 1) < 13 - i; omega, ?_⟩
        simp [WeakE, Weak, leL, leT, leM, leG, leA, leC, leS, leO, tokLt, tokLtL, intV, boolV]
      · by_cases h2 : i < 2
        · have hB : decide ((i : Int) < 2) = true := by simp; omega
          have hB' : decide ((i : Int) ≥ 2) = false := by simp; omega
          cases hC : (t.1 == 1)
          · skip
            simp only [↓wBA, wBB, wBC, cx_muts, cx_arr, wBD, convA, Nat.reduceBEq, reduceIte, reduceCtorEq, reducePow, reduceAdd, reduceSub, reduceMul, reduceEqDiff, reduceLeDiff, Nat.reduceLT, Int.reduceLT, Int.reduceLE, Int.reduceToNat, ty71_XRb, hi0, hi1, Nat.mul_one, hs, hA, binStr, unmaskS, hB, hB', hC, hw]
            refine ⟨⟨i + 1, by omega⟩, by show 13 - (i + 1) < 13 - i; omega, ?_⟩
            simp [WeakE, Weak, leL, leT, leM, leG, leA, leC, leS, leO, tokLt, tokLtL, intV, boolV]
          · skip
            simp only [↓wBA, wBB, wBC, cx_muts, cx_arr, wBD, convA, Nat.reduceBEq, reduceIte, reduceCtorEq, reducePow, reduceAdd, reduceSub, reduceMul, reduceEqDiff, reduceLeDiff, Nat.reduceLT, Int.reduceLT, Int.reduceLE, Int.reduceToNat, ty71_XRb, hi0, hi1, Nat.mul_one, hs, hA, binStr, unmaskS, hB, hB', hC]
            refine ⟨(.det 0 (.det 1 (.det 2 (.det 3 (.det 4 (.det 5 (.det 6 (.det 7 .done)))))))), by decide, by kernel_rfl, by kernel_rfl, ?_⟩
            simp only [↓wBA, wBB, wBC, cx_muts, cx_arr, wBD, convA, Nat.reduceBEq, reduceIte, reduceCtorEq, reducePow, reduceAdd, reduceSub, reduceMul, reduceEqDiff, reduceLeDiff, Nat.reduceLT, Int.reduceLT, Int.reduceLE, Int.reduceToNat, ty71_XRb, hi0, hi1, Nat.mul_one, hs, hA, binStr, unmaskS, hB, hB', hC, hkd, hbd]
            exact ret_rd (k' := k') (b' := b') (.inl rfl) rfl rfl rfl ⟨rfl, rfl, kd, bd, rfl, fun _ => ht (by simp at hC; omega)⟩
        · have hB : decide ((i : Int) < 2) = false := by simp; omega
          have hB' : decide ((i : Int) ≥ 2) = true := by simp; omega
          cases hC : (t.1 == 5)
          · skip
            simp only [↓wBA, wBB, wBC, cx_muts, cx_arr, wBD, convA, Nat.reduceBEq, reduceIte, reduceCtorEq, reducePow, reduceAdd, reduceSub, reduceMul, reduceEqDiff, reduceLeDiff, Nat.reduceLT, Int.reduceLT, Int.reduceLE, Int.reduceToNat, ty71_XRb, hi0, hi1, Nat.mul_one, hs, hA, binStr, unmaskS, hB, hB', hC, hw]
            refine ⟨⟨i + 1, by omega⟩, by show 13 - (i + 1) < 13 - i; omega, ?_⟩
            simp [WeakE, Weak, leL, leT, leM, leG, leA, leC, leS, leO, tokLt, tokLtL, intV, boolV]
          · skip
            simp only [↓wBA, wBB, wBC, cx_muts, cx_arr, wBD, convA, Nat.reduceBEq, reduceIte, reduceCtorEq, reducePow, reduceAdd, reduceSub, reduceMul, reduceEqDiff, reduceLeDiff, Nat.reduceLT, Int.reduceLT, Int.reduceLE, Int.reduceToNat, ty71_XRb, hi0, hi1, Nat.mul_one, hs, hA, binStr, unmaskS, hB, hB', hC]
            refine ⟨(.det 0 (.det 1 (.det 2 (.det 3 (.det 4 (.det 5 (.det 6 (.det 7 .done)))))))), by decide, by kernel_rfl, by kernel_rfl, ?_⟩
            simp only [↓wBA, wBB, wBC, cx_muts, cx_arr, wBD, convA, Nat.reduceBEq, reduceIte, reduceCtorEq, reducePow, reduceAdd, reduceSub, reduceMul, reduceEqDiff, reduceLeDiff, Nat.reduceLT, Int.reduceLT, Int.reduceLE, Int.reduceToNat, ty71_XRb, hi0, hi1, Nat.mul_one, hs, hA, binStr, unmaskS, hB, hB', hC, hkd, hbd]
            exact ret_rd (k' := k') (b' := b') (.inl rfl) rfl rfl rfl ⟨rfl, rfl, kd, bd, rfl, fun _ => ht (by simp at hC; omega)⟩
    · have hdec : decide ((i : Int) < 13) = false := by simp; omega
      simp only [↓wBA, wBB, wBC, cx_muts, cx_arr, wBD, convA, Nat.reduceBEq, reduceIte, reduceCtorEq, reducePow, reduceAdd, reduceSub, reduceMul, reduceEqDiff, reduceLeDiff, Nat.reduceLT, Int.reduceLT, Int.reduceLE, Int.reduceToNat, ty71_XRb, hdec]
      exact ret_rd (k' := k') (b' := b') (.inl rfl) rfl rfl rfl ⟨rfl, rfl, 0, 0, rfl, fun h => by omega⟩
end Go.Proofs.Ytcnkmandddfdmaa
