/- DmlBack: for every input the statement returns true, and each argument reads afterwards as it read before. The row and its tied card. -/
import Derived.Test.YtcnkmandddfdmaaGreatDoorM44
import Derived.Test.YtcnkmandddfdmaaGreatDoorM45
import Derived.Test.YtcnkmandddfdmaaGreatDoorCards
import Derived.Test.YtcnkmandddfdmaaGreatDoorTie
import Derived.ProofKit
import Derived.OpenShut
import Derived.ShutString
import Derived.SizedLaws
import Derived.Below
import Derived.Deep.DeepHandedRow
set_option linter.unusedVariables false
namespace Go.Proofs.YtcnkmandddfdmaaGreatDoor.dmlBack
open Go.ChangeShapes Go.WideShapes Go.ChangeAt Go.RowKit

theorem own : ownKnob Tryz.prog.godebug = none := by kernel_rfl
theorem laidOut : laidOutB Tryz.prog = true := by kernel_rfl

abbrev wArgs : Array Value := #[.agg #[.string ⟨#[]⟩, .string ⟨#[]⟩, .slice none 0 0, .slice none 0 0], .int .u8 0]
theorem witness_row (os : Os) {H : Type} (enc : TypeId × Value → H) :
    (OpenSpec.ofChange Rows.dmlBackSpec).preRow enc Tryz.prog Tryz.f3 Rows.dmlBackRow.domain false Rows.dmlBackRow.laid ((laidWorld os).forCall (fun _ _ => 0) ⟨#[], wArgs, []⟩).memory wArgs := by
  have hw : (DataW.whole enc Tryz.prog ((laidWorld os).forCall (fun _ _ => 0) ⟨#[], wArgs, []⟩).memory Tryz.f3.params.toList Rows.dmlBackSpec.vars false wArgs.toList 8).isSome = true := by kernel_rfl
  obtain ⟨x, hx⟩ := Option.isSome_iff_exists.1 hw
  exact OpenSpec.preRow_of_cond 8 hx (by kernel_rfl) (fun k hk => by cases hk) (by kernel_rfl) (laid_met os _)

theorem wf_i64 {n : Int} (h : (Lit.int .i64 n).wf = true) : i64R n := by
  simp [Lit.wf, IntKind.min, IntKind.max, IntKind.signed, IntKind.bits] at h
  unfold i64R; omega
theorem cols_sh : ∀ ls : List (List PV), (∀ c ∈ ls, HasShL [.str, .int .i64, .bool, .bool] c) → ∃ cols : List Tc, enTc cols = ls ∧ ∀ c ∈ cols, c.1.size ≤ 140737488355328
  | [], _ => ⟨[], rfl, by simp⟩
  | c :: ls, h => by
    obtain ⟨cols, rfl, hcs⟩ := cols_sh ls fun c hc => h c (by simp [hc])
    have h0 := h c (by simp)
    simp only [HasShL, HasSh] at h0
    obtain ⟨_, _, rfl, ⟨s, rfl, hs⟩, _, _, rfl, ⟨n, rfl, _⟩, _, _, rfl, ⟨b1, rfl⟩, _, _, rfl, ⟨b2, rfl⟩, rfl⟩ := h0
    refine ⟨(s, n, b1, b2) :: cols, rfl, fun v hv => ?_⟩
    rcases List.mem_cons.1 hv with rfl | hv
    · show s.size ≤ _; omega
    · exact hcs v hv
theorem vals_sh : ∀ ls : List (List PV), (∀ c ∈ ls, HasShL [.int .i64, .int .i64, .str] c) → ∃ r : List Va, enV r = ls ∧ ∀ v ∈ r, i64R v.2.1
  | [], _ => ⟨[], rfl, by simp⟩
  | c :: ls, h => by
    obtain ⟨r, rfl, hr⟩ := vals_sh ls fun c hc => h c (by simp [hc])
    have h0 := h c (by simp)
    simp only [HasShL, HasSh] at h0
    obtain ⟨_, _, rfl, ⟨k, rfl, _⟩, _, _, rfl, ⟨n, rfl, hn⟩, _, _, rfl, ⟨s, rfl, _⟩, rfl⟩ := h0
    refine ⟨(k, n, s) :: r, rfl, fun v hv => ?_⟩
    rcases List.mem_cons.1 hv with rfl | hv
    · exact wf_i64 hn
    · exact hr v hv
theorem rows_sh : ∀ ls : List (List PV), (∀ c ∈ ls, HasShL [.sl 32 [.int .i64, .int .i64, .str]] c) → ∃ rows : List (List Va), enVV rows = ls ∧ ∀ r ∈ rows, ∀ v ∈ r, i64R v.2.1
  | [], _ => ⟨[], rfl, by simp⟩
  | c :: ls, h => by
    obtain ⟨rows, rfl, hr⟩ := rows_sh ls fun c hc => h c (by simp [hc])
    have h0 := h c (by simp)
    simp only [HasShL] at h0
    obtain ⟨x, _, rfl, hx, rfl⟩ := h0
    simp only [HasSh] at hx
    obtain ⟨m, rfl, _, hm⟩ := hx
    obtain ⟨r, rfl, hv⟩ := vals_sh m hm
    refine ⟨r :: rows, rfl, fun q hq => ?_⟩
    rcases List.mem_cons.1 hq with rfl | hq
    · exact hv
    · exact hr q hq
/-- An ask's cells. -/
def askSh : List Sh := [.str, .str, .sl 32 [.str, .int .i64, .bool, .bool], .sl 24 [.sl 32 [.int .i64, .int .i64, .str]]]
theorem ask_sh {ps : List PV} (h : HasShL askSh ps) : ∃ (txt nm : ByteArray) (cols : List Tc) (rows : List (List Va)), ps = [.v (.string txt), .v (.string nm), .sl 4 (enTc cols), .sl 1 (enVV rows)] ∧ cols.length ≤ 4398046511104 ∧ rows.length ≤ 140737488351232 ∧ (∀ r ∈ rows, ∀ v ∈ r, i64R v.2.1) ∧ ∀ c ∈ cols, c.1.size ≤ 140737488355328 := by
  simp only [askSh, HasShL] at h
  obtain ⟨_, _, rfl, h1, _, _, rfl, h2, _, _, rfl, h3, _, _, rfl, h4, rfl⟩ := h
  simp only [HasSh] at h1 h2
  obtain ⟨txt, rfl, _⟩ := h1
  obtain ⟨nm, rfl, _⟩ := h2
  rw [HasSh] at h3 h4
  obtain ⟨ls, rfl, hl, hc⟩ := h3
  obtain ⟨ms, rfl, hml, hmc⟩ := h4
  obtain ⟨cols, rfl, hcs⟩ := cols_sh ls hc
  obtain ⟨rows, rfl, hr⟩ := rows_sh ms hmc
  rw [enTc_len] at hl
  rw [enVV_len] at hml
  exact ⟨txt, nm, cols, rows, rfl, by omega, by omega, hr, hcs⟩
theorem back_law (c : Int) (ps : List PV) (us : Array Value) (W : World) (hx : HasShL askSh ps) (hr : RepL W ps us.toList) (hw : (Lit.int .u8 c).wf = true) (hG : GlobW W) :
    Calls Tryz.prog 3 #[.agg us, .int .u8 c] W fun e W' => e = .returned (.bool true) ∧ Below W.heap.size W W' := by
  obtain ⟨txt, nm, cols, rows, rfl, h1, h2, h3, h4⟩ := ask_sh hx
  have hb : 0 ≤ c ∧ c ≤ 255 := by
    simp [Lit.wf, IntKind.min, IntKind.max, IntKind.signed, IntKind.bits] at hw
    omega
  obtain ⟨n, rfl⟩ : ∃ n : Nat, c = n := ⟨c.toNat, by omega⟩
  exact law_calls (W := W) (vs := [.agg us, .int .u8 n]) (aback txt nm cols rows n (by omega) h1 h2 h3 h4) (by
    simp only [ARepL]
    exact ⟨_, _, rfl, hr.agg, _, _, rfl, rep_mk rfl, rfl⟩) hG

set_option maxRecDepth 100000 in
set_option maxHeartbeats 2000000 in
theorem lifted (os : Os) (started : os.Started) (H : Type) (enc : TypeId × Value → H) (F : Stop.Interp) :
    ReturnsInHanded {} Tryz.checked os 3 .any ((OpenSpec.ofChange Rows.dmlBackSpec).preRow enc Tryz.prog Tryz.f3 Rows.dmlBackRow.domain false Rows.dmlBackRow.laid) (((OpenSpec.ofChange Rows.dmlBackSpec).at F).post enc Tryz.prog Tryz.f3 false true false false) := by
  refine returnsInHanded_of_row (C := Tryz.checked) (s := OpenSpec.ofChange Rows.dmlBackSpec) own started (by kernel_rfl) Tryz.func3
    (witness_row_atRef (enc := enc) (C := Tryz.checked) false (laidWorld os) wArgs rfl (by kernel_rfl) (by kernel_rfl) (by kernel_rfl) (witness_row os enc)) ?_
  intro W base args ds gs before hval0 hW _ _ hsz0 hL hsh _
  have hval : ∀ (j : Nat) t v, Tryz.f3.params[j]? = some t → args[j]? = some v → Value.okWide Tryz.prog W .any base t v := hval0
  have hW' := hW
  obtain ⟨p, q, hA0, hV, rfl, hfz, hnd⟩ := hW
  have hA : DataW.TrodAll enc Tryz.prog W 0 (fun _ => true) true Tryz.f3.params.toList args.toList ds p := hA0
  have hsz : (DataW.weightsEach Tryz.prog (Tryz.f3.params.toList ++ Rows.dmlBackSpec.plain.varTypes Tryz.prog) (ds ++ gs)).all (· ≤ reachBytes) = true := hsz0
  have hG : GlobW W := globW_of hsh (pow_of hL)
  rw [Tryz.params3] at hA hval hsz
  obtain ⟨v0, vs0, d0, ds0, p0, q0, hargs, rfl, rfl, h0, r0⟩ := trodAll_cons hA
  obtain ⟨v1, vs1, d1, ds1, p1, q1, rfl, rfl, rfl, h1, r1⟩ := trodAll_cons r0
  obtain ⟨rfl, rfl, rfl⟩ := trodAll_nil r1
  obtain rfl : args = #[v0, v1] := by cases args; simp_all
  obtain ⟨rfl, rfl⟩ := trodVars_none hV
  have k0 := h0
  have lt0 : ∀ x ∈ p0, x.block < W.heap.size := by obtain ⟨m, hm⟩ := k0; exact DataW.trod_lt m _ _ _ hm
  obtain ⟨cs0, rfl, hcs0⟩ := okWide_struct Tryz.underlying27 (hval 0 27 v0 rfl rfl)
  obtain ⟨ps0, hx0, hr0⟩ : ∃ ps, HasShL askSh ps ∧ RepL W ps cs0.toList := by obtain ⟨fuel, hf⟩ := k0; exact open_sh 20 (by kernel_rfl) hf (fitsP_of hsz (j := 0) rfl rfl)
  obtain ⟨a1, rfl, rfl, rfl, w1⟩ := open_int Tryz.underlying5 (hval 1 5 v1 rfl rfl) h1
  clear hA0 hval0
  refine (back_law a1 ps0 _ W hx0 hr0 w1 hG).mono fun e W' ⟨he, bel⟩ => ?_
  subst he
  exact ⟨_, rfl, _, _, _, [], _, [], hW', trodAll_mk1 (shut_bool Tryz.underlying4 _), (trodAll_cons_mk (Below.trod laidOut (by kernel_rfl) (of_decide_eq_true (by kernel_rfl)) k0 bel lt0) (trodAll_cons_mk (shut_int Tryz.underlying5 w1) trodAll_mk0)), rfl, bel.frame _, fun h => by cases h⟩

theorem said : Rows.DmlBackSaid :=
  OpenClaim.holds_of_cond 3 Tryz.f3 rfl rfl rfl rfl rfl rfl rfl ⟨rfl, rfl, rfl, rfl, rfl⟩ rfl rfl rfl rfl rfl (by kernel_rfl) Tryz.func3 (by kernel_rfl)
    (of_decide_eq_true (by kernel_rfl)) (by unfold Func.isWrapper; first | (rw [if_pos (by decide +kernel)]; kernel_rfl) | (rw [if_neg (by decide +kernel)]; exact ⟨rfl, rfl⟩))
    (fun os started H enc _ F => by rw [OpenClaim.pre_eq_preRow]; exact lifted os started H enc F)

theorem plain (f : FuncId) (fn : Func) (hf : Tryz.pinned.checked.prog.funcNamed "cadastre/cadastrelaw23.DmlBack" = some f) (hfn : Tryz.pinned.checked.prog.funcs[f]? = some fn) :
    false = Tryz.pinned.checked.prog.looks [] ∧ ∀ (j : Nat) t, fn.params[j]? = some t → Tryz.pinned.checked.prog.wantsStandIn t = false := by
  obtain rfl : f = 3 := Option.some.inj ((show Tryz.prog.funcNamed "cadastre/cadastrelaw23.DmlBack" = some 3 by kernel_rfl).symm.trans hf) |>.symm
  obtain rfl : fn = Tryz.f3 := (Option.some.inj (Tryz.func3.symm.trans hfn)).symm
  refine ⟨by kernel_rfl, fun j t ht => ?_⟩
  rw [Tryz.params3] at ht
  have hm := Array.mem_of_getElem? ht
  have hall : (#[27, 5] : Array Nat).all (fun t => !Tryz.prog.wantsStandIn t) = true := by kernel_rfl
  have := Array.all_eq_true'.1 hall t hm
  have h2 : Tryz.prog.wantsStandIn t = false := by simpa using this
  exact h2

theorem card : Rows.DmlBackCardSaid :=
  Claim7.holds_tied_plain_at .later [] _ _ _ _ said (fun _ h => by cases h) (by kernel_rfl) (fun _ h => by cases h) dmlBack_row_tie rfl ⟨rfl, rfl⟩ (by kernel_rfl) rfl plain (by kernel_rfl)
#print axioms card
end Go.Proofs.YtcnkmandddfdmaaGreatDoor.dmlBack
