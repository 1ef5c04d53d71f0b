/- RelJoins: for every input the statement returns true, and each argument reads afterwards as it read before. The row and its tied card. -/
import Derived.Test.YtpcblbbddccgpaaGreatDoorM43
import Derived.Test.YtpcblbbddccgpaaGreatDoorM42
import Derived.Test.YtpcblbbddccgpaaGreatDoorCards
import Derived.Test.YtpcblbbddccgpaaGreatDoorTie
import Derived.ProofKit
import Derived.OpenShut
import Derived.ShutString
import Derived.SizedLaws
import Derived.Below
import Derived.Deep.DeepHandedRow
set_option linter.unusedVariables false
namespace Go.Proofs.YtpcblbbddccgpaaGreatDoor.relJoins
open Go.ChangeShapes Go.WideShapes Go.ChangeAt Go.RowKit

theorem own : ownKnob Tryz.prog.godebug = none := by kernel_rfl
theorem laidOut : laidOutB Tryz.prog = true := by kernel_rfl

abbrev noEx : Value := .agg #[.int .i64 0, .int .i64 0, .int .i64 0, .string ⟨#[]⟩, .string ⟨#[]⟩, .string ⟨#[]⟩, .int .i64 0, .slice none 0 0]
abbrev wArgs : Array Value := #[.slice none 0 0, .slice none 0 0, noEx]
theorem witness_row (os : Os) {H : Type} (enc : TypeId × Value → H) :
    (Rows.OpenSpec.upto Rows.relJoinsSpec).preRow enc Tryz.prog Tryz.f3 Rows.relJoinsUptoRow.domain false Rows.relJoinsUptoRow.laid ((laidWorld os).forCall (fun _ _ => 0) ⟨#[], wArgs, []⟩).memory wArgs := by
  have hw : (DataW.whole enc Tryz.prog ((laidWorld os).forCall (fun _ _ => 0) ⟨#[], wArgs, []⟩).memory Tryz.f3.params.toList Rows.relJoinsSpec.vars false wArgs.toList 8).map (fun x => Rows.uptoSmall H (x.1 ++ x.2.1)) = some true := by kernel_rfl
  obtain ⟨x, hx, hx1⟩ := Option.map_eq_some_iff.1 hw
  exact OpenSpec.preRow_of_cond 8 hx (by kernel_rfl) (fun k hk => by cases hk; exact hx1) (by kernel_rfl) (laid_met os _)

theorem joins_law {W : World} {a b : List (List Va)} {x : Ex} {v0 v1 : Value} {cs : Array Value} (ha : a.length ≤ 1048576 ∧ ∀ r ∈ a, r.length ≤ 1048576) (hb : b.length ≤ 1048576 ∧ ∀ r ∈ b, r.length ≤ 1048576) (har : ∀ r ∈ a, ∀ v ∈ r, i64R v.2.1) (hbr : ∀ r ∈ b, ∀ v ∈ r, i64R v.2.1) (hx : okX x) (h0 : PRep W (inH W) (.sl 1 (enVV a)) v0) (h1 : PRep W (inH W) (.sl 1 (enVV b)) v1) (h2 : RepL W (exC x) cs.toList) (hG : GlobW W) :
    Calls Tryz.prog 3 #[v0, v1, .agg cs] W fun e W' => e = .returned (.bool true) ∧ Below W.heap.size W W' :=
  law_calls (vs := [v0, v1, .agg cs]) (fun σ => ajoins a b x (by omega) (by omega) (fun r hr q hq => by have := ha.2 r hr; have := hb.2 q hq; omega) har hbr hx σ) (by
    simp only [ARepL]
    exact ⟨_, _, rfl, by simp only [ARep]; exact h0, _, _, rfl, by simp only [ARep]; exact h1, _, _, rfl, RepL.agg h2, rfl⟩) hG

set_option maxRecDepth 100000 in
set_option maxHeartbeats 2000000 in
theorem lifted (os : Os) (started : os.Started) (H : Type) (enc : TypeId × Value → H) (F : Stop.Interp) :
    ReturnsInHanded {} Tryz.checked os 3 .any ((Rows.OpenSpec.upto Rows.relJoinsSpec).preRow enc Tryz.prog Tryz.f3 Rows.relJoinsUptoRow.domain false Rows.relJoinsUptoRow.laid) (((Rows.OpenSpec.upto Rows.relJoinsSpec).at F).post enc Tryz.prog Tryz.f3 false true false false) := by
  refine returnsInHanded_of_row (C := Tryz.checked) (s := Rows.OpenSpec.upto Rows.relJoinsSpec) own started (by kernel_rfl) Tryz.func3
    (witness_row_atRef (enc := enc) (C := Tryz.checked) false (laidWorld os) wArgs rfl (by kernel_rfl) (by kernel_rfl) (by kernel_rfl) (witness_row os enc)) ?_
  intro W base args ds gs before hval0 hW _ hcond hsz0 hL hsh _
  have hbulk0 : Rows.uptoSmall H (ds ++ gs) = true := hcond _ rfl
  have hval : ∀ (j : Nat) t v, Tryz.f3.params[j]? = some t → args[j]? = some v → Value.okWide Tryz.prog W .any base t v := hval0
  have hW' := hW
  obtain ⟨p, q, hA0, hV, rfl, hfz, hnd⟩ := hW
  have hA : DataW.TrodAll enc Tryz.prog W 0 (fun _ => true) true Tryz.f3.params.toList args.toList ds p := hA0
  have hsz : (DataW.weightsEach Tryz.prog (Tryz.f3.params.toList ++ Rows.relJoinsSpec.plain.varTypes Tryz.prog) (ds ++ gs)).all (· ≤ reachBytes) = true := hsz0
  have hG : GlobW W := globW_of hsh (pow_of hL)
  rw [Tryz.params3] at hA hval hsz
  obtain ⟨v0, vs0, d0, ds0, p0, q0, hargs, rfl, rfl, h0, r0⟩ := trodAll_cons hA
  obtain ⟨v1, vs1, d1, ds1, p1, q1, rfl, rfl, rfl, h1, r1⟩ := trodAll_cons r0
  obtain ⟨v2, vs2, d2, ds2, p2, q2, rfl, rfl, rfl, h2, r2⟩ := trodAll_cons r1
  obtain ⟨rfl, rfl, rfl⟩ := trodAll_nil r2
  obtain rfl : args = #[v0, v1, v2] := by cases args; simp_all
  obtain ⟨rfl, rfl⟩ := trodVars_none hV
  obtain ⟨sa, sl, sc, rfl⟩ := okWide_slice Tryz.underlying22 (hval 0 22 v0 rfl rfl)
  have k0 := h0
  have lt0 : ∀ x ∈ p0, x.block < W.heap.size := by obtain ⟨m, hm⟩ := k0; exact DataW.trod_lt m _ _ _ hm
  obtain ⟨x0, hx0, hr0⟩ : ∃ x, HasSh rowsSh x ∧ PRep W (inH W) x (.slice sa sl sc) := by obtain ⟨fuel, hf⟩ := k0; exact open_one (n := 8) (by kernel_rfl) hf (fitsP_of hsz (j := 0) rfl rfl)
  obtain ⟨rows, rfl, hl, hrs⟩ := rows_arg hx0
  obtain ⟨ta, tl, tc, rfl⟩ := okWide_slice Tryz.underlying22 (hval 1 22 v1 rfl rfl)
  have k1 := h1
  have lt1 : ∀ x ∈ p1, x.block < W.heap.size := by obtain ⟨m, hm⟩ := k1; exact DataW.trod_lt m _ _ _ hm
  obtain ⟨x1, hx1, hr1⟩ : ∃ x, HasSh rowsSh x ∧ PRep W (inH W) x (.slice ta tl tc) := by obtain ⟨fuel, hf⟩ := k1; exact open_one (n := 8) (by kernel_rfl) hf (fitsP_of hsz (j := 1) rfl rfl)
  obtain ⟨rows1, rfl, hl1, hrs1⟩ := rows_arg hx1
  have k2 := h2
  have lt2 : ∀ x ∈ p2, x.block < W.heap.size := by obtain ⟨m, hm⟩ := k2; exact DataW.trod_lt m _ _ _ hm
  obtain ⟨cs2, rfl, hcs2⟩ := okWide_struct Tryz.underlying27 (hval 2 27 v2 rfl rfl)
  obtain ⟨y, oky, hr2⟩ : ∃ x : Ex, okX x ∧ RepL W (exC x) cs2.toList := by obtain ⟨fuel, hf⟩ := k2; exact open_ex hf (fitsP_of hsz (j := 2) rfl rfl)
  have hbulk : Rows.uptoBulk d0 + (Rows.uptoBulk d1 + (Rows.uptoBulk d2 + 0)) ≤ 1048576 := by simpa [Rows.uptoSmall, Rows.uptoBulkAll] using hbulk0
  have hb0 : rows.length ≤ 1048576 ∧ ∀ r ∈ rows, r.length ≤ 1048576 := by
    obtain ⟨fuel, hf⟩ := k0
    obtain ⟨e1, e2⟩ := bk_rows hf hr0
    exact ⟨by omega, fun r hr => by have := e2 r hr; omega⟩
  have hb1 : rows1.length ≤ 1048576 ∧ ∀ r ∈ rows1, r.length ≤ 1048576 := by
    obtain ⟨fuel, hf⟩ := k1
    obtain ⟨e1, e2⟩ := bk_rows hf hr1
    exact ⟨by omega, fun r hr => by have := e2 r hr; omega⟩
  clear hA0 hval0
  refine (joins_law (a := rows) (b := rows1) (x := y) hb0 hb1 (fun r hr => (hrs r hr).2) (fun r hr => (hrs1 r hr).2) oky hr0 hr1 hr2 hG).mono fun e W' ⟨he, bel⟩ => ?_
  subst he
  exact ⟨_, rfl, _, _, _, [], _, [], hW', trodAll_mk1 (shut_bool Tryz.underlying4 _), (trodAll_cons_mk (Below.trod laidOut (by kernel_rfl) (of_decide_eq_true (by kernel_rfl)) k0 bel lt0) (trodAll_cons_mk (Below.trod laidOut (by kernel_rfl) (of_decide_eq_true (by kernel_rfl)) k1 bel lt1) (trodAll_cons_mk (Below.trod laidOut (by kernel_rfl) (of_decide_eq_true (by kernel_rfl)) k2 bel lt2) trodAll_mk0))), rfl, bel.frame _, fun h => by cases h⟩

theorem said : Rows.RelJoinsUptoSaid :=
  OpenClaim.holds_of_cond 3 Tryz.f3 rfl rfl rfl rfl rfl rfl rfl ⟨rfl, rfl, rfl, rfl, rfl⟩ rfl rfl rfl rfl rfl (by kernel_rfl) Tryz.func3 (by kernel_rfl)
    (of_decide_eq_true (by kernel_rfl)) (by unfold Func.isWrapper; first | (rw [if_pos (by decide +kernel)]; kernel_rfl) | (rw [if_neg (by decide +kernel)]; exact ⟨rfl, rfl⟩))
    (fun os started H enc _ F => by rw [OpenClaim.pre_eq_preRow]; exact lifted os started H enc F)

theorem plain (f : FuncId) (fn : Func) (hf : Tryz.pinned.checked.prog.funcNamed "cadastre/cadastrelaw17.RelJoins" = some f) (hfn : Tryz.pinned.checked.prog.funcs[f]? = some fn) :
    false = Tryz.pinned.checked.prog.looks [] ∧ ∀ (j : Nat) t, fn.params[j]? = some t → Tryz.pinned.checked.prog.wantsStandIn t = false := by
  obtain rfl : f = 3 := Option.some.inj ((show Tryz.prog.funcNamed "cadastre/cadastrelaw17.RelJoins" = some 3 by kernel_rfl).symm.trans hf) |>.symm
  obtain rfl : fn = Tryz.f3 := (Option.some.inj (Tryz.func3.symm.trans hfn)).symm
  refine ⟨by kernel_rfl, fun j t ht => ?_⟩
  rw [Tryz.params3] at ht
  have hm := Array.mem_of_getElem? ht
  have hall : (#[22, 22, 27] : Array Nat).all (fun t => !Tryz.prog.wantsStandIn t) = true := by kernel_rfl
  have := Array.all_eq_true'.1 hall t hm
  have h2 : Tryz.prog.wantsStandIn t = false := by simpa using this
  exact h2

theorem card : Rows.RelJoinsUptoCardSaid :=
  Claim7.holds_tied_plain_at .later [] _ _ _ _ said (fun _ h => by cases h) (by kernel_rfl) (fun _ h => by cases h) relJoinsUpto_row_tie rfl ⟨rfl, rfl⟩ (by kernel_rfl) rfl plain (by kernel_rfl)
#print axioms card
end Go.Proofs.YtpcblbbddccgpaaGreatDoor.relJoins
