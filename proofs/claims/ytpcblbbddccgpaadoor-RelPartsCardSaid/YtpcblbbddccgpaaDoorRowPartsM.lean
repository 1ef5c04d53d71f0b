/- RelParts: for every input the statement returns true, and each argument reads afterwards as it read before. The row and its tied card. -/
import Derived.Test.YtpcblbbddccgpaaDoorM37
import Derived.Test.YtpcblbbddccgpaaDoorM39
import Derived.Test.YtpcblbbddccgpaaDoorCards
import Derived.Test.YtpcblbbddccgpaaDoorTie
import Derived.ProofKit
import Derived.OpenShut
import Derived.ShutString
import Derived.SizedLaws
import Derived.Below
import Derived.Deep.DeepHandedRow
set_option linter.unusedVariables false
namespace Go.Proofs.YtpcblbbddccgpaaDoor.relParts
open Go.ChangeShapes Go.WideShapes Go.ChangeAt Go.RowKit

theorem own : ownKnob Tryd.prog.godebug = none := by kernel_rfl
theorem laidOut : laidOutB Tryd.prog = true := by kernel_rfl

def partsP (rows : List (List Va)) (x y : Ex) (c : Int) : List PV := .sl 1 (enVV rows) :: (exC x ++ (exC y ++ [.v (.int .u8 c)]))
theorem partsA_P (rows : List (List Va)) (x y : Ex) (c : Int) : partsA rows x y c = .agg ((partsP rows x y c).map .p) := by simp [partsA, partsP]
theorem HasShL_cut : ∀ {l l' : List Sh} {c : List PV}, HasShL (l ++ l') c → ∃ a b, c = a ++ b ∧ HasShL l a ∧ HasShL l' b
  | [], l', c, h => ⟨[], c, rfl, rfl, h⟩
  | s :: l, l', c, h => by
    simp only [List.cons_append, HasShL] at h
    obtain ⟨x, c', rfl, hx, h⟩ := h
    obtain ⟨a, b, rfl, ha, hb⟩ := HasShL_cut h
    exact ⟨x :: a, b, rfl, by simp only [HasShL]; exact ⟨_, _, rfl, hx, ha⟩, hb⟩
def partsSh : List Sh := rowsSh :: (exSh ++ (exSh ++ [.int .u8]))
theorem sh_P : shOfR Tryd.prog rL 6 29 = some partsSh := by kernel_rfl
theorem wfU {n : Int} (h : (Lit.int .u8 n).wf = true) : 0 ≤ n ∧ n < 256 := by
  simp [Lit.wf, IntKind.min, IntKind.max, IntKind.signed, IntKind.bits] at h
  omega
theorem open_parts {H : Type} {enc : TypeId × Value → H} {w : World} {held : Bool} {fuel : Nat} {cs : List Value} {d : DataW H} {p : List MemPlace} (h : DataW.trod enc Tryd.prog w 0 (fun _ => true) held fuel 29 cs = some (d, p)) (hf : FitsP Tryd.prog 29 d) : ∃ (rows : List (List Va)) (x y : Ex) (c : Int), rows.length * 24 ≤ 140737488351232 ∧ (∀ r ∈ rows, r.length ≤ 4398046511104) ∧ 0 ≤ c ∧ c < 256 ∧ RepL w (partsP rows x y c) cs := by
  obtain ⟨ps, h1, h2⟩ := open_shR (R := rL) (N := SizeOf.sizeOf d) (fun t l hl fuel cs d2 p hs h hf => by
      unfold rL at hl
      split at hl
      · rename_i e; subst e
        simp only [Option.some.injEq] at hl; subst hl
        exact open_exL (N := SizeOf.sizeOf d) (fun hd h hf => open_exN _ hd h hf) (Nat.le_of_lt hs) h hf
      · simp at hl) 6 (.inr ⟨Nat.le_refl _, rfl⟩) sh_P h hf
  simp only [partsSh, HasShL] at h1
  obtain ⟨x0, c0, rfl, hx0, h1⟩ := h1
  obtain ⟨a, b, rfl, ha, hb⟩ := HasShL_cut h1
  obtain ⟨a2, b2, rfl, ha2, hb2⟩ := HasShL_cut hb
  obtain ⟨rows, rfl, hl, hrs⟩ := rows_arg hx0
  obtain ⟨x, rfl, _⟩ := ex_sh ha
  obtain ⟨y, rfl, _⟩ := ex_sh ha2
  simp only [HasShL] at hb2
  obtain ⟨u, _, rfl, hu, rfl⟩ := hb2
  simp only [HasSh] at hu
  obtain ⟨c, rfl, hc⟩ := hu
  have hc := wfU hc
  exact ⟨rows, x, y, c, hl, fun r h => (hrs r h).1, hc.1, hc.2, h2⟩

abbrev wArgs : Array Value := #[.agg #[.slice none 0 0, .int .i64 0, .int .i64 0, .int .i64 0, .string ⟨#[]⟩, .string ⟨#[]⟩, .string ⟨#[]⟩, .int .i64 0, .slice none 0 0, .int .i64 0, .int .i64 0, .int .i64 0, .string ⟨#[]⟩, .string ⟨#[]⟩, .string ⟨#[]⟩, .int .i64 0, .slice none 0 0, .int .u8 0]]
theorem witness_row (os : Os) {H : Type} (enc : TypeId × Value → H) :
    (OpenSpec.ofChange Rows.relPartsSpec).preRow enc Tryd.prog Tryd.f3 Rows.relPartsRow.domain false Rows.relPartsRow.laid ((laidWorld os).forCall (fun _ _ => 0) ⟨#[], wArgs, []⟩).memory wArgs := by
  have hw : (DataW.whole enc Tryd.prog ((laidWorld os).forCall (fun _ _ => 0) ⟨#[], wArgs, []⟩).memory Tryd.f3.params.toList Rows.relPartsSpec.vars false wArgs.toList 8).isSome = true := by kernel_rfl
  obtain ⟨x, hx⟩ := Option.isSome_iff_exists.1 hw
  exact OpenSpec.preRow_of_cond 8 hx (by kernel_rfl) (fun k hk => by cases hk) (by kernel_rfl) (laid_met os _)

theorem parts_law {W : World} {rows : List (List Va)} {x y : Ex} {c : Int} {cs0 : Array Value} (hn : rows.length * 24 ≤ 140737488351232) (hr : ∀ r ∈ rows, r.length ≤ 4398046511104) (h0 : 0 ≤ c) (h1 : c < 256) (hv : RepL W (partsP rows x y c) cs0.toList) (hG : GlobW W) :
    Calls Tryd.prog 3 #[.agg cs0] W fun e W' => e = .returned (.bool true) ∧ Below W.heap.size W W' :=
  law_calls (vs := [.agg cs0]) (fun σ => aparts rows x y c (by omega) hr h0 h1 σ) (by
    simp only [ARepL, partsA_P]
    exact ⟨_, _, rfl, RepL.agg hv, rfl⟩) hG

set_option maxRecDepth 100000 in
set_option maxHeartbeats 2000000 in
theorem lifted (os : Os) (started : os.Started) (H : Type) (enc : TypeId × Value → H) (F : Stop.Interp) :
    ReturnsInHanded {} Tryd.checked os 3 .any ((OpenSpec.ofChange Rows.relPartsSpec).preRow enc Tryd.prog Tryd.f3 Rows.relPartsRow.domain false Rows.relPartsRow.laid) (((OpenSpec.ofChange Rows.relPartsSpec).at F).post enc Tryd.prog Tryd.f3 false true false false) := by
  refine returnsInHanded_of_row (C := Tryd.checked) (s := OpenSpec.ofChange Rows.relPartsSpec) own started (by kernel_rfl) Tryd.func3
    (witness_row_atRef (enc := enc) (C := Tryd.checked) false (laidWorld os) wArgs rfl (by kernel_rfl) (by kernel_rfl) (by kernel_rfl) (witness_row os enc)) ?_
  intro W base args ds gs before hval0 hW _ _ hsz0 hL hsh _
  have hval : ∀ (j : Nat) t v, Tryd.f3.params[j]? = some t → args[j]? = some v → Value.okWide Tryd.prog W .any base t v := hval0
  have hW' := hW
  obtain ⟨p, q, hA0, hV, rfl, hfz, hnd⟩ := hW
  have hA : DataW.TrodAll enc Tryd.prog W 0 (fun _ => true) true Tryd.f3.params.toList args.toList ds p := hA0
  have hsz : (DataW.weightsEach Tryd.prog (Tryd.f3.params.toList ++ Rows.relPartsSpec.plain.varTypes Tryd.prog) (ds ++ gs)).all (· ≤ reachBytes) = true := hsz0
  have hG : GlobW W := globW_of hsh (pow_of hL)
  rw [Tryd.params3] at hA hval hsz
  obtain ⟨v0, vs0, d0, ds0, p0, q0, hargs, rfl, rfl, h0, r0⟩ := trodAll_cons hA
  obtain ⟨rfl, rfl, rfl⟩ := trodAll_nil r0
  obtain rfl : args = #[v0] := by cases args; simp_all
  obtain ⟨rfl, rfl⟩ := trodVars_none hV
  have k0 := h0
  have lt0 : ∀ x ∈ p0, x.block < W.heap.size := by obtain ⟨m, hm⟩ := k0; exact DataW.trod_lt m _ _ _ hm
  obtain ⟨cs0, rfl, hcs0⟩ := okWide_struct Tryd.underlying29 (hval 0 29 v0 rfl rfl)
  obtain ⟨rows, x, y, c, hn, hr, hc0, hc1, hr0⟩ : ∃ (rows : List (List Va)) (x y : Ex) (c : Int), rows.length * 24 ≤ 140737488351232 ∧ (∀ r ∈ rows, r.length ≤ 4398046511104) ∧ 0 ≤ c ∧ c < 256 ∧ RepL W (partsP rows x y c) cs0.toList := by obtain ⟨fuel, hf⟩ := k0; exact open_parts hf (fitsP_of hsz (j := 0) rfl rfl)
  clear hA0 hval0
  refine (parts_law hn hr hc0 hc1 hr0 hG).mono fun e W' ⟨he, bel⟩ => ?_
  subst he
  exact ⟨_, rfl, _, _, _, [], _, [], hW', trodAll_mk1 (shut_bool Tryd.underlying4 _), (trodAll_cons_mk (Below.trod laidOut (by kernel_rfl) (of_decide_eq_true (by kernel_rfl)) k0 bel lt0) trodAll_mk0), rfl, bel.frame _, fun h => by cases h⟩

theorem said : Rows.RelPartsSaid :=
  OpenClaim.holds_of_cond 3 Tryd.f3 rfl rfl rfl rfl rfl rfl rfl ⟨rfl, rfl, rfl, rfl, rfl⟩ rfl rfl rfl rfl rfl (by kernel_rfl) Tryd.func3 (by kernel_rfl)
    (of_decide_eq_true (by kernel_rfl)) (by unfold Func.isWrapper; first | (rw [if_pos (by decide +kernel)]; kernel_rfl) | (rw [if_neg (by decide +kernel)]; exact ⟨rfl, rfl⟩))
    (fun os started H enc _ F => by rw [OpenClaim.pre_eq_preRow]; exact lifted os started H enc F)

theorem plain (f : FuncId) (fn : Func) (hf : Tryd.pinned.checked.prog.funcNamed "cadastre/cadastrelaw17.RelParts" = some f) (hfn : Tryd.pinned.checked.prog.funcs[f]? = some fn) :
    false = Tryd.pinned.checked.prog.looks [] ∧ ∀ (j : Nat) t, fn.params[j]? = some t → Tryd.pinned.checked.prog.wantsStandIn t = false := by
  obtain rfl : f = 3 := Option.some.inj ((show Tryd.prog.funcNamed "cadastre/cadastrelaw17.RelParts" = some 3 by kernel_rfl).symm.trans hf) |>.symm
  obtain rfl : fn = Tryd.f3 := (Option.some.inj (Tryd.func3.symm.trans hfn)).symm
  refine ⟨by kernel_rfl, fun j t ht => ?_⟩
  rw [Tryd.params3] at ht
  have hm := Array.mem_of_getElem? ht
  have hall : (#[29] : Array Nat).all (fun t => !Tryd.prog.wantsStandIn t) = true := by kernel_rfl
  have := Array.all_eq_true'.1 hall t hm
  have h2 : Tryd.prog.wantsStandIn t = false := by simpa using this
  exact h2

theorem card : Rows.RelPartsCardSaid :=
  Claim7.holds_tied_plain_at .later [] _ _ _ _ said (fun _ h => by cases h) (by kernel_rfl) (fun _ h => by cases h) relParts_row_tie rfl ⟨rfl, rfl⟩ (by kernel_rfl) rfl plain (by kernel_rfl)
#print axioms card
end Go.Proofs.YtpcblbbddccgpaaDoor.relParts
