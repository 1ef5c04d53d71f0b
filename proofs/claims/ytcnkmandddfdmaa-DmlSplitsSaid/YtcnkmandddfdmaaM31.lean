/- DmlSplits over its arguments. -/
import Derived.Test.YtcnkmandddfdmaaM30
set_option linter.unusedSimpArgs false
set_option linter.unusedVariables false
namespace Go.Proofs.Ytcnkmandddfdmaa
open Go.RowKit
theorem cols_sh : ∀ ls : List (List PV), (∀ c ∈ ls, HasShL [.str, .int .i64, .bool, .bool] c) → ∃ cols : List Tc, enTc cols = ls
  | [], _ => ⟨[], rfl⟩
  | c :: ls, h => by
    obtain ⟨cols, rfl⟩ := cols_sh ls fun c hc => h c (by simp [hc])
    have h0 := h c (by simp)
    simp only [HasShL, HasSh] at h0
    obtain ⟨_, _, rfl, ⟨s, rfl, _⟩, _, _, rfl, ⟨n, rfl, _⟩, _, _, rfl, ⟨b1, rfl⟩, _, _, rfl, ⟨b2, rfl⟩, rfl⟩ := h0
    exact ⟨(s, n, b1, b2) :: cols, rfl⟩
theorem vals_sh : ∀ ls : List (List PV), (∀ c ∈ ls, HasShL [.int .i64, .int .i64, .str] c) → ∃ r : List Va, enV r = ls
  | [], _ => ⟨[], rfl⟩
  | c :: ls, h => by
    obtain ⟨r, rfl⟩ := vals_sh ls fun c hc => h c (by simp [hc])
    have h0 := h c (by simp)
    simp only [HasShL, HasSh] at h0
    obtain ⟨_, _, rfl, ⟨k, rfl, _⟩, _, _, rfl, ⟨n, rfl, _⟩, _, _, rfl, ⟨s, rfl, _⟩, rfl⟩ := h0
    exact ⟨(k, n, s) :: r, rfl⟩
theorem rows_sh : ∀ ls : List (List PV), (∀ c ∈ ls, HasShL [.sl 32 [.int .i64, .int .i64, .str]] c) → ∃ rows : List (List Va), enVV rows = ls
  | [], _ => ⟨[], rfl⟩
  | c :: ls, h => by
    obtain ⟨rows, rfl⟩ := rows_sh ls fun c hc => h c (by simp [hc])
    have h0 := h c (by simp)
    simp only [HasShL] at h0
    obtain ⟨x, _, rfl, hx, rfl⟩ := h0
    simp only [HasSh] at hx
    obtain ⟨m, rfl, _, hm⟩ := hx
    obtain ⟨r, rfl⟩ := vals_sh m hm
    exact ⟨r :: rows, rfl⟩
/-- An ask's cells. -/
def askSh : List Sh := [.str, .str, .sl 32 [.str, .int .i64, .bool, .bool], .sl 24 [.sl 32 [.int .i64, .int .i64, .str]]]
theorem ask_sh {ps : List PV} (h : HasShL askSh ps) : ∃ (txt nm : ByteArray) (cols : List Tc) (rows : List (List Va)), ps = [.v (.string txt), .v (.string nm), .sl 4 (enTc cols), .sl 1 (enVV rows)] ∧ cols.length ≤ 4398046511104 ∧ rows.length ≤ 140737488351232 := by
  simp only [askSh, HasShL] at h
  obtain ⟨_, _, rfl, h1, _, _, rfl, h2, _, _, rfl, h3, _, _, rfl, h4, rfl⟩ := h
  simp only [HasSh] at h1 h2
  obtain ⟨txt, rfl, _⟩ := h1
  obtain ⟨nm, rfl, _⟩ := h2
  rw [HasSh] at h3 h4
  obtain ⟨ls, rfl, hl, hc⟩ := h3
  obtain ⟨ms, rfl, hml, hmc⟩ := h4
  obtain ⟨cols, rfl⟩ := cols_sh ls hc
  obtain ⟨rows, rfl⟩ := rows_sh ms hmc
  rw [enTc_len] at hl
  rw [enVV_len] at hml
  exact ⟨txt, nm, cols, rows, rfl, by omega, by omega⟩
theorem splits_law (c : Int) (ps : List PV) (us : Array Value) (W : World) (hx : HasShL askSh ps) (hr : RepL W ps us.toList) (hw : (Lit.int .u8 c).wf = true) :
    Calls Try.prog 3 #[.agg us, .int .u8 c] W fun e W' => e = .returned (.bool true) ∧ Below W.heap.size W W' := by
  obtain ⟨txt, nm, cols, rows, rfl, h1, h2⟩ := ask_sh hx
  have hb : 0 ≤ c ∧ c ≤ 255 := by
    simp [Lit.wf, IntKind.min, IntKind.max, IntKind.signed, IntKind.bits] at hw
    omega
  obtain ⟨n, rfl⟩ : ∃ n : Nat, c = n := ⟨c.toNat, by omega⟩
  have := law_calls (W := W) (vs := [.agg us, .int .u8 n]) (asplits txt nm cols rows n (by omega) h1 h2) (by
    simp only [ARepL]
    exact ⟨_, _, rfl, hr.agg, _, _, rfl, rep_mk rfl, rfl⟩)
  exact this
end Go.Proofs.Ytcnkmandddfdmaa
