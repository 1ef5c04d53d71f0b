/- PageHolds over its arguments. -/
import Derived.Test.YtpfnpinblbfjdaaHo
import Derived.Test.YtpfnpinblbfjdaaSh
set_option linter.unusedSimpArgs false
set_option linter.unusedVariables false
namespace Go.Proofs.Ytpfnpinblbfjdaa
open Go.RowKit

/-- What a law is seen as before it begins. -/
def startV (w : World) : View := ⟨w, inH w, fun _ => none, fun _ => none, fun _ => 0⟩
theorem startV_match (w : World) : Match (startV w) [] :=
  ⟨fun t ob h => by simp [St.at] at h, fun t t' ob ob' b h => by simp [St.at] at h, fun t _ => ⟨rfl, rfl⟩, fun t b h => by simp [startV] at h, fun b o h => h⟩
/-- A law that answers true. -/
theorem law_calls {P : Program} {f : FuncId} {args : List AV} (h : ∀ σ, ACalls P f args σ fun u σ' => σ' = σ ∧ u = boolV true) {W : World} {vs : List Value} (hv : ARepL (startV W) args vs) :
    Calls P f vs.toArray W fun e W' => e = .returned (.bool true) ∧ Below W.heap.size W W' :=
  ((h []).2 (startV W) vs (startV_match W) hv).mono fun e w' ⟨v, r, σ', M', h1, h2, h3, h4, h5, _, h6, h7⟩ => by
    subst h1 h2 h7
    rw [(rep_v h5).2]
    exact ⟨rfl, h3.below fun t ob h => by simp [St.at] at h⟩
theorem bytes_sh {y : PV} (h : HasSh (.sl [.int .u8]) y) : ∃ r : List UInt8, BX y r ∧ r.length ≤ 140737488351232 := by
  simp only [HasSh] at h
  rcases h with rfl | ⟨ls, rfl, hl, hc⟩
  · exact ⟨[], .inr ⟨rfl, rfl⟩, by simp⟩
  · let g : List PV → UInt8 := fun c => match c with
      | .v (.int _ n) :: _ => UInt8.ofNat n.toNat
      | _ => 0
    refine ⟨ls.map g, .inl ?_, by simpa using hl⟩
    have : encB (ls.map g) = ls := by
      unfold encB
      rw [List.map_map]
      conv => rhs; rw [← List.map_id ls]
      refine List.map_congr_left fun c hm => ?_
      have := hc c hm
      simp only [HasShL, HasSh] at this
      obtain ⟨x, c', rfl, ⟨n, rfl, hw⟩, rfl⟩ := this
      have hb : 0 ≤ n ∧ n ≤ 255 := by
        simp [Lit.wf, IntKind.min, IntKind.max, IntKind.signed, IntKind.bits] at hw
        omega
      simp only [Function.comp, g, byteP, id]
      rw [UInt8.toNat_ofNat']
      congr 4
      omega
    rw [this]
    rfl
theorem ops_sh {x : PV} (h : HasSh (.sl [.int .i64, .int .i64, .sl [.int .u8]]) x) : ∃ os, OL x os ∧ (∀ o ∈ os, ∃ r : List UInt8, BX o.2.2 r ∧ r.length ≤ 140737488351232) ∧ os.length ≤ 140737488351232 := by
  simp only [HasSh] at h
  rcases h with rfl | ⟨ls, rfl, hl, hc⟩
  · exact ⟨[], .inr ⟨rfl, rfl⟩, by simp, by simp⟩
  · let g : List PV → Int × Int × PV := fun c => match c with
      | .v (.int _ a) :: .v (.int _ b) :: y :: _ => (a, b, y)
      | _ => (0, 0, .v undef)
    have key : ∀ c ∈ ls, rowO (g c) = c ∧ ∃ r : List UInt8, BX (g c).2.2 r ∧ r.length ≤ 140737488351232 := fun c hm => by
      have := hc c hm
      simp only [HasShL] at this
      obtain ⟨x1, _, rfl, h1, x2, _, rfl, h2, x3, _, rfl, h3, rfl⟩ := this
      simp only [HasSh] at h1 h2
      obtain ⟨a, rfl, _⟩ := h1
      obtain ⟨b, rfl, _⟩ := h2
      exact ⟨rfl, bytes_sh h3⟩
    refine ⟨ls.map g, .inl ?_, fun o ho => ?_, by simpa using hl⟩
    · rw [List.map_map]
      have : ls.map (rowO ∘ g) = ls := by
        conv => rhs; rw [← List.map_id ls]
        exact List.map_congr_left fun c hm => (key c hm).1
      rw [this]; rfl
    · obtain ⟨c, hm, rfl⟩ := List.mem_map.1 ho
      exact (key c hm).2
theorem holds_law (kd : Int) (x : PV) (v : Value) (W : World) (hx : HasSh (.sl [.int .i64, .int .i64, .sl [.int .u8]]) x) (hr : PRep W (inH W) x v) :
    Calls Try.prog 5 #[.int .i64 kd, v] W fun e W' => e = .returned (.bool true) ∧ Below W.heap.size W W' := by
  obtain ⟨os, h1, h2, h3⟩ := ops_sh hx
  have := law_calls (W := W) (vs := [.int .i64 kd, v]) (aholds kd os x h1 h2 (by omega)) (by
    simp only [ARepL]
    exact ⟨_, _, rfl, rep_mk rfl, _, _, rfl, by simp only [ARep]; exact hr, rfl⟩)
  exact this
end Go.Proofs.Ytpfnpinblbfjdaa
