/- Arguments opened: []byte, [][]byte as they came in. -/
import Derived.Test.YtpfnpinblbfjdaaPages
import Derived.ProofKit
import Derived.SizedLaws
import Derived.Deep.Slices
set_option linter.unusedSimpArgs false
namespace Go.Proofs.Ytpfnpinblbfjdaa
open Go.RowKit Go.Deep Go.ChangeShapes Go.WideShapes

/-- Each string and slice in what was read is within the reach. -/
def Fits {H : Type} (t : TypeId) (d : DataW H) : Prop := ∀ n ∈ d.weights Try.prog t, n ≤ 140737488351232
theorem fits_of {H : Type} {ts : List TypeId} {ds : List (DataW H)} (h : (DataW.weightsEach Try.prog ts ds).all (· ≤ reachBytes) = true) {j : Nat} {t : TypeId} {d : DataW H} (ht : ts[j]? = some t) (hd : ds[j]? = some d) : Fits t d := fun n hn => by
  have := List.all_eq_true.1 h n (DataW.weights_mem_each ht hd n hn)
  have h2 : n ≤ reachBytes := by simpa using this
  exact h2
theorem Fits.elem {H : Type} {t e : TypeId} {elems spare : List (DataW H)} (h : Fits t (.slice elems spare)) (hu : Try.prog.underlying t = some (.slice e)) {d : DataW H} (hd : d ∈ elems) : Fits e d := fun n hn => by
  refine h n ?_
  rw [DataW.weights]
  simp only [hu]
  refine List.mem_cons_of_mem _ (List.mem_append_left _ ?_)
  clear h hu
  induction elems with
  | nil => cases hd
  | cons x r ih =>
    rw [DataW.weightsAll]
    rcases List.mem_cons.1 hd with rfl | hd
    · exact List.mem_append_left _ hn
    · exact List.mem_append_right _ (ih hd)
theorem Fits.len {H : Type} {t e : TypeId} {elems spare : List (DataW H)} (h : Fits t (.slice elems spare)) (hu : Try.prog.underlying t = some (.slice e)) : (elems.length + spare.length) * Try.prog.bytesOf e ≤ 140737488351232 := by
  refine h _ ?_
  rw [DataW.weights]
  simp [hu]

section
variable {H : Type} {enc : TypeId × Value → H} {W : World} {held : Bool}
theorem cells_byte : Try.prog.cellsOf 5 = 1 := by kernel_rfl
theorem bytes_byte : Try.prog.bytesOf 5 = 1 := by kernel_rfl
/-- A []byte that came in. -/
theorem open_bytes_arg {fuel : Nat} {v : Value} {d : DataW H} {p : List MemPlace} (h : DataW.trod enc Try.prog W 0 (fun _ => true) held fuel 24 [v] = some (d, p)) (hf : Fits 24 d) : ∃ r, ByteS W v r ∧ r.length ≤ 140737488351232 := by
  rcases open_ints Try.underlying24 Try.underlying5 cells_byte h with ⟨hcs, _⟩ | ⟨a, len, cap, zs, hcs, _, hl, hm, hz, hx, hcell, hwz⟩
  · obtain rfl : v = .slice none 0 0 := by simpa using hcs
    exact ⟨[], ByteS.nil W, by simp⟩
  · obtain rfl : v = .slice (some a) len cap := by simpa using hcs
    simp only [if_true] at hz
    simp only [Prod.mk.injEq] at hx
    obtain ⟨rfl, rfl⟩ := hx
    have hle := hf.len Try.underlying24
    rw [bytes_byte] at hle
    simp only [lits, List.length_map, List.length_take, List.length_drop] at hle
    have hlen : ((zs.take len).map fun n => UInt8.ofNat n.toNat).length = len := by simp; omega
    refine ⟨(zs.take len).map fun n => UInt8.ofNat n.toNat, ?_, by omega⟩
    refine ⟨some a, cap, by rw [hlen], .inr ⟨a, rfl, fun j u hj => ?_⟩⟩
    have hjl : j < len := by
      have := (List.getElem?_eq_some_iff.1 hj).1
      rw [length_bytesL, hlen] at this
      exact this
    have hjz : j < zs.length := by omega
    rw [hcell j hjz]
    rw [get_bytesL _ j (by rw [hlen]; exact hjl)] at hj
    rw [← hj]
    have hw := hwz (zs.getD j 0) (by simp [hjz])
    have hb : 0 ≤ zs.getD j 0 ∧ zs.getD j 0 ≤ 255 := by
      simp [Lit.wf, IntKind.min, IntKind.max, IntKind.signed, IntKind.bits] at hw
      simp
      omega
    congr 2
    simp only [List.getD_eq_getElem?_getD, List.getElem?_map, List.getElem?_take, if_pos hjl, List.getElem?_eq_getElem hjz, Option.map_some, Option.getD_some] at hb ⊢
    rw [UInt8.toNat_ofNat']
    omega

/-- A [][]byte that is only read. -/
def BytesS (w : World) (v : Value) (rs : List (List UInt8)) : Prop :=
  ∃ ao c, v = .slice ao rs.length c ∧ ∀ i, i < rs.length → ∃ b off x, ao = some ⟨b, off, none⟩ ∧ w.cell? ⟨b, off + i, none⟩ = some x ∧ ByteS w x (rs.getD i [])
theorem BytesS.later {w w' : World} {v : Value} {rs : List (List UInt8)} (h : BytesS w v rs) (hb : Below w.heap.size w w') : BytesS w' v rs := by
  obtain ⟨ao, c, rfl, hc⟩ := h
  refine ⟨ao, c, rfl, fun i hi => ?_⟩
  obtain ⟨b, off, x, h1, h2, h3⟩ := hc i hi
  exact ⟨b, off, x, h1, by rw [hb.cell (World.block_lt_of_cell? w _ h2)]; exact h2, h3.later hb⟩

theorem spot_none {w : World} {a : Addr} {v : Value} (h : w.cell? a = some v) : a = ⟨a.block, a.off, none⟩ := by
  obtain ⟨b, o, s⟩ := a
  cases s with
  | none => rfl
  | some q => simp [World.cell?] at h; split at h <;> simp at h

theorem cells_bytes : Try.prog.cellsOf 24 = 1 := by kernel_rfl
theorem bytes_bytes : Try.prog.bytesOf 24 = 24 := by kernel_rfl
/-- A [][]byte that came in. -/
theorem open_bytess_arg {fuel : Nat} {v : Value} {d : DataW H} {p : List MemPlace} (h : DataW.trod enc Try.prog W 0 (fun _ => true) held fuel 34 [v] = some (d, p)) (hf : Fits 34 d) :
    ∃ rs, BytesS W v rs ∧ rs.length ≤ 140737488351232 ∧ ∀ i, i < rs.length → (rs.getD i []).length ≤ 140737488351232 := by
  rcases open_slice1 Try.underlying34 cells_bytes h with ⟨hcs, _⟩ | ⟨a, len, cap, m, n, V, D, Pl, hcs, _, hl, hm, hmm, hx, hel⟩
  · obtain rfl : v = .slice none 0 0 := by simpa using hcs
    exact ⟨[], ⟨none, 0, rfl, fun i hi => absurd hi (by simp)⟩, by simp, fun i hi => absurd hi (by simp)⟩
  · obtain rfl : v = .slice (some a) len cap := by simpa using hcs
    simp only [if_true] at hmm
    subst hmm
    simp only [Prod.mk.injEq] at hx
    obtain ⟨rfl, rfl⟩ := hx
    have hle := hf.len Try.underlying34
    rw [bytes_bytes] at hle
    simp only [List.length_map, List.length_range] at hle
    have each : ∀ i, i < len → ∃ r, ByteS W (V i) r ∧ r.length ≤ 140737488351232 := fun i hi =>
      open_bytes_arg (hel i (by omega)).2 (hf.elem Try.underlying34 (List.mem_map.2 ⟨i, List.mem_range.2 hi, rfl⟩))
    obtain ⟨R, hR⟩ := choose_lt each
    have hlen : ((List.range len).map R).length = len := by simp
    refine ⟨(List.range len).map R, ⟨some a, m, by rw [hlen], fun i hi => ?_⟩, by omega, fun i hi => ?_⟩
    · rw [hlen] at hi
      have hc := (hel i (by omega)).1
      have h0 := (hel 0 (by omega)).1
      have hsp := spot_none h0
      have ha : a = ⟨a.block, a.off, none⟩ := by
        rw [show a.add 0 = a by simp [Addr.add]] at hsp; exact hsp
      refine ⟨a.block, a.off, V i, by rw [← ha], ?_, ?_⟩
      · rw [ha, Addr.add_lit] at hc; exact hc
      · simpa [hi] using (hR i hi).1
    · rw [hlen] at hi
      simpa [hi] using (hR i hi).2
end
end Go.Proofs.Ytpfnpinblbfjdaa
