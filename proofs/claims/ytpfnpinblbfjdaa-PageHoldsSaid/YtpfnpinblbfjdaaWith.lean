/- The reference's with, over whatever is known of the records. -/
import Derived.Test.YtpfnpinblbfjdaaApart
import Derived.Deep.MidRow
import Derived.Laws.OwnMore
set_option linter.unusedSimpArgs false
namespace Go.Proofs.Ytpfnpinblbfjdaa
open Go.RowKit

/-- Slots: whether there is a record, and a record of which RX holds. -/
def SlS (RX : Value → Option (List UInt8) → Prop) (w : World) (v : Value) (ss : List (Option (List UInt8))) : Prop :=
  ∃ ao c, v = .slice ao ss.length c ∧ (ao = none → c = 0) ∧ ∀ i, i < ss.length → ∃ b off x, ao = some ⟨b, off, none⟩ ∧ w.cell? ⟨b, off + i * 2, none⟩ = some (.bool (ss.getD i none).isSome) ∧ w.cell? ⟨b, off + i * 2 + 1, none⟩ = some x ∧ RX x (ss.getD i none)
def LenX (RX : Value → Option (List UInt8) → Prop) : Prop := ∀ x o, RX x o → ∃ a c, x = .slice a (recLen o) c
theorem SlS.later {RX : Value → Option (List UInt8) → Prop} {w w' : World} {v : Value} {ss : List (Option (List UInt8))} (h : SlS RX w v ss) (hb : Below w.heap.size w w') : SlS RX w' v ss := by
  obtain ⟨ao, c, rfl, hn, hc⟩ := h
  refine ⟨ao, c, rfl, hn, fun i hi => ?_⟩
  obtain ⟨b, off, x, h1, h2, h3, h4⟩ := hc i hi
  exact ⟨b, off, x, h1, by rw [hb.cell (World.block_lt_of_cell? w _ h2)]; exact h2, by rw [hb.cell (World.block_lt_of_cell? w _ h3)]; exact h3, h4⟩

/-- The cells of the reference's slots. -/
def rowR (ps : List (Option (List UInt8) × Value)) : List Value := ps.flatMap fun p => [.bool p.1.isSome, p.2]
theorem length_rowR (ps : List (Option (List UInt8) × Value)) : (rowR ps).length = ps.length * 2 := by
  induction ps with
  | nil => rfl
  | cons p ps ih => simp [rowR] at ih ⊢; omega
theorem rowR_at (ps : List (Option (List UInt8) × Value)) (i : Nat) : (rowR ps)[i * 2]? = ps[i]?.map (fun p => .bool p.1.isSome) ∧ (rowR ps)[i * 2 + 1]? = ps[i]?.map (·.2) := by
  induction ps generalizing i with
  | nil => simp [rowR]
  | cons p ps ih =>
    cases i with
    | zero => simp [rowR]
    | succ i =>
      have h1 : (rowR (p :: ps)) = .bool p.1.isSome :: p.2 :: rowR ps := by simp [rowR]
      have h2 := ih i
      rw [h1, show (i + 1) * 2 = i * 2 + 1 + 1 by omega]
      simpa using h2
theorem rowR_set (ps : List (Option (List UInt8) × Value)) (k : Nat) (o : Option (List UInt8)) (x : Value) : ((rowR ps).set (k * 2) (.bool o.isSome)).set (k * 2 + 1) x = rowR (ps.set k (o, x)) := by
  induction ps generalizing k with
  | nil => simp [rowR]
  | cons p ps ih =>
    have h1 : ∀ p : Option (List UInt8) × Value, (rowR (p :: ps)) = .bool p.1.isSome :: p.2 :: rowR ps := fun p => by simp [rowR]
    cases k with
    | zero => rw [h1]; simp [h1]
    | succ k =>
      have h2 : rowR (p :: ps.set k (o, x)) = .bool p.1.isSome :: p.2 :: rowR (ps.set k (o, x)) := by simp [rowR]
      rw [h1, show (k + 1) * 2 = k * 2 + 1 + 1 by omega, show (p :: ps).set (k + 1) (o, x) = p :: ps.set k (o, x) from rfl, h2, ← ih k]
      simp
theorem SlS.src {RX : Value → Option (List UInt8) → Prop} {w : World} {v : Value} {ss : List (Option (List UInt8))} (h : SlS RX w v ss) :
    ∃ ps : List (Option (List UInt8) × Value), ps.map (·.1) = ss ∧ Src w v ss.length (rowR ps) ∧ ∀ p ∈ ps, RX p.2 p.1 := by
  obtain ⟨ao, c, rfl, hn, hc⟩ := h
  have h1 : ∀ i, ∃ x, i < ss.length → ∃ b off, ao = some ⟨b, off, none⟩ ∧ w.cell? ⟨b, off + i * 2, none⟩ = some (.bool (ss.getD i none).isSome) ∧ w.cell? ⟨b, off + i * 2 + 1, none⟩ = some x ∧ RX x (ss.getD i none) := fun i => by
    by_cases hi : i < ss.length
    · obtain ⟨b, off, x, h⟩ := hc i hi
      exact ⟨x, fun _ => ⟨b, off, h⟩⟩
    · exact ⟨undef, fun h => absurd h hi⟩
  obtain ⟨X, hX⟩ := Classical.axiomOfChoice h1
  have hat : ∀ i, ((List.range ss.length).map fun i => (ss.getD i none, X i))[i]? = if i < ss.length then some (ss.getD i none, X i) else none := fun i => by
    by_cases hi : i < ss.length
    · simp [hi]
    · simp [hi]
  refine ⟨(List.range ss.length).map fun i => (ss.getD i none, X i), ?_, ?_, ?_⟩
  · apply List.ext_getElem?
    intro i
    rw [List.getElem?_map, hat]
    by_cases hi : i < ss.length
    · simp [hi]
    · simp [hi]
  · cases ao with
    | none =>
      have : ss.length = 0 := by
        apply Decidable.byContradiction
        intro h0
        obtain ⟨b, off, h, _⟩ := hX 0 (by omega)
        simp at h
      exact ⟨none, c, rfl, .inl ⟨rfl, this, hn rfl⟩⟩
    | some ad =>
      refine ⟨some ad, c, rfl, .inr ⟨ad, rfl, fun j u hj => ?_⟩⟩
      have hjl : j < ss.length * 2 := by
        have := (List.getElem?_eq_some_iff.1 hj).1
        rw [length_rowR] at this
        simpa using this
      obtain ⟨b, off, h, h2, h3, h4⟩ := hX (j / 2) (by omega)
      simp only [Option.some.injEq] at h
      subst h
      have ha : (⟨b, off, none⟩ : Addr).add j = ⟨b, off + j, none⟩ := by unfold Addr.add; split <;> simp_all
      rw [ha]
      have h5 := rowR_at ((List.range ss.length).map fun i => (ss.getD i none, X i)) (j / 2)
      rw [hat, if_pos (by omega)] at h5
      rcases Nat.mod_two_eq_zero_or_one j with e | e
      · have e1 : j / 2 * 2 = j := by omega
        rw [e1] at h5
        rw [e1] at h2
        rw [h2, ← hj, h5.1]; rfl
      · have e1 : j / 2 * 2 + 1 = j := by omega
        rw [e1] at h5
        rw [show off + j / 2 * 2 + 1 = off + j by omega] at h3
        rw [h3, ← hj, h5.2]; rfl
  · intro p hp
    obtain ⟨i, hi, rfl⟩ := List.mem_map.1 hp
    obtain ⟨_, _, _, _, _, h⟩ := hX i (by simpa using hi)
    exact h
theorem oneCell_rowR {RX : Value → Option (List UInt8) → Prop} (hRX : LenX RX) {ps : List (Option (List UInt8) × Value)} (h : ∀ p ∈ ps, RX p.2 p.1) : ∀ u ∈ rowR ps, u.oneCell' = true := by
  intro u hu
  obtain ⟨p, hp, hu⟩ := List.mem_flatMap.1 hu
  obtain ⟨a, c, e⟩ := hRX _ _ (h p hp)
  simp only [List.mem_cons, List.not_mem_nil, or_false] at hu
  rcases hu with rfl | rfl
  · rfl
  · rw [e]; rfl
theorem info_slot : (Try.prog.info? 65).map (fun i => (i.zero, i.size, i.bytes)) = some (some (.agg #[.bool false, .slice none 0 0]), 2, 32) := by kernel_rfl
theorem info_slot2 : (Try.prog.info? 65).map (·.size) = some 2 := by kernel_rfl
/-- What an owned row of slots shows. -/
theorem owns_slots {w : World} {base g n cap : Nat} {ps : List (Option (List UInt8) × Value)} (h : w.ownsRow base 65 2 (.slice (some ⟨g, 0, none⟩) n cap) n (rowR ps)) :
    base ≤ g ∧ n ≤ cap ∧ n = ps.length ∧ ∀ i p, ps[i]? = some p → w.cell? ⟨g, i * 2, none⟩ = some (.bool p.1.isSome) ∧ w.cell? ⟨g, i * 2 + 1, none⟩ = some p.2 ∧ w.frozen? ⟨g, i * 2, none⟩ = false ∧ w.frozen? ⟨g, i * 2 + 1, none⟩ = false := by
  obtain ⟨h1, h2⟩ := h
  rcases h2 with ⟨h2, _⟩ | ⟨g', cap', cur, h2, hg, hh, hnc, hcm, hcs, ht⟩
  · simp at h2
  · simp only [Value.slice.injEq, Option.some.injEq, Addr.mk.injEq, and_true, true_and] at h2
    obtain ⟨rfl, rfl⟩ := h2
    rw [length_rowR] at h1
    refine ⟨hg, hnc, by omega, fun i p hp => ?_⟩
    have hi := (List.getElem?_eq_some_iff.1 hp).1
    have h5 := rowR_at ps i
    rw [hp, ← ht, List.getElem?_take, List.getElem?_take, if_pos (by omega), if_pos (by omega)] at h5
    refine ⟨?_, ?_, frozen_of_row w g _ cur _ hh, frozen_of_row w g _ cur _ hh⟩
    · rw [cell_of_row w g _ cur _ _ hh]; simpa using h5.1
    · rw [cell_of_row w g _ cur _ _ hh]; simpa using h5.2

theorem Src.slot (w : World) (o : Option (List UInt8)) (x : Value) (t : TypeId) : Src (w.alloc (.cells #[.bool o.isSome, x] t)) (.slice (some ⟨w.heap.size, 0, none⟩) 1 1) 1 (rowR [(o, x)]) :=
  Src.at fun j u hj => by
    rw [cell_of_row _ _ _ _ _ _ (heap_alloc_new w _)]
    match j, hj with
    | 0, hj => simpa [rowR] using hj
    | 1, hj => simpa [rowR] using hj
    | j + 2, hj => simp [rowR] at hj
theorem rowR_snoc (ps : List (Option (List UInt8) × Value)) (o : Option (List UInt8)) (x : Value) : rowR ps ++ rowR [(o, x)] = rowR (ps ++ [(o, x)]) := by simp [rowR]
/-- The slots with another one at a place, before the trim. -/
def wL (ss : List (Option (List UInt8))) (k : Nat) (o : Option (List UInt8)) : List (Option (List UInt8)) := (if k = ss.length then ss ++ [o] else ss).set k o

set_option maxHeartbeats 1000000 in
theorem with_any (RX : Value → Option (List UInt8) → Prop) (hRX : LenX RX) (ss : List (Option (List UInt8))) (k : Nat) (o : Option (List UInt8)) (v x : Value) (w : World) (h : SlS RX w v ss) (hx : RX x o) (hk : k ≤ ss.length) (hm : ss.length ≤ 1000) :
    Calls Try.prog 31 #[v, .int .i64 k, .agg #[.bool o.isSome, x]] w fun e w' => ∃ v', e = .returned v' ∧ SlS RX w' v' (trimL (wL ss k o)) ∧ (∃ g n cap, v' = .slice (some ⟨g, 0, none⟩) n cap ∧ w.heap.size ≤ g ∧ n ≤ cap) ∧ Below w.heap.size w w' := by
  have HB := Lib.hid (show Below w.heap.size w (w.alloc (.cells #[.bool o.isSome, x] 65)) from (Below.refl _ _).alloc (Nat.le_refl _) _)
  obtain ⟨ps, hps, hsrc, hrx⟩ := (h.later HB.out).src
  obtain ⟨av, cv, rfl, hd⟩ := h
  clear hd
  have HW := Lib.hid (heap_alloc_new w (.cells #[.bool o.isSome, x] 65))
  have hsz : w.heap.size < (w.alloc (.cells #[.bool o.isSome, x] 65)).heap.size := by simp
  go_enter Try.func31, Try.ntmps31
  have HPS := Lib.hid hps
  have HSR := Lib.hid hsrc
  have HRX := Lib.hid hrx
  have HX := Lib.hid hx
  have hpl : ps.length = ss.length := by rw [← HPS.out]; simp
  have HRL := Lib.hid hRX
  clear hps hsrc hrx hx hRX
  go_upto_region 1 with fail
  generalize w.alloc (.cells #[.bool o.isSome, x] 65) = W at *
  have hown0 : W.ownsRow W.heap.size 65 2 (.slice none 0 0) 0 [] := ⟨rfl, .inl ⟨rfl, rfl⟩⟩
  by_cases hkl : k = ss.length
  case' pos =>
    go_upto_region 3 with (at_builtin; refine append_src 40 65 (.agg #[.bool false, .slice none 0 0]) 2 32 Try.underlying40 info_slot rfl (by decide) rfl (.tmp 8) (.tmp 9) rfl W.heap.size (.slice none 0 0) 0 [] rfl hown0 ss.length (rowR ps) HSR.out (by rw [length_rowR]; omega) (oneCell_rowR HRL.out HRX.out) (by unfold maxLen; omega) (by omega) (Nat.le_refl _) ?_; intro v1 w1 hown1 hgrow1 _)
    rw [Nat.zero_add, List.nil_append] at hown1
    have HW1 := Lib.hid ((hgrow1.block w.heap.size hsz (by simp [Value.ownBlock])).trans HW.out)
    have HB1 := Lib.hid (show Below W.heap.size W w1 from (Below.refl _ _).grown hgrow1 (Nat.le_refl _) (fun q hq => by simp [Value.ownBlock] at hq))
    have hs1 := hgrow1.size
    obtain ⟨a1, c1, rfl⟩ : ∃ a c, v1 = .slice a ss.length c := by
      rcases hown1.2 with ⟨rfl, e⟩ | ⟨g, cap, cur, rfl, _⟩
      · exact ⟨none, 0, by rw [e]⟩
      · exact ⟨_, _, rfl⟩
    go_upto_region 4 with fail
    go_upto_region 5 with (first | refine wpList_load_row (P := Try.prog) rfl 65 _ rfl _ rfl _ _ _ _ HW1.out Try.underlying65 rfl info_slot2 ?_ | (at_builtin; refine append_some 40 65 (.agg #[.bool false, .slice none 0 0]) 2 32 Try.underlying40 info_slot rfl (by decide) rfl (.tmp 15) (.tmp 17) rfl W.heap.size (.slice a1 ss.length c1) ss.length (rowR ps) rfl (hown1.alloc _) 1 (rowR [(o, x)]) (Src.slot _ _ _ _) rfl (oneCell_rowR HRL.out (by simpa using HX.out)) (by unfold maxLen; omega) (by omega) (by simp; omega) (.inr (by omega)) ?_; intro g cap w2 hown2 hgrow2))
    rw [rowR_snoc] at hown2
    have HRX2 := Lib.hid (show ∀ p ∈ ps ++ [(o, x)], RX p.2 p.1 from fun p hp => by
      rcases List.mem_append.1 hp with hp | hp
      · exact HRX.out p hp
      · simp only [List.mem_cons, List.not_mem_nil, or_false] at hp; subst hp; exact HX.out)
    have HP2 := Lib.hid (show ((ps ++ [(o, x)]).set k (o, x)).map (·.1) = wL ss k o by
      rw [wL, if_pos hkl, ← HPS.out]; simp [List.map_set])
    have hn : ss.length + 1 = (ps ++ [(o, x)]).length := by simp [hpl]
    have hkn : k < ss.length + 1 := by omega
    have hn2 : ss.length + 1 ≤ 1001 := by omega
    have hne : ∀ q, q < W.heap.size → w2.heap[q]? = w1.heap[q]? := fun q hq => by
      rw [hgrow2.block q (by simp; omega) (fun e => by have := (hown1.lt q e.symm).1; omega), Below.heap_alloc _ _ _ (by omega)]
    have HW2 := Lib.hid ((hne w.heap.size hsz).trans HW1.out)
    have HB2 := Lib.hid (show Below W.heap.size W w2 from (HB1.out.alloc (by omega) _).grown hgrow2 (by simp; omega) (fun q hq => (hown1.lt q hq).1))
    rw [← hkl]
    rw [← hkl] at hown2 hn hkn hn2
    generalize k + 1 = n at *
    generalize ps ++ [(o, x)] = ps2 at *
    generalize (Value.slice a1 k c1) = t10 at *
    clear hown1 hgrow1 hgrow2 HW1 HB1 hs1 hne hkl
  case' neg =>
    have hk0 : 0 < ss.length := by omega
    have hkb : ((k : Int) == (ss.length : Int)) = false := by simp; omega
    go_upto_region 3 with (at_builtin; refine append_some 40 65 (.agg #[.bool false, .slice none 0 0]) 2 32 Try.underlying40 info_slot rfl (by decide) rfl (.tmp 8) (.tmp 9) rfl W.heap.size (.slice none 0 0) 0 [] rfl hown0 ss.length (rowR ps) HSR.out (by rw [length_rowR]; omega) (oneCell_rowR HRL.out HRX.out) (by unfold maxLen; omega) (by omega) (Nat.le_refl _) (.inr hk0) ?_; intro g cap w2 hown2 hgrow2)
    rw [List.nil_append] at hown2
    simp only [Nat.zero_add] at *
    have HW2 := Lib.hid ((hgrow2.block w.heap.size hsz (by simp [Value.ownBlock])).trans HW.out)
    have HB2 := Lib.hid (show Below W.heap.size W w2 from (Below.refl _ _).grown hgrow2 (Nat.le_refl _) (fun q hq => by simp [Value.ownBlock] at hq))
    have HRX2 := HRX
    have HP2 := Lib.hid (show (ps.set k (o, x)).map (·.1) = wL ss k o by
      rw [wL, if_neg hkl, ← HPS.out]; simp [List.map_set])
    have hkn : k < ss.length := by omega
    have hn2 : ss.length ≤ 1001 := by omega
    go_upto_region 5 with fail
    have hn : ss.length = ps.length := hpl.symm
    clear hpl hkb hkl
    generalize ss.length = n at *
    generalize hps2 : ps = ps2 at *
    clear hgrow2
  all_goals
    obtain ⟨hgb, hnc, -, hcc⟩ := owns_slots hown2
    have HGB := Lib.hid (show w.heap.size ≤ g by omega)
    have HNC := Lib.hid hnc
    have HCC := Lib.hid hcc
    obtain ⟨p, hp⟩ : ∃ p, ps2[k]? = some p := ⟨ps2[k]'(by omega), List.getElem?_eq_getElem _⟩
    obtain ⟨hc1, hc2, hf1, hf2⟩ := hcc k p hp
    clear hcc
    have ht : w2.there g (k * 2) 2 := fun j hj => by
      match j, hj with
      | 0, _ => exact ⟨by rw [Nat.add_zero, hc1]; rfl, by rw [Nat.add_zero]; exact hf1⟩
      | 1, _ => exact ⟨by rw [hc2]; rfl, hf2⟩
    have HT := Lib.hid ht
    have HN := Lib.hid hn
    have H1 := Lib.hid (show (#[Value.bool o.isSome, x].all (·.oneCell')) = true by obtain ⟨_, _, e⟩ := HRL.out _ _ HX.out; simp [e, Value.oneCell'])
    clear ht hc1 hc2 hf1 hf2 hp hn
    go_upto_region 6 with (first | refine wpList_load_row (P := Try.prog) rfl 65 _ rfl _ rfl _ _ _ _ HW2.out Try.underlying65 rfl info_slot2 ?_ | refine wpList_store_mid (P := Try.prog) rfl 65 _ _ rfl g (k * 2) #[.bool o.isSome, x] rfl rfl HT.out info_slot2 H1.out ?_)
    have hown3 := (((hown2.stored (k * 2) (.bool o.isSome)).1).stored (k * 2 + 1) x).1
    rw [rowR_set] at hown3
    have HB3 := Lib.hid (show Below w.heap.size w (w2.setCells g (k * 2) [.bool o.isSome, x]) from (HB.out.trans (HB2.out.mono (by omega))).trans (((Below.refl _ w2).setCell (p := ⟨g, k * 2, none⟩) (by simp; omega) _).setCell (p := ⟨g, k * 2 + 1, none⟩) (by simp; omega) _))
    change (w2.setCells g (k * 2) [.bool o.isSome, x]).ownsRow _ _ _ _ _ _ at hown3
    have hlen : (wL ss k o).length = n := by rw [← HP2.out, HN.out]; simp
    have HRX3 := Lib.hid (show ∀ p ∈ ps2.set k (o, x), RX p.2 p.1 from fun p hp => by
      rcases List.mem_or_eq_of_mem_set hp with hp | rfl
      · exact HRX2.out p hp
      · exact HX.out)
    obtain ⟨-, -, -, hcc⟩ := owns_slots hown3
    have HC3 := Lib.hid hcc
    clear hcc hown3 hown2 HT HCC HW2 HB2 HRX2 HSR HW hown0 HRX H1 HB HPS
    generalize w2.setCells g (k * 2) [.bool o.isSome, x] = w3 at *
    generalize ps2.set k (o, x) = ps3 at *
    generalize htw : wL ss k o = ts at *
    have HTW := Lib.hid htw
    clear htw
    have hat : ∀ i, i < n → ∃ y, RX y (ts.getD i none) ∧ w3.cell? ⟨g, i * 2, none⟩ = some (.bool (ts.getD i none).isSome) ∧ w3.cell? ⟨g, i * 2 + 1, none⟩ = some y := fun i hi => by
      have hl3 : ps3.length = n := by rw [← hlen, ← HP2.out]; simp
      have hp3 : ps3[i]? = some (ps3[i]'(by omega)) := List.getElem?_eq_getElem _
      obtain ⟨p3, hp3'⟩ : ∃ p3, ps3[i]? = some p3 := ⟨_, hp3⟩
      have e : ts.getD i none = p3.1 := by rw [← HP2.out]; simp [hp3']
      have h := HC3.out i _ hp3'
      rw [e]
      exact ⟨_, HRX3.out _ (List.mem_of_getElem? hp3'), h.1, h.2.1⟩
    have HAT := Lib.hid hat
    have HLN := Lib.hid hlen
    clear hat hlen HC3 HRX3 HP2 HX HN
    try simp only [Act.put]
    go_loop [7] (fun s => ∃ m : Nat, m ≤ n ∧ s = .slice (some ⟨g, 0, none⟩) m cap ∧ ∀ i, m ≤ i → ts.getD i none = none) (fun s => match s with | .slice _ m _ => m | _ => 0)
    case atStart => exact ⟨n, Nat.le_refl _, rfl, fun i hi => by
      rw [List.getD_eq_getElem?_getD, List.getElem?_eq_none (by have := HLN.out; omega)]; rfl⟩
    case round =>
      obtain ⟨m, hm, rfl, hz⟩ := hrel
      have HZ := Lib.hid hz; clear hz
      cases m with
      | zero =>
        have HR := Lib.hid (trimL_eq ts 0 (by omega) HZ.out (.inl rfl))
        go_wp2
        go_ret
        refine ⟨_, rfl, ?_, ⟨_, _, _, rfl, by have := HGB.out; omega, by omega⟩, HB3.out⟩
        rw [HTW.out, HR.out]
        exact ⟨_, _, rfl, fun h => by simp at h, fun i hi => by simp at hi⟩
      | succ m =>
        obtain ⟨y, hy, hc1, hc2⟩ := HAT.out m (by omega)
        cases hg : ts.getD m none with
        | none =>
          rw [hg] at hc1
          simp only [Option.isSome_none] at hc1
          have HG := Lib.hid hg
          clear hg hc2 hy
          go_wp2
          go_round
          case rel => exact ⟨m, by omega, by go_num, fun i hi => by
            by_cases e : i = m
            · rw [e]; exact HG.out
            · exact HZ.out i (by omega)⟩
          case measure => simp
        | some r =>
          have HR := Lib.hid (trimL_eq ts (m + 1) (by have := HLN.out; omega) HZ.out (.inr (by rw [Nat.add_sub_cancel, hg]; simp)))
          rw [hg] at hc1
          simp only [Option.isSome_some] at hc1
          clear hg hc2 hy
          go_wp2
          go_ret
          refine ⟨_, rfl, ?_, ⟨_, _, _, rfl, by have := HGB.out; omega, by have := HNC.out; omega⟩, HB3.out⟩
          rw [HTW.out, HR.out]
          have hl : (ts.take (m + 1)).length = m + 1 := by have := HLN.out; simp; omega
          refine ⟨some ⟨g, 0, none⟩, cap, by rw [hl]; rfl, fun h => by simp at h, fun i hi => ?_⟩
          rw [hl] at hi
          obtain ⟨y, h1, h2, h3⟩ := HAT.out i (by omega)
          have e : (ts.take (m + 1)).getD i none = ts.getD i none := by simp [hi]
          rw [e]
          exact ⟨g, 0, y, rfl, by simpa using h2, by simpa using h3, h1⟩
end Go.Proofs.Ytpfnpinblbfjdaa
