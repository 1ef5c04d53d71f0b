/- PageFills: for every size and every slot to drop the statement returns true, and nothing that was there turns. No condition. -/
import Derived.Test.YtpfnpinblbfjdaaFillsP
set_option linter.unusedSimpArgs false
namespace Go.Proofs.Ytpfnpinblbfjdaa
open Go.RowKit

/-- Zero bytes. -/
def zeros (n : Nat) : List UInt8 := List.replicate n 0
theorem length_zeros (n : Nat) : (zeros n).length = n := List.length_replicate
theorem made_zeros (n : Nat) : (madeCells (Value.cells (.int .u8 0)) (n * 1)).toList = bytesL (zeros n) := by
  have : (Value.cells (.int .u8 0)) = #[Value.int .u8 0] := rfl
  rw [this]
  simp only [madeCells, bytesL, zeros, List.map_replicate, byteV]
  apply List.ext_getElem?
  intro i
  by_cases h : i < n
  · simp [h, Nat.mod_one]
  · simp [List.getElem?_eq_none, show n ≤ i by omega]
theorem owned_bytes {w : World} {base n c g : Nat} {r : List UInt8} (h : w.ownsRow base 5 1 (.slice (some ⟨g, 0, none⟩) n c) n (bytesL r)) (hn : r.length = n) : ByteS w (.slice (some ⟨g, 0, none⟩) n c) r := by
  subst hn
  exact Rec.bytes (base := base) ⟨h, g, c, rfl⟩

/-- Two pages that stand. -/
def Two (w : World) (g1 : Nat) (l1 : List UInt8) (g2 : Nat) (l2 : List UInt8) (w' : World) : Prop :=
  w'.heap[g1]? = some (.cells (bytesA l1) 26 (0, 0)) ∧ w'.heap[g2]? = some (.cells (bytesA l2) 26 (0, 0)) ∧ Below w.heap.size w w'
theorem Two.next {w w' w'' : World} {g1 g2 : Nat} {l1 l2 : List UInt8} (h : Two w g1 l1 g2 l2 w') (hb : Below w'.heap.size w' w'') : Two w g1 l1 g2 l2 w'' :=
  ⟨(hb.block _ (Array.getElem?_eq_some_iff.1 h.1).1).trans h.1, (hb.block _ (Array.getElem?_eq_some_iff.1 h.2.1).1).trans h.2.1, h.2.2.trans (hb.mono h.2.2.size)⟩
theorem Two.drew {w w' : World} {g1 g2 : Nat} {l1 l2 : List UInt8} (h : Two w g1 l1 g2 l2 w') : Two w g1 l1 g2 l2 w'.drew := ⟨h.1, h.2.1, h.2.2.drew⟩

/-- What stands at the head of each round. -/
def FillRel (w0 : World) (gp : Nat) (z : List UInt8) (cnt : Value) (wr : World) : Prop :=
  ∃ k l, cnt = .int .i64 (k : Nat) ∧ Pg l 7 (rep k z) ∧ wr.heap[gp]? = some (.cells (bytesA l) 26 (0, 0)) ∧ Below gp w0 wr ∧ gp < wr.heap.size

set_option maxHeartbeats 2000000 in
set_option maxRecDepth 100000 in
theorem fills_any (n d : Nat) (hn : n < 65536) (hd : d < 256) (w : World) : Calls Try.prog 3 #[.int .u16 n, .int .u8 d] w fun e w' => e = .returned (.bool true) ∧ Below w.heap.size w w' := by
  have hz := zero_page
  go_enter Try.func3, Try.ntmps3
  go_wp2_with fail
  refine (awake_any _).mono ?_
  rintro e w1 ⟨rfl, hb1⟩
  have HB1 := Lib.hid hb1; clear hb1
  go_upto_region 4 with fail
  rw [show ((n : Int) % 401) = ((n % 401 : Nat) : Int) from by omega]
  have hs : n % 401 ≤ 400 := by omega
  generalize n % 401 = s at *
  obtain ⟨i0, hi, hz0, hz1, hz2⟩ := info_parts info_byte
  have HI := Lib.hid hi; have HZ0 := Lib.hid hz0; have HZ1 := Lib.hid hz1; have HZ2 := Lib.hid hz2
  clear hi hz0 hz1 hz2
  go_upto_region 5 with (at_make; refine wpList_make_full _ rfl (.tmp 23) (.tmp 23) 24 rfl w1.heap.size 5 i0 (.int .u8 0) 1 Try.underlying24 HI.out HZ0.out HZ1.out .i64 .i64 _ _ s rfl rfl rfl rfl (by rw [HZ2.out]; omega) (by unfold maxLen; omega) (Nat.le_refl _) ?_; intro w2 hown2 hgrow2)
  rw [made_zeros] at hown2
  have HBY := Lib.hid (owned_bytes hown2 (length_zeros s))
  have HB2 := Lib.hid (HB1.out.grown hgrow2 HB1.out.size (fun q hq => by cases hq))
  have hz12 : w1.heap.size < w2.heap.size := (hown2.lt _ rfl).2
  clear hown2 hgrow2 HI HZ0 HZ1 HZ2 HB1
  have HZL := Lib.hid (length_zeros s)
  generalize zeros s = z at *
  go_wp2_with fail
  refine (new_any 7 _).mono ?_
  rintro e w3 ⟨rfl, hb3⟩
  have HP := Lib.hid (Pg.new 7)
  have HB3 := Lib.hid (HB2.out.trans (hb3.mono HB2.out.size))
  have HBY3 := Lib.hid (HBY.out.later hb3)
  have hz23 : w1.heap.size < w3.heap.size := Nat.lt_of_lt_of_le hz12 hb3.size
  clear hb3 HB2 HBY
  generalize newL 7 = l0 at *
  go_upto_region 6 with (refine store_page_new HP.out.len length_zeroPage rfl _ _ rfl rfl rfl ?_)
  have HG4 := Lib.hid (heap_alloc_new w3 (.cells (bytesA l0) 26))
  have HB4 := Lib.hid (HB3.out.alloc HB3.out.size (.cells (bytesA l0) 26))
  have HBY4 := Lib.hid (HBY3.out.later ((Below.refl _ _).alloc (Nat.le_refl _) (.cells (bytesA l0) 26)))
  have hs4 : w3.heap.size < (w3.alloc (.cells (bytesA l0) 26)).heap.size := by simp
  have HLT := Lib.hid (show ∀ w', Below w3.heap.size (w3.alloc (.cells (bytesA l0) 26)) w' → ByteS w' (.slice (some ⟨w1.heap.size, 0, none⟩) s s) z from fun w' hb => HBY3.out.later (((Below.refl _ _).alloc (Nat.le_refl _) _).trans hb))
  have hwz : w.heap.size ≤ w3.heap.size := HB3.out.size
  clear HB3 HBY3
  generalize w3.alloc (.cells (bytesA l0) 26) = w4 at *
  go_wp2_with fail
  go_loopw [8] (fun c wr => FillRel w4 w3.heap.size z c wr) (fun c _ => 125 - (intOf c).toNat)
  case atStart => exact ⟨0, l0, rfl, HP.out, HG4.out, Below.refl _ _, hs4⟩
  case round =>
    obtain ⟨k, l, rfl, hp, hg, hb, hsz⟩ := hrel
    have HP2 := Lib.hid hp; have HG := Lib.hid hg; have HB := Lib.hid hb
    clear hp hg hb HG4 HBY4
    have hk : k * (s + 4) ≤ 496 := by have := HP2.out.cost; rw [cost_rep, HZL.out] at this; exact this
    have hk124 : k ≤ 124 := by
      have : k * 4 ≤ k * (s + 4) := Nat.mul_le_mul_left _ (by omega)
      omega
    go_wp2_with (refine load_page HP2.out.len HG.out rfl _ rfl rfl ?_)
    refine (room_any l _ HP2.out.len).mono ?_
    rw [HP2.out.slots]
    rintro e w5 ⟨rfl, hb5⟩
    have HG5 := Lib.hid ((hb5.block _ hsz).trans HG.out)
    have HB5 := Lib.hid (HB.out.trans (hb5.mono (Nat.le_of_lt hsz)))
    have hs5 : w3.heap.size < w5.heap.size := Nat.lt_of_lt_of_le hsz hb5.size
    have HR := Lib.hid (room_rep k z)
    rw [HZL.out] at HR
    clear hb5 HG HB hsz
    generalize roomL (rep k z) = R at *
    go_wp2_with (refine load_page HP2.out.len HG5.out rfl _ rfl rfl ?_)
    refine (add_any l z _ _ HP2.out.len (HLT.out _ HB5.out) (by rw [HZL.out]; omega)).mono ?_
    have hsm : (k + 1) * (s + 4) = k * (s + 4) + (s + 4) := Nat.succ_mul _ _
    by_cases hfit : (k + 1) * (s + 4) ≤ 496
    · obtain ⟨a1, a2, P6⟩ := HP2.out.add z (by rw [HZL.out]; exact hs) (by rw [free_rep, put_rep, cost_rep, HZL.out]; exact hfit)
      rw [free_rep] at a1 P6
      rw [put_rep] at P6
      rw [a1, a2]
      have HP6 := Lib.hid P6
      have hR : (s : Int) ≤ R := by
        rw [HR.out]
        generalize k * (s + 4) = q at *
        generalize (k + 1) * (s + 4) = q2 at *
        omega
      clear a1 a2 P6 hsm hfit
      generalize (addL l z).1 = l6 at *
      rintro e w6 ⟨rfl, hb6⟩
      have HG6 := Lib.hid (heap_alloc_lt (.cells (bytesA l6) 26) ((hb6.block _ hs5).trans HG5.out))
      have HN6 := Lib.hid (heap_alloc_new w6 (.cells (bytesA l6) 26))
      have HB6 := Lib.hid ((HB5.out.trans (hb6.mono (Nat.le_of_lt hs5))).alloc (Nat.le_trans (Nat.le_of_lt hs5) hb6.size) (.cells (bytesA l6) 26))
      have hs6 : w3.heap.size < (w6.alloc (.cells (bytesA l6) 26)).heap.size := by have := hb6.size; simp; omega
      clear hb6 HG5 HB5 HLT
      go_upto_region 9 with (refine store_page_new HP6.out.len length_zeroPage rfl _ _ rfl rfl rfl ?_)
      generalize w6.alloc (.cells (bytesA l6) 26) = w7 at *
      go_wp2_with (first
        | refine load_page HP6.out.len HN6.out rfl _ rfl rfl ?_
        | refine store_page HP6.out.len HP2.out.len HG6.out rfl _ _ rfl rfl rfl ?_)
      go_roundw
      case rel => exact ⟨k + 1, l6, by go_num, HP6.out, setRow_heap _ _ _ _ _ _ HG6.out, HB6.out.trans (Below.setRow _ _ _ _ (Nat.le_refl _)), by simpa using hs6⟩
      case measure => simp [intOf]; omega
    · rw [HP2.out.add_not z (.inr (by rw [free_rep, put_rep, cost_rep, HZL.out]; omega))]
      have hR : R < (s : Int) := by
        rw [HR.out]
        generalize k * (s + 4) = q at *
        generalize (k + 1) * (s + 4) = q2 at *
        omega
      have hk1 : 1 ≤ k := by
        rcases Nat.eq_zero_or_pos k with h | h
        · subst h; omega
        · exact h
      have hq : ((k : Int) != 496 / ((s : Int) + 4)) = false := by
        have e : 496 / (s + 4) = k := by
          apply Nat.div_eq_of_lt_le
          · exact hk
          · omega
        rw [show (496 / ((s : Int) + 4)) = ((496 / (s + 4) : Nat) : Int) from by rw [Int.natCast_ediv]; rfl, e]
        simp
      have HKC := Lib.hid hk
      clear hsm hfit hk HR
      rintro e w6 ⟨rfl, hb6⟩
      have HG6 := Lib.hid (heap_alloc_lt (.cells (bytesA zeroPage) 26) ((hb6.block _ hs5).trans HG5.out))
      have HB6 := Lib.hid ((HB5.out.trans (hb6.mono (Nat.le_of_lt hs5))).alloc (Nat.le_trans (Nat.le_of_lt hs5) hb6.size) (.cells (bytesA zeroPage) 26))
      have hs6 : w3.heap.size < (w6.alloc (.cells (bytesA zeroPage) 26)).heap.size := by have := hb6.size; simp; omega
      clear hb6 HG5 HB5
      go_upto_region 9 with (refine store_page_new length_zeroPage length_zeroPage rfl _ _ rfl rfl rfl ?_)
      generalize w6.alloc (.cells (bytesA zeroPage) 26) = w7 at *
      go_wp2_with (refine load_page HP2.out.len HG6.out rfl _ rfl rfl ?_)
      refine (nslots_any l _ HP2.out.len).mono ?_
      rw [HP2.out.slots, length_rep]
      rintro e w8 ⟨rfl, hb8⟩
      have HG8 := Lib.hid ((hb8.block _ hs6).trans HG6.out)
      have HB8 := Lib.hid (HB6.out.trans (hb8.mono (Nat.le_of_lt hs6)))
      have hs8 : w3.heap.size < w8.heap.size := Nat.lt_of_lt_of_le hs6 hb8.size
      clear hb8 HG6 HB6
      go_upto_region 17 with fail
      rw [← Int.natCast_emod]
      have hdk : d % k < k := Nat.mod_lt _ hk1
      generalize d % k = j at *
      obtain ⟨f1, f2, f3, f4⟩ := holed_facts k z j hdk (by rw [HZL.out]; exact hs) (by rw [HZL.out]; exact HKC.out)
      have HF2 := Lib.hid f2; have HF3 := Lib.hid f3; have HF4 := Lib.hid f4
      have hgj : getL l (j : Int) ≠ none := by rw [HP2.out.get, if_neg (by omega), Int.toNat_natCast, get_rep hdk]; simp
      have hdl : dropL l (j : Int) = (madeL 7 ((rep k z).set j none), true) := by
        unfold dropL
        rw [HP2.out.slots, HP2.out.kind, Int.toNat_natCast, if_neg (by rintro (h | h); exact hgj h; omega)]
      have hpd := Pg.made 7 (by omega) (by omega) ((rep k z).set j none) f1
      rw [show trimL ((rep k z).set j none) = holed k z j from rfl] at hpd
      have HPD := Lib.hid hpd
      clear f1 f2 f3 f4 hgj hpd
      go_wp2_with (refine load_page HP2.out.len HG8.out rfl _ rfl rfl ?_)
      refine (drop_any l j _ HP2.out.len).mono ?_
      rw [hdl]
      clear hdl
      generalize madeL 7 ((rep k z).set j none) = lq at *
      rintro e w9 ⟨rfl, hb9⟩
      have HG9 := Lib.hid (heap_alloc_lt (.cells (bytesA lq) 26) ((hb9.block _ hs8).trans HG8.out))
      have HN9 := Lib.hid (heap_alloc_new w9 (.cells (bytesA lq) 26))
      have HB9 := Lib.hid ((HB8.out.trans (hb9.mono (Nat.le_of_lt hs8))).alloc (Nat.le_trans (Nat.le_of_lt hs8) hb9.size) (.cells (bytesA lq) 26))
      have hs9 : w3.heap.size < w9.heap.size := Nat.lt_of_lt_of_le hs8 hb9.size
      have hs9' : w9.heap.size < (w9.alloc (.cells (bytesA lq) 26)).heap.size := by simp
      clear hb9 HG8 HB8
      go_upto_region 18 with (refine store_page_new HPD.out.len length_zeroPage rfl _ _ rfl rfl rfl ?_)
      generalize w9.alloc (.cells (bytesA lq) 26) = w10 at *
      go_wp2_with (refine load_page HPD.out.len HN9.out rfl _ rfl rfl ?_)
      refine (room_any lq _ HPD.out.len).mono ?_
      rw [HPD.out.slots]
      have hro := HF4.out
      rw [HZL.out] at hro
      generalize roomL (holed k z j) = R2 at *
      rintro e w11 ⟨rfl, hb11⟩
      have HG11 := Lib.hid ((hb11.block _ (by omega)).trans HG9.out)
      have HN11 := Lib.hid ((hb11.block _ hs9').trans HN9.out)
      have HB11 := Lib.hid (HB9.out.trans (hb11.mono (by omega)))
      have hs11 : w9.heap.size < w11.heap.size := Nat.lt_of_lt_of_le hs9' hb11.size
      clear hb11 HG9 HN9 HB9
      go_wp2_with (refine load_page HPD.out.len HN11.out rfl _ rfl rfl ?_)
      refine (add_any lq z _ _ HPD.out.len (HLT.out _ HB11.out) (by rw [HZL.out]; omega)).mono ?_
      obtain ⟨a1, a2, P12⟩ := HPD.out.add z (by rw [HZL.out]; exact hs) (by rw [HF2.out, HF3.out, cost_rep, HZL.out]; exact HKC.out)
      rw [HF2.out] at a1 P12
      rw [HF3.out] at P12
      rw [a1, a2]
      have HP12 := Lib.hid P12
      clear a1 a2 P12
      generalize (addL lq z).1 = lr at *
      rintro e w12 ⟨rfl, hb12⟩
      have HG12 := Lib.hid (heap_alloc_lt (.cells (bytesA lr) 26) ((hb12.block _ (by omega)).trans HG11.out))
      have HN12 := Lib.hid (heap_alloc_new w12 (.cells (bytesA lr) 26))
      have HB12 := Lib.hid ((HB11.out.trans (hb12.mono (by omega))).alloc (Nat.le_trans (by omega) hb12.size) (.cells (bytesA lr) 26))
      have hs12 : w3.heap.size < w12.heap.size := Nat.lt_of_lt_of_le (by omega) hb12.size
      have hs12' : w12.heap.size < (w12.alloc (.cells (bytesA lr) 26)).heap.size := by simp
      clear hb12 HG11 HN11 HB11
      go_upto_region 21 with (refine store_page_new HP12.out.len length_zeroPage rfl _ _ rfl rfl rfl ?_)
      generalize w12.alloc (.cells (bytesA lr) 26) = w13 at *
      have HBA := Lib.hid (show Below w.heap.size w w13 from HB4.out.trans (HB12.out.mono hwz))
      clear HB12
      have hu := Try.underlying26
      have hir : (Try.prog.info? 26).map (·.size) = some (bytesL lr).length := by rw [length_bytesL, HP12.out.len]; exact info_page
      have hil : (Try.prog.info? 26).map (·.size) = some (bytesL l).length := by rw [length_bytesL, HP2.out.len]; exact info_page
      clear hq hR hk1 hk124 hdk hro
      refine wp_region_noPanic ?_
      refine wp_region_held_drew (S := Two w w12.heap.size lr w3.heap.size l) (by kernel_rfl) (Two.drew ⟨HN12.out, HG12.out, HBA.out⟩) (fun hH => ?_)
      refine takeH 0 89 _ (.bool true) rfl rfl rfl (by kernel_rfl) (by kernel_rfl) (by kernel_rfl) hH (fun w _ => by go_simp) ?_
      simp only [List.setIfInBounds_toArray, List.set_cons_zero, List.set_cons_succ]
      refine takeH 1 90 _ (.bool true) rfl rfl rfl (by kernel_rfl) (by kernel_rfl) (by kernel_rfl) hH (fun w _ => by go_simp) ?_
      simp only [List.setIfInBounds_toArray, List.set_cons_zero, List.set_cons_succ]
      refine takeH 2 91 _ (.int .i64 (j : Int)) rfl rfl rfl (by kernel_rfl) (by kernel_rfl) (by kernel_rfl) hH (fun w _ => by go_simp) ?_
      simp only [List.setIfInBounds_toArray, List.set_cons_zero, List.set_cons_succ]
      refine takeH 3 92 _ (.int .i64 (j : Int)) rfl rfl rfl (by kernel_rfl) (by kernel_rfl) (by kernel_rfl) hH (fun w _ => by go_simp) ?_
      simp only [List.setIfInBounds_toArray, List.set_cons_zero, List.set_cons_succ]
      refine takeH 4 93 _ (.bool true) rfl rfl rfl (by kernel_rfl) (by kernel_rfl) (by kernel_rfl) hH (fun w _ => by go_simp) ?_
      simp only [List.setIfInBounds_toArray, List.set_cons_zero, List.set_cons_succ]
      refine takeH 5 94 _ (.bool true) rfl rfl rfl (by kernel_rfl) (by kernel_rfl) (by kernel_rfl) hH (fun w _ => by go_simp) ?_
      simp only [List.setIfInBounds_toArray, List.set_cons_zero, List.set_cons_succ]
      refine takeH 6 95 _ (.bool true) rfl rfl rfl (by kernel_rfl) (by kernel_rfl) (by kernel_rfl) hH (fun w _ => by go_simp) ?_
      simp only [List.setIfInBounds_toArray, List.set_cons_zero, List.set_cons_succ]
      refine takeH_load 7 96 _ _ _ _ _ (bytesL lr) _ rfl rfl rfl (by kernel_rfl) (by kernel_rfl) (by kernel_rfl) rfl rfl hu rfl hir hH (fun w h => page_range h.1) ?_
      simp only [List.setIfInBounds_toArray, List.set_cons_zero, List.set_cons_succ]
      refine takeH 9 98 _ (.int .i64 (k : Int)) rfl rfl rfl (by kernel_rfl) (by kernel_rfl) (by kernel_rfl) hH (fun w _ => by go_simp) ?_
      simp only [List.setIfInBounds_toArray, List.set_cons_zero, List.set_cons_succ]
      refine wpAnyH_ready (rs := [8]) (by kernel_rfl) (by simp) (AllReadyH.cons rfl (fun K hK => ?_) AllReadyH.nil)
      go_simp
      refine (nslots_any lr _ HP12.out.len).mono ?_
      rw [HP12.out.slots, length_rep]
      rintro e w14 ⟨rfl, hbb⟩
      go_simp
      refine hK.out _ _ (hH.next hbb) (fun hHw14 => ?_)
      clear hK K hbb
      refine takeH 10 99 _ (.bool true) rfl rfl rfl (by kernel_rfl) (by kernel_rfl) (by kernel_rfl) hHw14 (fun w _ => by go_simp) ?_
      simp only [List.setIfInBounds_toArray, List.set_cons_zero, List.set_cons_succ]
      refine takeH 11 100 _ (.bool true) rfl rfl rfl (by kernel_rfl) (by kernel_rfl) (by kernel_rfl) hHw14 (fun w _ => by go_simp) ?_
      simp only [List.setIfInBounds_toArray, List.set_cons_zero, List.set_cons_succ]
      refine takeH 12 101 _ (.bool true) rfl rfl rfl (by kernel_rfl) (by kernel_rfl) (by kernel_rfl) hHw14 (fun w _ => by go_simp) ?_
      simp only [List.setIfInBounds_toArray, List.set_cons_zero, List.set_cons_succ]
      refine takeH_load 13 102 _ _ _ _ _ (bytesL lr) _ rfl rfl rfl (by kernel_rfl) (by kernel_rfl) (by kernel_rfl) rfl rfl hu rfl hir hHw14 (fun w h => page_range h.1) ?_
      simp only [List.setIfInBounds_toArray, List.set_cons_zero, List.set_cons_succ]
      refine takeH_load 15 104 _ _ _ _ _ (bytesL l) _ rfl rfl rfl (by kernel_rfl) (by kernel_rfl) (by kernel_rfl) rfl rfl hu rfl hil hHw14 (fun w h => page_range h.2.1) ?_
      simp only [List.setIfInBounds_toArray, List.set_cons_zero, List.set_cons_succ]
      refine wpAnyH_ready (rs := [14]) (by kernel_rfl) (by simp) (AllReadyH.cons rfl (fun K hK => ?_) AllReadyH.nil)
      go_simp
      refine (room_any lr _ HP12.out.len).mono ?_
      rw [HP12.out.slots]
      rintro e w15 ⟨rfl, hbb⟩
      go_simp
      refine hK.out _ _ (hHw14.next hbb) (fun hHw15 => ?_)
      clear hK K hbb
      refine wpAnyH_ready (rs := [16]) (by kernel_rfl) (by simp) (AllReadyH.cons rfl (fun K hK => ?_) AllReadyH.nil)
      go_simp
      refine (room_any l _ HP2.out.len).mono ?_
      rw [HP2.out.slots]
      rintro e w16 ⟨rfl, hbb⟩
      go_simp
      refine hK.out _ _ (hHw15.next hbb) (fun hHw16 => ?_)
      clear hK K hbb
      refine takeH 17 106 _ (.bool true) rfl rfl rfl (by kernel_rfl) (by kernel_rfl) (by kernel_rfl) hHw16 (fun w _ => by go_simp) ?_
      simp only [List.setIfInBounds_toArray, List.set_cons_zero, List.set_cons_succ]
      refine takeH 18 107 _ (.bool true) rfl rfl rfl (by kernel_rfl) (by kernel_rfl) (by kernel_rfl) hHw16 (fun w _ => by go_simp) ?_
      simp only [List.setIfInBounds_toArray, List.set_cons_zero, List.set_cons_succ]
      refine takeH 19 4 _ (.bool true) rfl rfl rfl (by kernel_rfl) (by kernel_rfl) (by kernel_rfl) hHw16 (fun w _ => by go_simp) ?_
      simp only [List.setIfInBounds_toArray, List.set_cons_zero, List.set_cons_succ]
      refine wpAnyH_done (by kernel_rfl) ?_ _
      refine NoPanic.normal ?_
      go_wp2_with fail
      go_ret
      exact ⟨rfl, hHw16.2.2⟩
end Go.Proofs.Ytpfnpinblbfjdaa
