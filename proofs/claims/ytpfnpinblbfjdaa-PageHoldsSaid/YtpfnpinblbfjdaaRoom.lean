/- PageRoom: for every list of records and every list of slots to drop the statement returns true, and nothing that was there turns. No condition. -/
import Derived.Test.YtpfnpinblbfjdaaRegionB
import Derived.Test.YtpfnpinblbfjdaaAwake
set_option linter.unusedSimpArgs false
namespace Go.Proofs.Ytpfnpinblbfjdaa
open Go.RowKit

theorem info_of {l : List UInt8} (h : l.length = 512) : (Try.prog.info? 26).map (·.size) = some (bytesL l).length := by rw [length_bytesL, h]; exact info_page

/-- A page of some slots stands in a variable. -/
def RoomRel (w : World) (g : Nat) (wr : World) : Prop := ∃ l ss, Pg l 9 ss ∧ One w g l wr

theorem Pg.drop {l : List UInt8} {kd : Int} {ss : List (Option (List UInt8))} (h : Pg l kd ss) (k : Int) : dropL l k = (zeroPage, false) ∨ ∃ m tt, dropL l k = (m, true) ∧ Pg m kd tt := by
  unfold dropL
  split
  · exact .inl rfl
  · rename_i hn
    right
    rw [h.slots, h.kind] at *
    exact ⟨_, _, rfl, Pg.made kd h.k0 h.k1 _ (by omega)⟩
theorem Pg.add_or {l : List UInt8} {kd : Int} {ss : List (Option (List UInt8))} (h : Pg l kd ss) (r : List UInt8) : addL l r = (zeroPage, 0, false) ∨ ∃ m tt k, addL l r = (m, k, true) ∧ Pg m kd tt := by
  by_cases hc : 400 < r.length ∨ 496 < costL (putL ss (freeL ss) r)
  · exact .inl (h.add_not r hc)
  · obtain ⟨h1, h2, h3⟩ := h.add r (by omega) (by omega)
    refine .inr ⟨(addL l r).1, _, (addL l r).2.1, ?_, h3⟩
    rw [← h2]

/-- A page that was answered lies in a variable of its own. -/
def Rel7 (w : World) (gp : Nat) (l : List UInt8) (an : List UInt8 × Int × Bool) (s7 s8 s9 : Value) (wc : World) : Prop :=
  ∃ g7, s7 = .pointer (some ⟨g7, 0, none⟩) ∧ s8 = .int .i64 an.2.1 ∧ s9 = .bool an.2.2 ∧ wc.heap[g7]? = some (.cells (bytesA an.1) 26 (0, 0)) ∧ One w gp l wc ∧ gp ≠ g7

def Rel10 (w : World) (gp : Nat) (l : List UInt8) (p : Prop) (s46 : Value) (wc : World) : Prop := (s46 = .bool false ∨ (s46 = .bool true ∧ p)) ∧ One w gp l wc
def Rel11 (w : World) (gp : Nat) (l : List UInt8) (an : List UInt8 × Bool) (s10 s11 : Value) (wc : World) : Prop :=
  ∃ g, s10 = .pointer (some ⟨g, 0, none⟩) ∧ s11 = .bool an.2 ∧ wc.heap[g]? = some (.cells (bytesA an.1) 26 (0, 0)) ∧ One w gp l wc ∧ gp ≠ g

/-- Is one of the first slots empty? -/
def emptyTo (ss : List (Option (List UInt8))) (k : Nat) : Bool := (ss.take k).any (·.isNone)
theorem emptyTo_succ (ss : List (Option (List UInt8))) (k : Nat) (h : k < ss.length) : emptyTo ss (k + 1) = (emptyTo ss k || (ss.getD k none).isNone) := by
  unfold emptyTo
  rw [List.take_succ_eq_append_getElem h, List.any_append]
  simp [h]
theorem emptyTo_all (ss : List (Option (List UInt8))) : (emptyTo ss ss.length = true → freeL ss ≠ ss.length) ∧ (emptyTo ss ss.length = false → freeL ss = ss.length) := by
  unfold emptyTo freeL
  rw [List.take_length]
  constructor
  · intro h e
    rw [List.findIdx_eq_length] at e
    obtain ⟨x, hx, hn⟩ := List.any_eq_true.1 h
    rw [e x hx] at hn
    cases hn
  · intro h
    rw [List.findIdx_eq_length]
    intro x hx
    have := List.any_eq_false.1 h x hx
    cases x <;> simp_all

set_option maxHeartbeats 8000000 in
set_option maxRecDepth 100000 in
theorem room_law (rs : List (List UInt8)) (ds : List UInt8) (v u : Value) (w : World) (hv : BytesS w v rs) (hu : ByteS w u ds) (hl : rs.length ≤ 140737488351232) (hdl : ds.length ≤ 140737488351232) (hr : ∀ i, i < rs.length → (rs.getD i []).length ≤ 140737488351232) :
    Calls Try.prog 4 #[v, u] w fun e w' => e = .returned (.bool true) ∧ Below w.heap.size w w' := by
  have hz := zero_page
  have HV := Lib.hid hv; have HU := Lib.hid hu; have HRL := Lib.hid hr
  obtain ⟨va, vc, rfl, -⟩ := hv
  obtain ⟨ua, uc, rfl⟩ := hu.form
  clear hu hr
  go_enter Try.func4, Try.ntmps4
  go_wp2_with fail
  refine (awake_any _).mono ?_
  rintro e w1 ⟨rfl, hb1⟩
  have HB1 := Lib.hid hb1; clear hb1
  go_wp2_with fail
  refine (new_any 9 _).mono ?_
  rintro e w3 ⟨rfl, hb3⟩
  have HP := Lib.hid (Pg.new 9)
  have HB3 := Lib.hid (HB1.out.trans (hb3.mono HB1.out.size))
  clear hb3 HB1
  generalize newL 9 = l0 at *
  go_upto_region 4 with (refine store_page_new HP.out.len length_zeroPage rfl _ _ rfl rfl rfl ?_)
  have HO4 := Lib.hid (show One w w3.heap.size l0 (w3.alloc (.cells (bytesA l0) 26)) from ⟨heap_alloc_new _ _, HB3.out.alloc HB3.out.size _⟩)
  have hgp : w.heap.size ≤ w3.heap.size := HB3.out.size
  clear HB3
  generalize w3.alloc (.cells (bytesA l0) 26) = w4 at *
  generalize w3.heap.size = gp at *
  go_wp2_with fail
  go_loopw [6] (fun c wr => ∃ i : Nat, i ≤ rs.length ∧ c = .int .i64 i ∧ RoomRel w gp wr) (fun c _ => rs.length - (intOf c).toNat)
  case atStart => exact ⟨0, Nat.zero_le _, rfl, l0, [], HP.out, HO4.out⟩
  case round =>
    obtain ⟨i, hi, rfl, hrel⟩ := hrel
    have HR := Lib.hid hrel; clear hrel HP HO4
    by_cases hlt : i < rs.length
    · obtain ⟨l, ss, hp, ho⟩ := HR.out
      have HP := Lib.hid hp; have HO := Lib.hid ho
      clear hp ho HR
      obtain ⟨vb, voff, x, hva, hx, hxb⟩ : ∃ b off x, va = some ⟨b, off, none⟩ ∧ w.cell? ⟨b, off + i, none⟩ = some x ∧ ByteS w x (rs.getD i []) := by
        obtain ⟨ao, c, he, hc⟩ := HV.out
        obtain ⟨b, off, x, h1, h2, h3⟩ := hc i hlt
        simp only [Value.slice.injEq] at he
        exact ⟨b, off, x, he.1.trans h1, h2, h3⟩
      subst hva
      have hrl := HRL.out i hlt
      generalize rs.getD i [] = r at *
      have HX := Lib.hid hx; have HXB := Lib.hid hxb
      clear hx hxb
      obtain ⟨an, han⟩ : ∃ an, an = addL l r := ⟨_, rfl⟩
      have HML := Lib.hid (show an.1.length = 512 from by rw [han]; exact length_addL l r)
      have HAN := Lib.hid han; clear han
      go_upto_region 7 with fail
      go_cut [7, 8, 9] from 20 to 106 (fun s7 s8 s9 wc => Rel7 w gp l an s7 s8 s9 wc)
      case rest =>
        obtain ⟨g7, rfl, rfl, rfl, hg7, hone, hne⟩ := hcut
        have HG7 := Lib.hid hg7; have HN := Lib.hid hone
        clear hg7 hone HX HXB hrl HO
        generalize wc = wA at *
        go_upto_if 36 with fail
        go_cut [] from 20 to 106 (fun wq => RoomRel w gp wq)
        case first =>
          rcases HP.out.add_or r with h | ⟨m, tt, k7, h, hpm⟩
          · rw [← HAN.out] at h
            subst h
            go_wp2_with fail
            go_meet
            case rel => exact ⟨l, ss, HP.out, HN.out⟩
          · rw [← HAN.out] at h
            subst h
            have HPM := Lib.hid hpm; clear hpm
            go_wp2_with (first
              | refine load_page HPM.out.len HG7.out rfl _ rfl rfl ?_
              | refine store_page HPM.out.len HP.out.len HN.out.1 rfl _ _ rfl rfl rfl ?_)
            go_meet
            case rel => exact ⟨m, tt, HPM.out, HN.out.set m hgp⟩
        case rest =>
          clear HP HG7 HN HML HAN
          obtain ⟨l2, s2, hp, ho⟩ := hcut
          have HP := Lib.hid hp; have HO := Lib.hid ho
          clear hp ho
          generalize wc = wB at *
          have hsl := slotsL_le l2
          rw [HP.out.slots] at hsl
          go_upto_region 10 with fail
          go_cut [46] from 20 to 106 (fun s46 wq => Rel10 w gp l2 (i < ds.length ∧ 0 < s2.length) s46 wq)
          case first =>
            by_cases hid : i < ds.length
            · go_wp2_with (refine load_page HP.out.len HO.out.1 rfl _ rfl rfl ?_)
              refine (nslots_any l2 _ HP.out.len).mono ?_
              rw [HP.out.slots]
              rintro e w6 ⟨rfl, hb6⟩
              by_cases hs2 : 0 < s2.length
              · go_wp2_with fail
                go_meet
                case rel => exact ⟨.inr ⟨rfl, hid, hs2⟩, HO.out.next hb6⟩
              · go_wp2_with fail
                go_meet
                case rel => exact ⟨.inl rfl, HO.out.next hb6⟩
            · go_wp2_with fail
              go_meet
              case rel => exact ⟨.inl rfl, HO.out⟩
          case rest =>
            obtain ⟨hc46, hone⟩ := hcut
            have HC46 := Lib.hid hc46; have HN := Lib.hid hone
            clear hc46 hone HO
            generalize wc = wC at *
            go_upto_if 46 with fail
            go_cut [] from 20 to 106 (fun wq => RoomRel w gp wq)
            case first =>
              rcases HC46.out with rfl | ⟨rfl, hid, hs2⟩
              · go_wp2_with fail
                go_meet
                case rel => exact ⟨l2, s2, HP.out, HN.out⟩
              · obtain ⟨ub, uoff, hua⟩ : ∃ b off, ua = some ⟨b, off, none⟩ := by
                  obtain ⟨ao, c, he, hc⟩ := HU.out
                  simp only [Value.slice.injEq] at he
                  rcases hc with ⟨_, h2, _⟩ | ⟨ad, h1, h2⟩
                  · omega
                  · have := h2 0 _ (get_bytesL ds 0 (by omega))
                    have hsp := spot_none this
                    rw [show ad.add 0 = ad by simp [Addr.add]] at hsp
                    exact ⟨ad.block, ad.off, by rw [he.1, h1, ← hsp]⟩
                subst hua
                have HUC := Lib.hid (HU.out.cells i hid)
                have hdb := UInt8.toNat_lt (ds.getD i 0)
                generalize (ds.getD i 0).toNat = db at *
                obtain ⟨an, han⟩ : ∃ an, an = dropL l2 ((db % s2.length : Nat) : Int) := ⟨_, rfl⟩
                have HML := Lib.hid (show an.1.length = 512 from by rw [han]; exact length_dropL _ _)
                have HAN := Lib.hid han; clear han
                have HMD := Lib.hid (show (db : Int) % (s2.length : Int) = ((db % s2.length : Nat) : Int) from by rw [Int.natCast_emod])
                have hwr := IntWalk.i64_in (db : Int) (by omega)
                have hwr2 := IntWalk.wrap64_in (db : Int) ⟨by omega, by omega⟩
                go_upto_region 11 with fail
                go_cut [10, 11] from 20 to 106 (fun s10 s11 wq => Rel11 w gp l2 an s10 s11 wq)
                case rest =>
                  obtain ⟨g, rfl, rfl, hg, hone, hne⟩ := hcut
                  have HG := Lib.hid hg; have HN2 := Lib.hid hone
                  clear hg hone HN
                  generalize wc = wD at *
                  rcases HP.out.drop ((db % s2.length : Nat) : Int) with h | ⟨m, tt, h, hpm⟩
                  · rw [← HAN.out] at h
                    subst h
                    go_wp2_with fail
                    go_meet
                    case rel => exact ⟨l2, s2, HP.out, HN2.out⟩
                  · rw [← HAN.out] at h
                    subst h
                    have HPM := Lib.hid hpm; clear hpm
                    go_wp2_with (first
                      | refine load_page HPM.out.len HG.out rfl _ rfl rfl ?_
                      | refine store_page HPM.out.len HP.out.len HN2.out.1 rfl _ _ rfl rfl rfl ?_)
                    go_meet
                    case rel => exact ⟨m, tt, HPM.out, HN2.out.set m hgp⟩
                refine wp_region_noPanic ?_
                have hs2n : ¬ s2 = [] := by intro e; rw [e] at hs2; simp at hs2
                have htm : (db : Int).tmod (s2.length : Int) = (db : Int) % (s2.length : Int) := Int.tmod_eq_emod_of_nonneg (by omega)
                refine wp_region_held_drew (S := One w gp l2) (by kernel_rfl) HN.out.drew (fun hH => ?_)
                refine takeH_load 0 48 _ _ _ _ _ (bytesL l2) _ rfl rfl rfl (by kernel_rfl) (by kernel_rfl) (by kernel_rfl) rfl rfl Try.underlying26 rfl (info_of HP.out.len) hH (fun w h => page_range h.1) ?_
                simp only [List.setIfInBounds_toArray, List.set_cons_zero, List.set_cons_succ]
                refine takeH 1 49 _ (.slice (some ⟨ub, uoff, none⟩) ds.length uc) rfl rfl rfl (by kernel_rfl) (by kernel_rfl) (by kernel_rfl) hH (fun w _ => by go_simp) ?_
                simp only [List.setIfInBounds_toArray, List.set_cons_zero, List.set_cons_succ]
                refine takeH 2 50 _ (.int .i64 (i : Int)) rfl rfl rfl (by kernel_rfl) (by kernel_rfl) (by kernel_rfl) hH (fun w _ => by go_simp) ?_
                simp only [List.setIfInBounds_toArray, List.set_cons_zero, List.set_cons_succ]
                refine takeH 3 51 _ (.pointer (some ⟨ub, uoff + i, none⟩)) rfl rfl rfl (by kernel_rfl) (by kernel_rfl) (by kernel_rfl) hH (fun w _ => by go_simp) ?_
                simp only [List.setIfInBounds_toArray, List.set_cons_zero, List.set_cons_succ]
                refine takeH_cell 4 52 _ _ _ _ _ (.int .u8 (db : Int)) _ rfl rfl rfl (by kernel_rfl) (by kernel_rfl) (by kernel_rfl) rfl rfl Try.underlying5 rfl hH (fun w h => (cell_later h.2 HUC.out)) ?_
                simp only [List.setIfInBounds_toArray, List.set_cons_zero, List.set_cons_succ]
                refine takeH 5 53 _ (.int .i64 (db : Int)) rfl rfl rfl (by kernel_rfl) (by kernel_rfl) (by kernel_rfl) hH (fun w _ => by go_simp) ?_
                simp only [List.setIfInBounds_toArray, List.set_cons_zero, List.set_cons_succ]
                refine takeH_load 6 54 _ _ _ _ _ (bytesL l2) _ rfl rfl rfl (by kernel_rfl) (by kernel_rfl) (by kernel_rfl) rfl rfl Try.underlying26 rfl (info_of HP.out.len) hH (fun w h => page_range h.1) ?_
                simp only [List.setIfInBounds_toArray, List.set_cons_zero, List.set_cons_succ]
                refine wpAnyH_ready (rs := [7, 13]) (by kernel_rfl) (by simp) (AllReadyH.cons rfl (fun K hK => ?_) (AllReadyH.cons rfl (fun K hK => ?_) AllReadyH.nil))
                ·
                  go_simp
                  refine (nslots_any l2 _ HP.out.len).mono ?_
                  rw [HP.out.slots]
                  rintro e w5 ⟨rfl, hb5⟩
                  go_simp
                  refine hK.out _ _ (hH.next hb5) (fun hH5 => ?_)
                  clear hK K
                  clear hb5
                  refine takeH 8 56 _ (.int .i64 ((db : Int) % (s2.length : Int))) rfl rfl rfl (by kernel_rfl) (by kernel_rfl) (by kernel_rfl) hH5 (fun w _ => by go_simp) ?_
                  simp only [List.setIfInBounds_toArray, List.set_cons_zero, List.set_cons_succ]
                  refine wpAnyH_ready (rs := [9, 13]) (by kernel_rfl) (by simp) (AllReadyH.cons rfl (fun K hK => ?_) (AllReadyH.cons rfl (fun K hK => ?_) AllReadyH.nil))
                  ·
                    go_simp
                    refine (drop_any l2 ((db : Int) % (s2.length : Int)) _ HP.out.len).mono ?_
                    rw [HMD.out, ← HAN.out]
                    rintro e w6 ⟨rfl, hb6⟩
                    go_simp
                    refine hK.out _ _ (hH5.next hb6) (fun hH6 => ?_)
                    clear hK K
                    clear hb6
                    refine takeH 10 47 _ (.tuple #[.agg (bytesA an.1), .bool an.2]) rfl rfl rfl (by kernel_rfl) (by kernel_rfl) (by kernel_rfl) hH6 (fun w _ => by go_simp) ?_
                    simp only [List.setIfInBounds_toArray, List.set_cons_zero, List.set_cons_succ]
                    refine takeH 11 58 _ (.agg (bytesA an.1)) rfl rfl rfl (by kernel_rfl) (by kernel_rfl) (by kernel_rfl) hH6 (fun w _ => by go_simp) ?_
                    simp only [List.setIfInBounds_toArray, List.set_cons_zero, List.set_cons_succ]
                    refine takeH 12 59 _ (.bool an.2) rfl rfl rfl (by kernel_rfl) (by kernel_rfl) (by kernel_rfl) hH6 (fun w _ => by go_simp) ?_
                    simp only [List.setIfInBounds_toArray, List.set_cons_zero, List.set_cons_succ]
                    refine wpAnyH_ready (rs := [13]) (by kernel_rfl) (by simp) (AllReadyH.cons rfl (fun K hK => ?_) AllReadyH.nil)
                    go_simp
                    refine hK.out _ _ (hH6.alloc _) (fun hH7 => ?_)
                    clear hK K
                    refine wpAnyH_ready (rs := [14]) (by kernel_rfl) (by simp) (AllReadyH.cons rfl (fun K hK => ?_) AllReadyH.nil)
                    rw [if_pos (by rfl)]
                    refine wp_store_row 26 (.tmp 10) (.tmp 58) rfl _ _ rfl rfl _ _ (heap_alloc_new _ _) (info_page' _ HML.out) (by rw [size_bytesA, size_bytesA, HML.out]; exact length_zeroPage) (oneCell_bytesA _) ?_
                    rw [World.setRow_alloc_new]
                    refine hK.out _ _ (hH6.alloc _) (fun hH8 => ?_)
                    clear hK K
                    simp only [Act.put]
                    refine takeH 15 11 _ (.bool an.2) rfl rfl rfl (by kernel_rfl) (by kernel_rfl) (by kernel_rfl) hH8 (fun w _ => by go_simp) ?_
                    simp only [List.setIfInBounds_toArray, List.set_cons_zero, List.set_cons_succ]
                    refine wpAnyH_done (by kernel_rfl) ?_ _
                    refine NoPanic.normal ?_
                    go_wp2_with fail
                    go_meet
                    case rel => exact ⟨_, rfl, rfl, heap_alloc_new _ _, hH8, Nat.ne_of_lt hH6.lt⟩
                  ·
                    go_simp
                    refine hK.out _ _ (hH5.alloc _) (fun hH6 => ?_)
                    clear hK K
                    refine wpAnyH_ready (rs := [9]) (by kernel_rfl) (by simp) (AllReadyH.cons rfl (fun K hK => ?_) AllReadyH.nil)
                    go_simp
                    refine (drop_any l2 ((db : Int) % (s2.length : Int)) _ HP.out.len).mono ?_
                    rw [HMD.out, ← HAN.out]
                    rintro e w6 ⟨rfl, hb6⟩
                    go_simp
                    refine hK.out _ _ (hH6.next hb6) (fun hH7 => ?_)
                    clear hK K
                    have hN7 := (hb6.block w5.heap.size (by simp)).trans (heap_alloc_new w5 _)
                    clear hb6
                    refine takeH 10 47 _ (.tuple #[.agg (bytesA an.1), .bool an.2]) rfl rfl rfl (by kernel_rfl) (by kernel_rfl) (by kernel_rfl) hH7 (fun w _ => by go_simp) ?_
                    simp only [List.setIfInBounds_toArray, List.set_cons_zero, List.set_cons_succ]
                    refine takeH 11 58 _ (.agg (bytesA an.1)) rfl rfl rfl (by kernel_rfl) (by kernel_rfl) (by kernel_rfl) hH7 (fun w _ => by go_simp) ?_
                    simp only [List.setIfInBounds_toArray, List.set_cons_zero, List.set_cons_succ]
                    refine takeH 12 59 _ (.bool an.2) rfl rfl rfl (by kernel_rfl) (by kernel_rfl) (by kernel_rfl) hH7 (fun w _ => by go_simp) ?_
                    simp only [List.setIfInBounds_toArray, List.set_cons_zero, List.set_cons_succ]
                    have hS8 : One w gp l2 (w6.setRow w5.heap.size (bytesA an.1)) := ⟨(setRow_other _ _ _ _ (Nat.ne_of_lt hH5.lt)).trans hH7.1, hH7.2.trans (Below.setRow _ _ _ _ hH5.2.size)⟩
                    refine wpAnyH_ready (rs := [14]) (by kernel_rfl) (by simp) (AllReadyH.cons rfl (fun K hK => ?_) AllReadyH.nil)
                    rw [if_pos (by rfl)]
                    refine wp_store_row 26 (.tmp 10) (.tmp 58) rfl _ _ rfl rfl _ _ hN7 (info_page' _ HML.out) (by rw [size_bytesA, size_bytesA, HML.out]; exact length_zeroPage) (oneCell_bytesA _) ?_
                    refine hK.out _ _ (hS8) (fun hH8 => ?_)
                    clear hK K
                    simp only [Act.put]
                    refine takeH 15 11 _ (.bool an.2) rfl rfl rfl (by kernel_rfl) (by kernel_rfl) (by kernel_rfl) hH8 (fun w _ => by go_simp) ?_
                    simp only [List.setIfInBounds_toArray, List.set_cons_zero, List.set_cons_succ]
                    refine wpAnyH_done (by kernel_rfl) ?_ _
                    refine NoPanic.normal ?_
                    go_wp2_with fail
                    go_meet
                    case rel => exact ⟨_, rfl, rfl, setRow_heap _ _ _ _ _ _ hN7, hH8, Nat.ne_of_lt hH5.lt⟩
                ·
                  go_simp
                  refine hK.out _ _ (hH.alloc _) (fun hH4 => ?_)
                  clear hK K
                  refine wpAnyH_ready (rs := [7]) (by kernel_rfl) (by simp) (AllReadyH.cons rfl (fun K hK => ?_) AllReadyH.nil)
                  go_simp
                  refine (nslots_any l2 _ HP.out.len).mono ?_
                  rw [HP.out.slots]
                  rintro e w5 ⟨rfl, hb5⟩
                  go_simp
                  refine hK.out _ _ (hH4.next hb5) (fun hH5 => ?_)
                  clear hK K
                  have hN5 := (hb5.block wC.drew.heap.size (by simp)).trans (heap_alloc_new wC.drew _)
                  clear hb5
                  refine takeH 8 56 _ (.int .i64 ((db : Int) % (s2.length : Int))) rfl rfl rfl (by kernel_rfl) (by kernel_rfl) (by kernel_rfl) hH5 (fun w _ => by go_simp) ?_
                  simp only [List.setIfInBounds_toArray, List.set_cons_zero, List.set_cons_succ]
                  refine wpAnyH_ready (rs := [9]) (by kernel_rfl) (by simp) (AllReadyH.cons rfl (fun K hK => ?_) AllReadyH.nil)
                  go_simp
                  refine (drop_any l2 ((db : Int) % (s2.length : Int)) _ HP.out.len).mono ?_
                  rw [HMD.out, ← HAN.out]
                  rintro e w6 ⟨rfl, hb6⟩
                  go_simp
                  refine hK.out _ _ (hH5.next hb6) (fun hH7 => ?_)
                  clear hK K
                  have hN7 := (hb6.block wC.drew.heap.size (Array.getElem?_eq_some_iff.1 hN5).1).trans hN5
                  clear hb6
                  refine takeH 10 47 _ (.tuple #[.agg (bytesA an.1), .bool an.2]) rfl rfl rfl (by kernel_rfl) (by kernel_rfl) (by kernel_rfl) hH7 (fun w _ => by go_simp) ?_
                  simp only [List.setIfInBounds_toArray, List.set_cons_zero, List.set_cons_succ]
                  refine takeH 11 58 _ (.agg (bytesA an.1)) rfl rfl rfl (by kernel_rfl) (by kernel_rfl) (by kernel_rfl) hH7 (fun w _ => by go_simp) ?_
                  simp only [List.setIfInBounds_toArray, List.set_cons_zero, List.set_cons_succ]
                  refine takeH 12 59 _ (.bool an.2) rfl rfl rfl (by kernel_rfl) (by kernel_rfl) (by kernel_rfl) hH7 (fun w _ => by go_simp) ?_
                  simp only [List.setIfInBounds_toArray, List.set_cons_zero, List.set_cons_succ]
                  have hS8 : One w gp l2 (w6.setRow wC.drew.heap.size (bytesA an.1)) := ⟨(setRow_other _ _ _ _ (Nat.ne_of_lt hH.lt)).trans hH7.1, hH7.2.trans (Below.setRow _ _ _ _ hH.2.size)⟩
                  refine wpAnyH_ready (rs := [14]) (by kernel_rfl) (by simp) (AllReadyH.cons rfl (fun K hK => ?_) AllReadyH.nil)
                  rw [if_pos (by rfl)]
                  refine wp_store_row 26 (.tmp 10) (.tmp 58) rfl _ _ rfl rfl _ _ hN7 (info_page' _ HML.out) (by rw [size_bytesA, size_bytesA, HML.out]; exact length_zeroPage) (oneCell_bytesA _) ?_
                  refine hK.out _ _ (hS8) (fun hH8 => ?_)
                  clear hK K
                  simp only [Act.put]
                  refine takeH 15 11 _ (.bool an.2) rfl rfl rfl (by kernel_rfl) (by kernel_rfl) (by kernel_rfl) hH8 (fun w _ => by go_simp) ?_
                  simp only [List.setIfInBounds_toArray, List.set_cons_zero, List.set_cons_succ]
                  refine wpAnyH_done (by kernel_rfl) ?_ _
                  refine NoPanic.normal ?_
                  go_wp2_with fail
                  go_meet
                  case rel => exact ⟨_, rfl, rfl, setRow_heap _ _ _ _ _ _ hN7, hH8, Nat.ne_of_lt hH.lt⟩
            case rest =>
              clear HP HN HC46 hsl
              obtain ⟨l3, s3, hp, ho⟩ := hcut
              have HP := Lib.hid hp; have HO := Lib.hid ho
              clear hp ho
              generalize wc = wE at *
              have hsl := slotsL_le l3
              rw [HP.out.slots] at hsl
              have hct : 4 * s3.length + lens s3 ≤ 496 := HP.out.cost
              go_wp2_with (refine load_page HP.out.len HO.out.1 rfl _ rfl rfl ?_)
              refine (nslots_any l3 _ HP.out.len).mono ?_
              rw [HP.out.slots]
              rintro e w6 ⟨rfl, hb6⟩
              have HO6 := Lib.hid (HO.out.next hb6)
              clear hb6 HO
              go_wp2_with fail
              go_loopw [12, 13, 14] (fun lf em c wq => ∃ k : Nat, k ≤ s3.length ∧ c = .int .i64 k ∧ lf = .int .i64 (496 - 4 * (s3.length : Int) - (lens (s3.take k) : Nat)) ∧ em = .bool (emptyTo s3 k) ∧ Hid (One w gp l3 wq)) (fun _ _ c _ => s3.length - (intOf c).toNat)
              case atStart => exact ⟨0, Nat.zero_le _, rfl, by simp [lens], rfl, HO6.out⟩
              case round =>
                obtain ⟨k, hk, rfl, rfl, rfl, hok⟩ := hrel
                clear HO6
                have hle := lens_take_le s3 k
                by_cases hkl : k < s3.length
                · have HSU := Lib.hid (lens_take_succ s3 k hkl)
                  have HEU := Lib.hid (emptyTo_succ s3 k hkl)
                  have HGK := Lib.hid (show getL l3 (k : Int) = s3.getD k none from by rw [HP.out.get, if_neg (by omega), Int.toNat_natCast])
                  have hle2 := lens_take_le s3 (k + 1)
                  rw [HSU.out] at hle2
                  generalize s3.getD k none = o at *
                  generalize lens (s3.take k) = q at *
                  go_wp2_with (refine load_page HP.out.len hok.out.1 rfl _ rfl rfl ?_)
                  refine (nslots_any l3 _ HP.out.len).mono ?_
                  rw [HP.out.slots]
                  rintro e w7 ⟨rfl, hb7⟩
                  have HO7 := Lib.hid (hok.out.next hb7)
                  clear hb7 hok
                  go_wp2_with (refine load_page HP.out.len HO7.out.1 rfl _ rfl rfl ?_)
                  refine (get_any l3 k _ HP.out.len).mono ?_
                  rw [HGK.out]
                  rintro e w8 ⟨v8, rfl, hrec, hb8⟩
                  have HO8 := Lib.hid (HO7.out.next hb8)
                  clear hb8 HO7
                  obtain ⟨a8, c8, rfl⟩ := hrec.len
                  clear hrec
                  have HNN := Lib.hid (show o.isNone = !o.isSome from by cases o <;> rfl)
                  rw [HNN.out] at HEU
                  generalize o.isSome = os at *
                  generalize recLen o = rl at *
                  generalize emptyTo s3 k = em at *
                  cases em
                  all_goals
                    go_wp2_with fail
                    go_roundw
                    case rel => exact ⟨k + 1, by omega, by go_num, by rw [HSU.out]; go_num, by rw [HEU.out]; simp, HO8.out⟩
                    case measure => simp [intOf]; omega
                · obtain rfl : k = s3.length := by omega
                  rw [List.take_length] at *
                  have HEA := Lib.hid (emptyTo_all s3)
                  have HRM := Lib.hid (show roomL s3 = max (-1) (min 400 (496 - (((4 * s3.length + lens s3 : Nat) : Int) + if freeL s3 = s3.length then 4 else 0))) from rfl)
                  generalize lens s3 = q at *
                  generalize emptyTo s3 s3.length = em at *
                  go_wp2_with (refine load_page HP.out.len hok.out.1 rfl _ rfl rfl ?_)
                  refine (nslots_any l3 _ HP.out.len).mono ?_
                  rw [HP.out.slots]
                  rintro e w7 ⟨rfl, hb7⟩
                  have HO7 := Lib.hid (hok.out.next hb7)
                  clear hb7 hok
                  have key : ∃ L : Int, -4 ≤ L ∧ L ≤ 496 ∧ roomL s3 = max (-1) (min 400 L) ∧ ((em = true ∧ L = 496 - 4 * (s3.length : Int) - q) ∨ (em = false ∧ L = 496 - 4 * (s3.length : Int) - q - 4)) := by
                    cases em
                    · refine ⟨_, ?_, ?_, ?_, .inr ⟨rfl, rfl⟩⟩
                      · omega
                      · omega
                      · rw [HRM.out, if_pos (HEA.out.2 rfl)]; congr 2; omega
                    · refine ⟨_, ?_, ?_, ?_, .inl ⟨rfl, rfl⟩⟩
                      · omega
                      · omega
                      · rw [HRM.out, if_neg (HEA.out.1 rfl)]; congr 2; omega
                  obtain ⟨L, hL1, hL2, hL3, hL4⟩ := key
                  have HL3 := Lib.hid hL3; clear hL3 HRM HEA
                  have HL4 := Lib.hid hL4; clear hL4
                  go_upto_if 88 with fail
                  go_cut [12] from 20 to 106 (fun s12 wq => s12 = .int .i64 L ∧ Hid (One w gp l3 wq))
                  case first =>
                    rcases HL4.out with ⟨rfl, e2⟩ | ⟨rfl, e2⟩
                    · have HE2 := Lib.hid e2; clear e2
                      go_wp2_with fail
                      go_meet
                      case rel => exact ⟨by rw [HE2.out], HO7.out⟩
                    · have HE2 := Lib.hid e2; clear e2
                      go_wp2_with fail
                      go_meet
                      case rel => exact ⟨by rw [HE2.out], HO7.out⟩
                  case rest =>
                    obtain ⟨rfl, hok⟩ := hcut
                    clear HO7 HL4
                    generalize wc = wF at *
                    go_wp2_with (refine load_page HP.out.len hok.out.1 rfl _ rfl rfl ?_)
                    refine (room_any l3 _ HP.out.len).mono ?_
                    rw [HP.out.slots]
                    rintro e w9 ⟨rfl, hb9⟩
                    have HO9 := Lib.hid (hok.out.next hb9)
                    clear hb9 hok
                    generalize roomL s3 = R at *
                    have key2 : (R = -1 ∧ L ≤ -1) ∨ (R = L ∧ -1 < L ∧ L < 400) ∨ (R = 400 ∧ 400 ≤ L) := by have := HL3.out; omega
                    clear HL3
                    rcases key2 with ⟨rfl, h1⟩ | ⟨rfl, h1, h2⟩ | ⟨rfl, h1⟩
                    all_goals
                      go_wp2_with (refine load_page HP.out.len HO9.out.1 rfl _ rfl rfl ?_)
                      refine (right_any l3 _ HP.out.len).mono ?_
                      rw [HP.out.right]
                      rintro e w10 ⟨rfl, hb10⟩
                      have HO10 := Lib.hid (HO9.out.next hb10)
                      clear hb10 HO9
                      go_wp2_with (refine load_page HP.out.len HO10.out.1 rfl _ rfl rfl ?_)
                      refine (kind_any l3 _ HP.out.len).mono ?_
                      rw [HP.out.kind]
                      rintro e w11 ⟨rfl, hb11⟩
                      have HO11 := Lib.hid (HO10.out.next hb11)
                      clear hb11 HO10
                      go_wp2_with fail
                      go_roundw
                      case rel => exact ⟨i + 1, by omega, by go_num, l3, s3, HP.out, HO11.out⟩
                      case measure => simp [intOf]; omega
      refine wp_region_noPanic ?_
      refine wp_region_held_drew (S := One w gp l) (by kernel_rfl) HO.out.drew (fun hH => ?_)
      refine takeH_load 0 27 _ _ _ _ _ (bytesL l) _ rfl rfl rfl (by kernel_rfl) (by kernel_rfl) (by kernel_rfl) rfl rfl Try.underlying26 rfl (info_of HP.out.len) hH (fun w h => page_range h.1) ?_
      simp only [List.setIfInBounds_toArray, List.set_cons_zero, List.set_cons_succ]
      refine takeH 1 28 _ (.slice (some ⟨vb, voff, none⟩) rs.length vc) rfl rfl rfl (by kernel_rfl) (by kernel_rfl) (by kernel_rfl) hH (fun w _ => by go_simp) ?_
      simp only [List.setIfInBounds_toArray, List.set_cons_zero, List.set_cons_succ]
      refine takeH 2 29 _ (.int .i64 (i : Int)) rfl rfl rfl (by kernel_rfl) (by kernel_rfl) (by kernel_rfl) hH (fun w _ => by go_simp) ?_
      simp only [List.setIfInBounds_toArray, List.set_cons_zero, List.set_cons_succ]
      refine takeH 3 30 _ (.pointer (some ⟨vb, voff + i, none⟩)) rfl rfl rfl (by kernel_rfl) (by kernel_rfl) (by kernel_rfl) hH (fun w _ => by go_simp) ?_
      simp only [List.setIfInBounds_toArray, List.set_cons_zero, List.set_cons_succ]
      refine takeH_cell 4 31 _ _ _ _ _ (x) _ rfl rfl rfl (by kernel_rfl) (by kernel_rfl) (by kernel_rfl) rfl rfl Try.underlying24 rfl hH (fun w h => (cell_later h.2 HX.out)) ?_
      simp only [List.setIfInBounds_toArray, List.set_cons_zero, List.set_cons_succ]
      refine wpAnyH_ready (rs := [5, 10]) (by kernel_rfl) (by simp) (AllReadyH.cons rfl (fun K hK => ?_) (AllReadyH.cons rfl (fun K hK => ?_) AllReadyH.nil))
      ·
        go_simp
        refine (add_any l r x _ HP.out.len (HXB.out.later hH.2) hrl).mono ?_
        rw [← HAN.out]
        rintro e w6 ⟨rfl, hb6⟩
        go_simp
        refine hK.out _ _ (hH.next hb6) (fun hH6 => ?_)
        clear hK K
        refine takeH 6 26 _ (.tuple #[.agg (bytesA an.1), .int .i64 an.2.1, .bool an.2.2]) rfl rfl rfl (by kernel_rfl) (by kernel_rfl) (by kernel_rfl) hH6 (fun w _ => by go_simp) ?_
        simp only [List.setIfInBounds_toArray, List.set_cons_zero, List.set_cons_succ]
        refine takeH 7 33 _ (.agg (bytesA an.1)) rfl rfl rfl (by kernel_rfl) (by kernel_rfl) (by kernel_rfl) hH6 (fun w _ => by go_simp) ?_
        simp only [List.setIfInBounds_toArray, List.set_cons_zero, List.set_cons_succ]
        refine takeH 8 34 _ (.int .i64 an.2.1) rfl rfl rfl (by kernel_rfl) (by kernel_rfl) (by kernel_rfl) hH6 (fun w _ => by go_simp) ?_
        simp only [List.setIfInBounds_toArray, List.set_cons_zero, List.set_cons_succ]
        refine takeH 9 35 _ (.bool an.2.2) rfl rfl rfl (by kernel_rfl) (by kernel_rfl) (by kernel_rfl) hH6 (fun w _ => by go_simp) ?_
        simp only [List.setIfInBounds_toArray, List.set_cons_zero, List.set_cons_succ]
        refine wpAnyH_ready (rs := [10]) (by kernel_rfl) (by simp) (AllReadyH.cons rfl (fun K hK => ?_) AllReadyH.nil)
        go_simp
        refine hK.out _ _ (hH6.alloc _) (fun hH7 => ?_)
        clear hK K
        refine wpAnyH_ready (rs := [11]) (by kernel_rfl) (by simp) (AllReadyH.cons rfl (fun K hK => ?_) AllReadyH.nil)
        rw [if_pos (by rfl)]
        refine wp_store_row 26 (.tmp 7) (.tmp 33) rfl _ _ rfl rfl _ _ (heap_alloc_new _ _) (info_page' _ HML.out) (by rw [size_bytesA, size_bytesA, HML.out]; exact length_zeroPage) (oneCell_bytesA _) ?_
        rw [World.setRow_alloc_new]
        refine hK.out _ _ (hH6.alloc _) (fun hH8 => ?_)
        clear hK K
        simp only [Act.put]
        refine takeH 12 8 _ (.int .i64 an.2.1) rfl rfl rfl (by kernel_rfl) (by kernel_rfl) (by kernel_rfl) hH8 (fun w _ => by go_simp) ?_
        simp only [List.setIfInBounds_toArray, List.set_cons_zero, List.set_cons_succ]
        refine takeH 13 9 _ (.bool an.2.2) rfl rfl rfl (by kernel_rfl) (by kernel_rfl) (by kernel_rfl) hH8 (fun w _ => by go_simp) ?_
        simp only [List.setIfInBounds_toArray, List.set_cons_zero, List.set_cons_succ]
        refine wpAnyH_done (by kernel_rfl) ?_ _
        refine NoPanic.normal ?_
        go_wp2_with fail
        go_meet
        case rel => exact ⟨_, rfl, rfl, rfl, heap_alloc_new _ _, hH8, by have := hH6.lt; omega⟩
      ·
        go_simp
        refine hK.out _ _ (hH.alloc _) (fun hH6 => ?_)
        clear hK K
        refine wpAnyH_ready (rs := [5]) (by kernel_rfl) (by simp) (AllReadyH.cons rfl (fun K hK => ?_) AllReadyH.nil)
        go_simp
        refine (add_any l r x _ HP.out.len (HXB.out.later hH6.2) hrl).mono ?_
        rw [← HAN.out]
        rintro e w7 ⟨rfl, hb7⟩
        go_simp
        refine hK.out _ _ (hH6.next hb7) (fun hH7 => ?_)
        clear hK K
        have hN7 := (hb7.block wr.drew.heap.size (by simp)).trans (heap_alloc_new wr.drew _)
        refine takeH 6 26 _ (.tuple #[.agg (bytesA an.1), .int .i64 an.2.1, .bool an.2.2]) rfl rfl rfl (by kernel_rfl) (by kernel_rfl) (by kernel_rfl) hH7 (fun w _ => by go_simp) ?_
        simp only [List.setIfInBounds_toArray, List.set_cons_zero, List.set_cons_succ]
        refine takeH 7 33 _ (.agg (bytesA an.1)) rfl rfl rfl (by kernel_rfl) (by kernel_rfl) (by kernel_rfl) hH7 (fun w _ => by go_simp) ?_
        simp only [List.setIfInBounds_toArray, List.set_cons_zero, List.set_cons_succ]
        refine takeH 8 34 _ (.int .i64 an.2.1) rfl rfl rfl (by kernel_rfl) (by kernel_rfl) (by kernel_rfl) hH7 (fun w _ => by go_simp) ?_
        simp only [List.setIfInBounds_toArray, List.set_cons_zero, List.set_cons_succ]
        refine takeH 9 35 _ (.bool an.2.2) rfl rfl rfl (by kernel_rfl) (by kernel_rfl) (by kernel_rfl) hH7 (fun w _ => by go_simp) ?_
        simp only [List.setIfInBounds_toArray, List.set_cons_zero, List.set_cons_succ]
        have hS8 : One w gp l (w7.setRow wr.drew.heap.size (bytesA an.1)) := ⟨(setRow_other _ _ _ _ (by have := hH.lt; omega)).trans hH7.1, hH7.2.trans (Below.setRow _ _ _ _ (by have := hH.2.size; omega))⟩
        refine wpAnyH_ready (rs := [11]) (by kernel_rfl) (by simp) (AllReadyH.cons rfl (fun K hK => ?_) AllReadyH.nil)
        rw [if_pos (by rfl)]
        refine wp_store_row 26 (.tmp 7) (.tmp 33) rfl _ _ rfl rfl _ _ hN7 (info_page' _ HML.out) (by rw [size_bytesA, size_bytesA, HML.out]; exact length_zeroPage) (oneCell_bytesA _) ?_
        refine hK.out _ _ (hS8) (fun hH8 => ?_)
        clear hK K
        simp only [Act.put]
        refine takeH 12 8 _ (.int .i64 an.2.1) rfl rfl rfl (by kernel_rfl) (by kernel_rfl) (by kernel_rfl) hH8 (fun w _ => by go_simp) ?_
        simp only [List.setIfInBounds_toArray, List.set_cons_zero, List.set_cons_succ]
        refine takeH 13 9 _ (.bool an.2.2) rfl rfl rfl (by kernel_rfl) (by kernel_rfl) (by kernel_rfl) hH8 (fun w _ => by go_simp) ?_
        simp only [List.setIfInBounds_toArray, List.set_cons_zero, List.set_cons_succ]
        refine wpAnyH_done (by kernel_rfl) ?_ _
        refine NoPanic.normal ?_
        go_wp2_with fail
        go_meet
        case rel => exact ⟨_, rfl, rfl, rfl, setRow_heap _ _ _ _ _ _ hN7, hH8, Nat.ne_of_lt hH.lt⟩
    · obtain ⟨l, ss, hp, ho⟩ := HR.out
      have HO := Lib.hid ho
      clear hp ho HR
      go_wp2_with fail
      go_ret
      exact ⟨rfl, HO.out.2⟩
end Go.Proofs.Ytpfnpinblbfjdaa
