/- Plain definitions and lemmas: bytes as cells, the checksum, lists of bytes. The walk of page.sum: it returns the checksum of the bytes of a slice, and leaves the world as it is. The walk of page.Seal. Slots of a page in memory: a slice of slices of bytes; the walks of page.cost and page.free. append onto a slice of the call's own, from whatever source: a slice that is nil or whose cells are known. -/
import Derived.Test.YtlddiphjpmlhbaaRows
import Derived.WalkKit
import Derived.WalkSpells
import Derived.WalkLawsBesides
import Derived.Lib.Hide
import Derived.Laws.AppendOwnNone
set_option linter.unusedSimpArgs false
set_option linter.unusedVariables false
set_option linter.defProp false
set_option maxRecDepth 100000
set_option maxHeartbeats 32000000
namespace Go.Proofs.Ytlddiphjpmlhbaa
open Go.RowKit
def byteV (x : UInt8) : Value := .int .u8 x.toNat
def bytesL (l : List UInt8) : List Value := l.map byteV
abbrev bytesA (l : List UInt8) : Array Value := (bytesL l).toArray
theorem length_bytesL (l : List UInt8) : (bytesL l).length = l.length := by simp [bytesL]
theorem size_bytesA (l : List UInt8) : (bytesA l).size = l.length := by simp [bytesL]
theorem get_bytesL (l : List UInt8) (k : Nat) (h : k < l.length) : (bytesL l)[k]? = some (.int .u8 (l.getD k 0).toNat) := by
 simp [bytesL, byteV, h]
theorem oneCell_bytesL (l : List UInt8) : ∀ v ∈ bytesL l, v.oneCell' = true := by
 simp [bytesL, byteV, Value.oneCell']
theorem oneCell_bytesA (l : List UInt8) : (bytesA l).all (·.oneCell') = true := by
 simp [bytesL, byteV, Value.oneCell']
theorem bytesL_take (l : List UInt8) (k : Nat) : bytesL (l.take k) = (bytesL l).take k := by simp [bytesL]
theorem bytesL_drop (l : List UInt8) (k : Nat) : bytesL (l.drop k) = (bytesL l).drop k := by simp [bytesL]
def toB (x : Int) : UInt8 := UInt8.ofNat (x % 256).toNat
theorem toB_toNat (x : Int) (h0 : 0 ≤ x) (h1 : x < 256) : ((toB x).toNat : Int) = x := by
 unfold toB
 rw [UInt8.toNat_ofNat']
 omega
theorem bytesL_set (l : List UInt8) (k : Nat) (x : Int) (h0 : 0 ≤ x) (h1 : x < 256) :
 (bytesL l).set k (.int .u8 x) = bytesL (l.set k (toB x)) := by
 simp only [bytesL, List.map_set, byteV, toB_toNat x h0 h1]
/-! the checksum -/
def crcBit (m : Int) : Int := bits .xor .u32 (m / 2) (bits .and .u32 3988292384 (-bits .and .u32 m 1 % 4294967296))
def crcBits : Nat → Int → Int
 | 0, m => m
 | k + 1, m => crcBit (crcBits k m)
def crcByte (n : Int) (x : UInt8) : Int := crcBits 8 (bits .xor .u32 n (x.toNat % 4294967296))
def crcOn (l : List UInt8) : Int := l.foldl crcByte 4294967295
def crc (l : List UInt8) : Int := bits .xor .u32 IntKind.u32.max (crcOn l)
theorem crcOn_snoc (l : List UInt8) (x : UInt8) : crcOn (l ++ [x]) = crcByte (crcOn l) x := by simp [crcOn]
theorem take_snoc (l : List UInt8) (k : Nat) (h : k < l.length) : l.take (k + 1) = l.take k ++ [l.getD k 0] := by
 rw [List.take_succ_eq_append_getElem h]; simp [h]
theorem ret_int {k : IntKind} {a b : Int} (h : a = b) : Ending.returned (.int k a) = .returned (.int k b) := by rw [h]
end Go.Proofs.Ytlddiphjpmlhbaa
namespace Go.Proofs.Ytlddiphjpmlhbaa
open Go.RowKit
theorem sum_any (l : List UInt8) (b off len cap : Nat) (w : World) (hl : l.length = len) (hlen : len ≤ 1000)
 (hc : ∀ k, k < len → w.cell? ⟨b, off + k, none⟩ = some (.int .u8 (l.getD k 0).toNat)) :
 Calls Try.prog 84 #[.slice (some ⟨b, off, none⟩) len cap] w fun e w' => e = .returned (.int .u32 (crc l)) ∧ w = w' := by
 have HL := Lib.hid hl; have HC := Lib.hid hc; clear hl hc
 go_enter Try.func84, Try.ntmps84
 go_wp2
 go_loop [3, 8] (fun c i => ∃ k : Nat, k ≤ len ∧ i = .int .i64 k ∧ c = .int .u32 (crcOn (l.take k))) (fun _ i => len - (intOf i).toNat)
 case atStart => exact ⟨0, Nat.zero_le _, rfl, rfl⟩
 case round =>
  obtain ⟨k, hk, rfl, rfl⟩ := hrel
  by_cases hlt : k < len
  ·have hck := HC.out k hlt
   generalize hx : l.getD k 0 = x at hck
   have HS : Hid (crcOn (l.take (k + 1)) = crcByte (crcOn (l.take k)) x) := Lib.hid (by rw [take_snoc l k (by rw [HL.out]; exact hlt), crcOn_snoc, hx])
   clear hx
   generalize crcOn (l.take k) = n at *
   go_wp2
   go_loop [3, 16] (fun c i => ∃ j : Nat, j ≤ 8 ∧ i = .int .i64 j ∧ c = .int .u32 (crcBits j (bits .xor .u32 n (x.toNat % 4294967296)))) (fun _ i => 8 - (intOf i).toNat)
   case atStart => exact ⟨0, Nat.zero_le _, rfl, rfl⟩
   case round =>
    obtain ⟨j, hj, rfl, rfl⟩ := hrel
    by_cases hlt2 : j < 8
    ·go_wp2
     go_round
     case rel => exact ⟨j + 1, by omega, by go_num, rfl⟩
     case measure => simp [intOf]; omega
    ·obtain rfl : j = 8 := by omega
     go_wp2
     go_round
     case rel => exact ⟨k + 1, by omega, by go_num, by rw [HS.out]; rfl⟩
     case measure => simp [intOf]; omega
  ·go_wp2
   go_ret
   exact ⟨ret_int (by rw [List.take_of_length_le (by rw [HL.out]; omega)]; rfl), rfl⟩
end Go.Proofs.Ytlddiphjpmlhbaa
namespace Go.Proofs.Ytlddiphjpmlhbaa
open Go.RowKit
def zeroPage : List UInt8 := List.replicate 512 0
theorem length_zeroPage : zeroPage.length = 512 := List.length_replicate
theorem zero_page (w : World) : (zeroValue 86).run Try.prog w = .ok (.agg (bytesA zeroPage)) w := by kernel_rfl
def sealTo (s : Int) (l : List UInt8) : Nat → List UInt8
 | 0 => l
 | k + 1 => (sealTo s l k).set k (toB (s / 2 ^ (8 * k) % 256))
theorem length_sealTo (s : Int) (l : List UInt8) (k : Nat) : (sealTo s l k).length = l.length := by
 induction k with
 | zero => rfl
 | succ k ih => simp [sealTo, ih]
def sealL (l : List UInt8) : List UInt8 := sealTo (crc (l.drop 4)) l 4
theorem length_sealL (l : List UInt8) : (sealL l).length = l.length := length_sealTo _ _ _
theorem drop_sealL (l : List UInt8) : (sealL l).drop 4 = l.drop 4 := by
 simp [sealL, sealTo, List.drop_set]
theorem sealL_sealL (l : List UInt8) (h : l.length = 512) : sealL (sealL l) = sealL l := by
 unfold sealL
 rw [show (sealTo (crc (List.drop 4 l)) l 4).drop 4 = l.drop 4 from drop_sealL l]
 generalize crc (l.drop 4) = s
 obtain ⟨a, b, c, d, r, rfl⟩ : ∃ a b c d r, l = a :: b :: c :: d :: r := by
  match l, h with
  | a :: b :: c :: d :: r, _ => exact ⟨a, b, c, d, r, rfl⟩
 simp [sealTo]
theorem get_sealL (l : List UInt8) (k : Nat) (h : 4 ≤ k) : (sealL l).getD k 0 = l.getD k 0 := by
 have h1 := congrArg (fun x : List UInt8 => x.getD (k - 4) 0) (drop_sealL l)
 simp only [List.getD_eq_getElem?_getD, List.getElem?_drop] at h1
 rw [show 4 + (k - 4) = k from by omega] at h1
 simpa using h1
theorem info_page : (Try.prog.info? 86).map (·.size) = some 512 := by kernel_rfl
theorem info_page' (l : List UInt8) (h : l.length = 512) : (Try.prog.info? 86).map (·.size) = some (bytesA l).size := by
 rw [size_bytesA, h]; exact info_page
theorem Below.setRow (B : Nat) (w : World) (g : Nat) (cs : Array Value) (h : B ≤ g) : Below B w (w.setRow g cs) :=
 ⟨rfl, rfl, rfl, by simp, fun k hk => setRow_other w g k cs (by omega)⟩
theorem seal_any (l : List UInt8) (w : World) (hl : l.length = 512) :
 Calls Try.prog 76 #[.agg (bytesA l)] w fun e w' => e = .returned (.agg (bytesA (sealL l))) ∧ Below w.heap.size w w' := by
 have HL := Lib.hid hl; clear hl
 have hz := zero_page
 go_enter Try.func76, Try.ntmps76
 go_wp2_with fail
 refine (sum_any (l.drop 4) _ _ _ _ _ (by simp [HL.out]) (by omega) ?_).mono ?_
 ·intro k hk
  simp [go_sem]
  rw [get_bytesL l (4 + k) (by rw [HL.out]; omega)]
  simp
 rintro e w' ⟨rfl, rfl⟩
 have HS := Lib.hid (show sealL l = sealTo (crc (l.drop 4)) l 4 from rfl)
 generalize crc (l.drop 4) = s at *
 go_wp2_with fail
 go_loopw [7] (fun i wr => ∃ k : Nat, k ≤ 4 ∧ i = .int .i64 k ∧ wr = (w.alloc (.cells (bytesA (sealTo s l k)) 86)).alloc (.cells (bytesA zeroPage) 86)) (fun i _ => 4 - (intOf i).toNat)
 case atStart => exact ⟨0, by omega, rfl, rfl⟩
 case round =>
  obtain ⟨k, hk, rfl, rfl⟩ := hrel
  by_cases hlt : k < 4
  ·have hck := get_bytesL (sealTo s l k) k (by rw [length_sealTo, HL.out]; omega)
   go_wp2_with fail
   go_roundw
   case rel => exact ⟨k + 1, by omega, by go_num, by rw [bytesL_set _ _ _ (by omega) (by omega)]; rfl⟩
   case measure => simp [intOf]; omega
  ·obtain rfl : k = 4 := by omega
   rw [← HS.out]
   have HLS := Lib.hid ((length_sealL l).trans HL.out)
   clear HS
   generalize hm : sealL l = m at *
   have HM := Lib.hid hm; clear hm
   go_wp2_with (first | refine wpList_load_row (P := Try.prog) rfl 86 _ rfl _ rfl _ _ _ _ (heap_alloc2_old _ _ _) Try.underlying86 rfl (info_page' _ HLS.out) ?_ | refine wpList_store_row (P := Try.prog) rfl 86 _ _ rfl _ _ rfl rfl _ _ (heap_alloc2_new _ _ _) (info_page' _ HLS.out) (by rw [size_bytesA, size_bytesA, HLS.out]; exact length_zeroPage) (oneCell_bytesA _) ?_)
   refine bodyPost_ret (v := .agg (bytesA m)) (results_cell_row rfl _ _ _ _ _ _ _ rfl (setRow_heap _ _ _ _ _ _ (heap_alloc2_new _ _ _)) Try.underlying86 rfl (info_page' _ HLS.out)) rfl ⟨by rw [HM.out], ?_⟩
   exact (((Below.refl _ _).alloc (Nat.le_refl _) (.cells (bytesA m) 86)).alloc (by simp) (.cells (bytesA zeroPage) 86)).trans (Below.setRow _ _ _ _ (by simp))
end Go.Proofs.Ytlddiphjpmlhbaa
namespace Go.Proofs.Ytlddiphjpmlhbaa
open Go.RowKit
def Rec (w : World) (base : Nat) (x : Value) : Option (List UInt8) → Prop
 | none => x = .slice none 0 0
 | some r => w.ownsRow base 5 1 x r.length (bytesL r) ∧ ∃ g cap, x = .slice (some ⟨g, 0, none⟩) r.length cap
def SlotsR (w : World) (base : Nat) (v : Value) (ss : List (Option (List UInt8))) : Prop :=
 ∃ xs, w.ownsRow base 23 1 v ss.length xs ∧ xs.length = ss.length ∧ ∀ k, k < ss.length → Rec w base (xs.getD k undef) (ss.getD k none)
def recLen : Option (List UInt8) → Nat
 | none => 0
 | some r => r.length
theorem Rec.form {w : World} {base : Nat} {x : Value} {o : Option (List UInt8)} (h : Rec w base x o) :
 (o = none ∧ x = .slice none 0 0) ∨ ∃ r g cap, o = some r ∧ x = .slice (some ⟨g, 0, none⟩) r.length cap := by
 cases o with
 | none => exact .inl ⟨rfl, h⟩
 | some r => obtain ⟨_, g, cap, hx⟩ := h; exact .inr ⟨r, g, cap, rfl, hx⟩
theorem Rec.len {w : World} {base : Nat} {x : Value} {o : Option (List UInt8)} (h : Rec w base x o) : ∃ a c, x = .slice a (recLen o) c := by
 rcases h.form with ⟨rfl, rfl⟩ | ⟨r, g, cap, rfl, rfl⟩
 ·exact ⟨_, _, rfl⟩
 ·exact ⟨_, _, rfl⟩
theorem Rec.kept {w w' : World} {base : Nat} {x : Value} {o : Option (List UInt8)} (h : Rec w base x o)
 (hk : ∀ (g : Nat) (cur : Array Value), w.heap[g]? = some (Obj.cells cur 5 (0, 0)) → w'.heap[g]? = w.heap[g]?) : Rec w' base x o := by
 cases o with
 | none => exact h
 | some r =>
   obtain ⟨⟨h1, h2⟩, h3⟩ := h
   refine ⟨⟨h1, ?_⟩, h3⟩
   rcases h2 with h2 | ⟨g, cap, cur, hv, hg, hh, rest⟩
   ·exact .inl h2
   ·exact .inr ⟨g, cap, cur, hv, hg, (hk g cur hh).trans hh, rest⟩
theorem SlotsR.kept {w w' : World} {base : Nat} {v : Value} {ss : List (Option (List UInt8))} (h : SlotsR w base v ss)
 (hk : ∀ g, g < w.heap.size → base ≤ g → w'.heap[g]? = w.heap[g]?) : SlotsR w' base v ss := by
 obtain ⟨xs, ⟨h1, h2⟩, hl, hr⟩ := h
 refine ⟨xs, ⟨h1, ?_⟩, hl, fun k hkk => ?_⟩
 ·rcases h2 with h2 | ⟨g, cap, cur, hv, hg, hh, rest⟩
  ·exact .inl h2
  ·exact .inr ⟨g, cap, cur, hv, hg, (hk g (Array.getElem?_eq_some_iff.1 hh).1 hg).trans hh, rest⟩
 ·have := hr k hkk
  cases ho : ss.getD k none with
  | none => rw [ho] at this; exact this
  | some r =>
    rw [ho] at this
    obtain ⟨⟨h1, h2⟩, h3⟩ := this
    refine ⟨⟨h1, ?_⟩, h3⟩
    rcases h2 with h2 | ⟨g, cap, cur, hv, hg, hh, rest⟩
    ·exact .inl h2
    ·exact .inr ⟨g, cap, cur, hv, hg, (hk g (Array.getElem?_eq_some_iff.1 hh).1 hg).trans hh, rest⟩
theorem SlotsR.mono {w : World} {base base' : Nat} {v : Value} {ss : List (Option (List UInt8))} (h : SlotsR w base v ss) (hb : base' ≤ base) : SlotsR w base' v ss := by
 obtain ⟨xs, ⟨h1, h2⟩, hl, hr⟩ := h
 have ow : ∀ {e v n ys}, w.ownsRow base e 1 v n ys → w.ownsRow base' e 1 v n ys := by
  intro e v n ys ⟨h1, h2⟩
  refine ⟨h1, ?_⟩
  rcases h2 with h2 | ⟨g, cap, cur, hv, hg, rest⟩
  ·exact .inl h2
  ·exact .inr ⟨g, cap, cur, hv, Nat.le_trans hb hg, rest⟩
 refine ⟨xs, ow ⟨h1, h2⟩, hl, fun k hkk => ?_⟩
 have := hr k hkk
 cases ho : ss.getD k none with
 | none => rw [ho] at this; exact this
 | some r => rw [ho] at this; exact ⟨ow this.1, this.2⟩
theorem SlotsR.cells {w : World} {base : Nat} {v : Value} {ss : List (Option (List UInt8))} (h : SlotsR w base v ss) :
 (v = .slice none 0 0 ∧ ss = []) ∨ ∃ g cap, v = .slice (some ⟨g, 0, none⟩) ss.length cap ∧ base ≤ g ∧ ss.length ≤ cap ∧ ∀ k, k < ss.length → ∃ x, w.cell? ⟨g, k, none⟩ = some x ∧ w.frozen? ⟨g, k, none⟩ = false ∧ Rec w base x (ss.getD k none) := by
 obtain ⟨xs, ⟨h1, h2⟩, hl, hr⟩ := h
 rcases h2 with ⟨rfl, h2⟩ | ⟨g, cap, cur, rfl, hg, hh, hnc, hcm, hcs, ht⟩
 ·exact .inl ⟨rfl, List.eq_nil_of_length_eq_zero h2⟩
 ·refine .inr ⟨g, cap, rfl, hg, hnc, fun k hk => ⟨xs.getD k undef, ?_, frozen_of_row w g k cur _ hh, hr k hk⟩⟩
  rw [cell_of_row w g k cur _ _ hh]
  have h0 : xs[k]? = some (xs.getD k undef) := by simp [hl, hk]
  have h3 : (cur.toList.take (ss.length * 1))[k]? = xs[k]? := by rw [ht]
  rw [List.getElem?_take, if_pos (by omega)] at h3
  rw [← h0, ← h3]
  simp
/-! the cost -/
def lens (ss : List (Option (List UInt8))) : Nat := (ss.map recLen).sum
def costL (ss : List (Option (List UInt8))) : Nat := 4 * ss.length + lens ss
theorem lens_take_succ (ss : List (Option (List UInt8))) (k : Nat) (h : k < ss.length) : lens (ss.take (k + 1)) = lens (ss.take k) + recLen (ss.getD k none) := by
 rw [List.take_succ_eq_append_getElem h]
 unfold lens
 rw [List.map_append, List.sum_append]
 simp [h]
theorem lens_take_le (ss : List (Option (List UInt8))) (k : Nat) : lens (ss.take k) ≤ lens ss := by
 have : lens ss = lens (ss.take k) + lens (ss.drop k) := by
  conv => lhs; rw [← List.take_append_drop k ss]
  simp only [lens, List.map_append, List.sum_append]
 omega
theorem cost_any (ss : List (Option (List UInt8))) (v : Value) (base : Nat) (w : World) (h : SlotsR w base v ss) (hm : costL ss ≤ 4611686018427387904) :
 Calls Try.prog 63 #[v] w fun e w' => e = .returned (.int .i64 (costL ss)) ∧ w = w' := by
 rcases h.cells with ⟨rfl, rfl⟩ | ⟨g, cap, rfl, hg, hcap, hc⟩
 ·go_enter Try.func63, Try.ntmps63
  go_wp2
  refine wp_loop_rounds 1 ?_
  rw [rounds_succ]
  go_wp2
  go_ret
  exact ⟨rfl, rfl⟩
 ·clear h
  have HC := Lib.hid hc; clear hc
  have HM := Lib.hid (show costL ss = 4 * ss.length + lens ss from rfl)
  have HT := Lib.hid (lens_take_succ ss)
  have HE := Lib.hid (lens_take_le ss)
  have hb1 : 4 * ss.length + lens ss ≤ 4611686018427387904 := hm
  clear hm
  go_enter Try.func63, Try.ntmps63
  go_wp2
  go_loop [3, 11] (fun n i => ∃ k : Nat, k ≤ ss.length ∧ i = .int .i64 k ∧ n = .int .i64 (4 * ss.length + lens (ss.take k))) (fun _ i => ss.length - (intOf i).toNat)
  case atStart => exact ⟨0, Nat.zero_le _, rfl, by simp [lens]⟩
  case round =>
   obtain ⟨k, hk, rfl, rfl⟩ := hrel
   by_cases hlt : k < ss.length
   ·obtain ⟨x, hx, _, hrec⟩ := HC.out k hlt
    obtain ⟨a, c, rfl⟩ := hrec.len
    have h1 := HT.out k hlt
    have h2 := HE.out (k + 1)
    have hle : 4 * ss.length + lens (ss.take k) + recLen (ss.getD k none) ≤ 4611686018427387904 := by omega
    have HS := Lib.hid h1
    clear h1 h2 hrec
    generalize recLen (ss.getD k none) = q at *
    go_wp2
    go_round
    case rel => exact ⟨k + 1, by omega, by go_num, by rw [HS.out]; go_num⟩
    case measure => simp [intOf]; omega
   ·obtain rfl : k = ss.length := by omega
    go_wp2
    go_ret
    exact ⟨ret_int (by rw [HM.out]; omega), rfl⟩
def freeL (ss : List (Option (List UInt8))) : Nat := ss.findIdx (·.isNone)
theorem freeL_le (ss : List (Option (List UInt8))) : freeL ss ≤ ss.length := List.findIdx_le_length
theorem freeL_at {ss : List (Option (List UInt8))} {k : Nat} (h : k < ss.length) (hn : ss.getD k none = none) (hb : ∀ j, j < k → ss.getD j none ≠ none) : freeL ss = k := by
 unfold freeL
 rw [List.findIdx_eq h]
 refine ⟨by simp [h] at hn; simp [hn], fun j hj => ?_⟩
 have := hb j hj
 have hj' : j < ss.length := by omega
 simp [hj'] at this
 cases h : ss[j] <;> simp_all
theorem freeL_none {ss : List (Option (List UInt8))} (hb : ∀ j, j < ss.length → ss.getD j none ≠ none) : freeL ss = ss.length := by
 unfold freeL
 rw [List.findIdx_eq_length]
 intro x hx
 obtain ⟨i, hi, rfl⟩ := List.getElem_of_mem hx
 have := hb i hi
 simp [hi] at this
 cases h : ss[i] <;> simp_all
theorem eql_nil (w : World) (a : Option Addr) (n c : Nat) : (binOp .eql 23 (.slice a n c) (.slice none 0 0)).run Try.prog w = .ok (.bool a.isNone) w :=
 Lib.run_eql_slice_nil (P := Try.prog) w 23 5 a n c 0 0 Try.underlying23
theorem free_any (ss : List (Option (List UInt8))) (v : Value) (base : Nat) (w : World) (h : SlotsR w base v ss) (hm : ss.length ≤ 1000) :
 Calls Try.prog 58 #[v] w fun e w' => e = .returned (.int .i64 (freeL ss)) ∧ w = w' := by
 have hn := eql_nil
 rcases h.cells with ⟨rfl, rfl⟩ | ⟨g, cap, rfl, hg, hcap, hc⟩
 ·go_enter Try.func58, Try.ntmps58
  go_wp2
  refine wp_loop_rounds 1 ?_
  rw [rounds_succ]
  go_wp2
  go_ret
  exact ⟨rfl, rfl⟩
 ·clear h
  have HC := Lib.hid hc; clear hc
  go_enter Try.func58, Try.ntmps58
  go_wp2
  go_loop [7] (fun i => ∃ k : Nat, k ≤ ss.length ∧ i = .int .i64 k ∧ ∀ j, j < k → ss.getD j none ≠ none) (fun i => ss.length - (intOf i).toNat)
  case atStart => exact ⟨0, Nat.zero_le _, rfl, by simp⟩
  case round =>
   obtain ⟨k, hk, rfl, hb⟩ := hrel
   have HB := Lib.hid hb; clear hb
   by_cases hlt : k < ss.length
   ·obtain ⟨x, hx, _, hrec⟩ := HC.out k hlt
    rcases hrec.form with ⟨ho, rfl⟩ | ⟨r, g', cap', ho, rfl⟩
    ·have HF := Lib.hid (freeL_at hlt ho HB.out)
     clear hrec ho
     go_wp2
     go_ret
     exact ⟨ret_int (by rw [HF.out]), rfl⟩
    ·have HO := Lib.hid ho
     clear hrec ho
     go_wp2
     go_round
     case rel => exact ⟨k + 1, by omega, by go_num, fun j hj => by
      by_cases e : j = k
      ·rw [e, HO.out]; simp
      ·exact HB.out j (by omega)⟩
     case measure => simp [intOf]; omega
   ·obtain rfl : k = ss.length := by omega
    have HF := Lib.hid (freeL_none HB.out)
    go_wp2
    go_ret
    exact ⟨ret_int (by rw [HF.out]), rfl⟩
end Go.Proofs.Ytlddiphjpmlhbaa
namespace Go.Proofs.Ytlddiphjpmlhbaa
open Go.RowKit
def Src (w : World) (x : Value) (m : Nat) (news : List Value) : Prop :=
 ∃ ao c, x = .slice ao m c ∧ ((ao = none ∧ m = 0 ∧ c = 0) ∨ ∃ ad, ao = some ad ∧ ∀ j u, news[j]? = some u → w.cell? (ad.add j) = some u)
theorem World.grownBy_self (w : World) (row : Option Nat) : w.grownBy w row := ⟨rfl, rfl, rfl, Nat.le_refl _, fun _ _ _ => rfl⟩
theorem append_src {P : Program} {w : World} {ops : Array Oper} {rest : List Oper} {o : Oper} {a : Act} {Q : Exit → Act → World → Prop} (t e : TypeId) (z : Value) (size bytes : Nat)
 (ht : P.underlying t = some (.slice e)) (hinfo : (P.info? e).map (fun i => (i.zero, i.size, i.bytes)) = some (some z, size, bytes)) (hzs : z.cells.size = size) (hsz : 0 < size)
 (hgd : o.guard = none) (s x : Operand)
 (ho : o.op = .call { callee := .builtin .append, args := #[s, x], argTypes := #[t, t] })
 (base : Nat) (v : Value) (n : Nat) (xs : List Value) (hs : a.eval s = v) (hown : w.ownsRow base e size v n xs)
 (m : Nat) (news : List Value) (hx : Src w (a.eval x) m news) (hl : news.length = m * size) (h1 : ∀ u ∈ news, u.oneCell' = true)
 (h63 : n + m ≤ maxLen) (hbytes : (n + m) * bytes ≤ 140737488355328) (hbase : base ≤ w.heap.size)
 (h : ∀ v' w', w'.ownsRow base e size v' (n + m) (xs ++ news) → w.grownBy w' v.ownBlock → (v' = .slice none 0 0 ↔ v = .slice none 0 0 ∧ m = 0) → wpList P ops Q rest (a.put o.dst v') w') : wpList P ops Q (o :: rest) a w := by
 obtain ⟨i, hi, hz0, hz1, hz2⟩ := info_parts hinfo
 obtain ⟨ao, c, hx1, hx2⟩ := hx
 rcases hx2 with ⟨rfl, rfl, rfl⟩ | ⟨ad, rfl, hc⟩
 ·have hn : news = [] := List.eq_nil_of_length_eq_zero (by simpa using hl)
  subst hn
  exact wpList_append_own_none hgd s x t ho base e i size ht hi v n xs hs hown hx1 (h v w (by simpa using hown) (World.grownBy_self _ _) (by simp))
 ·exact wpList_append_own w hgd s x t ho base e i z size bytes ht hi hz0 hz1 hz2 hzs hsz v n xs hs hown ad m c news hx1 hl hc h1 h63 hbytes hbase h
theorem append_some {P : Program} {w : World} {ops : Array Oper} {rest : List Oper} {o : Oper} {a : Act} {Q : Exit → Act → World → Prop} (t e : TypeId) (z : Value) (size bytes : Nat)
 (ht : P.underlying t = some (.slice e)) (hinfo : (P.info? e).map (fun i => (i.zero, i.size, i.bytes)) = some (some z, size, bytes)) (hzs : z.cells.size = size) (hsz : 0 < size)
 (hgd : o.guard = none) (s x : Operand)
 (ho : o.op = .call { callee := .builtin .append, args := #[s, x], argTypes := #[t, t] })
 (base : Nat) (v : Value) (n : Nat) (xs : List Value) (hs : a.eval s = v) (hown : w.ownsRow base e size v n xs)
 (m : Nat) (news : List Value) (hx : Src w (a.eval x) m news) (hl : news.length = m * size) (h1 : ∀ u ∈ news, u.oneCell' = true)
 (h63 : n + m ≤ maxLen) (hbytes : (n + m) * bytes ≤ 140737488355328) (hbase : base ≤ w.heap.size) (hne : v ≠ .slice none 0 0 ∨ 0 < m)
 (h : ∀ g cap w', w'.ownsRow base e size (.slice (some ⟨g, 0, none⟩) (n + m) cap) (n + m) (xs ++ news) → w.grownBy w' v.ownBlock → wpList P ops Q rest (a.put o.dst (.slice (some ⟨g, 0, none⟩) (n + m) cap)) w') : wpList P ops Q (o :: rest) a w := by
 refine append_src t e z size bytes ht hinfo hzs hsz hgd s x ho base v n xs hs hown m news hx hl h1 h63 hbytes hbase fun v' w' ho' hg' hn' => ?_
 rcases ho'.2 with ⟨rfl, _⟩ | ⟨g, cap, cur, rfl, _⟩
 ·obtain ⟨e1, e2⟩ := hn'.1 rfl
  rcases hne with hne | hne
  ·exact absurd e1 hne
  ·omega
 ·exact h g cap w' ho' hg'
theorem Src.one (w : World) (x : Value) (t : TypeId) : Src (w.alloc (.cells #[x] t)) (.slice (some ⟨w.heap.size, 0, none⟩) 1 1) 1 [x] :=
 ⟨_, _, rfl, .inr ⟨_, rfl, cell_one_new w x t⟩⟩
theorem Src.at {w : World} {b off m c : Nat} {news : List Value} (h : ∀ j u, news[j]? = some u → w.cell? ⟨b, off + j, none⟩ = some u) : Src w (.slice (some ⟨b, off, none⟩) m c) m news :=
 ⟨_, _, rfl, .inr ⟨_, rfl, fun j u hj => by
  have : (⟨b, off, none⟩ : Addr).add j = ⟨b, off + j, none⟩ := by unfold Addr.add; split <;> simp_all
  rw [this]; exact h j u hj⟩⟩
theorem Src.nil (w : World) : Src w (.slice none 0 0) 0 [] := ⟨_, _, rfl, .inl ⟨rfl, rfl, rfl⟩⟩
theorem info_byte : (Try.prog.info? 5).map (fun i => (i.zero, i.size, i.bytes)) = some (some (.int .u8 0), 1, 1) := by kernel_rfl
theorem info_bytes : (Try.prog.info? 23).map (fun i => (i.zero, i.size, i.bytes)) = some (some (.slice none 0 0), 1, 24) := by kernel_rfl
end Go.Proofs.Ytlddiphjpmlhbaa
