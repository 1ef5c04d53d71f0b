/- DmlBack. -/
import Derived.Test.YtcnkmandddfdmaaGreatDoorM42
import Derived.Test.YtcnkmandddfdmaaGreatDoorM43
set_option linter.unusedSimpArgs false
set_option linter.unusedVariables false
set_option linter.defProp false
set_option maxRecDepth 100000
set_option maxHeartbeats 32000000
namespace Go.Proofs.YtcnkmandddfdmaaGreatDoor
open Go.RowKit
def pl3_6Ic : Plan := (.det 0 (.det 1 (.det 2 (.det 3 (.det 4 (.det 5 (.det 6 (.det 7 (.det 8 (.det 9 (.det 10 .done)))))))))))
def tIc := aa wX <| aa wbu <| aa T2 <| aa T3 <| aa T4 <| aa T5 <| aa T9 <| aa T22 <| aa T24 <| aa T25 <| aa T27 <| aa T36 <| aa T39 <| aa T41 <| aa T44 T45
def c1 : ByteArray := ⟨#[105, 110, 115, 101, 114, 116, 32, 105, 110, 116, 111, 32, 116, 32, 118, 97, 108, 117, 101, 115, 32, 40]⟩
def c2 : ByteArray := ⟨#[105, 110, 115, 101, 114, 116, 32, 105, 110, 116, 111, 32, 116, 32, 40]⟩
def c3 : ByteArray := ⟨#[41, 32, 118, 97, 108, 117, 101, 115, 32, 40]⟩
def cS : ByteArray := ⟨#[44, 32]⟩
theorem bl_app (a b : ByteArray) : bl (a ++ b) = bl a ++ bl b := by simp [bl, ByteArray.data_append]
theorem join_snoc : ∀ (l : List (List UInt8)) (a : List UInt8), l ≠ [] → joinB (l ++ [a]) = joinB l ++ 44 :: 32 :: a
 | [], a, h => absurd rfl h
 | [b], a, _ => rfl
 | b :: c :: l, a, _ => by
   have := join_snoc (c :: l) a (by simp)
   simp only [List.cons_append, joinB, List.append_assoc] at this ⊢
   rw [this]
theorem join_cons (a : List UInt8) (l : List (List UInt8)) (h : l ≠ []) : joinB (a :: l) = a ++ 44 :: 32 :: joinB l := by
 cases l with
 | nil => exact absurd rfl h
 | cons b l => rfl
theorem show_len {v : Va} (hok : okV v = true) (hv : i64R v.2.1) : (showV v).size ≤ 250 := by
 obtain ⟨k, n, t⟩ := v
 unfold showV
 rw [if_pos hok]
 simp only
 split
 ·have := Lib.itoa_length_le n hv.1 hv.2
  show (List.toArray _).size ≤ _
  rw [List.size_toArray]; omega
 ·split
  ·split <;> decide
  ·split
   ·rename_i h3
    have ht := okV_text hok h3
    have hl := repl_len t bQ bQQ
    have h2 : bQQ.size = 2 := by decide
    have h1 : bQ.size = 1 := by decide
    rw [h2] at hl
    rw [ByteArray.size_append, ByteArray.size_append, h1]
    omega
   ·decide
structure Txt (cols : List Tc) (r : List Va) (i : Nat) (s n v : ByteArray) : Prop where
 es : bl s = joinB ((r.take i).map fun v => bl (showV v))
 en : bl n = joinB ((((cols.map (·.1)).take i).reverse).map bl)
 ev : bl v = joinB ((r.take i).reverse.map fun v => bl (showV v))
 ls : s.size ≤ i * 300
 ln : n.size ≤ i * 140737488355500
 lv : v.size ≤ i * 300
 ok : ∀ j (h : j < r.length), j < i → LitOk r[j]
theorem Txt.first {cols : List Tc} {r : List Va} {s' n' v' : ByteArray} (h : 0 < r.length) (h' : 0 < cols.length) (hs : s' = showV r[0]) (hn : n' = cols[0].1) (hv : v' = showV r[0]) (hl : (showV r[0]).size ≤ 250) (hc : cols[0].1.size ≤ 140737488355328) (hok : LitOk r[0]) : Txt cols r 1 s' n' v' := by
 have t1 : r.take 1 = [r[0]] := by
  cases r with
  | nil => simp at h
  | cons a r => rfl
 have t2 : (cols.map (·.1)).take 1 = [cols[0].1] := by
  cases cols with
  | nil => simp at h'
  | cons a r => rfl
 refine ⟨by rw [t1, hs]; rfl, by rw [t2, hn]; rfl, by rw [t1, hv]; rfl, by rw [hs]; omega, by rw [hn]; omega, by rw [hv]; omega, fun j hj h1 => ?_⟩
 obtain rfl : j = 0 := by omega
 exact hok
theorem Txt.next {cols : List Tc} {r : List Va} {i : Nat} {s n v s' n' v' : ByteArray} (t : Txt cols r i s n v) (h0 : 0 < i) (h : i < r.length) (h' : i < cols.length) (hs : s' = (s ++ cS) ++ showV r[i]) (hn : n' = cols[i].1 ++ (cS ++ n)) (hv : v' = showV r[i] ++ (cS ++ v)) (hl : (showV r[i]).size ≤ 250) (hc : cols[i].1.size ≤ 140737488355328) (hok : LitOk r[i]) : Txt cols r (i + 1) s' n' v' := by
 have hS : bl cS = [44, 32] := rfl
 have hz : cS.size = 2 := rfl
 have t1 : r.take (i + 1) = r.take i ++ [r[i]] := List.take_succ_eq_append_getElem h
 have t2 : (cols.map (·.1)).take (i + 1) = (cols.map (·.1)).take i ++ [cols[i].1] := by rw [List.take_succ_eq_append_getElem (by simpa using h')]; simp
 have n1 : r.take i ≠ [] := fun e => by
  have := congrArg List.length e
  rw [List.length_take] at this
  simp only [List.length_nil] at this; omega
 have n2 : (cols.map (·.1)).take i ≠ [] := fun e => by
  have := congrArg List.length e
  rw [List.length_take, List.length_map] at this
  simp only [List.length_nil] at this; omega
 refine ⟨?_, ?_, ?_, ?_, ?_, ?_, ?_⟩
 ·rw [t1, List.map_append, List.map_cons, List.map_nil, join_snoc _ _ (by simpa using n1), ← t.es, hs, bl_app, bl_app, hS]; simp
 ·rw [t2, List.reverse_append, List.reverse_cons, List.reverse_nil, List.nil_append, List.cons_append, List.nil_append, List.map_cons, join_cons _ _ (by simpa using n2), ← t.en, hn, bl_app, bl_app, hS]; rfl
 ·rw [t1, List.reverse_append, List.reverse_cons, List.reverse_nil, List.nil_append, List.cons_append, List.nil_append, List.map_cons, join_cons _ _ (by simpa using n1), ← t.ev, hv, bl_app, bl_app, hS]; rfl
 ·have := t.ls
  rw [hs, ByteArray.size_append, ByteArray.size_append, hz]; omega
 ·have := t.ln
  rw [hn, ByteArray.size_append, ByteArray.size_append, hz]; omega
 ·have := t.lv
  rw [hv, ByteArray.size_append, ByteArray.size_append, hz]; omega
 ·intro j hj h1
  by_cases e : j = i
  ·subst e; exact hok
  ·exact t.ok j hj (by omega)
theorem lt_max {n : Nat} (h : n ≤ 9000000000000000000) : (((n : Nat) : Int) > IntKind.i64.max) = False := eq_false (by simp [IntKind.max, IntKind.signed, IntKind.bits]; omega)
theorem aback (txt nm : ByteArray) (cols : List Tc) (rows : List (List Va)) (k : Nat) (hk : k ≤ 255) (hcl : cols.length ≤ 4398046511104) (hrl : rows.length ≤ 140737488351232) (hrv : ∀ r ∈ rows, ∀ v ∈ r, i64R v.2.1) (hcn : ∀ c ∈ cols, c.1.size ≤ 140737488355328) (σ : St) : ACalls Tryz.prog 3 [.agg [.p (.v (.string txt)), .p (.v (.string nm)), .p (.sl 4 (enTc cols)), .p (.sl 1 (enVV rows))], intV .u8 (k : Nat)] σ fun r s => s = σ ∧ r = boolV true := by
 refine ACalls.pureF (R := fun r => r = boolV true) ?_ rfl σ
 refine acalls_of cx_ok dr_ok Tryz.func3 (by kernel_rfl) rfl (nt := 185) (rs := [.tmp 4]) rfl rfl ?_
 simp only [↓wBA, tIc, convA, seval]
 refine (aawake _).mono ?_
 rintro _ _ ⟨rfl, rfl⟩
 repeat' first | ((with_reducible first | refine cs ?_ ?_ | refine ws ?_ ?_ | refine wd ?_ ?_ | refine wu ?_ ?_) <;> intro h <;> try simp only [h]) | simp only [↓wBA, tIc, convA, seval, pl3_6Ic] | ((with_reducible show ACalls _ _ _ _ _); refine (aright_of _ nm aparseB cols rows hcl hrl _).mono ?_; rintro _ _ ⟨rfl, s, b, rfl, hs1, hs2, hb⟩) | (with_reducible refine dP pl3_6Ic 11 (some 53) (by decide) (by kernel_rfl) ?_)
 cases b
 ·skip
  repeat' first | ((with_reducible first | refine cs ?_ ?_ | refine ws ?_ ?_ | refine wd ?_ ?_ | refine wu ?_ ?_) <;> intro h <;> try simp only [h]) | simp only [↓wBA, tIc, convA, seval, pl3_6Ic, smC_len, List.length_map] | (with_reducible refine dP pl3_6Ic 11 (some 53) (by decide) (by kernel_rfl) ?_)
  all_goals refine ret_is (a := _) ?_ rfl rfl
  all_goals simp only [↓wBA, tIc, convA, seval]
  all_goals simp_all [wS]
 obtain ⟨h500, hnames, hrows⟩ := hb rfl
 by_cases h0 : rows.length = 0
 ·have d0 : ((rows.length : Int) == 0) = true := by simp [h0]
  repeat' first | ((with_reducible first | refine cs ?_ ?_ | refine ws ?_ ?_ | refine wd ?_ ?_ | refine wu ?_ ?_) <;> intro h <;> try simp only [h]) | simp only [↓wBA, tIc, convA, seval, pl3_6Ic, smC_len, List.length_map, enVV_len, enTc_len, d0] | (with_reducible refine dP pl3_6Ic 11 (some 53) (by decide) (by kernel_rfl) ?_)
  all_goals refine ret_is (a := _) ?_ rfl rfl
  all_goals simp only [↓wBA, tIc, convA, seval]
  all_goals simp_all [wS]
 have d0 : ((rows.length : Int) == 0) = false := by rw [beq_eq_false_iff_ne]; omega
 by_cases c0 : cols.length = 0
 ·have d1 : ((cols.length : Int) == 0) = true := by simp [c0]
  repeat' first | ((with_reducible first | refine cs ?_ ?_ | refine ws ?_ ?_ | refine wd ?_ ?_ | refine wu ?_ ?_) <;> intro h <;> try simp only [h]) | simp only [↓wBA, tIc, convA, seval, pl3_6Ic, smC_len, List.length_map, enVV_len, enTc_len, d0, d1] | (with_reducible refine dP pl3_6Ic 11 (some 53) (by decide) (by kernel_rfl) ?_)
  all_goals refine ret_is (a := _) ?_ rfl rfl
  all_goals simp only [↓wBA, tIc, convA, seval]
  all_goals simp_all [wS]
 have d1 : ((cols.length : Int) == 0) = false := by rw [beq_eq_false_iff_ne]; omega
 by_cases c16 : 16 < cols.length
 ·have d2 : decide ((cols.length : Int) > 16) = true := by simp; omega
  repeat' first | ((with_reducible first | refine cs ?_ ?_ | refine ws ?_ ?_ | refine wd ?_ ?_ | refine wu ?_ ?_) <;> intro h <;> try simp only [h]) | simp only [↓wBA, tIc, convA, seval, pl3_6Ic, smC_len, List.length_map, enVV_len, enTc_len, d0, d1, d2] | (with_reducible refine dP pl3_6Ic 11 (some 53) (by decide) (by kernel_rfl) ?_)
  all_goals refine ret_is (a := _) ?_ rfl rfl
  all_goals simp only [↓wBA, tIc, convA, seval]
  all_goals simp_all [wS]
 have d2 : decide ((cols.length : Int) > 16) = false := by simp; omega
 have hwc : IntKind.i64.wrap ((k : Nat) : Int) = ((k : Nat) : Int) := wrap_i64 (by omega) (by omega)
 have hb0 : ((rows.length : Int) = 0) = False := eq_false (by omega)
 have hmod : ((k : Nat) : Int).tmod ((rows.length : Nat) : Int) = ((k % rows.length : Nat) : Int) := rfl
 have hm : k % rows.length < rows.length := Nat.mod_lt _ (by omega)
 generalize k % rows.length = m at *
 have hm0 := nnI m
 have hg := enVV_get rows m hm
 obtain ⟨hrl1, hrv1⟩ := hrows rows[m] (List.getElem_mem hm)
 have hri := hrv rows[m] (List.getElem_mem hm)
 generalize rows[m] = row at *
 repeat' first | ((with_reducible first | refine cs ?_ ?_ | refine ws ?_ ?_ | refine wd ?_ ?_ | refine wu ?_ ?_) <;> intro h <;> try simp only [h]) | simp only [↓wBA, tIc, convA, seval, pl3_6Ic, smC_len, List.length_map, enVV_len, enTc_len, d0, d1, d2, hwc, hb0, hmod, hm0, hg] | (with_reducible refine dP pl3_6Ic 11 (some 53) (by decide) (by kernel_rfl) ?_)
 have hz2 : ({ data := #[44, 32] } : ByteArray).size = 2 := rfl
 refine awp_loopG (X := { y : Nat × ByteArray × ByteArray × ByteArray // y.1 ≤ row.length ∧ (y.1 = 0 → y.2 = (emp, emp, emp)) ∧ (0 < y.1 → Txt cols row y.1 y.2.1 y.2.2.1 y.2.2.2) }) (fun x => row.length - x.1.1) (fun x => [(8, .p (.v (.string x.1.2.1))), (9, .p (.v (.string x.1.2.2.1))), (10, .p (.v (.string x.1.2.2.2))), (11, intV .i64 (x.1.1 : Nat)), (4, .any), (63, .any), (64, .any), (65, .any), (66, .any), (67, .any), (68, .any), (69, .any), (70, .any), (71, .any), (72, .any), (73, .any), (74, .any), (75, .any), (76, .any), (77, .any), (78, .any), (79, .any), (80, .any), (81, .any), (82, .any), (83, .any), (84, .any), (85, .any), (86, .any), (87, .any), (88, .any), (89, .any), (90, .any), (91, .any), (92, .any), (93, .any), (94, .any), (95, .any), (96, .any), (97, .any), (98, .any), (99, .any), (100, .any), (101, .any), (102, .any), (103, .any), (104, .any), (105, .any), (106, .any), (107, .any), (108, .any), (109, .any), (110, .any), (111, .any), (112, .any), (113, .any)]) (fun x => [some (.row 4 [[.p (.v (.string txt)), .p (.v (.string nm)), .p (.sl 4 (enTc cols)), .p (.sl 1 (enVV rows))]]), some (.row 14 [(smC s).map .p])]) (⟨(0, emp, emp, emp), Nat.zero_le _, fun _ => rfl, fun h => absurd h (Nat.lt_irrefl 0)⟩) ?_ ?_ ?_
 ·intro x; simp
 ·skip
  simp only [wR, Nat.reduceAdd, Nat.reduceLT, reduceIte]
  simp [wW, tokLt, tokLtL, smC_tok, emp]
 ·intro x
  simp only [wR, Nat.reduceAdd, Nat.reduceLT, reduceIte]
  obtain ⟨⟨i, ts, tn, tv⟩, hi, hI0, hI1⟩ := x
  simp only at hi hI0 hI1
  by_cases hlt : i < row.length
  ·have hdec := dT (i := i) (n := row.length) hlt
   have hi0 := nnI i
   have hic : ((i : Int) < (row.length : Int)) = True := eq_true (by omega)
   have hicc : ((i : Int) < (cols.length : Int)) = True := eq_true (by omega)
   have hw := wI i (by omega)
   have hgv := enV_get row i hlt
   have hltc : i < cols.length := by omega
   have hgc := enTc_get cols i hltc
   have hok := (hrv1 i hlt hlt hltc).1
   have hrg := hri row[i] (List.getElem_mem hlt)
   have hcz := hcn cols[i] (List.getElem_mem hltc)
   have hsh := fun σ => ashow row[i] hrg σ
   have hsl := show_len hok hrg
   have hlit : (row[i].1 = 1 ∧ row[i].2.1 = -9223372036854775808) ∨ (LitOk row[i] ∧ (row[i].1 == 1 && row[i].2.1 == -9223372036854775808) = false) := by
    by_cases h : row[i].1 = 1 ∧ row[i].2.1 = -9223372036854775808
    ·exact .inl h
    ·have := hrg.1
     have := hrg.2
     refine .inr ⟨⟨hok, fun h1 => ?_⟩, ?_⟩
     ·have : row[i].2.1 ≠ -9223372036854775808 := fun h2 => h ⟨h1, h2⟩
      omega
     ·simp only [Bool.and_eq_false_iff, beq_eq_false_iff_ne, ne_eq]
      by_cases h1 : row[i].1 = 1
      ·exact .inr fun h2 => h ⟨h1, h2⟩
      ·exact .inl h1
   obtain ⟨⟨vk, vn, vs⟩, hve⟩ : ∃ v, row[i] = v := ⟨_, rfl⟩
   obtain ⟨⟨cn, ct, cb, cu⟩, hce⟩ : ∃ v, cols[i] = v := ⟨_, rfl⟩
   rw [hve] at hgv hok hrg hsh hsl hlit
   rw [hce] at hgc hcz
   simp only [vaA, vaC, tcC, List.map_cons, List.map_nil] at hgv hgc hsh
   simp only at hcz
   generalize hsv0 : showV (vk, vn, vs) = sv at *
   rcases hlit with ⟨h1, h2⟩ | ⟨hl, hnb⟩
   ·simp only at h1 h2
    subst h1 h2
    repeat' first | ((with_reducible first | refine cs ?_ ?_ | refine ws ?_ ?_ | refine wd ?_ ?_ | refine wu ?_ ?_) <;> intro h <;> try simp only [h]) | simp only [↓wBA, tIc, convA, seval, pl3_6Ic, enV_len, hdec, hi0, hic, hgv] | (with_reducible refine dP pl3_6Ic 11 (some 53) (by decide) (by kernel_rfl) ?_)
    all_goals refine ret_is (a := _) ?_ rfl rfl
    all_goals simp only [↓wBA, tIc, convA, seval]
    all_goals simp_all [wS]
   ·simp only at hnb
    have htests : (vk == 1) = false ∨ ((vk == 1) = true ∧ (vn == -9223372036854775808) = false) := by
     cases h : (vk == 1)
     ·exact .inl rfl
     ·rw [h] at hnb; exact .inr ⟨rfl, by simpa using hnb⟩
    by_cases hi00 : i = 0
    ·subst hi00
     have hst := hI0 rfl
     simp only [Prod.mk.injEq] at hst
     obtain ⟨rfl, rfl, rfl⟩ := hst
     have hTx : Txt cols row 1 sv cn sv := Txt.first hlt hltc (by rw [hve, hsv0]) (by rw [hce]) (by rw [hve, hsv0]) (by rw [hve, hsv0]; exact hsl) (by rw [hce]; exact hcz) (by rw [hve]; exact hl)
     have hd0 : decide (((0 : Nat) : Int) > 0) = false := rfl
     have hw10 : IntKind.i64.wrap 1 = 1 := wrap_i64 (by decide) (by decide)
     have hd00 : decide ((0 : Int) > 0) = false := rfl
     have hdec0 := dT (i := 0) (n := row.length) (by omega)
     have hic0 : ((0 : Int) < (row.length : Int)) = True := eq_true (by omega)
     have hicc0 : ((0 : Int) < (cols.length : Int)) = True := eq_true (by omega)
     have e1 : (({ data := #[] } : ByteArray) ++ sv) = sv := ByteArray.empty_append
     have e2 : (sv ++ ({ data := #[] } : ByteArray)) = sv := ByteArray.append_empty
     have e3 : (cn ++ ({ data := #[] } : ByteArray)) = cn := ByteArray.append_empty
     have z0 : ({ data := #[] } : ByteArray).size = 0 := rfl
     have k1 : (((0 + sv.size : Nat) : Int) > IntKind.i64.max) = False := lt_max (by omega)
     have k2 : (((sv.size + 0 : Nat) : Int) > IntKind.i64.max) = False := lt_max (by omega)
     have k3 : (((cn.size + 0 : Nat) : Int) > IntKind.i64.max) = False := lt_max (by omega)
     have k4 : (((sv.size : Nat) : Int) > IntKind.i64.max) = False := lt_max (by omega)
     have k5 : (((cn.size : Nat) : Int) > IntKind.i64.max) = False := lt_max (by omega)
     simp only [emp]
     rcases htests with h1 | ⟨h1, h2⟩
     ·skip
      repeat' first | ((with_reducible first | refine cs ?_ ?_ | refine ws ?_ ?_ | refine wd ?_ ?_ | refine wu ?_ ?_) <;> intro h <;> try simp only [h]) | simp only [↓wBA, tIc, convA, seval, pl3_6Ic, enV_len, enTc_len, hdec, hi0, hic, hicc, hgv, hgc, h1, hw, hd0, hd00, hdec0, hic0, hicc0, binStr, z0, k1, k2, k3, k4, k5, e1, e2, e3] | ((with_reducible show ACalls _ _ _ _ _); refine (hsh _).eq ?_) | (with_reducible refine dP pl3_6Ic 11 (some 53) (by decide) (by kernel_rfl) ?_)
      all_goals refine ⟨⟨(1, sv, cn, sv), by show 1 ≤ row.length; omega, fun h => absurd h (by show ¬ (1 : Nat) = 0; decide), fun _ => hTx⟩, by show row.length - 1 < row.length - 0; omega, ?_⟩
      all_goals simp only [wR, Nat.reduceAdd, Nat.reduceLT, reduceIte]
      all_goals simp [wW, tokLt, tokLtL, smC_tok, hw10]
     ·skip
      repeat' first | ((with_reducible first | refine cs ?_ ?_ | refine ws ?_ ?_ | refine wd ?_ ?_ | refine wu ?_ ?_) <;> intro h <;> try simp only [h]) | simp only [↓wBA, tIc, convA, seval, pl3_6Ic, enV_len, enTc_len, hdec, hi0, hic, hicc, hgv, hgc, h1, h2, hw, hd0, hd00, hdec0, hic0, hicc0, binStr, z0, k1, k2, k3, k4, k5, e1, e2, e3] | ((with_reducible show ACalls _ _ _ _ _); refine (hsh _).eq ?_) | (with_reducible refine dP pl3_6Ic 11 (some 53) (by decide) (by kernel_rfl) ?_)
      all_goals refine ⟨⟨(1, sv, cn, sv), by show 1 ≤ row.length; omega, fun h => absurd h (by show ¬ (1 : Nat) = 0; decide), fun _ => hTx⟩, by show row.length - 1 < row.length - 0; omega, ?_⟩
      all_goals simp only [wR, Nat.reduceAdd, Nat.reduceLT, reduceIte]
      all_goals simp [wW, tokLt, tokLtL, smC_tok, hw10]
    ·have t := hI1 (by omega)
     have hd0 : decide ((i : Int) > 0) = true := by simp; omega
     have hTx : Txt cols row (i + 1) ((ts ++ cS) ++ sv) (cn ++ (cS ++ tn)) (sv ++ (cS ++ tv)) := t.next (by omega) hlt hltc (by rw [hve, hsv0]) (by rw [hce]) (by rw [hve, hsv0]) (by rw [hve, hsv0]; exact hsl) (by rw [hce]; exact hcz) (by rw [hve]; exact hl)
     simp only [cS] at hTx
     have l1 := t.ls
     have l2 := t.ln
     have l3 := t.lv
     have hi16 : i ≤ 16 := by omega
     have l2' : tn.size ≤ 16 * 140737488355500 := Nat.le_trans l2 (Nat.mul_le_mul_right _ hi16)
     have k1 : (((ts.size + 2 : Nat) : Int) > IntKind.i64.max) = False := lt_max (by omega)
     have k2 : (((2 + tn.size : Nat) : Int) > IntKind.i64.max) = False := lt_max (by omega)
     have k3 : (((2 + tv.size : Nat) : Int) > IntKind.i64.max) = False := lt_max (by omega)
     have k4 : ((((ts ++ ({ data := #[44, 32] } : ByteArray)).size + sv.size : Nat) : Int) > IntKind.i64.max) = False := lt_max (by rw [ByteArray.size_append, hz2]; omega)
     have k5 : (((cn.size + (({ data := #[44, 32] } : ByteArray) ++ tn).size : Nat) : Int) > IntKind.i64.max) = False := lt_max (by rw [ByteArray.size_append, hz2]; omega)
     have k6 : (((sv.size + (({ data := #[44, 32] } : ByteArray) ++ tv).size : Nat) : Int) > IntKind.i64.max) = False := lt_max (by rw [ByteArray.size_append, hz2]; omega)
     rcases htests with h1 | ⟨h1, h2⟩
     ·skip
      repeat' first | ((with_reducible first | refine cs ?_ ?_ | refine ws ?_ ?_ | refine wd ?_ ?_ | refine wu ?_ ?_) <;> intro h <;> try simp only [h]) | simp only [↓wBA, tIc, convA, seval, pl3_6Ic, enV_len, enTc_len, hdec, hi0, hic, hicc, hgv, hgc, h1, hw, hd0, binStr, hz2, k1, k2, k3, k4, k5, k6] | ((with_reducible show ACalls _ _ _ _ _); refine (hsh _).eq ?_) | (with_reducible refine dP pl3_6Ic 11 (some 53) (by decide) (by kernel_rfl) ?_)
      all_goals refine ⟨⟨(i + 1, (ts ++ cS) ++ sv, cn ++ (cS ++ tn), sv ++ (cS ++ tv)), by show i + 1 ≤ row.length; omega, fun h => absurd h (by show ¬ i + 1 = 0; omega), fun _ => hTx⟩, by show row.length - (i + 1) < row.length - i; omega, ?_⟩
      all_goals simp only [wR, Nat.reduceAdd, Nat.reduceLT, reduceIte]
      all_goals simp [wW, tokLt, tokLtL, smC_tok, cS]
     ·skip
      repeat' first | ((with_reducible first | refine cs ?_ ?_ | refine ws ?_ ?_ | refine wd ?_ ?_ | refine wu ?_ ?_) <;> intro h <;> try simp only [h]) | simp only [↓wBA, tIc, convA, seval, pl3_6Ic, enV_len, enTc_len, hdec, hi0, hic, hicc, hgv, hgc, h1, h2, hw, hd0, binStr, hz2, k1, k2, k3, k4, k5, k6] | ((with_reducible show ACalls _ _ _ _ _); refine (hsh _).eq ?_) | (with_reducible refine dP pl3_6Ic 11 (some 53) (by decide) (by kernel_rfl) ?_)
      all_goals refine ⟨⟨(i + 1, (ts ++ cS) ++ sv, cn ++ (cS ++ tn), sv ++ (cS ++ tv)), by show i + 1 ≤ row.length; omega, fun h => absurd h (by show ¬ i + 1 = 0; omega), fun _ => hTx⟩, by show row.length - (i + 1) < row.length - i; omega, ?_⟩
      all_goals simp only [wR, Nat.reduceAdd, Nat.reduceLT, reduceIte]
      all_goals simp [wW, tokLt, tokLtL, smC_tok, cS]
  ·obtain rfl : i = row.length := by omega
   have hpos : 0 < row.length := by omega
   have t := hI1 hpos
   have hdec := dF (i := row.length) (n := row.length) (by omega)
   have hes : bl ts = joinB (row.map fun v => bl (showV v)) := by rw [t.es, List.take_length]
   have hen : bl tn = joinB ((cols.map (·.1)).reverse.map bl) := by rw [t.en, List.take_of_length_le (by rw [List.length_map]; omega)]
   have hev : bl tv = joinB (row.reverse.map fun v => bl (showV v)) := by rw [t.ev, List.take_length]
   have hne : cols ≠ [] := fun e => c0 (by rw [e]; rfl)
   have hRow : RowOk cols row := ⟨hrl1, hrv1, fun v hv => by
    obtain ⟨j, hj, rfl⟩ := List.getElem_of_mem hv
    exact t.ok j hj hj⟩
   have hb1 : bl ((c1 ++ ts) ++ ({ data := #[41] } : ByteArray)) = q1 ++ 40 :: (joinB (row.map fun v => bl (showV v)) ++ [41]) := by
    rw [bl_app, bl_app, hes]
    show (q1 ++ [40]) ++ _ ++ [41] = _
    simp
   have hb2 : bl ((((c2 ++ tn) ++ c3) ++ tv) ++ ({ data := #[41] } : ByteArray)) = q2 ++ 40 :: (joinB ((cols.map (·.1)).reverse.map bl) ++ 41 :: (q3 ++ 40 :: (joinB (row.reverse.map fun v => bl (showV v)) ++ [41]))) := by
    rw [bl_app, bl_app, bl_app, bl_app, hen, hev]
    show (((q2 ++ [40]) ++ _) ++ (41 :: q3 ++ [40])) ++ _ ++ [41] = _
    simp
   have hP1 := aparseI _ (ins_first lex_q1 hb1)
   have hP2 := aparseI _ (ins_first lex_q2 hb2)
   have hB1 := fun s h => back_one (s := s) (by omega) hne hnames hRow hb1 h
   have hB2 := fun s h => back_two (s := s) (by omega) hne hnames hRow hb2 h
   have l1 := t.ls
   have l2 := t.ln
   have l3 := t.lv
   have hi16 : row.length ≤ 16 := by omega
   have l2' : tn.size ≤ 16 * 140737488355500 := Nat.le_trans l2 (Nat.mul_le_mul_right _ hi16)
   obtain ⟨x1, hx1⟩ : ∃ x, (c1 ++ ts) ++ ({ data := #[41] } : ByteArray) = x := ⟨_, rfl⟩
   obtain ⟨x2, hx2⟩ : ∃ x, (((c2 ++ tn) ++ c3) ++ tv) ++ ({ data := #[41] } : ByteArray) = x := ⟨_, rfl⟩
   rw [hx1] at hP1 hB1
   rw [hx2] at hP2 hB2
   simp only [c1, c2, c3] at hx1 hx2
   have z1 : ({ data := #[105, 110, 115, 101, 114, 116, 32, 105, 110, 116, 111, 32, 116, 32, 118, 97, 108, 117, 101, 115, 32, 40] } : ByteArray).size = 22 := rfl
   have z2 : ({ data := #[105, 110, 115, 101, 114, 116, 32, 105, 110, 116, 111, 32, 116, 32, 40] } : ByteArray).size = 15 := rfl
   have z3 : ({ data := #[41, 32, 118, 97, 108, 117, 101, 115, 32, 40] } : ByteArray).size = 10 := rfl
   have z4 : ({ data := #[41] } : ByteArray).size = 1 := rfl
   have hmx : ∀ n : Nat, n ≤ 9000000000000000000 → ((n : Int) > IntKind.i64.max) = False := fun n h => lt_max h
   have m1 := hmx (22 + ts.size) (by omega)
   have m2 := hmx (22 + ts.size + 1) (by omega)
   have m3 := hmx (15 + tn.size) (by omega)
   have m4 := hmx (15 + tn.size + 10) (by omega)
   have m5 := hmx (15 + tn.size + 10 + tv.size) (by omega)
   have m6 := hmx (15 + tn.size + 10 + tv.size + 1) (by omega)
   clear hmx
   have hS : ∀ σ, ACalls Tryz.prog 9 [.p (.sl 3 (enV row)), .p (.sl 3 (enV row))] σ fun r s => s = σ ∧ r = boolV true := by
    have := asameV row row (by omega) (by omega)
    rwa [show sameV row row = true by simp [sameV]] at this
   have hgl : (enVV [row])[0]? = some [.sl 3 (enV row)] := rfl
   have h11 : (((0 + 1 : Nat) : Int) == 1) = true := rfl
   have h11' : ((1 : Int) == 1) = true := rfl
   repeat' first | ((with_reducible first | refine cs ?_ ?_ | refine ws ?_ ?_ | refine wd ?_ ?_ | refine wu ?_ ?_) <;> intro h <;> try simp only [h]) | simp only [↓wBA, tIc, convA, seval, pl3_6Ic, enV_len, hdec, binStr, ByteArray.size_append, z1, z4, m1, m2, hx1] | (with_reducible refine dP pl3_6Ic 11 (some 53) (by decide) (by kernel_rfl) ?_)
   refine (hP1 _).mono ?_
   rintro _ _ ⟨rfl, s1, e1, rfl, hg1, hbd1⟩
   by_cases he1 : e1 = 0
   ·subst he1
    have hIns := ains s1 (by have := hbd1.names; omega) (by have := hbd1.rows; omega) (fun r hr => by have := (hbd1.row r hr).1; omega) nm cols hcl
    have hcase : (insS s1 cols = ([row], 0) ∧ soundS cols [row] = 0) ∨ (insS s1 cols).2 = 32 ∨ (insS s1 cols).2 = 34 := by
     rcases hB1 s1 (hg1 rfl) with h | h
     ·exact .inr (.inl h)
     ·rcases fin_cases cols row with ⟨g1, g2⟩ | g
      ·exact .inl ⟨by rw [h, g2], g1⟩
      ·exact .inr (.inr (by rw [h, g]))
    obtain ⟨⟨u1, f1⟩, hu⟩ : ∃ u, insS s1 cols = u := ⟨_, rfl⟩
    rw [hu] at hIns hcase
    simp only [tbA] at hIns
    simp only at hIns hcase
    rcases hcase with ⟨he, hsd⟩ | h32 | h34
    ·simp only [Prod.mk.injEq] at he
     obtain ⟨rfl, rfl⟩ := he
     repeat' first | ((with_reducible first | refine cs ?_ ?_ | refine ws ?_ ?_ | refine wd ?_ ?_ | refine wu ?_ ?_) <;> intro h <;> try simp only [h]) | simp only [↓wBA, tIc, convA, seval, pl3_6Ic, smC_len, List.length_map, binStr, ByteArray.size_append, z2, z3, z4, m3, m4, m5, m6, hx2] | ((with_reducible show ACalls _ _ _ _ _); refine (hIns _).eq ?_) | (with_reducible refine dP pl3_6Ic 11 (some 53) (by decide) (by kernel_rfl) ?_)
     all_goals
      refine (hP2 _).mono ?_
      rintro _ _ ⟨rfl, s2, e2, rfl, hg2, hbd2⟩
      by_cases he2 : e2 = 0
      ·subst he2
       have hIns2 := ains s2 (by have := hbd2.names; omega) (by have := hbd2.rows; omega) (fun r hr => by have := (hbd2.row r hr).1; omega) nm cols hcl
       have hcase2 : insS s2 cols = ([row], 0) ∨ (insS s2 cols).2 = 32 := by
        rcases hB2 s2 (hg2 rfl) with h | h
        ·exact .inr h
        ·rcases fin_cases cols row with ⟨g1, g2⟩ | g
         ·exact .inl (by rw [h, g2])
         ·exfalso
          unfold finI at g
          simp [hsd] at g
       obtain ⟨⟨u2, f2⟩, hu2⟩ : ∃ u, insS s2 cols = u := ⟨_, rfl⟩
       rw [hu2] at hIns2 hcase2
       simp only [tbA] at hIns2
       simp only at hIns2 hcase2
       rcases hcase2 with he | h32
       ·simp only [Prod.mk.injEq] at he
        obtain ⟨rfl, rfl⟩ := he
        repeat' first | ((with_reducible first | refine cs ?_ ?_ | refine ws ?_ ?_ | refine wd ?_ ?_ | refine wu ?_ ?_) <;> intro h <;> try simp only [h]) | simp only [↓wBA, tIc, convA, seval, pl3_6Ic, smC_len, List.length_map, enVV_len, List.length_cons, List.length_nil, hgl, h11, h11'] | ((with_reducible show ACalls _ _ _ _ _); first | refine (hIns2 _).eq ?_ | refine (hS _).eq ?_) | (with_reducible refine dP pl3_6Ic 11 (some 53) (by decide) (by kernel_rfl) ?_)
        all_goals refine ret_is (a := _) ?_ rfl rfl
        all_goals simp only [↓wBA, tIc, convA, seval]
        all_goals simp_all [wS]
       ·subst h32
        repeat' first | ((with_reducible first | refine cs ?_ ?_ | refine ws ?_ ?_ | refine wd ?_ ?_ | refine wu ?_ ?_) <;> intro h <;> try simp only [h]) | simp only [↓wBA, tIc, convA, seval, pl3_6Ic, smC_len, List.length_map, enVV_len, List.length_cons, List.length_nil, hgl, h11, h11'] | ((with_reducible show ACalls _ _ _ _ _); first | refine (hIns2 _).eq ?_ | refine (hS _).eq ?_) | (with_reducible refine dP pl3_6Ic 11 (some 53) (by decide) (by kernel_rfl) ?_)
        all_goals refine ret_is (a := _) ?_ rfl rfl
        all_goals simp only [↓wBA, tIc, convA, seval]
        all_goals simp_all [wS]
      ·have hE : (e2 != 0) = true := by simpa using he2
       repeat' first | ((with_reducible first | refine cs ?_ ?_ | refine ws ?_ ?_ | refine wd ?_ ?_ | refine wu ?_ ?_) <;> intro h <;> try simp only [h]) | simp only [↓wBA, tIc, convA, seval, pl3_6Ic, smC_len, List.length_map, hE] | (with_reducible refine dP pl3_6Ic 11 (some 53) (by decide) (by kernel_rfl) ?_)
       all_goals refine ret_is (a := _) ?_ rfl rfl
       all_goals simp only [↓wBA, tIc, convA, seval]
       all_goals simp_all [wS]
    ·subst h32
     repeat' first | ((with_reducible first | refine cs ?_ ?_ | refine ws ?_ ?_ | refine wd ?_ ?_ | refine wu ?_ ?_) <;> intro h <;> try simp only [h]) | simp only [↓wBA, tIc, convA, seval, pl3_6Ic, smC_len, List.length_map] | ((with_reducible show ACalls _ _ _ _ _); refine (hIns _).eq ?_) | (with_reducible refine dP pl3_6Ic 11 (some 53) (by decide) (by kernel_rfl) ?_)
     all_goals refine ret_is (a := _) ?_ rfl rfl
     all_goals simp only [↓wBA, tIc, convA, seval]
     all_goals simp_all [wS]
    ·subst h34
     repeat' first | ((with_reducible first | refine cs ?_ ?_ | refine ws ?_ ?_ | refine wd ?_ ?_ | refine wu ?_ ?_) <;> intro h <;> try simp only [h]) | simp only [↓wBA, tIc, convA, seval, pl3_6Ic, smC_len, List.length_map] | ((with_reducible show ACalls _ _ _ _ _); refine (hIns _).eq ?_) | (with_reducible refine dP pl3_6Ic 11 (some 53) (by decide) (by kernel_rfl) ?_)
     all_goals refine ret_is (a := _) ?_ rfl rfl
     all_goals simp only [↓wBA, tIc, convA, seval]
     all_goals simp_all [wS]
   ·have hE : (e1 != 0) = true := by simpa using he1
    repeat' first | ((with_reducible first | refine cs ?_ ?_ | refine ws ?_ ?_ | refine wd ?_ ?_ | refine wu ?_ ?_) <;> intro h <;> try simp only [h]) | simp only [↓wBA, tIc, convA, seval, pl3_6Ic, smC_len, List.length_map, hE] | (with_reducible refine dP pl3_6Ic 11 (some 53) (by decide) (by kernel_rfl) ?_)
    all_goals refine ret_is (a := _) ?_ rfl rfl
    all_goals simp only [↓wBA, tIc, convA, seval]
    all_goals simp_all [wS]
end Go.Proofs.YtcnkmandddfdmaaGreatDoor
