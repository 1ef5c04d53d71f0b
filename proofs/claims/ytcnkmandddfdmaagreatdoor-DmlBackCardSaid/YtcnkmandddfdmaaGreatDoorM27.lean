/- The reader's factors, told. -/
import Derived.Test.YtcnkmandddfdmaaGreatDoorM26
set_option linter.unusedSimpArgs false
set_option linter.unusedVariables false
set_option linter.defProp false
set_option maxRecDepth 100000
set_option maxHeartbeats 32000000
namespace Go.Proofs.YtcnkmandddfdmaaGreatDoor
open Go.RowKit
def pl84_14Gf : Plan := (.det 0 (.det 1 (.det 2 (.act 3 (.det 4 (.fin 5 .done))))))
def pl84_30Gf : Plan := (.det 0 (.det 1 (.det 2 (.det 3 (.det 4 (.det 5 .done))))))
def tGf := aa wX <| aa wbu <| aa T2 <| aa T3 <| aa T4 <| aa T9 <| aa T33 <| aa T41 <| aa T67 <| aa T69 <| aa T78 <| aa T106 T192
theorem ag_getF : ∀ (k : Nat) (h : k < 4), ([.p (.v (.string ⟨#[67, 79, 85, 78, 84]⟩)), .p (.v (.string ⟨#[83, 85, 77]⟩)), .p (.v (.string ⟨#[77, 73, 78]⟩)), .p (.v (.string ⟨#[77, 65, 88]⟩))] : List AV)[k]? = some (.p (.v (.string (agL[k]'h)))) := by
 intro k hk
 match k, hk with
 | 0, _ => rfl
 | 1, _ => rfl
 | 2, _ => rfl
 | 3, _ => rfl
theorem agGo_drop (s : ByteArray) (i : Nat) (h : i < agL.length) : agGo s i (agL.drop i) = if (s.toList == (agL[i]).toList) = true then some i else agGo s (i + 1) (agL.drop (i + 1)) := by
 rw [List.drop_eq_getElem_cons h]; rfl
theorem facF_of (ts : List Tok) (hts : ts.length ≤ 2048) (q : Rs) (hk : q.1 ≤ ts.length) (rec : Job → Ex × Rs)
 (hF : ∀ q' : Rs, q.1 < q'.1 → q'.1 ≤ ts.length → OCalls (rdS ts) 84 (fun t => [.mp t 3 0 0]) q' fun r s => r = exA (rec (.fac q')).1 ∧ s = (rec (.fac q')).2)
 (hE : ∀ (n : Int) (q' : Rs), q.1 < q'.1 → q'.1 ≤ ts.length → OCalls (rdS ts) 56 (fun t => [.mp t 3 0 0, intV .i64 n]) q' fun r s => r = exA (rec (.exp n q')).1 ∧ s = (rec (.exp n q')).2)
 (hR : ∀ (n : Int) (q' : Rs), q.1 < q'.1 → q'.1 ≤ ts.length → (rec (.exp n q')).2.1 ≤ ts.length) :
 OCalls (rdS ts) 84 (fun t => [.mp t 3 0 0]) q fun r s => r = exA (facB ts rec q).1 ∧ s = (facB ts rec q).2 := by
 refine OCalls.of (rdP ts) (fun t => rfl) rfl ?_
 have hs := arsF sMinus ts hts q
 have hp := apkF ts q
 have hin := @pkF_in ts q
 have hfb : facB ts rec q = facB ts rec q := rfl
 conv at hfb => rhs; unfold facB
 by_cases hM : isF ts 5 sMinus q = true
 ·have hlt := (isF_in (by decide) hM).2
  have hf := hF q.next (Nat.lt_succ_self _) hlt
  rw [hM, psF_pos hM] at hs
  rw [if_pos hM] at hfb
  rw [hfb]
  obtain ⟨⟨⟨kd, vk, vn, vs, tb, nm, sl, kids⟩, ⟨k2, b2⟩⟩, hr⟩ : ∃ r, rec (.fac q.next) = r := ⟨_, rfl⟩
  rw [hr] at hf ⊢
  obtain ⟨k, b⟩ := q
  simp only [Rs.next, sMinus] at hs hf
  refine acalls_of cx_ok dr_ok Tryz.func84 (by kernel_rfl) rfl (nt := 124) (rs := [.cell 2 78]) rfl rfl ?_
  simp only [rdS, rdO]
  repeat' first | ((with_reducible first | refine cs ?_ ?_ | refine ws ?_ ?_ | refine wd ?_ ?_ | refine wu ?_ ?_) <;> intro h <;> try simp only [h]) | simp only [↓wBA, tGf, convA, seval, pl84_14Gf, pl84_30Gf] | ((with_reducible show ACalls _ _ _ _ _); first | (refine (hs _ 0 rfl).mono ?_; rintro _ _ ⟨_, ⟨rfl, rfl⟩, rfl⟩; simp only [rdS, rdO, exA, exC, List.map_cons, List.map_nil]) | (refine (hf _ 0 rfl).mono ?_; rintro _ _ ⟨_, ⟨rfl, rfl⟩, rfl⟩; simp only [rdS, rdO, exA, exC, List.map_cons, List.map_nil])) | (with_reducible refine dP pl84_14Gf 6 (some 52) (by decide) (by kernel_rfl) ?_) | (with_reducible refine dP pl84_30Gf 6 (some 96) (by decide) (by kernel_rfl) ?_)
  all_goals refine ret_obI (a := _) (b := _) (rdP ts _) ?_ rfl rfl
  all_goals simp only [↓wBA, tGf, convA, seval]
  all_goals simp_all [wS, rdS, rdO, exA, exC, exL, ex0, lfE, kdE, emp, Rs.next]
 have hM0 : isF ts 5 sMinus q = false := by simpa using hM
 rw [hM0, psF_neg hM0] at hs
 rw [if_neg hM] at hfb
 obtain ⟨⟨tk, tt, tn⟩, hpk⟩ : ∃ t, pkF ts q = t := ⟨_, rfl⟩
 rw [hpk] at hp hfb hin
 simp only at hfb hin
 simp only [tokT, tokA] at hp
 have hq1 : tk ≠ 0 → q.1 < ts.length := fun h => (hin h).2
 have hw := fun h : tk ≠ 0 => wI q.1 (by have := hq1 h; omega)
 by_cases h0 : tk = 0
 ·rw [if_pos h0] at hfb
  have d0 : (tk == 0) = true := by simp [h0]
  obtain ⟨k, b⟩ := q
  simp only [Rs.next, sMinus] at hs hfb ⊢
  simp only at hq1 hw
  rw [hfb]
  refine acalls_of cx_ok dr_ok Tryz.func84 (by kernel_rfl) rfl (nt := 124) (rs := [.cell 2 78]) rfl rfl ?_
  simp only [rdS, rdO]
  repeat' first | ((with_reducible first | refine cs ?_ ?_ | refine ws ?_ ?_ | refine wd ?_ ?_ | refine wu ?_ ?_) <;> intro h <;> try simp only [h]) | simp only [↓wBA, tGf, convA, seval, pl84_14Gf, pl84_30Gf, d0] | ((with_reducible show ACalls _ _ _ _ _); first | (refine (hs _ 0 rfl).mono ?_; rintro _ _ ⟨_, ⟨rfl, rfl⟩, rfl⟩; simp only [rdS, rdO, exA, exC, List.map_cons, List.map_nil]) | (refine (hp _ 0 rfl).mono ?_; rintro _ _ ⟨_, ⟨rfl, rfl⟩, rfl⟩; simp only [rdS, rdO, exA, exC, List.map_cons, List.map_nil])) | (with_reducible refine dP pl84_14Gf 6 (some 52) (by decide) (by kernel_rfl) ?_) | (with_reducible refine dP pl84_30Gf 6 (some 96) (by decide) (by kernel_rfl) ?_)
  all_goals refine ret_obI (a := _) (b := _) (rdP ts _) ?_ rfl rfl
  all_goals simp only [↓wBA, tGf, convA, seval]
  all_goals simp_all [wS, rdS, rdO, exA, exC, exL, ex0, lfE, kdE, emp, Rs.next]
 rw [if_neg h0] at hfb
 have d0 : (tk == 0) = false := by simp [h0]
 have hw := hw h0
 have hq1 := hq1 h0
 by_cases h3 : tk = 3
 ·rw [if_pos h3] at hfb
  have d3 : (tk == 3) = true := by simp [h3]
  obtain ⟨k, b⟩ := q
  simp only [Rs.next, sMinus] at hs hfb ⊢
  simp only at hq1 hw
  rw [hfb]
  refine acalls_of cx_ok dr_ok Tryz.func84 (by kernel_rfl) rfl (nt := 124) (rs := [.cell 2 78]) rfl rfl ?_
  simp only [rdS, rdO]
  repeat' first | ((with_reducible first | refine cs ?_ ?_ | refine ws ?_ ?_ | refine wd ?_ ?_ | refine wu ?_ ?_) <;> intro h <;> try simp only [h]) | simp only [↓wBA, tGf, convA, seval, pl84_14Gf, pl84_30Gf, hw, d0, d3] | ((with_reducible show ACalls _ _ _ _ _); first | (refine (hs _ 0 rfl).mono ?_; rintro _ _ ⟨_, ⟨rfl, rfl⟩, rfl⟩; simp only [rdS, rdO, exA, exC, List.map_cons, List.map_nil]) | (refine (hp _ 0 rfl).mono ?_; rintro _ _ ⟨_, ⟨rfl, rfl⟩, rfl⟩; simp only [rdS, rdO, exA, exC, List.map_cons, List.map_nil])) | (with_reducible refine dP pl84_14Gf 6 (some 52) (by decide) (by kernel_rfl) ?_) | (with_reducible refine dP pl84_30Gf 6 (some 96) (by decide) (by kernel_rfl) ?_)
  all_goals refine ret_obI (a := _) (b := _) (rdP ts _) ?_ rfl rfl
  all_goals simp only [↓wBA, tGf, convA, seval]
  all_goals simp_all [wS, rdS, rdO, exA, exC, exL, ex0, lfE, kdE, emp, Rs.next]
 rw [if_neg h3] at hfb
 have d3 : (tk == 3) = false := by simp [h3]
 by_cases h4 : tk = 4
 ·rw [if_pos h4] at hfb
  have d4 : (tk == 4) = true := by simp [h4]
  obtain ⟨k, b⟩ := q
  simp only [Rs.next, sMinus] at hs hfb ⊢
  simp only at hq1 hw
  rw [hfb]
  refine acalls_of cx_ok dr_ok Tryz.func84 (by kernel_rfl) rfl (nt := 124) (rs := [.cell 2 78]) rfl rfl ?_
  simp only [rdS, rdO]
  repeat' first | ((with_reducible first | refine cs ?_ ?_ | refine ws ?_ ?_ | refine wd ?_ ?_ | refine wu ?_ ?_) <;> intro h <;> try simp only [h]) | simp only [↓wBA, tGf, convA, seval, pl84_14Gf, pl84_30Gf, hw, d0, d3, d4] | ((with_reducible show ACalls _ _ _ _ _); first | (refine (hs _ 0 rfl).mono ?_; rintro _ _ ⟨_, ⟨rfl, rfl⟩, rfl⟩; simp only [rdS, rdO, exA, exC, List.map_cons, List.map_nil]) | (refine (hp _ 0 rfl).mono ?_; rintro _ _ ⟨_, ⟨rfl, rfl⟩, rfl⟩; simp only [rdS, rdO, exA, exC, List.map_cons, List.map_nil])) | (with_reducible refine dP pl84_14Gf 6 (some 52) (by decide) (by kernel_rfl) ?_) | (with_reducible refine dP pl84_30Gf 6 (some 96) (by decide) (by kernel_rfl) ?_)
  all_goals refine ret_obI (a := _) (b := _) (rdP ts _) ?_ rfl rfl
  all_goals simp only [↓wBA, tGf, convA, seval]
  all_goals simp_all [wS, rdS, rdO, exA, exC, exL, ex0, lfE, kdE, emp, Rs.next]
 rw [if_neg h4] at hfb
 have d4 : (tk == 4) = false := by simp [h4]
 by_cases h2 : tk = 2
 ·rw [if_pos h2] at hfb
  have d2 : (tk == 2) = true := by simp [h2]
  have hd := arsF sDot ts hts q.next
  by_cases hD : isF ts 5 sDot q.next = true
  ·rw [if_pos hD] at hfb
   have hn := anmF ts hts q.next.next
   rw [hD, psF_pos hD] at hd
   obtain ⟨⟨⟨nk, nt, nn⟩, ⟨k2, b2⟩⟩, hr⟩ : ∃ r, anF ts 2 q.next.next = r := ⟨_, rfl⟩
   rw [hr] at hn hfb
   rw [hfb]
   obtain ⟨k, b⟩ := q
   simp only [Rs.next, sMinus, sDot] at hs hd hn hw
   refine acalls_of cx_ok dr_ok Tryz.func84 (by kernel_rfl) rfl (nt := 124) (rs := [.cell 2 78]) rfl rfl ?_
   simp only [rdS, rdO]
   repeat' first | ((with_reducible first | refine cs ?_ ?_ | refine ws ?_ ?_ | refine wd ?_ ?_ | refine wu ?_ ?_) <;> intro h <;> try simp only [h]) | simp only [↓wBA, tGf, convA, seval, pl84_14Gf, pl84_30Gf, hw, d0, d3, d4, d2, unmaskS] | ((with_reducible show ACalls _ _ _ _ _); first | (refine (hs _ 0 rfl).mono ?_; rintro _ _ ⟨_, ⟨rfl, rfl⟩, rfl⟩; simp only [rdS, rdO, exA, exC, List.map_cons, List.map_nil]) | (refine (hp _ 0 rfl).mono ?_; rintro _ _ ⟨_, ⟨rfl, rfl⟩, rfl⟩; simp only [rdS, rdO, exA, exC, List.map_cons, List.map_nil]) | (refine (hd _ 0 rfl).mono ?_; rintro _ _ ⟨_, ⟨rfl, rfl⟩, rfl⟩; simp only [rdS, rdO, exA, exC, List.map_cons, List.map_nil]) | (refine (hn _ 0 rfl).mono ?_; rintro _ _ ⟨_, ⟨rfl, rfl⟩, rfl⟩; simp only [rdS, rdO, exA, exC, List.map_cons, List.map_nil])) | (with_reducible refine dP pl84_14Gf 6 (some 52) (by decide) (by kernel_rfl) ?_) | (with_reducible refine dP pl84_30Gf 6 (some 96) (by decide) (by kernel_rfl) ?_)
   all_goals refine ret_obI (a := _) (b := _) (rdP ts _) ?_ rfl rfl
   all_goals simp only [↓wBA, tGf, convA, seval]
   all_goals simp_all [wS, rdS, rdO, exA, exC, exL, ex0, lfE, kdE, emp, Rs.next]
  ·have hD0 : isF ts 5 sDot q.next = false := by simpa using hD
   rw [if_neg hD] at hfb
   rw [hD0, psF_neg hD0] at hd
   rw [hfb]
   obtain ⟨k, b⟩ := q
   simp only [Rs.next, sMinus, sDot] at hs hd hw
   refine acalls_of cx_ok dr_ok Tryz.func84 (by kernel_rfl) rfl (nt := 124) (rs := [.cell 2 78]) rfl rfl ?_
   simp only [rdS, rdO]
   repeat' first | ((with_reducible first | refine cs ?_ ?_ | refine ws ?_ ?_ | refine wd ?_ ?_ | refine wu ?_ ?_) <;> intro h <;> try simp only [h]) | simp only [↓wBA, tGf, convA, seval, pl84_14Gf, pl84_30Gf, hw, d0, d3, d4, d2] | ((with_reducible show ACalls _ _ _ _ _); first | (refine (hs _ 0 rfl).mono ?_; rintro _ _ ⟨_, ⟨rfl, rfl⟩, rfl⟩; simp only [rdS, rdO, exA, exC, List.map_cons, List.map_nil]) | (refine (hp _ 0 rfl).mono ?_; rintro _ _ ⟨_, ⟨rfl, rfl⟩, rfl⟩; simp only [rdS, rdO, exA, exC, List.map_cons, List.map_nil]) | (refine (hd _ 0 rfl).mono ?_; rintro _ _ ⟨_, ⟨rfl, rfl⟩, rfl⟩; simp only [rdS, rdO, exA, exC, List.map_cons, List.map_nil])) | (with_reducible refine dP pl84_14Gf 6 (some 52) (by decide) (by kernel_rfl) ?_) | (with_reducible refine dP pl84_30Gf 6 (some 96) (by decide) (by kernel_rfl) ?_)
   all_goals refine ret_obI (a := _) (b := _) (rdP ts _) ?_ rfl rfl
   all_goals simp only [↓wBA, tGf, convA, seval]
   all_goals simp_all [wS, rdS, rdO, exA, exC, exL, ex0, lfE, kdE, emp, Rs.next]
 rw [if_neg h2] at hfb
 have d2 : (tk == 2) = false := by simp [h2]
 by_cases g1 : (tt.toList == wTRUE.toList) = true
 ·rw [if_pos g1] at hfb
  rw [hfb]
  obtain ⟨k, b⟩ := q
  simp only [Rs.next, sMinus, wTRUE, wFALSE, wNULL] at *
  refine acalls_of cx_ok dr_ok Tryz.func84 (by kernel_rfl) rfl (nt := 124) (rs := [.cell 2 78]) rfl rfl ?_
  simp only [rdS, rdO]
  repeat' first | ((with_reducible first | refine cs ?_ ?_ | refine ws ?_ ?_ | refine wd ?_ ?_ | refine wu ?_ ?_) <;> intro h <;> try simp only [h]) | simp only [↓wBA, tGf, convA, seval, pl84_14Gf, pl84_30Gf, hw, d0, d3, d4, d2, binStr, g1] | ((with_reducible show ACalls _ _ _ _ _); first | (refine (hs _ 0 rfl).mono ?_; rintro _ _ ⟨_, ⟨rfl, rfl⟩, rfl⟩; simp only [rdS, rdO, exA, exC, List.map_cons, List.map_nil]) | (refine (hp _ 0 rfl).mono ?_; rintro _ _ ⟨_, ⟨rfl, rfl⟩, rfl⟩; simp only [rdS, rdO, exA, exC, List.map_cons, List.map_nil])) | (with_reducible refine dP pl84_14Gf 6 (some 52) (by decide) (by kernel_rfl) ?_) | (with_reducible refine dP pl84_30Gf 6 (some 96) (by decide) (by kernel_rfl) ?_)
  all_goals refine ret_obI (a := _) (b := _) (rdP ts _) ?_ rfl rfl
  all_goals simp only [↓wBA, tGf, convA, seval]
  all_goals simp_all [wS, rdS, rdO, exA, exC, exL, ex0, lfE, kdE, emp, Rs.next]
 rw [if_neg g1] at hfb
 have g1 : (tt.toList == wTRUE.toList) = false := by simpa using g1
 by_cases g2 : (tt.toList == wFALSE.toList) = true
 ·rw [if_pos g2] at hfb
  rw [hfb]
  obtain ⟨k, b⟩ := q
  simp only [Rs.next, sMinus, wTRUE, wFALSE, wNULL] at *
  refine acalls_of cx_ok dr_ok Tryz.func84 (by kernel_rfl) rfl (nt := 124) (rs := [.cell 2 78]) rfl rfl ?_
  simp only [rdS, rdO]
  repeat' first | ((with_reducible first | refine cs ?_ ?_ | refine ws ?_ ?_ | refine wd ?_ ?_ | refine wu ?_ ?_) <;> intro h <;> try simp only [h]) | simp only [↓wBA, tGf, convA, seval, pl84_14Gf, pl84_30Gf, hw, d0, d3, d4, d2, binStr, g1, g2] | ((with_reducible show ACalls _ _ _ _ _); first | (refine (hs _ 0 rfl).mono ?_; rintro _ _ ⟨_, ⟨rfl, rfl⟩, rfl⟩; simp only [rdS, rdO, exA, exC, List.map_cons, List.map_nil]) | (refine (hp _ 0 rfl).mono ?_; rintro _ _ ⟨_, ⟨rfl, rfl⟩, rfl⟩; simp only [rdS, rdO, exA, exC, List.map_cons, List.map_nil])) | (with_reducible refine dP pl84_14Gf 6 (some 52) (by decide) (by kernel_rfl) ?_) | (with_reducible refine dP pl84_30Gf 6 (some 96) (by decide) (by kernel_rfl) ?_)
  all_goals refine ret_obI (a := _) (b := _) (rdP ts _) ?_ rfl rfl
  all_goals simp only [↓wBA, tGf, convA, seval]
  all_goals simp_all [wS, rdS, rdO, exA, exC, exL, ex0, lfE, kdE, emp, Rs.next]
 rw [if_neg g2] at hfb
 have g2 : (tt.toList == wFALSE.toList) = false := by simpa using g2
 by_cases g3 : (tt.toList == wNULL.toList) = true
 ·rw [if_pos g3] at hfb
  rw [hfb]
  obtain ⟨k, b⟩ := q
  simp only [Rs.next, sMinus, wTRUE, wFALSE, wNULL] at *
  refine acalls_of cx_ok dr_ok Tryz.func84 (by kernel_rfl) rfl (nt := 124) (rs := [.cell 2 78]) rfl rfl ?_
  simp only [rdS, rdO]
  repeat' first | ((with_reducible first | refine cs ?_ ?_ | refine ws ?_ ?_ | refine wd ?_ ?_ | refine wu ?_ ?_) <;> intro h <;> try simp only [h]) | simp only [↓wBA, tGf, convA, seval, pl84_14Gf, pl84_30Gf, hw, d0, d3, d4, d2, binStr, g1, g2, g3] | ((with_reducible show ACalls _ _ _ _ _); first | (refine (hs _ 0 rfl).mono ?_; rintro _ _ ⟨_, ⟨rfl, rfl⟩, rfl⟩; simp only [rdS, rdO, exA, exC, List.map_cons, List.map_nil]) | (refine (hp _ 0 rfl).mono ?_; rintro _ _ ⟨_, ⟨rfl, rfl⟩, rfl⟩; simp only [rdS, rdO, exA, exC, List.map_cons, List.map_nil])) | (with_reducible refine dP pl84_14Gf 6 (some 52) (by decide) (by kernel_rfl) ?_) | (with_reducible refine dP pl84_30Gf 6 (some 96) (by decide) (by kernel_rfl) ?_)
  all_goals refine ret_obI (a := _) (b := _) (rdP ts _) ?_ rfl rfl
  all_goals simp only [↓wBA, tGf, convA, seval]
  all_goals simp_all [wS, rdS, rdO, exA, exC, exL, ex0, lfE, kdE, emp, Rs.next]
 rw [if_neg g3] at hfb
 have g3 : (tt.toList == wNULL.toList) = false := by simpa using g3
 by_cases h5 : tk = 5 ∧ (tt.toList == sOpen.toList) = true
 ·rw [if_pos h5] at hfb
  have d5 : (tk == 5) = true := by simp [h5.1]
  have g4 := h5.2
  have he := hE 0 q.next (Nat.lt_succ_self _) hq1
  have hr0 := hR 0 q.next (Nat.lt_succ_self _) hq1
  obtain ⟨⟨⟨kd, vk, vn, vs, tb, nm, sl, kids⟩, q2⟩, hr⟩ : ∃ r, rec (.exp 0 q.next) = r := ⟨_, rfl⟩
  rw [hr] at he hfb hr0
  simp only at hr0
  have hwn := awnF 5 (by decide) sShut ts hts q2
  obtain ⟨⟨k3, b3⟩, hr3⟩ : ∃ r, wnF ts 5 sShut q2 = r := ⟨_, rfl⟩
  rw [hr3] at hwn hfb
  rw [hfb]
  obtain ⟨k2, b2⟩ := q2
  obtain ⟨k, b⟩ := q
  simp only [Rs.next, sMinus, wTRUE, wFALSE, wNULL, sOpen, sShut, intV] at hs g1 g2 g3 g4 he hwn hw
  refine acalls_of cx_ok dr_ok Tryz.func84 (by kernel_rfl) rfl (nt := 124) (rs := [.cell 2 78]) rfl rfl ?_
  simp only [rdS, rdO]
  repeat' first | ((with_reducible first | refine cs ?_ ?_ | refine ws ?_ ?_ | refine wd ?_ ?_ | refine wu ?_ ?_) <;> intro h <;> try simp only [h]) | simp only [↓wBA, tGf, convA, seval, pl84_14Gf, pl84_30Gf, hw, d0, d3, d4, d2, binStr, g1, g2, g3, d5, g4] | ((with_reducible show ACalls _ _ _ _ _); first | (refine (hs _ 0 rfl).mono ?_; rintro _ _ ⟨_, ⟨rfl, rfl⟩, rfl⟩; simp only [rdS, rdO, exA, exC, List.map_cons, List.map_nil]) | (refine (hp _ 0 rfl).mono ?_; rintro _ _ ⟨_, ⟨rfl, rfl⟩, rfl⟩; simp only [rdS, rdO, exA, exC, List.map_cons, List.map_nil]) | (refine (he _ 0 rfl).mono ?_; rintro _ _ ⟨_, ⟨rfl, rfl⟩, rfl⟩; simp only [rdS, rdO, exA, exC, List.map_cons, List.map_nil]) | (refine (hwn _ 0 rfl).mono ?_; rintro _ _ ⟨_, ⟨rfl, rfl⟩, rfl⟩; simp only [rdS, rdO, exA, exC, List.map_cons, List.map_nil])) | (with_reducible refine dP pl84_14Gf 6 (some 52) (by decide) (by kernel_rfl) ?_) | (with_reducible refine dP pl84_30Gf 6 (some 96) (by decide) (by kernel_rfl) ?_)
  all_goals refine ret_obI (a := _) (b := _) (rdP ts _) ?_ rfl rfl
  all_goals simp only [↓wBA, tGf, convA, seval]
  all_goals simp_all [wS, rdS, rdO, exA, exC, exL, ex0, lfE, kdE, emp, Rs.next]
 rw [if_neg h5] at hfb
 have hbr : (tk == 5) = false ∨ ((tk == 5) = true ∧ (tt.toList == sOpen.toList) = false) := by
  by_cases h : tk = 5
  ·exact .inr ⟨by simp [h], Bool.eq_false_iff.2 fun hh => h5 ⟨h, hh⟩⟩
  ·exact .inl (by simp [h])
 have ha0 : agGo tt 0 (agL.drop 0) = agGo tt 0 agL := rfl
 obtain ⟨ag, hag⟩ : ∃ a, agGo tt 0 agL = a := ⟨_, rfl⟩
 rw [hag] at hfb ha0
 have hwo := awnF 5 (by decide) sOpen ts hts q.next
 have hof : Fwd ts q.next (wnF ts 5 sOpen q.next) := .wn (by decide) _ hq1
 have hof1 : q.1 < (wnF ts 5 sOpen q.next).1 := hof.1
 have hof2 := hof.2.1
 obtain ⟨q2, hq2⟩ : ∃ r, wnF ts 5 sOpen q.next = r := ⟨_, rfl⟩
 rw [hq2] at hwo hfb hof1 hof2
 obtain ⟨k, b⟩ := q
 simp only [Rs.next, sMinus, wTRUE, wFALSE, wNULL, sOpen] at hs g1 g2 g3 hw hwo hbr hof1
 refine acalls_of cx_ok dr_ok Tryz.func84 (by kernel_rfl) rfl (nt := 124) (rs := [.cell 2 78]) rfl rfl ?_
 simp only [rdS, rdO]
 rcases hbr with hb5 | ⟨hb5, hb6⟩
 ·skip
  repeat' first | ((with_reducible first | refine cs ?_ ?_ | refine ws ?_ ?_ | refine wd ?_ ?_ | refine wu ?_ ?_) <;> intro h <;> try simp only [h]) | simp only [↓wBA, tGf, convA, seval, pl84_14Gf, pl84_30Gf, hw, d0, d3, d4, d2, binStr, g1, g2, g3, hb5] | ((with_reducible show ACalls _ _ _ _ _); first | (refine (hs _ 0 rfl).mono ?_; rintro _ _ ⟨_, ⟨rfl, rfl⟩, rfl⟩; simp only [rdS, rdO, exA, exC, List.map_cons, List.map_nil]) | (refine (hp _ 0 rfl).mono ?_; rintro _ _ ⟨_, ⟨rfl, rfl⟩, rfl⟩; simp only [rdS, rdO, exA, exC, List.map_cons, List.map_nil])) | (with_reducible refine dP pl84_14Gf 6 (some 52) (by decide) (by kernel_rfl) ?_) | (with_reducible refine dP pl84_30Gf 6 (some 96) (by decide) (by kernel_rfl) ?_)
  refine awp_loopN (4) (fun i => [(6, intV .i64 (i : Nat)), (7, .any), (92, .any), (93, .any), (94, .any), (95, .any), (96, .any), (97, .any), (98, .any), (99, .any), (100, .any), (101, .any), (102, .any), (103, .any), (104, .any), (105, .any), (106, .any), (107, .any), (108, .any), (109, .any), (110, .any), (111, .any), (112, .any), (113, .any), (114, .any), (115, .any), (116, .any), (117, .any), (118, .any), (119, .any), (120, .any)]) (fun i => []) (fun i => agGo tt i (agL.drop i) = ag) ?_ ?_ ?_
  ·exact ha0
  ·skip
   simp only [wR, Nat.reduceAdd, Nat.reduceLT, reduceIte]
   simp [wW]
  ·intro i hi hI
   simp only [wR, Nat.reduceAdd, Nat.reduceLT, reduceIte]
   by_cases hlt : i < 4
   ·have hdec : decide ((i : Int) < 4) = true := by simp; omega
    have hi0 := nnI i
    have hi1 : ((i : Int) < ((4 : Nat) : Int)) = True := eq_true (by omega)
    have hi2 : ((i : Int) < 4) = True := eq_true (by omega)
    have hwi := wI i (by omega)
    have hsg := ag_getF i hlt
    rw [agGo_drop tt i (by rw [agL_len]; exact hlt)] at hI
    generalize agL[i] = a at *
    cases hA : (tt.toList == a.toList)
    ·rw [hA] at hI
     simp only [Bool.false_eq_true, if_false] at hI
     repeat' first | ((with_reducible first | refine cs ?_ ?_ | refine ws ?_ ?_ | refine wd ?_ ?_ | refine wu ?_ ?_) <;> intro h <;> try simp only [h]) | simp only [↓wBA, tGf, convA, seval, pl84_14Gf, pl84_30Gf, hdec, hi0, hi1, hi2, hwi, Nat.mul_one, hsg, hA, binStr, unmaskS] | (with_reducible refine dP pl84_14Gf 6 (some 52) (by decide) (by kernel_rfl) ?_) | (with_reducible refine dP pl84_30Gf 6 (some 96) (by decide) (by kernel_rfl) ?_)
     all_goals
      refine ⟨⟨i + 1, by omega, ?_⟩, by show 4 - (i + 1) < 4 - i; omega, ?_⟩
      ·exact hI
      ·skip
       simp only [wR, Nat.reduceAdd, Nat.reduceLT, reduceIte]
       simp [wW]
    ·rw [hA] at hI
     simp only [if_true] at hI
     rw [← hI] at hfb
     simp only at hfb
     have hw20 : IntKind.i64.wrap (20 + (i : Int)) = 20 + (i : Int) := wrap_i64 (by omega) (by omega)
     have hst := arsF sStar ts hts q2
     by_cases hz : i = 0
     ·subst hz
      by_cases hS : isF ts 5 sStar q2 = true
      ·rw [if_pos ⟨rfl, hS⟩] at hfb
       have hw2 := wI q2.1 (by omega)
       rw [hS, psF_pos hS] at hst
       have hwn := awnF 5 (by decide) sShut ts hts q2.next
       obtain ⟨⟨k3, b3⟩, hr3⟩ : ∃ r, wnF ts 5 sShut q2.next = r := ⟨_, rfl⟩
       rw [hr3] at hwn hfb
       rw [hfb]
       obtain ⟨k2, b2⟩ := q2
       simp only [Rs.next, sShut, sStar] at hst hwn
       repeat' first | ((with_reducible first | refine cs ?_ ?_ | refine ws ?_ ?_ | refine wd ?_ ?_ | refine wu ?_ ?_) <;> intro h <;> try simp only [h]) | simp only [↓wBA, tGf, convA, seval, pl84_14Gf, pl84_30Gf, hdec, hi0, hi1, hi2, hwi, Nat.mul_one, hsg, hA, binStr, unmaskS, hw20] | ((with_reducible show ACalls _ _ _ _ _); first | (refine (hwo _ 0 rfl).mono ?_; rintro _ _ ⟨_, ⟨rfl, rfl⟩, rfl⟩; simp only [rdS, rdO, exA, exC, List.map_cons, List.map_nil]) | (refine (hst _ 0 rfl).mono ?_; rintro _ _ ⟨_, ⟨rfl, rfl⟩, rfl⟩; simp only [rdS, rdO, exA, exC, List.map_cons, List.map_nil]) | (refine (hwn _ 0 rfl).mono ?_; rintro _ _ ⟨_, ⟨rfl, rfl⟩, rfl⟩; simp only [rdS, rdO, exA, exC, List.map_cons, List.map_nil])) | (with_reducible refine dP pl84_14Gf 6 (some 52) (by decide) (by kernel_rfl) ?_) | (with_reducible refine dP pl84_30Gf 6 (some 96) (by decide) (by kernel_rfl) ?_)
       all_goals refine ret_obI (a := _) (b := _) (rdP ts _) ?_ rfl rfl
       all_goals simp only [↓wBA, tGf, convA, seval]
       all_goals simp_all [wS, rdS, rdO, exA, exC, exL, ex0, lfE, kdE, emp, Rs.next]
      ·rw [if_neg (fun h => hS h.2)] at hfb
       have hS0 : isF ts 5 sStar q2 = false := by simpa using hS
       rw [hS0, psF_neg hS0] at hst
       have he := hE 0 q2 hof1 hof2
       obtain ⟨⟨⟨kd, vk, vn, vs, tb, nm, sl, kids⟩, q3⟩, hr⟩ : ∃ r, rec (.exp 0 q2) = r := ⟨_, rfl⟩
       rw [hr] at he hfb
       have hwn := awnF 5 (by decide) sShut ts hts q3
       obtain ⟨⟨k4, b4⟩, hr3⟩ : ∃ r, wnF ts 5 sShut q3 = r := ⟨_, rfl⟩
       rw [hr3] at hwn hfb
       rw [hfb]
       obtain ⟨k3, b3⟩ := q3
       obtain ⟨k2, b2⟩ := q2
       simp only [sShut, sStar, intV] at hst hwn he
       repeat' first | ((with_reducible first | refine cs ?_ ?_ | refine ws ?_ ?_ | refine wd ?_ ?_ | refine wu ?_ ?_) <;> intro h <;> try simp only [h]) | simp only [↓wBA, tGf, convA, seval, pl84_14Gf, pl84_30Gf, hdec, hi0, hi1, hi2, hwi, Nat.mul_one, hsg, hA, binStr, unmaskS, hw20] | ((with_reducible show ACalls _ _ _ _ _); first | (refine (hwo _ 0 rfl).mono ?_; rintro _ _ ⟨_, ⟨rfl, rfl⟩, rfl⟩; simp only [rdS, rdO, exA, exC, List.map_cons, List.map_nil]) | (refine (hst _ 0 rfl).mono ?_; rintro _ _ ⟨_, ⟨rfl, rfl⟩, rfl⟩; simp only [rdS, rdO, exA, exC, List.map_cons, List.map_nil]) | (refine (he _ 0 rfl).mono ?_; rintro _ _ ⟨_, ⟨rfl, rfl⟩, rfl⟩; simp only [rdS, rdO, exA, exC, List.map_cons, List.map_nil]) | (refine (hwn _ 0 rfl).mono ?_; rintro _ _ ⟨_, ⟨rfl, rfl⟩, rfl⟩; simp only [rdS, rdO, exA, exC, List.map_cons, List.map_nil])) | (with_reducible refine dP pl84_14Gf 6 (some 52) (by decide) (by kernel_rfl) ?_) | (with_reducible refine dP pl84_30Gf 6 (some 96) (by decide) (by kernel_rfl) ?_)
       all_goals refine ret_obI (a := _) (b := _) (rdP ts _) ?_ rfl rfl
       all_goals simp only [↓wBA, tGf, convA, seval]
       all_goals simp_all [wS, rdS, rdO, exA, exC, exL, ex0, lfE, kdE, emp, Rs.next]
     ·rw [if_neg (fun h => hz h.1)] at hfb
      have hz0 : decide ((i : Int) > 0) = true := by simp; omega
      have he := hE 0 q2 hof1 hof2
      obtain ⟨⟨⟨kd, vk, vn, vs, tb, nm, sl, kids⟩, q3⟩, hr⟩ : ∃ r, rec (.exp 0 q2) = r := ⟨_, rfl⟩
      rw [hr] at he hfb
      have hwn := awnF 5 (by decide) sShut ts hts q3
      obtain ⟨⟨k4, b4⟩, hr3⟩ : ∃ r, wnF ts 5 sShut q3 = r := ⟨_, rfl⟩
      rw [hr3] at hwn hfb
      rw [hfb]
      obtain ⟨k3, b3⟩ := q3
      obtain ⟨k2, b2⟩ := q2
      simp only [sShut, sStar, intV] at hst hwn he
      repeat' first | ((with_reducible first | refine cs ?_ ?_ | refine ws ?_ ?_ | refine wd ?_ ?_ | refine wu ?_ ?_) <;> intro h <;> try simp only [h]) | simp only [↓wBA, tGf, convA, seval, pl84_14Gf, pl84_30Gf, hdec, hi0, hi1, hi2, hwi, Nat.mul_one, hsg, hA, binStr, unmaskS, hw20, hz0] | ((with_reducible show ACalls _ _ _ _ _); first | (refine (hwo _ 0 rfl).mono ?_; rintro _ _ ⟨_, ⟨rfl, rfl⟩, rfl⟩; simp only [rdS, rdO, exA, exC, List.map_cons, List.map_nil]) | (refine (he _ 0 rfl).mono ?_; rintro _ _ ⟨_, ⟨rfl, rfl⟩, rfl⟩; simp only [rdS, rdO, exA, exC, List.map_cons, List.map_nil]) | (refine (hwn _ 0 rfl).mono ?_; rintro _ _ ⟨_, ⟨rfl, rfl⟩, rfl⟩; simp only [rdS, rdO, exA, exC, List.map_cons, List.map_nil])) | (with_reducible refine dP pl84_14Gf 6 (some 52) (by decide) (by kernel_rfl) ?_) | (with_reducible refine dP pl84_30Gf 6 (some 96) (by decide) (by kernel_rfl) ?_)
      all_goals refine ret_obI (a := _) (b := _) (rdP ts _) ?_ rfl rfl
      all_goals simp only [↓wBA, tGf, convA, seval]
      all_goals simp_all [wS, rdS, rdO, exA, exC, exL, ex0, lfE, kdE, emp, Rs.next]
   ·have hdec : decide ((i : Int) < 4) = false := by simp; omega
    rw [List.drop_of_length_le (by rw [agL_len]; omega)] at hI
    simp only [agGo] at hI
    rw [← hI] at hfb
    simp only at hfb
    rw [hfb]
    repeat' first | ((with_reducible first | refine cs ?_ ?_ | refine ws ?_ ?_ | refine wd ?_ ?_ | refine wu ?_ ?_) <;> intro h <;> try simp only [h]) | simp only [↓wBA, tGf, convA, seval, pl84_14Gf, pl84_30Gf, hdec] | (with_reducible refine dP pl84_14Gf 6 (some 52) (by decide) (by kernel_rfl) ?_) | (with_reducible refine dP pl84_30Gf 6 (some 96) (by decide) (by kernel_rfl) ?_)
    all_goals refine ret_obI (a := _) (b := _) (rdP ts _) ?_ rfl rfl
    all_goals simp only [↓wBA, tGf, convA, seval]
    all_goals simp_all [wS, rdS, rdO, exA, exC, exL, ex0, lfE, kdE, emp, Rs.next]
 ·skip
  repeat' first | ((with_reducible first | refine cs ?_ ?_ | refine ws ?_ ?_ | refine wd ?_ ?_ | refine wu ?_ ?_) <;> intro h <;> try simp only [h]) | simp only [↓wBA, tGf, convA, seval, pl84_14Gf, pl84_30Gf, hw, d0, d3, d4, d2, binStr, g1, g2, g3, hb5, hb6] | ((with_reducible show ACalls _ _ _ _ _); first | (refine (hs _ 0 rfl).mono ?_; rintro _ _ ⟨_, ⟨rfl, rfl⟩, rfl⟩; simp only [rdS, rdO, exA, exC, List.map_cons, List.map_nil]) | (refine (hp _ 0 rfl).mono ?_; rintro _ _ ⟨_, ⟨rfl, rfl⟩, rfl⟩; simp only [rdS, rdO, exA, exC, List.map_cons, List.map_nil])) | (with_reducible refine dP pl84_14Gf 6 (some 52) (by decide) (by kernel_rfl) ?_) | (with_reducible refine dP pl84_30Gf 6 (some 96) (by decide) (by kernel_rfl) ?_)
  refine awp_loopN (4) (fun i => [(6, intV .i64 (i : Nat)), (7, .any), (92, .any), (93, .any), (94, .any), (95, .any), (96, .any), (97, .any), (98, .any), (99, .any), (100, .any), (101, .any), (102, .any), (103, .any), (104, .any), (105, .any), (106, .any), (107, .any), (108, .any), (109, .any), (110, .any), (111, .any), (112, .any), (113, .any), (114, .any), (115, .any), (116, .any), (117, .any), (118, .any), (119, .any), (120, .any)]) (fun i => []) (fun i => agGo tt i (agL.drop i) = ag) ?_ ?_ ?_
  ·exact ha0
  ·skip
   simp only [wR, Nat.reduceAdd, Nat.reduceLT, reduceIte]
   simp [wW]
  ·intro i hi hI
   simp only [wR, Nat.reduceAdd, Nat.reduceLT, reduceIte]
   by_cases hlt : i < 4
   ·have hdec : decide ((i : Int) < 4) = true := by simp; omega
    have hi0 := nnI i
    have hi1 : ((i : Int) < ((4 : Nat) : Int)) = True := eq_true (by omega)
    have hi2 : ((i : Int) < 4) = True := eq_true (by omega)
    have hwi := wI i (by omega)
    have hsg := ag_getF i hlt
    rw [agGo_drop tt i (by rw [agL_len]; exact hlt)] at hI
    generalize agL[i] = a at *
    cases hA : (tt.toList == a.toList)
    ·rw [hA] at hI
     simp only [Bool.false_eq_true, if_false] at hI
     repeat' first | ((with_reducible first | refine cs ?_ ?_ | refine ws ?_ ?_ | refine wd ?_ ?_ | refine wu ?_ ?_) <;> intro h <;> try simp only [h]) | simp only [↓wBA, tGf, convA, seval, pl84_14Gf, pl84_30Gf, hdec, hi0, hi1, hi2, hwi, Nat.mul_one, hsg, hA, binStr, unmaskS] | (with_reducible refine dP pl84_14Gf 6 (some 52) (by decide) (by kernel_rfl) ?_) | (with_reducible refine dP pl84_30Gf 6 (some 96) (by decide) (by kernel_rfl) ?_)
     all_goals
      refine ⟨⟨i + 1, by omega, ?_⟩, by show 4 - (i + 1) < 4 - i; omega, ?_⟩
      ·exact hI
      ·skip
       simp only [wR, Nat.reduceAdd, Nat.reduceLT, reduceIte]
       simp [wW]
    ·rw [hA] at hI
     simp only [if_true] at hI
     rw [← hI] at hfb
     simp only at hfb
     have hw20 : IntKind.i64.wrap (20 + (i : Int)) = 20 + (i : Int) := wrap_i64 (by omega) (by omega)
     have hst := arsF sStar ts hts q2
     by_cases hz : i = 0
     ·subst hz
      by_cases hS : isF ts 5 sStar q2 = true
      ·rw [if_pos ⟨rfl, hS⟩] at hfb
       have hw2 := wI q2.1 (by omega)
       rw [hS, psF_pos hS] at hst
       have hwn := awnF 5 (by decide) sShut ts hts q2.next
       obtain ⟨⟨k3, b3⟩, hr3⟩ : ∃ r, wnF ts 5 sShut q2.next = r := ⟨_, rfl⟩
       rw [hr3] at hwn hfb
       rw [hfb]
       obtain ⟨k2, b2⟩ := q2
       simp only [Rs.next, sShut, sStar] at hst hwn
       repeat' first | ((with_reducible first | refine cs ?_ ?_ | refine ws ?_ ?_ | refine wd ?_ ?_ | refine wu ?_ ?_) <;> intro h <;> try simp only [h]) | simp only [↓wBA, tGf, convA, seval, pl84_14Gf, pl84_30Gf, hdec, hi0, hi1, hi2, hwi, Nat.mul_one, hsg, hA, binStr, unmaskS, hw20] | ((with_reducible show ACalls _ _ _ _ _); first | (refine (hwo _ 0 rfl).mono ?_; rintro _ _ ⟨_, ⟨rfl, rfl⟩, rfl⟩; simp only [rdS, rdO, exA, exC, List.map_cons, List.map_nil]) | (refine (hst _ 0 rfl).mono ?_; rintro _ _ ⟨_, ⟨rfl, rfl⟩, rfl⟩; simp only [rdS, rdO, exA, exC, List.map_cons, List.map_nil]) | (refine (hwn _ 0 rfl).mono ?_; rintro _ _ ⟨_, ⟨rfl, rfl⟩, rfl⟩; simp only [rdS, rdO, exA, exC, List.map_cons, List.map_nil])) | (with_reducible refine dP pl84_14Gf 6 (some 52) (by decide) (by kernel_rfl) ?_) | (with_reducible refine dP pl84_30Gf 6 (some 96) (by decide) (by kernel_rfl) ?_)
       all_goals refine ret_obI (a := _) (b := _) (rdP ts _) ?_ rfl rfl
       all_goals simp only [↓wBA, tGf, convA, seval]
       all_goals simp_all [wS, rdS, rdO, exA, exC, exL, ex0, lfE, kdE, emp, Rs.next]
      ·rw [if_neg (fun h => hS h.2)] at hfb
       have hS0 : isF ts 5 sStar q2 = false := by simpa using hS
       rw [hS0, psF_neg hS0] at hst
       have he := hE 0 q2 hof1 hof2
       obtain ⟨⟨⟨kd, vk, vn, vs, tb, nm, sl, kids⟩, q3⟩, hr⟩ : ∃ r, rec (.exp 0 q2) = r := ⟨_, rfl⟩
       rw [hr] at he hfb
       have hwn := awnF 5 (by decide) sShut ts hts q3
       obtain ⟨⟨k4, b4⟩, hr3⟩ : ∃ r, wnF ts 5 sShut q3 = r := ⟨_, rfl⟩
       rw [hr3] at hwn hfb
       rw [hfb]
       obtain ⟨k3, b3⟩ := q3
       obtain ⟨k2, b2⟩ := q2
       simp only [sShut, sStar, intV] at hst hwn he
       repeat' first | ((with_reducible first | refine cs ?_ ?_ | refine ws ?_ ?_ | refine wd ?_ ?_ | refine wu ?_ ?_) <;> intro h <;> try simp only [h]) | simp only [↓wBA, tGf, convA, seval, pl84_14Gf, pl84_30Gf, hdec, hi0, hi1, hi2, hwi, Nat.mul_one, hsg, hA, binStr, unmaskS, hw20] | ((with_reducible show ACalls _ _ _ _ _); first | (refine (hwo _ 0 rfl).mono ?_; rintro _ _ ⟨_, ⟨rfl, rfl⟩, rfl⟩; simp only [rdS, rdO, exA, exC, List.map_cons, List.map_nil]) | (refine (hst _ 0 rfl).mono ?_; rintro _ _ ⟨_, ⟨rfl, rfl⟩, rfl⟩; simp only [rdS, rdO, exA, exC, List.map_cons, List.map_nil]) | (refine (he _ 0 rfl).mono ?_; rintro _ _ ⟨_, ⟨rfl, rfl⟩, rfl⟩; simp only [rdS, rdO, exA, exC, List.map_cons, List.map_nil]) | (refine (hwn _ 0 rfl).mono ?_; rintro _ _ ⟨_, ⟨rfl, rfl⟩, rfl⟩; simp only [rdS, rdO, exA, exC, List.map_cons, List.map_nil])) | (with_reducible refine dP pl84_14Gf 6 (some 52) (by decide) (by kernel_rfl) ?_) | (with_reducible refine dP pl84_30Gf 6 (some 96) (by decide) (by kernel_rfl) ?_)
       all_goals refine ret_obI (a := _) (b := _) (rdP ts _) ?_ rfl rfl
       all_goals simp only [↓wBA, tGf, convA, seval]
       all_goals simp_all [wS, rdS, rdO, exA, exC, exL, ex0, lfE, kdE, emp, Rs.next]
     ·rw [if_neg (fun h => hz h.1)] at hfb
      have hz0 : decide ((i : Int) > 0) = true := by simp; omega
      have he := hE 0 q2 hof1 hof2
      obtain ⟨⟨⟨kd, vk, vn, vs, tb, nm, sl, kids⟩, q3⟩, hr⟩ : ∃ r, rec (.exp 0 q2) = r := ⟨_, rfl⟩
      rw [hr] at he hfb
      have hwn := awnF 5 (by decide) sShut ts hts q3
      obtain ⟨⟨k4, b4⟩, hr3⟩ : ∃ r, wnF ts 5 sShut q3 = r := ⟨_, rfl⟩
      rw [hr3] at hwn hfb
      rw [hfb]
      obtain ⟨k3, b3⟩ := q3
      obtain ⟨k2, b2⟩ := q2
      simp only [sShut, sStar, intV] at hst hwn he
      repeat' first | ((with_reducible first | refine cs ?_ ?_ | refine ws ?_ ?_ | refine wd ?_ ?_ | refine wu ?_ ?_) <;> intro h <;> try simp only [h]) | simp only [↓wBA, tGf, convA, seval, pl84_14Gf, pl84_30Gf, hdec, hi0, hi1, hi2, hwi, Nat.mul_one, hsg, hA, binStr, unmaskS, hw20, hz0] | ((with_reducible show ACalls _ _ _ _ _); first | (refine (hwo _ 0 rfl).mono ?_; rintro _ _ ⟨_, ⟨rfl, rfl⟩, rfl⟩; simp only [rdS, rdO, exA, exC, List.map_cons, List.map_nil]) | (refine (he _ 0 rfl).mono ?_; rintro _ _ ⟨_, ⟨rfl, rfl⟩, rfl⟩; simp only [rdS, rdO, exA, exC, List.map_cons, List.map_nil]) | (refine (hwn _ 0 rfl).mono ?_; rintro _ _ ⟨_, ⟨rfl, rfl⟩, rfl⟩; simp only [rdS, rdO, exA, exC, List.map_cons, List.map_nil])) | (with_reducible refine dP pl84_14Gf 6 (some 52) (by decide) (by kernel_rfl) ?_) | (with_reducible refine dP pl84_30Gf 6 (some 96) (by decide) (by kernel_rfl) ?_)
      all_goals refine ret_obI (a := _) (b := _) (rdP ts _) ?_ rfl rfl
      all_goals simp only [↓wBA, tGf, convA, seval]
      all_goals simp_all [wS, rdS, rdO, exA, exC, exL, ex0, lfE, kdE, emp, Rs.next]
   ·have hdec : decide ((i : Int) < 4) = false := by simp; omega
    rw [List.drop_of_length_le (by rw [agL_len]; omega)] at hI
    simp only [agGo] at hI
    rw [← hI] at hfb
    simp only at hfb
    rw [hfb]
    repeat' first | ((with_reducible first | refine cs ?_ ?_ | refine ws ?_ ?_ | refine wd ?_ ?_ | refine wu ?_ ?_) <;> intro h <;> try simp only [h]) | simp only [↓wBA, tGf, convA, seval, pl84_14Gf, pl84_30Gf, hdec] | (with_reducible refine dP pl84_14Gf 6 (some 52) (by decide) (by kernel_rfl) ?_) | (with_reducible refine dP pl84_30Gf 6 (some 96) (by decide) (by kernel_rfl) ?_)
    all_goals refine ret_obI (a := _) (b := _) (rdP ts _) ?_ rfl rfl
    all_goals simp only [↓wBA, tGf, convA, seval]
    all_goals simp_all [wS, rdS, rdO, exA, exC, exL, ex0, lfE, kdE, emp, Rs.next]
end Go.Proofs.YtcnkmandddfdmaaGreatDoor
