/- The lexer, told. -/
import Derived.Test.YtcnkmandddfdmaaGreatDoorM23
set_option linter.unusedSimpArgs false
set_option linter.unusedVariables false
set_option linter.defProp false
set_option maxRecDepth 100000
set_option maxHeartbeats 32000000
namespace Go.Proofs.YtcnkmandddfdmaaGreatDoor
open Go.RowKit
def tGa := aa wX <| aa wbu <| aa T3 <| aa T4 <| aa T5 <| aa T9 <| aa T45 <| aa T64 T106
theorem aclassF (c : UInt8) (σ : St) : ACalls Tryz.prog 46 [intV .u8 (c.toNat : Int)] σ fun r σ' => σ' = σ ∧ r = intV .i64 (clsB c) := aclass c σ
theorem clsB_in (c : UInt8) : clsB c = 0 ∨ clsB c = 1 ∨ clsB c = 2 ∨ clsB c = 3 := by
 unfold clsB classL
 repeat' split
 all_goals simp
theorem quoS_suf : ∀ (n : Nat) (l t r : List UInt8), l.length ≤ n → quoS l = some (t, r) → r <:+ l
 | _, [], t, r, hn, h => by simp [quoS] at h
 | 0, c :: l, t, r, hn, h => by simp at hn
 | n + 1, c :: l, t, r, hn, h => by
   simp only [List.length_cons] at hn
   by_cases hc : c = 39
   ·subst hc
    cases l with
    | nil => simp [quoS] at h; obtain ⟨rfl, rfl⟩ := h; simp
    | cons d l =>
      by_cases hd : d = 39
      ·subst hd
       rw [quoS_two] at h
       cases hq : quoS l with
       | none => simp [hq] at h
       | some q =>
         obtain ⟨t', r'⟩ := q
         simp [hq] at h
         obtain ⟨rfl, rfl⟩ := h
         exact (quoS_suf n l t' r' (by simp at hn; omega) hq).trans ((List.suffix_cons _ _).trans (List.suffix_cons _ _))
      ·rw [quoS_end (by simp [hd])] at h
       simp at h
       obtain ⟨rfl, rfl⟩ := h
       exact List.suffix_cons _ _
   ·rw [quoS_ne hc] at h
    cases hq : quoS l with
    | none => simp [hq] at h
    | some q =>
      obtain ⟨t', r'⟩ := q
      simp [hq] at h
      obtain ⟨rfl, rfl⟩ := h
      exact (quoS_suf n l t' r' (by omega) hq).trans (List.suffix_cons _ _)
theorem quo_drop {s : ByteArray} {k : Nat} {q : List UInt8 × List UInt8} (hk : k ≤ s.size) (h : quoS ((bl s).drop k) = some q) : (bl s).drop (s.size - q.2.length) = q.2 ∧ q.2.length < s.size - k := by
 have h1 := List.suffix_iff_eq_drop.1 (quoS_suf _ _ q.1 q.2 (Nat.le_refl _) h)
 have h2 := (quoS_len _ _ q.1 q.2 (Nat.le_refl _) h).1
 rw [List.length_drop, bl_len] at h1 h2
 refine ⟨?_, h2⟩
 rw [List.drop_drop] at h1
 rw [show s.size - q.2.length = k + (s.size - k - q.2.length) by omega]
 exact h1.symm
def AllP (p : UInt8 → Bool) (s : ByteArray) (k j : Nat) : Prop := ∀ i, k ≤ i → i < j → s[i]?.map p = some true
theorem AllP.one {p : UInt8 → Bool} {s : ByteArray} {k j : Nat} {b : UInt8} (h : AllP p s k j) (hb : s[j]? = some b) (hp : p b = true) : AllP p s k (j + 1) := fun i h1 h2 => by
 by_cases e : i = j
 ·subst e; rw [hb]; simp [hp]
 ·exact h i h1 (by omega)
theorem tw_s {p : UInt8 → Bool} {s : ByteArray} {k j : Nat} {b : UInt8} (hb : s[k]? = some b) (hp : p b = true) (hkj : k ≤ j) (hj : j ≤ s.size) (hall : AllP p s k j) (hend : ∀ b, s[j]? = some b → p b = false) :
 mkB (b :: ((bl s).drop (k + 1)).takeWhile p) = s.extract k j ∧ ((bl s).drop (k + 1)).dropWhile p = (bl s).drop j ∧ k < j := by
 have h8 := bl_len s
 have hlt : k < j := by
  rcases Nat.lt_or_ge k j with h | h
  ·exact h
  ·have : j = k := by omega
   subst this
   rw [hend b hb] at hp; simp at hp
 obtain ⟨h1, h2⟩ := tw_at (p := p) (l := bl s) (k := k) (j := j) hkj (by omega) (fun i h1 h2 => by
  have h3 := hall i h1 h2
  rw [← bl_get, List.getElem?_eq_getElem (by omega)] at h3
  simpa using h3) (fun h => hend _ (by rw [← bl_get, List.getElem?_eq_getElem h]))
 rw [drop_bl hb] at h1 h2
 simp only [List.takeWhile_cons, List.dropWhile_cons, hp, if_true] at h1 h2
 refine ⟨?_, h2, hlt⟩
 rw [ext_bl s k j hkj hj, drop_bl hb, ← h1]
theorem tw_dig {s : ByteArray} {k j : Nat} (hkj : k ≤ j) (hj : j ≤ s.size) (hall : AllP isDb s k j) : ∀ b ∈ bl (s.extract k j), 48 ≤ b.toNat ∧ b.toNat ≤ 57 := by
 intro b hb
 rw [ext_bl s k j hkj hj, bl_mk] at hb
 obtain ⟨i, hi, he⟩ := List.getElem_of_mem hb
 have h8 := bl_len s
 simp only [List.length_take, List.length_drop] at hi
 have h3 := hall (k + i) (by omega) (by omega)
 rw [← bl_get, List.getElem?_eq_getElem (by omega)] at h3
 simp only [List.getElem_take, List.getElem_drop] at he
 rw [he] at h3
 exact dig_of (by simpa using h3)
theorem lexB_39 {l : List UInt8} : lexB lexS 39 l = (match quoS l with
 | some q => if 64 < q.1.length then .err 30 else (lexS q.2).pre [(4, mkB q.1, 0)]
 | none => .opn) := by
 simp [lexB, show clsB 39 = 0 by decide]
 rfl
theorem lexB_sg {b : UInt8} {l : List UInt8} (hc : clsB b = 0) (h39 : b ≠ 39) : lexB lexS b l = if sgnF (mkB (b :: l)) = 0 then .err 30 else (lexS (l.drop (sgnF (mkB (b :: l)) - 1))).pre [(5, mkB ((b :: l).take (sgnF (mkB (b :: l)))), 0)] := by
 simp [lexB, hc, h39]
theorem lexB_sp {b : UInt8} {l : List UInt8} (hc : clsB b = 3) : lexB lexS b l = lexS l := by simp [lexB, hc]
theorem lexB_wd {b : UInt8} {l : List UInt8} (hc : clsB b = 1) : lexB lexS b l = match wordF (mkB (b :: l.takeWhile isWb)) with
 | some t => (lexS (l.dropWhile isWb)).pre [t]
 | none => .err 30 := by
 simp [lexB, hc]
 rfl
theorem lexB_dg {b : UInt8} {l : List UInt8} (hc : clsB b = 2) : lexB lexS b l = if hdW (l.dropWhile isDb) = true then .err 30 else match numS (b :: l.takeWhile isDb) with
 | some n => (lexS (l.dropWhile isDb)).pre [(3, emp, (n : Int))]
 | none => .err 35 := by
 simp [lexB, hc]
 rfl
theorem aallF (s : ByteArray) (σ : St) : ACalls Tryz.prog 19 [.p (.v (.string s))] σ fun r σ' => σ' = σ ∧ r = allR (allS s) := by
 refine ACalls.pureF (R := fun r => r = allR (allS s)) ?_ rfl σ
 refine acalls_of cx_ok dr_ok Tryz.func19 (by kernel_rfl) rfl (nt := 155) (rs := [.tmp 2, .tmp 3]) rfl rfl ?_
 by_cases hbig : 2048 < s.size
 ·have hdec : decide ((s.size : Int) > 2048) = true := by simp; omega
  have ha : allS s = .err 30 := by simp [allS, hbig]
  rw [ha]
  repeat' first | ((with_reducible first | refine cs ?_ ?_ | refine ws ?_ ?_) <;> intro h <;> try simp only [h]) | simp only [↓wBA, tGa, convA, seval, hdec]
  all_goals refine ret_is (a := _) ?_ rfl rfl
  all_goals simp only [↓wBA, tGa, convA, seval]
  all_goals simp_all [wS, allR, LexO.toks, LexO.code, encT]
 ·have hdec : decide ((s.size : Int) > 2048) = false := by simp; omega
  have ha : allS s = lexS (bl s) := by simp [allS, hbig]
  rw [ha]
  have h8 := bl_len s
  generalize hL : lexS (bl s) = L
  repeat' first | ((with_reducible first | refine cs ?_ ?_ | refine ws ?_ ?_) <;> intro h <;> try simp only [h]) | simp only [↓wBA, tGa, convA, seval, hdec]
  refine awp_loopG (X := { q : List Tok × Nat // q.1.length ≤ q.2 ∧ q.2 ≤ s.size ∧ (lexS ((bl s).drop q.2)).pre q.1 = L }) (fun x => s.size - x.1.2) (fun x => [(4, .nown 0 3 (encT x.1.1)), (5, intV .i64 (x.1.2 : Nat)), (2, .any), (3, .any), (6, .any), (7, .any), (8, .any), (9, .any), (10, .any), (11, .any), (12, .any), (13, .any), (14, .any), (18, .any), (19, .any), (20, .any), (21, .any), (22, .any), (23, .any), (24, .any), (25, .any), (26, .any), (27, .any), (28, .any), (29, .any), (30, .any), (31, .any), (32, .any), (33, .any), (34, .any), (35, .any), (36, .any), (37, .any), (38, .any), (39, .any), (40, .any), (41, .any), (42, .any), (43, .any), (44, .any), (45, .any), (46, .any), (47, .any), (48, .any), (49, .any), (50, .any), (51, .any), (52, .any), (53, .any), (54, .any), (55, .any), (56, .any), (57, .any), (58, .any), (59, .any), (60, .any), (61, .any), (62, .any), (63, .any), (64, .any), (65, .any), (66, .any), (67, .any), (68, .any), (69, .any), (70, .any), (71, .any), (72, .any), (73, .any), (74, .any), (75, .any), (76, .any), (77, .any), (78, .any), (79, .any), (80, .any), (81, .any), (82, .any), (83, .any), (84, .any), (85, .any), (86, .any), (87, .any), (88, .any), (89, .any), (90, .any), (91, .any), (92, .any), (93, .any), (94, .any), (95, .any), (96, .any), (97, .any), (98, .any), (99, .any), (100, .any), (101, .any), (102, .any), (103, .any), (104, .any), (105, .any), (106, .any), (107, .any), (108, .any), (109, .any), (110, .any), (111, .any), (112, .any), (113, .any), (114, .any), (115, .any), (116, .any), (117, .any), (118, .any), (119, .any), (120, .any), (121, .any), (122, .any), (123, .any), (124, .any), (125, .any), (126, .any), (127, .any), (128, .any), (129, .any), (130, .any), (131, .any), (132, .any), (133, .any), (134, .any), (135, .any), (136, .any), (137, .any), (138, .any), (139, .any), (140, .any), (141, .any), (142, .any), (143, .any), (144, .any), (145, .any), (146, .any), (147, .any), (148, .any), (149, .any), (150, .any), (151, .any), (152, .any), (153, .any), (154, .any)]) (fun x => [some (.nright 106 (x.1.1.length * 3))]) (⟨([], 0), Nat.le_refl _, Nat.zero_le _, by rw [LexO.pre_nil]; exact hL⟩) ?_ ?_ ?_
  ·intro x; simp
  ·skip
   simp only [wR, Nat.reduceAdd, Nat.reduceLT, reduceIte]
   simp [wW, encT]
  ·intro x
   simp only [wR, Nat.reduceAdd, Nat.reduceLT, reduceIte]
   obtain ⟨⟨ts, k⟩, hts, hk, hI⟩ := x
   simp only at hts hk hI
   have hen := encT_len ts
   by_cases hlt : k < s.size
   ·have hd1 := dT (i := k) (n := s.size) hlt
    have hi0 := nnI k
    have hic : ((k : Int) < (s.size : Int)) = True := eq_true (by omega)
    obtain ⟨b, hb⟩ := ba_get s k hlt
    have hw1 := wI k (by omega)
    have hlim1 := tL (n := (ts.length + 1) * 40) (by omega)
    have hlim1' := tL (n := (ts.length + 1) * 32) (by omega)
    have hlim2 := lM (n := ts.length + 1) (by omega)
    rw [drop_bl hb, lexS_cons] at hI
    rcases clsB_in b with hc | hc | hc | hc
    ·by_cases h39 : b = 39
     ·subst h39
      have hc39 : ∀ σ, ACalls Tryz.prog 46 [intV .u8 39] σ fun r σ' => σ' = σ ∧ r = intV .i64 (clsB 39) := aclassF 39
      simp only [intV] at hc39
      rw [lexB_39] at hI
      have hQ := aquotedF s k (by omega) hlt
      cases hq : quoS ((bl s).drop (k + 1)) with
      | none =>
        rw [hq] at hQ hI
        simp only [LexO.pre] at hI
        simp only [quoR] at hQ
        repeat' first | ((with_reducible first | refine cs ?_ ?_ | refine ws ?_ ?_) <;> intro h <;> try simp only [h]) | simp only [↓wBA, tGa, convA, seval, hd1, hi0, hic, hb, hc] | ((with_reducible show ACalls _ _ _ _ _); first | refine (hc39 _).eq ?_ | refine (hQ _).eq ?_)
        all_goals rw [← hI]
        all_goals clear hI
        all_goals refine ret_is (a := _) ?_ rfl rfl
        all_goals simp only [↓wBA, tGa, convA, seval]
        all_goals simp_all [wS, allR, LexO.toks, LexO.code, encT, LexO.pre]
      | some q =>
        obtain ⟨hqd, hql⟩ := quo_drop (by omega) hq
        rw [hq] at hQ hI
        simp only [quoR] at hQ
        simp only at hI
        have hms : (mkB q.1).size = q.1.length := by simp [mkB, ByteArray.size]
        have hto : decide (((s.size - q.2.length : Nat) : Int) < 0) = false := by simp
        generalize hk2 : s.size - q.2.length = k2 at *
        by_cases h64 : 64 < q.1.length
        ·have h6 : decide ((q.1.length : Int) > 64) = true := by simp; omega
         rw [if_pos h64] at hI
         repeat' first | ((with_reducible first | refine cs ?_ ?_ | refine ws ?_ ?_) <;> intro h <;> try simp only [h]) | simp only [↓wBA, tGa, convA, seval, hd1, hi0, hic, hb, hc, hms, hto, h6] | ((with_reducible show ACalls _ _ _ _ _); first | refine (hc39 _).eq ?_ | refine (hQ _).eq ?_)
         all_goals rw [← hI]
         all_goals clear hI
         all_goals refine ret_is (a := _) ?_ rfl rfl
         all_goals simp only [↓wBA, tGa, convA, seval]
         all_goals simp_all [wS, allR, LexO.toks, LexO.code, encT, LexO.pre]
        ·have h6 : decide ((q.1.length : Int) > 64) = false := by simp; omega
         rw [if_neg h64, LexO.pre_pre] at hI
         rw [← hqd] at hI
         repeat' first | ((with_reducible first | refine cs ?_ ?_ | refine ws ?_ ?_) <;> intro h <;> try simp only [h]) | simp only [↓wBA, tGa, convA, seval, hd1, hi0, hic, hb, hc, hms, hto, h6, appendA, srcA, hen, hlim1, hlim1', hlim2, toPss, toPs, toP, fillS] | ((with_reducible show ACalls _ _ _ _ _); first | refine (hc39 _).eq ?_ | refine (hQ _).eq ?_)
         refine ⟨⟨(ts ++ [(4, mkB q.1, 0)], k2), by show (ts ++ [(4, mkB q.1, 0)]).length ≤ k2; simp; omega, by show k2 ≤ s.size; omega, hI⟩, by show s.size - (k2) < s.size - k; omega, ?_⟩
         simp only [wR, Nat.reduceAdd, Nat.reduceLT, reduceIte]
         simp [wW, encT, tokC, wz0]
     ·rw [lexB_sg hc h39] at hI
      have hb39 : ((b.toNat : Int) == 39) = false := by
       simp only [beq_eq_false_iff_ne, ne_eq]
       intro h
       exact h39 (UInt8.toNat_inj.1 (by rw [show b.toNat = 39 by omega]; rfl))
      have hsl := slice_i (C := cx) (T := 9) ck_9 s k hk
      have hex : s.extract k s.size = mkB (b :: (bl s).drop (k + 1)) := by rw [ext_bl s k s.size hk (Nat.le_refl _), ← drop_bl hb, List.take_of_length_le (by rw [List.length_drop]; omega)]
      have hxz : (s.extract k s.size).size = s.size - k := ext_size s k s.size (Nat.le_refl _)
      have hS := asignF (s.extract k s.size) (by omega)
      obtain ⟨hg2, hgs⟩ := sgnF_le (s.extract k s.size)
      have hgs := hgs (by omega)
      rw [hxz] at hgs
      rw [← hex] at hI
      generalize sgnF (s.extract k s.size) = n at *
      by_cases hn : n = 0
      ·subst hn
       rw [if_pos rfl] at hI
       have hn0 : (((0 : Nat) : Int) == 0) = true := rfl
       repeat' first | ((with_reducible first | refine cs ?_ ?_ | refine ws ?_ ?_) <;> intro h <;> try simp only [h]) | simp only [↓wBA, tGa, convA, seval, hd1, hi0, hic, hb, hc, hb39, hsl, hn0] | ((with_reducible show ACalls _ _ _ _ _); first | refine (aclassF _ _).eq ?_ | refine (hS _).eq ?_)
       all_goals rw [← hI]
       all_goals clear hI
       all_goals refine ret_is (a := _) ?_ rfl rfl
       all_goals simp only [↓wBA, tGa, convA, seval]
       all_goals simp_all [wS, allR, LexO.toks, LexO.code, encT, LexO.pre]
      ·have hn0 : ((n : Int) == 0) = false := by simp; omega
       rw [if_neg hn, LexO.pre_pre, List.drop_drop, show k + 1 + (n - 1) = k + n by omega] at hI
       have hwn : IntKind.i64.wrap ((k : Int) + (n : Int)) = ((k + n : Nat) : Int) := by rw [wrap_i64 (by omega) (by omega)]; simp
       have hsl2 := slice_ij (C := cx) (T := 9) ck_9 s k (k + n) (by omega) (by omega)
       have hx2 : s.extract k (k + n) = mkB ((b :: (bl s).drop (k + 1)).take n) := by rw [ext_bl s k (k + n) (by omega) (by omega), ← drop_bl hb, show k + n - k = n by omega]
       rw [← hx2] at hI
       repeat' first | ((with_reducible first | refine cs ?_ ?_ | refine ws ?_ ?_) <;> intro h <;> try simp only [h]) | simp only [↓wBA, tGa, convA, seval, hd1, hi0, hic, hb, hc, hb39, hsl, hn0, hwn, hsl2, appendA, srcA, hen, hlim1, hlim1', hlim2, toPss, toPs, toP, fillS] | ((with_reducible show ACalls _ _ _ _ _); first | refine (aclassF _ _).eq ?_ | refine (hS _).eq ?_)
       refine ⟨⟨(ts ++ [(5, s.extract k (k + n), 0)], k + n), by show (ts ++ [(5, s.extract k (k + n), 0)]).length ≤ k + n; simp; omega, by show k + n ≤ s.size; omega, hI⟩, by show s.size - (k + n) < s.size - k; omega, ?_⟩
       simp only [wR, Nat.reduceAdd, Nat.reduceLT, reduceIte]
       simp [wW, encT, tokC, wz0]
    ·rw [lexB_wd hc] at hI
     have hpb : isWb b = true := by simp [isWb, hc]
     repeat' first | ((with_reducible first | refine cs ?_ ?_ | refine ws ?_ ?_) <;> intro h <;> try simp only [h]) | simp only [↓wBA, tGa, convA, seval, hd1, hi0, hic, hb, hc] | ((with_reducible show ACalls _ _ _ _ _); refine (aclassF _ _).eq ?_)
     refine awp_loopG (X := { j : Nat // k ≤ j ∧ j ≤ s.size ∧ AllP isWb s k j }) (fun x => s.size - x.1) (fun x => [(5, intV .i64 (x.1 : Nat)), (54, .any), (55, .any), (56, .any), (57, .any), (58, .any), (59, .any), (60, .any), (61, .any), (62, .any), (63, .any), (64, .any), (65, .any), (66, .any), (67, .any), (68, .any), (69, .any), (70, .any), (71, .any), (72, .any), (73, .any)]) (fun x => [some (.nright 106 (ts.length * 3))]) (⟨k, Nat.le_refl _, hk, fun i h1 h2 => by omega⟩) ?_ ?_ ?_
     ·intro x; simp
     ·skip
      simp only [wR, Nat.reduceAdd, Nat.reduceLT, reduceIte]
      simp [wW]
     ·intro x
      simp only [wR, Nat.reduceAdd, Nat.reduceLT, reduceIte]
      obtain ⟨j, hj1, hj2, hj3⟩ := x
      have hj4 := hj1
      have hwj := wI j (by omega)
      have hj0 := nnI j
      have hsl := slice_ij (C := cx) (T := 9) ck_9 s k j hj1 hj2
      have hxz : (s.extract k j).size = j - k := ext_size s k j hj2
      by_cases hjl : j < s.size
      ·have hd2 := dT (i := j) (n := s.size) hjl
       have hjc : ((j : Int) < (s.size : Int)) = True := eq_true (by omega)
       obtain ⟨b2, hb2⟩ := ba_get s j hjl
       have hfb : ∀ b, s[j]? = some b → b = b2 := fun b h => by rw [hb2] at h; exact (Option.some.inj h).symm
       rcases clsB_in b2 with h2 | h2 | h2 | h2
       ·have hp2 : isWb b2 = false := by simp [isWb, h2]
        have hend : ∀ b, s[j]? = some b → isWb b = false := fun b h => by rw [hfb b h]; exact hp2
        obtain ⟨ht1, ht2, hkj⟩ := tw_s hb hpb hj1 hj2 hj3 hend
        rw [ht1, ht2] at hI
        have hW := awordF (s.extract k j) (by omega)
        cases hw : wordF (s.extract k j) with
        | none =>
          rw [hw] at hI hW
          simp only [LexO.pre] at hI
          simp only [wordR, tokA] at hW
          repeat' first | ((with_reducible first | refine cs ?_ ?_ | refine ws ?_ ?_) <;> intro h <;> try simp only [h]) | simp only [↓wBA, tGa, convA, seval, hd2, hj0, hjc, hb2, h2, hsl] | ((with_reducible show ACalls _ _ _ _ _); first | refine (aclassF _ _).eq ?_ | refine (hW _).eq ?_)
          all_goals rw [← hI]
          all_goals clear hI
          all_goals refine ret_is (a := _) ?_ rfl rfl
          all_goals simp only [↓wBA, tGa, convA, seval]
          all_goals simp_all [wS, allR, LexO.toks, LexO.code, encT, LexO.pre]
        | some t =>
          have ht0 := wordF_num hw
          obtain ⟨k', t', n'⟩ := t
          simp only at ht0
          subst ht0
          rw [hw] at hI hW
          simp only [LexO.pre_pre] at hI
          simp only [wordR, tokA] at hW
          repeat' first | ((with_reducible first | refine cs ?_ ?_ | refine ws ?_ ?_) <;> intro h <;> try simp only [h]) | simp only [↓wBA, tGa, convA, seval, hd2, hj0, hjc, hb2, h2, hsl, appendA, srcA, hen, hlim1, hlim1', hlim2, toPss, toPs, toP, fillS] | ((with_reducible show ACalls _ _ _ _ _); first | refine (aclassF _ _).eq ?_ | refine (hW _).eq ?_)
          refine ⟨⟨(ts ++ [(k', t', 0)], j), by show (ts ++ [(k', t', 0)]).length ≤ j; simp; omega, by show j ≤ s.size; omega, hI⟩, by show s.size - (j) < s.size - k; omega, ?_⟩
          simp only [wR, Nat.reduceAdd, Nat.reduceLT, reduceIte]
          simp [wW, encT, tokC, wz0]
       ·have hp2 : isWb b2 = true := by simp [isWb, h2]
        repeat' first | ((with_reducible first | refine cs ?_ ?_ | refine ws ?_ ?_) <;> intro h <;> try simp only [h]) | simp only [↓wBA, tGa, convA, seval, hd2, hj0, hjc, hb2, h2, hwj] | ((with_reducible show ACalls _ _ _ _ _); refine (aclassF _ _).eq ?_)
        refine ⟨⟨j + 1, by omega, by omega, hj3.one hb2 hp2⟩, by show s.size - (j + 1) < s.size - j; omega, ?_⟩
        simp only [wR, Nat.reduceAdd, Nat.reduceLT, reduceIte]
        simp [wW]
       ·have hp2 : isWb b2 = true := by simp [isWb, h2]
        repeat' first | ((with_reducible first | refine cs ?_ ?_ | refine ws ?_ ?_) <;> intro h <;> try simp only [h]) | simp only [↓wBA, tGa, convA, seval, hd2, hj0, hjc, hb2, h2, hwj] | ((with_reducible show ACalls _ _ _ _ _); refine (aclassF _ _).eq ?_)
        refine ⟨⟨j + 1, by omega, by omega, hj3.one hb2 hp2⟩, by show s.size - (j + 1) < s.size - j; omega, ?_⟩
        simp only [wR, Nat.reduceAdd, Nat.reduceLT, reduceIte]
        simp [wW]
       ·have hp2 : isWb b2 = false := by simp [isWb, h2]
        have hend : ∀ b, s[j]? = some b → isWb b = false := fun b h => by rw [hfb b h]; exact hp2
        obtain ⟨ht1, ht2, hkj⟩ := tw_s hb hpb hj1 hj2 hj3 hend
        rw [ht1, ht2] at hI
        have hW := awordF (s.extract k j) (by omega)
        cases hw : wordF (s.extract k j) with
        | none =>
          rw [hw] at hI hW
          simp only [LexO.pre] at hI
          simp only [wordR, tokA] at hW
          repeat' first | ((with_reducible first | refine cs ?_ ?_ | refine ws ?_ ?_) <;> intro h <;> try simp only [h]) | simp only [↓wBA, tGa, convA, seval, hd2, hj0, hjc, hb2, h2, hsl] | ((with_reducible show ACalls _ _ _ _ _); first | refine (aclassF _ _).eq ?_ | refine (hW _).eq ?_)
          all_goals rw [← hI]
          all_goals clear hI
          all_goals refine ret_is (a := _) ?_ rfl rfl
          all_goals simp only [↓wBA, tGa, convA, seval]
          all_goals simp_all [wS, allR, LexO.toks, LexO.code, encT, LexO.pre]
        | some t =>
          have ht0 := wordF_num hw
          obtain ⟨k', t', n'⟩ := t
          simp only at ht0
          subst ht0
          rw [hw] at hI hW
          simp only [LexO.pre_pre] at hI
          simp only [wordR, tokA] at hW
          repeat' first | ((with_reducible first | refine cs ?_ ?_ | refine ws ?_ ?_) <;> intro h <;> try simp only [h]) | simp only [↓wBA, tGa, convA, seval, hd2, hj0, hjc, hb2, h2, hsl, appendA, srcA, hen, hlim1, hlim1', hlim2, toPss, toPs, toP, fillS] | ((with_reducible show ACalls _ _ _ _ _); first | refine (aclassF _ _).eq ?_ | refine (hW _).eq ?_)
          refine ⟨⟨(ts ++ [(k', t', 0)], j), by show (ts ++ [(k', t', 0)]).length ≤ j; simp; omega, by show j ≤ s.size; omega, hI⟩, by show s.size - (j) < s.size - k; omega, ?_⟩
          simp only [wR, Nat.reduceAdd, Nat.reduceLT, reduceIte]
          simp [wW, encT, tokC, wz0]
      ·have hd2 := dF (i := j) (n := s.size) (by omega)
       have hend : ∀ b, s[j]? = some b → isWb b = false := fun b h => by rw [← bl_get, List.getElem?_eq_none (by omega)] at h; simp at h
       obtain ⟨ht1, ht2, hkj⟩ := tw_s hb hpb hj1 hj2 hj3 hend
       rw [ht1, ht2] at hI
       have hW := awordF (s.extract k j) (by omega)
       cases hw : wordF (s.extract k j) with
       | none =>
         rw [hw] at hI hW
         simp only [LexO.pre] at hI
         simp only [wordR, tokA] at hW
         repeat' first | ((with_reducible first | refine cs ?_ ?_ | refine ws ?_ ?_) <;> intro h <;> try simp only [h]) | simp only [↓wBA, tGa, convA, seval, hd2, hsl] | ((with_reducible show ACalls _ _ _ _ _); first | refine (aclassF _ _).eq ?_ | refine (hW _).eq ?_)
         all_goals rw [← hI]
         all_goals clear hI
         all_goals refine ret_is (a := _) ?_ rfl rfl
         all_goals simp only [↓wBA, tGa, convA, seval]
         all_goals simp_all [wS, allR, LexO.toks, LexO.code, encT, LexO.pre]
       | some t =>
         have ht0 := wordF_num hw
         obtain ⟨k', t', n'⟩ := t
         simp only at ht0
         subst ht0
         rw [hw] at hI hW
         simp only [LexO.pre_pre] at hI
         simp only [wordR, tokA] at hW
         repeat' first | ((with_reducible first | refine cs ?_ ?_ | refine ws ?_ ?_) <;> intro h <;> try simp only [h]) | simp only [↓wBA, tGa, convA, seval, hd2, hsl, appendA, srcA, hen, hlim1, hlim1', hlim2, toPss, toPs, toP, fillS] | ((with_reducible show ACalls _ _ _ _ _); first | refine (aclassF _ _).eq ?_ | refine (hW _).eq ?_)
         refine ⟨⟨(ts ++ [(k', t', 0)], j), by show (ts ++ [(k', t', 0)]).length ≤ j; simp; omega, by show j ≤ s.size; omega, hI⟩, by show s.size - (j) < s.size - k; omega, ?_⟩
         simp only [wR, Nat.reduceAdd, Nat.reduceLT, reduceIte]
         simp [wW, encT, tokC, wz0]
    ·rw [lexB_dg hc] at hI
     have hpb : isDb b = true := by simp [isDb, hc]
     repeat' first | ((with_reducible first | refine cs ?_ ?_ | refine ws ?_ ?_) <;> intro h <;> try simp only [h]) | simp only [↓wBA, tGa, convA, seval, hd1, hi0, hic, hb, hc] | ((with_reducible show ACalls _ _ _ _ _); refine (aclassF _ _).eq ?_)
     refine awp_loopG (X := { j : Nat // k ≤ j ∧ j ≤ s.size ∧ AllP isDb s k j }) (fun x => s.size - x.1) (fun x => [(5, intV .i64 (x.1 : Nat)), (92, .any), (93, .any), (94, .any), (95, .any), (96, .any), (97, .any), (98, .any), (99, .any), (100, .any), (101, .any), (102, .any), (103, .any), (104, .any)]) (fun x => [some (.nright 106 (ts.length * 3))]) (⟨k, Nat.le_refl _, hk, fun i h1 h2 => by omega⟩) ?_ ?_ ?_
     ·intro x; simp
     ·skip
      simp only [wR, Nat.reduceAdd, Nat.reduceLT, reduceIte]
      simp [wW]
     ·intro x
      simp only [wR, Nat.reduceAdd, Nat.reduceLT, reduceIte]
      obtain ⟨j, hj1, hj2, hj3⟩ := x
      have hj4 := hj1
      have hwj := wI j (by omega)
      have hj0 := nnI j
      have hsl := slice_ij (C := cx) (T := 9) ck_9 s k j hj1 hj2
      have hxz : (s.extract k j).size = j - k := ext_size s k j hj2
      by_cases hjl : j < s.size
      ·have hd2 := dT (i := j) (n := s.size) hjl
       have hjc : ((j : Int) < (s.size : Int)) = True := eq_true (by omega)
       obtain ⟨b2, hb2⟩ := ba_get s j hjl
       have hfb : ∀ b, s[j]? = some b → b = b2 := fun b h => by rw [hb2] at h; exact (Option.some.inj h).symm
       rcases clsB_in b2 with h2 | h2 | h2 | h2
       ·have hp2 : isDb b2 = false := by simp [isDb, h2]
        have hend : ∀ b, s[j]? = some b → isDb b = false := fun b h => by rw [hfb b h]; exact hp2
        obtain ⟨ht1, ht2, hkj⟩ := tw_s hb hpb hj1 hj2 hj3 hend
        rw [ht2] at hI
        have ht4 : b :: ((bl s).drop (k + 1)).takeWhile isDb = bl (s.extract k j) := by rw [← ht1, bl_mk]
        rw [ht4] at hI
        have hhd : ¬ hdW ((bl s).drop j) = true := by rw [drop_bl hb2]; simp [hdW, h2]
        rw [if_neg hhd] at hI
        have hN := anumF (s.extract k j) (by omega) (tw_dig hj1 hj2 hj3)
        cases hn : numS (bl (s.extract k j)) with
        | none =>
          rw [hn] at hI hN
          simp only [LexO.pre] at hI
          simp only [numR] at hN
          repeat' first | ((with_reducible first | refine cs ?_ ?_ | refine ws ?_ ?_) <;> intro h <;> try simp only [h]) | simp only [↓wBA, tGa, convA, seval, hd2, hj0, hjc, hb2, h2, hsl] | ((with_reducible show ACalls _ _ _ _ _); first | refine (aclassF _ _).eq ?_ | refine (hN _).eq ?_)
          all_goals rw [← hI]
          all_goals clear hI
          all_goals refine ret_is (a := _) ?_ rfl rfl
          all_goals simp only [↓wBA, tGa, convA, seval]
          all_goals simp_all [wS, allR, LexO.toks, LexO.code, encT, LexO.pre]
        | some n =>
          have hnl := numS_le _ 0 n (by omega) hn
          have hnw : IntKind.i64.wrap (n : Int) = (n : Int) := wrap_i64 (by omega) (by omega)
          rw [hn] at hI hN
          simp only [LexO.pre_pre] at hI
          simp only [numR] at hN
          repeat' first | ((with_reducible first | refine cs ?_ ?_ | refine ws ?_ ?_) <;> intro h <;> try simp only [h]) | simp only [↓wBA, tGa, convA, seval, hd2, hj0, hjc, hb2, h2, hsl, appendA, srcA, hen, hlim1, hlim1', hlim2, toPss, toPs, toP, fillS] | ((with_reducible show ACalls _ _ _ _ _); first | refine (aclassF _ _).eq ?_ | refine (hN _).eq ?_)
          refine ⟨⟨(ts ++ [(3, emp, (n : Int))], j), by show (ts ++ [(3, emp, (n : Int))]).length ≤ j; simp; omega, hj2, hI⟩, by show s.size - j < s.size - k; omega, ?_⟩
          simp only [wR, Nat.reduceAdd, Nat.reduceLT, reduceIte]
          simp [wW, encT, tokC, hnw, emp]
       ·have hp2 : isDb b2 = false := by simp [isDb, h2]
        have hend : ∀ b, s[j]? = some b → isDb b = false := fun b h => by rw [hfb b h]; exact hp2
        obtain ⟨ht1, ht2, hkj⟩ := tw_s hb hpb hj1 hj2 hj3 hend
        rw [ht2] at hI
        have ht4 : b :: ((bl s).drop (k + 1)).takeWhile isDb = bl (s.extract k j) := by rw [← ht1, bl_mk]
        rw [ht4] at hI
        have hhd : hdW ((bl s).drop j) = true := by rw [drop_bl hb2]; simp [hdW, h2]
        rw [if_pos hhd] at hI
        simp only [LexO.pre] at hI
        repeat' first | ((with_reducible first | refine cs ?_ ?_ | refine ws ?_ ?_) <;> intro h <;> try simp only [h]) | simp only [↓wBA, tGa, convA, seval, hd2, hj0, hjc, hb2, h2] | ((with_reducible show ACalls _ _ _ _ _); refine (aclassF _ _).eq ?_)
        all_goals rw [← hI]
        all_goals clear hI
        all_goals refine ret_is (a := _) ?_ rfl rfl
        all_goals simp only [↓wBA, tGa, convA, seval]
        all_goals simp_all [wS, allR, LexO.toks, LexO.code, encT, LexO.pre]
       ·have hp2 : isDb b2 = true := by simp [isDb, h2]
        repeat' first | ((with_reducible first | refine cs ?_ ?_ | refine ws ?_ ?_) <;> intro h <;> try simp only [h]) | simp only [↓wBA, tGa, convA, seval, hd2, hj0, hjc, hb2, h2, hwj] | ((with_reducible show ACalls _ _ _ _ _); refine (aclassF _ _).eq ?_)
        refine ⟨⟨j + 1, by omega, by omega, hj3.one hb2 hp2⟩, by show s.size - (j + 1) < s.size - j; omega, ?_⟩
        simp only [wR, Nat.reduceAdd, Nat.reduceLT, reduceIte]
        simp [wW]
       ·have hp2 : isDb b2 = false := by simp [isDb, h2]
        have hend : ∀ b, s[j]? = some b → isDb b = false := fun b h => by rw [hfb b h]; exact hp2
        obtain ⟨ht1, ht2, hkj⟩ := tw_s hb hpb hj1 hj2 hj3 hend
        rw [ht2] at hI
        have ht4 : b :: ((bl s).drop (k + 1)).takeWhile isDb = bl (s.extract k j) := by rw [← ht1, bl_mk]
        rw [ht4] at hI
        have hhd : ¬ hdW ((bl s).drop j) = true := by rw [drop_bl hb2]; simp [hdW, h2]
        rw [if_neg hhd] at hI
        have hN := anumF (s.extract k j) (by omega) (tw_dig hj1 hj2 hj3)
        cases hn : numS (bl (s.extract k j)) with
        | none =>
          rw [hn] at hI hN
          simp only [LexO.pre] at hI
          simp only [numR] at hN
          repeat' first | ((with_reducible first | refine cs ?_ ?_ | refine ws ?_ ?_) <;> intro h <;> try simp only [h]) | simp only [↓wBA, tGa, convA, seval, hd2, hj0, hjc, hb2, h2, hsl] | ((with_reducible show ACalls _ _ _ _ _); first | refine (aclassF _ _).eq ?_ | refine (hN _).eq ?_)
          all_goals rw [← hI]
          all_goals clear hI
          all_goals refine ret_is (a := _) ?_ rfl rfl
          all_goals simp only [↓wBA, tGa, convA, seval]
          all_goals simp_all [wS, allR, LexO.toks, LexO.code, encT, LexO.pre]
        | some n =>
          have hnl := numS_le _ 0 n (by omega) hn
          have hnw : IntKind.i64.wrap (n : Int) = (n : Int) := wrap_i64 (by omega) (by omega)
          rw [hn] at hI hN
          simp only [LexO.pre_pre] at hI
          simp only [numR] at hN
          repeat' first | ((with_reducible first | refine cs ?_ ?_ | refine ws ?_ ?_) <;> intro h <;> try simp only [h]) | simp only [↓wBA, tGa, convA, seval, hd2, hj0, hjc, hb2, h2, hsl, appendA, srcA, hen, hlim1, hlim1', hlim2, toPss, toPs, toP, fillS] | ((with_reducible show ACalls _ _ _ _ _); first | refine (aclassF _ _).eq ?_ | refine (hN _).eq ?_)
          refine ⟨⟨(ts ++ [(3, emp, (n : Int))], j), by show (ts ++ [(3, emp, (n : Int))]).length ≤ j; simp; omega, hj2, hI⟩, by show s.size - j < s.size - k; omega, ?_⟩
          simp only [wR, Nat.reduceAdd, Nat.reduceLT, reduceIte]
          simp [wW, encT, tokC, hnw, emp]
      ·have hd2 := dF (i := j) (n := s.size) (by omega)
       have hend : ∀ b, s[j]? = some b → isDb b = false := fun b h => by rw [← bl_get, List.getElem?_eq_none (by omega)] at h; simp at h
       obtain ⟨ht1, ht2, hkj⟩ := tw_s hb hpb hj1 hj2 hj3 hend
       rw [ht2] at hI
       have ht4 : b :: ((bl s).drop (k + 1)).takeWhile isDb = bl (s.extract k j) := by rw [← ht1, bl_mk]
       rw [ht4] at hI
       have hhd : ¬ hdW ((bl s).drop j) = true := by rw [List.drop_of_length_le (by omega)]; simp [hdW]
       rw [if_neg hhd] at hI
       have hN := anumF (s.extract k j) (by omega) (tw_dig hj1 hj2 hj3)
       cases hn : numS (bl (s.extract k j)) with
       | none =>
         rw [hn] at hI hN
         simp only [LexO.pre] at hI
         simp only [numR] at hN
         repeat' first | ((with_reducible first | refine cs ?_ ?_ | refine ws ?_ ?_) <;> intro h <;> try simp only [h]) | simp only [↓wBA, tGa, convA, seval, hd2, hsl] | ((with_reducible show ACalls _ _ _ _ _); first | refine (aclassF _ _).eq ?_ | refine (hN _).eq ?_)
         all_goals rw [← hI]
         all_goals clear hI
         all_goals refine ret_is (a := _) ?_ rfl rfl
         all_goals simp only [↓wBA, tGa, convA, seval]
         all_goals simp_all [wS, allR, LexO.toks, LexO.code, encT, LexO.pre]
       | some n =>
         have hnl := numS_le _ 0 n (by omega) hn
         have hnw : IntKind.i64.wrap (n : Int) = (n : Int) := wrap_i64 (by omega) (by omega)
         rw [hn] at hI hN
         simp only [LexO.pre_pre] at hI
         simp only [numR] at hN
         repeat' first | ((with_reducible first | refine cs ?_ ?_ | refine ws ?_ ?_) <;> intro h <;> try simp only [h]) | simp only [↓wBA, tGa, convA, seval, hd2, hsl, appendA, srcA, hen, hlim1, hlim1', hlim2, toPss, toPs, toP, fillS] | ((with_reducible show ACalls _ _ _ _ _); first | refine (aclassF _ _).eq ?_ | refine (hN _).eq ?_)
         refine ⟨⟨(ts ++ [(3, emp, (n : Int))], j), by show (ts ++ [(3, emp, (n : Int))]).length ≤ j; simp; omega, hj2, hI⟩, by show s.size - j < s.size - k; omega, ?_⟩
         simp only [wR, Nat.reduceAdd, Nat.reduceLT, reduceIte]
         simp [wW, encT, tokC, hnw, emp]
    ·rw [lexB_sp hc] at hI
     repeat' first | ((with_reducible first | refine cs ?_ ?_ | refine ws ?_ ?_) <;> intro h <;> try simp only [h]) | simp only [↓wBA, tGa, convA, seval, hd1, hi0, hic, hb, hc, hw1] | ((with_reducible show ACalls _ _ _ _ _); refine (aclassF _ _).eq ?_)
     refine ⟨⟨(ts, k + 1), by show ts.length ≤ k + 1; omega, by show k + 1 ≤ s.size; omega, hI⟩, by show s.size - (k + 1) < s.size - k; omega, ?_⟩
     simp only [wR, Nat.reduceAdd, Nat.reduceLT, reduceIte]
     simp [wW]
   ·have hd1 := dF (i := k) (n := s.size) (by omega)
    have hz : (bl s).drop k = [] := List.drop_of_length_le (by omega)
    rw [hz, lexS_nil] at hI
    simp only [LexO.pre, List.append_nil] at hI
    repeat' first | ((with_reducible first | refine cs ?_ ?_ | refine ws ?_ ?_) <;> intro h <;> try simp only [h]) | simp only [↓wBA, tGa, convA, seval, hd1]
    rw [← hI]
    exact ret_own (R := fun r => r = allR (.ok ts)) rfl rfl rfl rfl
end Go.Proofs.YtcnkmandddfdmaaGreatDoor
