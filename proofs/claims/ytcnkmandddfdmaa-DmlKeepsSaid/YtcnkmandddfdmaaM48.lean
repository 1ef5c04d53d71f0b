/- DmlKeeps. -/
import Derived.Test.YtcnkmandddfdmaaM43
import Derived.Test.YtcnkmandddfdmaaM44
import Derived.Test.YtcnkmandddfdmaaM45
import Derived.Test.YtcnkmandddfdmaaM47
set_option linter.unusedSimpArgs false
set_option linter.unusedVariables false
set_option linter.defProp false
set_option maxRecDepth 100000
set_option maxHeartbeats 32000000
namespace Go.Proofs.Ytcnkmandddfdmaa
open Go.RowKit
def pl4_13Kp : Plan := (.det 0 (.det 1 (.det 2 (.det 3 (.det 4 (.det 5 (.det 6 (.det 7 (.det 8 (.fin 9 (.det 10 (.det 11 (.det 12 (.det 13 (.det 14 .done)))))))))))))))
def pl4_17Kp : Plan := (.det 0 (.det 1 (.det 2 (.det 3 (.det 4 (.det 5 (.det 6 (.det 7 (.det 8 (.det 9 (.det 10 (.fin 11 (.det 12 (.det 13 (.det 14 (.det 15 (.det 16 (.det 17 (.det 18 (.det 19 (.det 20 (.det 21 (.det 22 (.det 23 (.fin 24 (.det 25 (.det 26 .done)))))))))))))))))))))))))))
def pl4_30Kp : Plan := (.det 0 (.det 1 (.det 2 (.det 3 (.det 4 (.det 5 (.det 6 (.det 7 (.det 8 (.det 9 (.fin 10 (.det 11 (.det 12 (.det 13 (.det 14 (.det 15 (.det 16 (.det 17 (.det 18 (.det 19 (.det 20 (.det 21 (.det 22 (.det 23 (.det 24 .done)))))))))))))))))))))))))
def pl4_35Kp : Plan := (.det 0 (.det 1 (.det 2 (.det 3 (.det 4 (.det 5 (.act 6 (.det 7 (.fin 8 .done)))))))))
def pl4_36Kp : Plan := (.det 0 (.det 1 (.det 2 (.det 3 (.det 4 (.det 5 (.act 6 (.det 7 (.fin 8 .done)))))))))
def tKp := aa wX <| aa wbu <| aa T2 <| aa T3 <| aa T4 <| aa T22 <| aa T24 <| aa T25 <| aa T27 <| aa T29 <| aa T33 <| aa T36 <| aa T39 <| aa T40 <| aa T46 <| aa T48 T50
def updOk (s : Sm) (nm : ByteArray) (cols : List Tc) (rows : List (List Va)) : Prop := ∀ σ, ACalls Try.prog 7 [.agg ((smC s).map .p), tbA nm cols, .p (.sl 1 (enVV rows))] σ fun r st => st = σ ∧ r = .tup [.p (.sl 3 (enW nm (updS s nm cols rows).1)), intV .i64 (updS s nm cols rows).2]
theorem upd_ok (s : Sm) (hs1 : s.kind = 5 → s.names.length = s.sets.length ∧ s.names ≠ []) (hs2 : Bd s) (nm : ByteArray) (cols : List Tc) (hcl : cols.length ≤ 4398046511104) (rows : List (List Va)) (h500 : rows.length ≤ 500) (hrc : ∀ r ∈ rows, r.length = cols.length) : updOk s nm cols rows := fun σ => by
 have h1 := hs2.names
 have h2 := hs2.wh.1
 exact aupd s (fun h => (hs1 h).1) (by omega) (by omega) nm cols hcl rows ⟨by omega, fun r hr => by rw [hrc r hr]; exact hcl⟩ (by omega) hrc σ
theorem goneC (s : Sm) : nleC (((((smC s).map AV.p).set 0 (.p (.v (.int .i64 6)))).set 4 nilA).set 12 nilA) ((smC (goneS s)).map .p) := by
 obtain ⟨kind, tb, sn, scols, names, srows, items, src, wh, group, order, limit, sets, hash⟩ := s
 simp [smC, goneS, nleC, leaf, nilA, nilSl, enS, exL]
theorem del_ok (s : Sm) (h5 : s.kind = 5) (hs2 : Bd s) (nm : ByteArray) (cols : List Tc) (hcl : cols.length ≤ 4398046511104) (rows : List (List Va)) (h500 : rows.length ≤ 500) (hrc : ∀ r ∈ rows, r.length = cols.length) (h0 : (hitS s nm cols rows).2 = 0) (σ : St) : ACalls Try.prog 10 [.agg (((((smC s).map AV.p).set 0 (.p (.v (.int .i64 6)))).set 4 nilA).set 12 nilA), tbA nm cols, .p (.sl 1 (enVV rows))] σ fun r st => st = σ ∧ r = .tup [.p (.sl 3 (enW nm ((hitS s nm cols rows).1.map fun r => (r, none)))), intV .i64 0] := by
 have h2 := hs2.wh.1
 have := adelete (goneS s) (by show s.wh.length ≤ _; omega) nm cols hcl rows ⟨by omega, fun r hr => by rw [hrc r hr]; exact hcl⟩ (by omega) σ
 rw [delS_gone h5 h0] at this
 exact ACalls.aggW (goneC s) this
theorem slice_ms {C : Ctx} {T : TypeId} {E es eb t n l h : Nat} {ez : List Value} (hT : C.kind T = some (.slice E es eb ez)) (h1 : l < h) (h2 : h ≤ n) : sliceA C T (.ms t es 0 n) (some (.p (.v (.int .i64 (l : Int))))) (some (.p (.v (.int .i64 (h : Int))))) = some (.ms t es l (h - l)) := by
 unfold sliceA
 rw [hT]
 simp only [elemsA, boundA, intA]
 rcases Nat.eq_zero_or_pos l with h0 | h0
 ·subst h0
  simp
  omega
 ·split
  all_goals first | (exfalso; simp_all; done) | skip
  ·rename_i _ h3 h4
   simp only [AV.ms.injEq, Option.some.injEq] at h3 h4
   obtain ⟨rfl, rfl, rfl, rfl⟩ := h3
   subst h4
   simp
   omega
  ·rename_i _ _ h3 _
   exact (h3 _ _ _ _ _ rfl rfl).elim
theorem awp_loopH {P : Program} {C : Ctx} {fr : List AV} {σ : St} {Q : Exit → List AV → St → Prop} {c : Code} (n : Nat) (D : Nat → List (Nat × AV)) (T : Nat → St) (hl : ∀ i, i ≤ n → σ.length ≤ (T i).length) (h2 : WeakE fr σ (setsF fr (D 0)) (T 0))
 (h3 : ∀ i, (hi : i ≤ n) → AWp P C (aDraw P C) c (setsF fr (D i)) (T i) (roundA (fun x : { i : Nat // i ≤ n } => (setsF fr (D x.1), T x.1)) (fun x => n - x.1) ⟨i, hi⟩ Q)) : AWp P C (aDraw P C) (.loop c) fr σ Q :=
 awp_loop' (X := { i : Nat // i ≤ n }) (fun x => (setsF fr (D x.1), T x.1)) (fun x => n - x.1) ⟨0, by omega⟩ (fun x => hl x.1 x.2) h2 fun ⟨i, hi⟩ => h3 i hi
theorem set_same {s : St} {t : Nat} {ob : Ob} (h : s[t]? = some (some ob)) : (s.set t none).set t (some ob) = s := by
 rw [List.set_set]
 apply List.ext_getElem?
 intro j
 rw [List.getElem?_set]
 split
 ·rename_i e
  subst e
  rw [if_pos (List.getElem?_eq_some_iff.1 h).1, h]
 ·rfl
theorem asameR {σ : St} {t : Nat} (q r : List Va) (hq : q.length ≤ 4398046511104) (hr : r.length ≤ 4398046511104) (h0 : 0 < r.length) (h : σ.at t (.row 3 (muR r))) : ACalls Try.prog 9 [.p (.sl 3 (enV q)), .ms t 3 0 r.length] σ fun a s => s = σ ∧ a = boolV (sameV q r) := by
 cases r with
 | nil => simp at h0
 | cons v l => exact ACalls.borrow 2 (args' := [.p (.sl 3 (enV q)), .p (.sl 3 (enV (v :: l)))]) (R := fun a => a = boolV (sameV q (v :: l))) ((asameV q (v :: l) hq hr []).mono (by rintro a s ⟨_, rfl⟩; exact ⟨rfl, rfl⟩)) ⟨.inl ⟨_, rd_p, rfl⟩, .inl ⟨_, rd_row h, rfl⟩, trivial⟩
theorem asameK {σ : St} {t k : Nat} {nm : ByteArray} {cells : List (List AV)} {to tv : Nat} {x y : List Va} (hx : 0 < x.length) (hxl : x.length ≤ 4398046511104) (hy : y.length = x.length) (h1 : σ.at t (.row 3 cells)) (hk : cells[k]? = some [.p (.v (.string nm)), .ms to 3 0 x.length, .ms tv 3 0 x.length]) (h2 : σ.at to (.row 3 (muR x))) (h3 : σ.at tv (.row 3 (muR y))) :
 ACalls Try.prog 8 [.p (.sl 3 (enW nm [((x, some y) : Wr)])), .ms t 3 k 1] σ fun a s => s = σ ∧ a = boolV true := by
 have hnn : nnW [((x, some y) : Wr)] := fun w hw => by
  rw [List.mem_singleton] at hw; subst hw
  exact ⟨y, rfl, fun e => by rw [e] at hy; simp at hy; omega, by omega, hxl⟩
 have hS := asameW nm [((x, some y) : Wr)] [((x, some y) : Wr)] (by simp) (by simp) hnn hnn []
 rw [decide_eq_true rfl] at hS
 refine ACalls.borrow 2 (args' := [.p (.sl 3 (enW nm [((x, some y) : Wr)])), .p (.sl 3 (enW nm [((x, some y) : Wr)]))]) (R := fun a => a = boolV true) (hS.mono (by rintro a s ⟨_, rfl⟩; exact ⟨rfl, rfl⟩)) ⟨.inl ⟨_, rd_p, rfl⟩, .inl ⟨_, .inr ⟨t, 3, k, 1, cells, enW nm [((x, some y) : Wr)], rfl, rfl, h1, (List.getElem?_eq_some_iff.1 hk).1, rfl, fun j c hj => ?_⟩, rfl⟩, trivial⟩
 have hj0 : j = 0 := by have := (List.getElem?_eq_some_iff.1 hj).1; simp [enW] at this; exact this
 subst hj0
 have hc : c = [.v (.string nm), .sl 3 (enV x), .sl 3 (enV y)] := by simpa [enW, wrC] using hj.symm
 subst hc
 refine ⟨_, hk, rfl, fun q z hz => ?_⟩
 cases x with
 | nil => simp at hx
 | cons v l =>
   cases y with
   | nil => simp at hy
   | cons u m =>
     match q, hz with
     | 0, hz => simp at hz; subst hz; exact ⟨_, rfl, rd_p⟩
     | 1, hz => simp at hz; subst hz; exact ⟨_, rfl, rd_row h2⟩
     | 2, hz => simp at hz; subst hz; rw [← hy]; exact ⟨_, rfl, rd_row h3⟩
     | q + 3, hz => simp at hz
theorem akeeps (txt nm : ByteArray) (cols : List Tc) (rows : List (List Va)) (hcl : cols.length ≤ 4398046511104) (hrl : rows.length ≤ 140737488351232) (σ : St) : ACalls Try.prog 4 [.agg [.p (.v (.string txt)), .p (.v (.string nm)), .p (.sl 4 (enTc cols)), .p (.sl 1 (enVV rows))]] σ fun r s => s = σ ∧ r = boolV true := by
 refine ACalls.pureF (R := fun r => r = boolV true) ?_ rfl σ
 refine acalls_of cx_ok dr_ok Try.func4 (by kernel_rfl) rfl (nt := 203) (rs := [.tmp 2]) rfl rfl ?_
 simp only [↓wBA, tKp, convA, seval]
 refine (aawake _).mono ?_
 rintro _ _ ⟨rfl, rfl⟩
 simp only [↓wBA, tKp, convA, seval]
 refine (aright txt nm cols rows hcl hrl _).mono ?_
 rintro _ _ ⟨rfl, s, b, rfl, hs1, hs2, hb⟩
 have hg0 : ((smC s).map AV.p)[0]? = some (.p (.v (.int .i64 s.kind))) := rfl
 cases b
 ·skip
  repeat' first | ((with_reducible first | refine cs ?_ ?_ | refine ws ?_ ?_ | refine wd ?_ ?_ | refine wu ?_ ?_) <;> intro h <;> try simp only [h]) | simp only [↓wBA, tKp, convA, seval, pl4_13Kp, pl4_17Kp, pl4_30Kp, pl4_35Kp, pl4_36Kp, smC_len, List.length_map] | (with_reducible refine dP pl4_13Kp 15 (some 54) (by decide) (by kernel_rfl) ?_) | (with_reducible refine dP pl4_17Kp 27 (some 76) (by decide) (by kernel_rfl) ?_) | (with_reducible refine dP pl4_30Kp 25 (some 137) (by decide) (by kernel_rfl) ?_) | (with_reducible refine dP pl4_35Kp 9 (some 172) (by decide) (by kernel_rfl) ?_) | (with_reducible refine dP pl4_36Kp 9 (some 180) (by decide) (by kernel_rfl) ?_)
  all_goals refine ret_is (a := _) ?_ rfl rfl
  all_goals simp only [↓wBA, tKp, convA, seval]
  all_goals simp_all [wS]
 ·by_cases hk : s.kind = 5
  ·obtain ⟨h500, _, hrows⟩ := hb rfl
   have hk' : (s.kind != 5) = false := by simpa using hk
   have hrc : ∀ r ∈ rows, r.length = cols.length := fun r h => (hrows r h).1
   have hU := upd_ok s hs1 hs2 nm cols hcl rows h500 hrc
   unfold updOk at hU
   by_cases he : (updS s nm cols rows).2 = 0
   ·obtain ⟨_, ht, hh, hmap⟩ := updS_hit he
    have hD := del_ok s hk hs2 nm cols hcl rows h500 hrc hh
    obtain ⟨hp, g, hgl, hform, hone⟩ := keeps_form h500 he
    have hne : s.names ≠ [] := (hs1 hk).2
    have hc0 : 0 < cols.length := by
     obtain ⟨t1, t2⟩ := tgtS_ok s.names cols ht
     have hn : 0 < s.names.length := List.length_pos_iff.2 hne
     rw [← t1] at hn
     obtain ⟨c, hc⟩ := List.exists_mem_of_length_pos hn
     have := (t2 c hc).2
     omega
    have hU1 : ∀ i (h : i < rows.length) (σ : St), ACalls Try.prog 7 [.agg ((smC s).map .p), tbA nm cols, .p (.sl 1 (enVV [rows[i]]))] σ fun r st => st = σ ∧ r = .tup [.p (.sl 3 (enW nm (if hp rows[i] = true then [((rows[i], some (g rows[i])) : Wr)] else []))), intV .i64 0] := fun i h σ => by
     have := upd_ok s hs1 hs2 nm cols hcl [rows[i]] (by simp) (fun r hr => by rw [List.mem_singleton] at hr; subst hr; exact hrc _ (List.getElem_mem h)) σ
     rwa [hone _ (List.getElem_mem h)] at this
    have hhit : (hitS s nm cols rows).1 = rows.filter hp := by rw [← hmap, hform, List.map_map]; simp [Function.comp_def]
    rw [hhit] at hD
    have hlW : (updS s nm cols rows).1.length = (rows.filter hp).length := by rw [hform, List.length_map]
    have hsl : ∀ i (h : i < rows.length), ((enVV rows).take (i + 1)).drop i = enVV [rows[i]] := fun i h => by
     unfold enVV
     rw [← List.map_take, ← List.map_drop, List.take_succ_eq_append_getElem h, List.drop_append, List.drop_eq_nil_of_le (by rw [List.length_take]; omega), List.length_take, Nat.min_eq_left (Nat.le_of_lt h), Nat.sub_self]
     rfl
    have hrl' : rows.length ≤ 500 := h500
    by_cases hw : (updS s nm cols rows).1 = []
    ·rw [hw, he] at hU
     have hfz : rows.filter hp = [] := List.eq_nil_of_length_eq_zero (by rw [← hlW, hw]; rfl)
     rw [hfz] at hD
     have hUe : ∀ i (h : i < rows.length) (σ : St), ACalls Try.prog 7 [.agg ((smC s).map .p), tbA nm cols, .p (.sl 1 (enVV [rows[i]]))] σ fun r st => st = σ ∧ r = .tup [.p (.sl 3 []), intV .i64 0] := fun i h σ => by
      have h1 := hU1 i h σ
      have h2 : ¬ hp rows[i] = true := by
       have := List.filter_eq_nil_iff.1 hfz rows[i] (List.getElem_mem h)
       exact this
      rw [if_neg h2] at h1
      exact h1
     have hz : enW nm [] = [] := rfl
     have hS0 := asameDK nm [] (by simp) (by simp)
     rw [List.map_nil, hz] at hS0 hD
     rw [hz] at hU
     clear hU1 hhit hlW hform hone hw hmap hh ht hne hs1 hs2 hb hg0 hk' he
     obtain ⟨kind, tb, sn, scols, names, srows, items, src, wh, group, order, limit, sets, hash⟩ := s
     simp only at hk
     subst hk
     simp only [tbA, smC, List.map_cons, List.map_nil, List.set_cons_zero, List.set_cons_succ] at hU hUe hD ⊢
     repeat' first | ((with_reducible first | refine cs ?_ ?_ | refine ws ?_ ?_ | refine wd ?_ ?_ | refine wu ?_ ?_) <;> intro h <;> try simp only [h]) | simp only [↓wBA, tKp, convA, seval, pl4_13Kp, pl4_17Kp, pl4_30Kp, pl4_35Kp, pl4_36Kp, List.length_nil, nc0, bne_self_eq_false] | ((with_reducible show ACalls _ _ _ _ _); refine (hU _).eq ?_) | (with_reducible refine dP pl4_13Kp 15 (some 54) (by decide) (by kernel_rfl) ?_) | (with_reducible refine dP pl4_17Kp 27 (some 76) (by decide) (by kernel_rfl) ?_) | (with_reducible refine dP pl4_30Kp 25 (some 137) (by decide) (by kernel_rfl) ?_) | (with_reducible refine dP pl4_35Kp 9 (some 172) (by decide) (by kernel_rfl) ?_) | (with_reducible refine dP pl4_36Kp 9 (some 180) (by decide) (by kernel_rfl) ?_)
     refine awp_loopN (rows.length) (fun i => [(7, intV .i64 0), (8, intV .i64 (i : Nat)), (2, .any), (9, .any), (10, .any), (46, .any), (47, .any), (48, .any), (49, .any), (50, .any), (51, .any), (52, .any), (53, .any), (54, .any), (55, .any), (56, .any), (57, .any), (58, .any), (59, .any), (60, .any), (61, .any), (62, .any), (63, .any), (64, .any), (65, .any), (66, .any), (67, .any), (68, .any), (69, .any), (70, .any), (71, .any), (72, .any), (73, .any), (74, .any), (75, .any), (76, .any), (77, .any), (78, .any), (79, .any), (80, .any), (81, .any), (82, .any), (83, .any), (84, .any), (85, .any), (86, .any), (87, .any), (88, .any), (89, .any), (90, .any), (91, .any), (92, .any), (93, .any), (94, .any), (95, .any), (96, .any), (97, .any), (98, .any), (99, .any), (100, .any), (101, .any), (102, .any), (103, .any), (104, .any)]) (fun i => []) (fun i => True) ?_ ?_ ?_
     ·trivial
     ·skip
      simp only [wR, Nat.reduceAdd, Nat.reduceLT, reduceIte]
      simp [wW]
     ·intro i hi _
      simp only [wR, Nat.reduceAdd, Nat.reduceLT, reduceIte]
      by_cases hlt : i < rows.length
      ·have hdec := dT (i := i) (n := rows.length) hlt
       have hi0 := nnI i
       have hi1 : ((i : Int) ≤ ((i + 1 : Nat) : Int)) = True := eq_true (by omega)
       have hi2 : (((i + 1 : Nat) : Int) ≤ (rows.length : Int)) = True := eq_true (by omega)
       have hw1 := wI i (by omega)
       have hsi := hsl i hlt
       have hUi := hUe i hlt
       repeat' first | ((with_reducible first | refine cs ?_ ?_ | refine ws ?_ ?_ | refine wd ?_ ?_ | refine wu ?_ ?_) <;> intro h <;> try simp only [h]) | simp only [↓wBA, tKp, convA, seval, pl4_13Kp, pl4_17Kp, pl4_30Kp, pl4_35Kp, pl4_36Kp, enVV_len, hdec, hi0, hi1, hi2, hw1, hsi, sliceA, boundA, Int.toNat_natCast, List.length_nil, nc0, bne_self_eq_false, decide_false] | ((with_reducible show ACalls _ _ _ _ _); refine (hUi _).eq ?_) | (with_reducible refine dP pl4_13Kp 15 (some 54) (by decide) (by kernel_rfl) ?_) | (with_reducible refine dP pl4_17Kp 27 (some 76) (by decide) (by kernel_rfl) ?_) | (with_reducible refine dP pl4_30Kp 25 (some 137) (by decide) (by kernel_rfl) ?_) | (with_reducible refine dP pl4_35Kp 9 (some 172) (by decide) (by kernel_rfl) ?_) | (with_reducible refine dP pl4_36Kp 9 (some 180) (by decide) (by kernel_rfl) ?_)
       refine ⟨⟨i + 1, by omega, ?_⟩, by show rows.length - (i + 1) < rows.length - i; omega, ?_⟩
       ·trivial
       ·skip
        simp only [wR, Nat.reduceAdd, Nat.reduceLT, reduceIte]
        simp [wW]
      ·have hdec := dF (i := i) (n := rows.length) (by omega)
       repeat' first | ((with_reducible first | refine cs ?_ ?_ | refine ws ?_ ?_ | refine wd ?_ ?_ | refine wu ?_ ?_) <;> intro h <;> try simp only [h]) | simp only [↓wBA, tKp, convA, seval, pl4_13Kp, pl4_17Kp, pl4_30Kp, pl4_35Kp, pl4_36Kp, enVV_len, hdec, List.length_nil, nc0, bne_self_eq_false, decide_false] | ((with_reducible show ACalls _ _ _ _ _); first | refine (hD _).eq ?_ | refine (hS0 _).eq ?_) | (with_reducible refine dP pl4_13Kp 15 (some 54) (by decide) (by kernel_rfl) ?_) | (with_reducible refine dP pl4_17Kp 27 (some 76) (by decide) (by kernel_rfl) ?_) | (with_reducible refine dP pl4_30Kp 25 (some 137) (by decide) (by kernel_rfl) ?_) | (with_reducible refine dP pl4_35Kp 9 (some 172) (by decide) (by kernel_rfl) ?_) | (with_reducible refine dP pl4_36Kp 9 (some 180) (by decide) (by kernel_rfl) ?_)
       refine awp_loopN (0) (fun j => [(14, intV .i64 0), (2, .any), (15, .any), (132, .any), (133, .any), (134, .any), (135, .any), (136, .any), (137, .any), (138, .any), (139, .any), (140, .any), (141, .any), (142, .any), (143, .any), (144, .any), (145, .any), (146, .any), (147, .any), (148, .any), (149, .any), (150, .any), (151, .any), (152, .any), (153, .any), (154, .any), (155, .any), (156, .any), (157, .any), (158, .any), (159, .any), (160, .any), (161, .any), (162, .any), (163, .any), (164, .any), (165, .any), (166, .any), (167, .any), (168, .any), (169, .any), (170, .any), (171, .any), (172, .any), (173, .any), (174, .any), (175, .any), (176, .any), (177, .any), (178, .any), (179, .any), (180, .any), (181, .any), (182, .any), (183, .any), (184, .any), (185, .any), (186, .any), (187, .any)]) (fun j => []) (fun j => True) ?_ ?_ ?_
       ·trivial
       ·skip
        simp only [wR, Nat.reduceAdd, Nat.reduceLT, reduceIte]
        simp [wW]
       ·intro j hj _
        simp only [wR, Nat.reduceAdd, Nat.reduceLT, reduceIte]
        repeat' first | ((with_reducible first | refine cs ?_ ?_ | refine ws ?_ ?_ | refine wd ?_ ?_ | refine wu ?_ ?_) <;> intro h <;> try simp only [h]) | simp only [↓wBA, tKp, convA, seval, pl4_13Kp, pl4_17Kp, pl4_30Kp, pl4_35Kp, pl4_36Kp, decide_false, Int.lt_irrefl, beq_self_eq_true] | ((with_reducible show ACalls _ _ _ _ _); first | refine (hD _).eq ?_ | refine (hS0 _).eq ?_) | (with_reducible refine dP pl4_13Kp 15 (some 54) (by decide) (by kernel_rfl) ?_) | (with_reducible refine dP pl4_17Kp 27 (some 76) (by decide) (by kernel_rfl) ?_) | (with_reducible refine dP pl4_30Kp 25 (some 137) (by decide) (by kernel_rfl) ?_) | (with_reducible refine dP pl4_35Kp 9 (some 172) (by decide) (by kernel_rfl) ?_) | (with_reducible refine dP pl4_36Kp 9 (some 180) (by decide) (by kernel_rfl) ?_)
        all_goals refine ret_is (a := _) ?_ rfl rfl
        all_goals simp only [↓wBA, tKp, convA, seval]
        all_goals simp_all [wS]
    ·obtain ⟨p, olds, wr, hW1, hor, hwrl, hUM⟩ := aupdM0 s (fun h => (hs1 h).1) (by have := hs2.names; omega) (by have := hs2.wh.1; omega) nm cols hcl hc0 rows (by omega) hrc he hw
     have holds : olds = rows.filter hp := by
      have h1 := congrArg (List.map Prod.fst) hW1
      rw [hform, List.map_map, List.map_map] at h1
      simpa [Function.comp_def] using h1.symm
     have hwg : ∀ r ∈ olds, wr r = g r := fun r hr => by
      have h1 := hW1
      rw [hform, ← holds] at h1
      have h2 := List.map_inj_left.1 h1 r hr
      simpa using h2.symm
     have hon : olds ≠ [] := fun e => by rw [e] at hW1; exact hw (by simpa using hW1)
     rw [← holds] at hD hlW
     have hUf : ∀ a b : Option Ob, okO 0 a = true → okO 0 b = true → ACalls Try.prog 7 [.agg ((smC s).map .p), tbA nm cols, .p (.sl 1 (enVV rows))] [a, b] fun r S => r = .tup [.ms (lK (p + 2) olds.length) 3 0 olds.length, intV .i64 0] ∧ Kst nm cols.length olds wr (oK (p + 2)) (vK (p + 2) olds.length) (lK (p + 2) olds.length) a b S := fun a b ha hb => (hUM.fresh (by cases s; rfl) [a, b]).mono (by
      rintro r S ⟨r0, s0, ⟨rfl, hI⟩, rfl, rfl⟩
      refine ⟨?_, hI.kst hon hor hwrl ha hb⟩
      simp only [renA, renL, lK]
      rw [show 5 + p + 10 * olds.length + [a, b].length = 5 + 10 * olds.length + (p + 2) by simp; omega]
      rfl)
     have hol : olds.length ≤ 500 := by rw [holds]; exact Nat.le_trans (List.length_filter_le _ _) h500
     have hcnt := fun i => cntK_le hp rows i
     have hcz := cntK_zero hp rows
     have hca := cntK_all hp rows
     rw [← holds] at hcnt hca
     have hcs : ∀ i (h : i < rows.length), cntK hp rows (i + 1) = cntK hp rows i + if hp rows[i] = true then 1 else 0 := fun i h => cntK_succ h
     have hcg : ∀ i (h : i < rows.length), hp rows[i] = true → olds[cntK hp rows i]? = some rows[i] := fun i h hh => by rw [holds]; exact cntK_get h hh
     have hSD := asameDK nm olds (by omega) (fun r hr => by rw [hor r hr]; exact hcl)
     generalize cntK hp rows = cnt at *
     generalize lK (p + 2) olds.length = tL at *
     generalize oK (p + 2) = o at *
     generalize vK (p + 2) olds.length = v at *
     clear hUM hhit hlW hform hone hw hmap hh ht hne hs1 hs2 hb hg0 hk' he hU hW1 holds
     obtain ⟨kind, tb, sn, scols, names, srows, items, src, wh, group, order, limit, sets, hash⟩ := s
     simp only at hk
     subst hk
     simp only [tbA, smC, List.map_cons, List.map_nil, List.set_cons_zero, List.set_cons_succ] at hU1 hUf hD ⊢
     repeat' first | ((with_reducible first | refine cs ?_ ?_ | refine ws ?_ ?_ | refine wd ?_ ?_ | refine wu ?_ ?_) <;> intro h <;> try simp only [h]) | simp only [↓wBA, tKp, convA, seval, pl4_13Kp, pl4_17Kp, pl4_30Kp, pl4_35Kp, pl4_36Kp, bne_self_eq_false] | (with_reducible refine dP pl4_13Kp 15 (some 54) (by decide) (by kernel_rfl) ?_) | (with_reducible refine dP pl4_17Kp 27 (some 76) (by decide) (by kernel_rfl) ?_) | (with_reducible refine dP pl4_30Kp 25 (some 137) (by decide) (by kernel_rfl) ?_) | (with_reducible refine dP pl4_35Kp 9 (some 172) (by decide) (by kernel_rfl) ?_) | (with_reducible refine dP pl4_36Kp 9 (some 180) (by decide) (by kernel_rfl) ?_)
     refine (hUf _ _ rfl rfl).mono ?_
     rintro _ S ⟨rfl, hK⟩
     have hS0 := hK.h0
     have hS1 := hK.h1
     have hSL := hK.ls
     have hSok : S.all (okO S.length) = true := by have := (hK.ext [] rfl).ok; simpa using this
     have hbL := hK.bigL
     obtain ⟨KS, hKS⟩ : ∃ KS, KS = S.length := ⟨_, rfl⟩
     have hlenS : S.length = KS := hKS.symm
     repeat' first | ((with_reducible first | refine cs ?_ ?_ | refine ws ?_ ?_ | refine wd ?_ ?_ | refine wu ?_ ?_) <;> intro h <;> try simp only [h]) | simp only [↓wBA, tKp, convA, seval, pl4_13Kp, pl4_17Kp, pl4_30Kp, pl4_35Kp, pl4_36Kp, bne_self_eq_false] | (with_reducible refine dP pl4_13Kp 15 (some 54) (by decide) (by kernel_rfl) ?_) | (with_reducible refine dP pl4_17Kp 27 (some 76) (by decide) (by kernel_rfl) ?_) | (with_reducible refine dP pl4_30Kp 25 (some 137) (by decide) (by kernel_rfl) ?_) | (with_reducible refine dP pl4_35Kp 9 (some 172) (by decide) (by kernel_rfl) ?_) | (with_reducible refine dP pl4_36Kp 9 (some 180) (by decide) (by kernel_rfl) ?_)
     have hsM : ∀ k, k < olds.length → sliceA cx 39 (.ms tL 3 0 olds.length) (some (.p (.v (.int .i64 (k : Nat))))) (some (.p (.v (.int .i64 ((k + 1 : Nat) : Int))))) = some (.ms tL 3 k 1) := fun k hk => by
      rw [slice_ms ck_39 (Nat.lt_succ_self k) hk, show k.succ - k = 1 by omega]
     have hsD : ∀ i (h : i < rows.length), sliceA cx 25 (.p (.sl 1 (enVV rows))) (some (.p (.v (.int .i64 (i : Nat))))) (some (.p (.v (.int .i64 ((i + 1 : Nat) : Int))))) = some (.p (.sl 1 (enVV [rows[i]]))) := fun i h => by
      have h1 : ((i : Int) ≤ ((i + 1 : Nat) : Int)) = True := eq_true (by omega)
      have h2 : (((i + 1 : Nat) : Int) ≤ (rows.length : Int)) = True := eq_true (by omega)
      simp only [sliceA, ck_25, elemsA, boundA, intA, enVV_len, nnI, h1, h2, Int.toNat_natCast, hsl i h, and_self, if_true]
     refine awp_loopH (rows.length) (fun i => [(7, intV .i64 (cnt i : Nat)), (8, intV .i64 (i : Nat)), (2, .any), (9, .any), (10, .any), (46, .any), (47, .any), (48, .any), (49, .any), (50, .any), (51, .any), (52, .any), (53, .any), (54, .any), (55, .any), (56, .any), (57, .any), (58, .any), (59, .any), (60, .any), (61, .any), (62, .any), (63, .any), (64, .any), (65, .any), (66, .any), (67, .any), (68, .any), (69, .any), (70, .any), (71, .any), (72, .any), (73, .any), (74, .any), (75, .any), (76, .any), (77, .any), (78, .any), (79, .any), (80, .any), (81, .any), (82, .any), (83, .any), (84, .any), (85, .any), (86, .any), (87, .any), (88, .any), (89, .any), (90, .any), (91, .any), (92, .any), (93, .any), (94, .any), (95, .any), (96, .any), (97, .any), (98, .any), (99, .any), (100, .any), (101, .any), (102, .any), (103, .any), (104, .any)]) (fun i => S) ?_ ?_ ?_
     ·intro i _; exact Nat.le_refl _
     ·skip
      simp only [wR, Nat.reduceAdd, Nat.reduceLT, reduceIte]
      simp only [hcz]
      refine .inr ⟨?_, leS_self _ ?_⟩
      ·skip
       simp [wW, hlenS]
       try omega
      ·rw [Nat.min_self]; exact hSok
     ·intro i hi
      simp only [wR, Nat.reduceAdd, Nat.reduceLT, reduceIte]
      by_cases hlt : i < rows.length
      ·have hdec := dT (i := i) (n := rows.length) hlt
       have hi0 := nnI i
       have hic : ((i : Int) < (rows.length : Int)) = True := eq_true (by omega)
       have hw1 := wI i (by omega)
       have hsDi := hsD i hlt
       have hU1i := hU1 i hlt
       have hcsi := hcs i hlt
       have hcgi := hcg i hlt
       have hgr := enVV_get rows i hlt
       have hrci := hrc rows[i] (List.getElem_mem hlt)
       by_cases hh : hp rows[i] = true
       ·rw [if_pos hh] at hU1i hcsi
        have hcg2 := hcgi hh
        have hkl : cnt i < olds.length := (List.getElem?_eq_some_iff.1 hcg2).1
        have hoi : olds[cnt i] = rows[i] := (List.getElem?_eq_some_iff.1 hcg2).2
        have hKo := (hK.ext [] rfl).old (cnt i) hkl
        obtain ⟨ro, _, hKo1, hKo2⟩ := hKo
        have hro : ro = rows[i] := by rw [hKo2 (Nat.zero_le _)]; simp [List.getD, hkl, hoi]
        rw [List.append_nil, hro] at hKo1
        have hKn := hK.new (cnt i) hkl
        rw [hwg _ (List.getElem_mem hkl), hoi] at hKn
        have hcK := cK_get (nm := nm) (c := cols.length) (o := o) (v := v) hkl
        rw [← hrci] at hcK hSL
        have hSW := asameK (σ := S) (t := tL) (nm := nm) (x := rows[i]) (y := g rows[i]) (by omega) (by omega) (hgl _) hSL hcK hKo1 hKn
        rw [hrci] at hSL
        have hSV := asameV rows[i] rows[i] (by omega) (by omega)
        have hSt : sameV rows[i] rows[i] = true := decide_eq_true rfl
        rw [hSt] at hSV
        have hsMi := hsM _ hkl
        have hge : decide (((cnt i : Nat) : Int) ≥ (olds.length : Int)) = false := by simp; omega
        have hgt1 : decide (((1 : Nat) : Int) > 1) = false := by simp
        have hwk := wI (cnt i) (by omega)
        have hE0 : enW nm [((rows[i], some (g rows[i])) : Wr)] = [[.v (.string nm), .sl 3 (enV rows[i]), .sl 3 (enV (g rows[i]))]] := rfl
        rw [hE0] at hU1i hSW
        clear hU1 hsM hsD hcs hcg hD hUf hsl hSD
        generalize rows[i] = r at *
        repeat' first | ((with_reducible first | refine cs ?_ ?_ | refine ws ?_ ?_ | refine wd ?_ ?_ | refine wu ?_ ?_) <;> intro h <;> try simp only [h]) | simp only [↓wBA, tKp, convA, seval, pl4_13Kp, pl4_17Kp, pl4_30Kp, pl4_35Kp, pl4_36Kp, enVV_len, hdec, hi0, hic, hw1, hsDi, hS0, hS1, hsMi, hge, hgt1, hgr, hwk, hlenS, List.length_cons, List.length_nil, nc0, nc1, bne_self_eq_false, beq_self_eq_true, decide_false, Bool.not_true, Bool.not_false] | ((with_reducible show ACalls _ _ _ _ _); first | refine (hU1i _).eq ?_ | (refine hSW.mono ?_; rintro _ _ ⟨rfl, rfl⟩) | refine (hSV _).eq ?_) | (with_reducible refine dP pl4_13Kp 15 (some 54) (by decide) (by kernel_rfl) ?_) | (with_reducible refine dP pl4_17Kp 27 (some 76) (by decide) (by kernel_rfl) ?_) | (with_reducible refine dP pl4_30Kp 25 (some 137) (by decide) (by kernel_rfl) ?_) | (with_reducible refine dP pl4_35Kp 9 (some 172) (by decide) (by kernel_rfl) ?_) | (with_reducible refine dP pl4_36Kp 9 (some 180) (by decide) (by kernel_rfl) ?_)
        refine ⟨⟨i + 1, hlt⟩, by show rows.length - (i + 1) < rows.length - i; omega, ?_⟩
        simp only [wR, Nat.reduceAdd, Nat.reduceLT, reduceIte]
        simp only [hcsi]
        refine .inr ⟨?_, leS_self _ ?_⟩
        ·skip
         simp [wW, hlenS]
         try omega
        ·rw [Nat.min_self]; exact hSok
       ·rw [if_neg hh] at hU1i hcsi
        rw [Nat.add_zero] at hcsi
        have hz : enW nm [] = [] := rfl
        rw [hz] at hU1i
        repeat' first | ((with_reducible first | refine cs ?_ ?_ | refine ws ?_ ?_ | refine wd ?_ ?_ | refine wu ?_ ?_) <;> intro h <;> try simp only [h]) | simp only [↓wBA, tKp, convA, seval, pl4_13Kp, pl4_17Kp, pl4_30Kp, pl4_35Kp, pl4_36Kp, enVV_len, hdec, hi0, hw1, hsDi, hS0, hS1, List.length_nil, nc0, bne_self_eq_false, decide_false] | ((with_reducible show ACalls _ _ _ _ _); refine (hU1i _).eq ?_) | (with_reducible refine dP pl4_13Kp 15 (some 54) (by decide) (by kernel_rfl) ?_) | (with_reducible refine dP pl4_17Kp 27 (some 76) (by decide) (by kernel_rfl) ?_) | (with_reducible refine dP pl4_30Kp 25 (some 137) (by decide) (by kernel_rfl) ?_) | (with_reducible refine dP pl4_35Kp 9 (some 172) (by decide) (by kernel_rfl) ?_) | (with_reducible refine dP pl4_36Kp 9 (some 180) (by decide) (by kernel_rfl) ?_)
        refine ⟨⟨i + 1, hlt⟩, by show rows.length - (i + 1) < rows.length - i; omega, ?_⟩
        simp only [wR, Nat.reduceAdd, Nat.reduceLT, reduceIte]
        simp only [hcsi]
        refine .inr ⟨?_, leS_self _ ?_⟩
        ·skip
         simp [wW, hlenS]
         try omega
        ·rw [Nat.min_self]; exact hSok
      ·have hdec := dF (i := i) (n := rows.length) (by omega)
       have hie : i = rows.length := by omega
       subst hie
       simp only [hca]
       have hG1 : ∀ (a : Option Ob) (rest : St), (S ++ a :: rest)[KS]? = some a := fun a rest => by rw [List.getElem?_append_right (by omega), hlenS, Nat.sub_self]; rfl
       have hG2 : ∀ (a b : Option Ob) (rest : St), (S ++ a :: rest).set KS b = S ++ b :: rest := fun a b rest => by rw [List.set_append, if_neg (by omega), hlenS, Nat.sub_self]; rfl
       have hS0r := fun rest => (List.getElem?_append_left (l₂ := rest) (List.getElem?_eq_some_iff.1 hS0).1).trans hS0
       have hS1r := fun rest => (List.getElem?_append_left (l₂ := rest) (List.getElem?_eq_some_iff.1 hS1).1).trans hS1
       have hSLr := fun rest => (List.getElem?_append_left (l₂ := rest) (List.getElem?_eq_some_iff.1 hSL).1).trans hSL
       repeat' first | ((with_reducible first | refine cs ?_ ?_ | refine ws ?_ ?_ | refine wd ?_ ?_ | refine wu ?_ ?_) <;> intro h <;> try simp only [h]) | simp only [↓wBA, tKp, convA, seval, pl4_13Kp, pl4_17Kp, pl4_30Kp, pl4_35Kp, pl4_36Kp, enVV_len, enW_len, List.length_map, hdec, hS0, hS1, hlenS, hS0r, hS1r, hG1, hG2, List.length_append, List.length_nil, List.length_cons, nc0, bne_self_eq_false, decide_false] | ((with_reducible show ACalls _ _ _ _ _); refine (hD _).eq ?_) | (with_reducible refine dP pl4_13Kp 15 (some 54) (by decide) (by kernel_rfl) ?_) | (with_reducible refine dP pl4_17Kp 27 (some 76) (by decide) (by kernel_rfl) ?_) | (with_reducible refine dP pl4_30Kp 25 (some 137) (by decide) (by kernel_rfl) ?_) | (with_reducible refine dP pl4_35Kp 9 (some 172) (by decide) (by kernel_rfl) ?_) | (with_reducible refine dP pl4_36Kp 9 (some 180) (by decide) (by kernel_rfl) ?_)
       have hX := hK.ext [some (.row 14 [[.p (.v (.int .i64 6)), .p (.v (.string tb)), .p (.v (.string sn)), .p (.sl 4 (scols.map coC)), .p (.v (.slice none 0 0)), .p (.sl 1 (enR srows)), .p (.sl 9 (items.map itC)), .p (.sl 3 (src.map soC)), .p (.sl 8 (exL wh)), .p (.sl 8 (exL group)), .p (.sl 9 (order.map keC)), .p (.v (.int .i64 limit)), .p (.v (.slice none 0 0)), .p (.v (.bool hash))]])] rfl
       have h20 := hS0r [some (.row 14 [[.p (.v (.int .i64 6)), .p (.v (.string tb)), .p (.v (.string sn)), .p (.sl 4 (scols.map coC)), .p (.v (.slice none 0 0)), .p (.sl 1 (enR srows)), .p (.sl 9 (items.map itC)), .p (.sl 3 (src.map soC)), .p (.sl 8 (exL wh)), .p (.sl 8 (exL group)), .p (.sl 9 (order.map keC)), .p (.v (.int .i64 limit)), .p (.v (.slice none 0 0)), .p (.v (.bool hash))]])]
       have h21 := hS1r [some (.row 14 [[.p (.v (.int .i64 6)), .p (.v (.string tb)), .p (.v (.string sn)), .p (.sl 4 (scols.map coC)), .p (.v (.slice none 0 0)), .p (.sl 1 (enR srows)), .p (.sl 9 (items.map itC)), .p (.sl 3 (src.map soC)), .p (.sl 8 (exL wh)), .p (.sl 8 (exL group)), .p (.sl 9 (order.map keC)), .p (.v (.int .i64 limit)), .p (.v (.slice none 0 0)), .p (.v (.bool hash))]])]
       have h2L := hSLr [some (.row 14 [[.p (.v (.int .i64 6)), .p (.v (.string tb)), .p (.v (.string sn)), .p (.sl 4 (scols.map coC)), .p (.v (.slice none 0 0)), .p (.sl 1 (enR srows)), .p (.sl 9 (items.map itC)), .p (.sl 3 (src.map soC)), .p (.sl 8 (exL wh)), .p (.sl 8 (exL group)), .p (.sl 9 (order.map keC)), .p (.v (.int .i64 limit)), .p (.v (.slice none 0 0)), .p (.v (.bool hash))]])]
       have h2K := hG1 (some (.row 14 [[.p (.v (.int .i64 6)), .p (.v (.string tb)), .p (.v (.string sn)), .p (.sl 4 (scols.map coC)), .p (.v (.slice none 0 0)), .p (.sl 1 (enR srows)), .p (.sl 9 (items.map itC)), .p (.sl 3 (src.map soC)), .p (.sl 8 (exL wh)), .p (.sl 8 (exL group)), .p (.sl 9 (order.map keC)), .p (.v (.int .i64 limit)), .p (.v (.slice none 0 0)), .p (.v (.bool hash))]])) []
       have h2n : (S ++ [some (Ob.row 14 [[.p (.v (.int .i64 6)), .p (.v (.string tb)), .p (.v (.string sn)), .p (.sl 4 (scols.map coC)), .p (.v (.slice none 0 0)), .p (.sl 1 (enR srows)), .p (.sl 9 (items.map itC)), .p (.sl 3 (src.map soC)), .p (.sl 8 (exL wh)), .p (.sl 8 (exL group)), .p (.sl 9 (order.map keC)), .p (.v (.int .i64 limit)), .p (.v (.slice none 0 0)), .p (.v (.bool hash))]])]).length = KS + 1 := by simp [hlenS]
       have h2ok := hX.ok
       generalize (S ++ [some (Ob.row 14 [[.p (.v (.int .i64 6)), .p (.v (.string tb)), .p (.v (.string sn)), .p (.sl 4 (scols.map coC)), .p (.v (.slice none 0 0)), .p (.sl 1 (enR srows)), .p (.sl 9 (items.map itC)), .p (.sl 3 (src.map soC)), .p (.sl 8 (exL wh)), .p (.sl 8 (exL group)), .p (.sl 9 (order.map keC)), .p (.v (.int .i64 limit)), .p (.v (.slice none 0 0)), .p (.v (.bool hash))]])] : St) = S2 at *
       have hfr : ∀ t, (t < 2 ∨ KS ≤ t ∨ t = tL) → ∀ i s, KpS cols.length olds.length (fun j => olds.getD j []) o v S2 i s → s[t]? = S2[t]? := fun t ht i s hs => by
        refine hs.fr t (fun j hj e => ?_) (fun j hj e => ?_)
        ·have h1 := hK.big j hj
         have h2 := hK.ap.ol j hj
         omega
        ·have h1 := hK.big j hj
         have h2 := hK.ap.vl j hj
         omega
       have hnum77 := anum 77
       have hnum78 := anum 78
       simp only [vaA, vaC, List.map_cons, List.map_nil] at hnum77 hnum78
       have hDn : ∀ i (h : i < olds.length), (enW nm (olds.map fun r => ((r, none) : Wr)))[i]? = some [.v (.string nm), .sl 3 (enV olds[i]), .v (.slice none 0 0)] := fun i h => by simp [enW, wrC, h]
       clear hU1 hUf hsl hsM hsD hcs hcg hcnt hcz hca hS0r hS1r hSLr hG1 hG2
       refine awp_loopI (I := fun i s => KpS cols.length olds.length (fun j => olds.getD j []) o v S2 i s ∧ i ≤ olds.length) (olds.length) (fun i => [(14, intV .i64 (i : Nat)), (2, .any), (15, .any), (132, .any), (133, .any), (134, .any), (135, .any), (136, .any), (137, .any), (138, .any), (139, .any), (140, .any), (141, .any), (142, .any), (143, .any), (144, .any), (145, .any), (146, .any), (147, .any), (148, .any), (149, .any), (150, .any), (151, .any), (152, .any), (153, .any), (154, .any), (155, .any), (156, .any), (157, .any), (158, .any), (159, .any), (160, .any), (161, .any), (162, .any), (163, .any), (164, .any), (165, .any), (166, .any), (167, .any), (168, .any), (169, .any), (170, .any), (171, .any), (172, .any), (173, .any), (174, .any), (175, .any), (176, .any), (177, .any), (178, .any), (179, .any), (180, .any), (181, .any), (182, .any), (183, .any), (184, .any), (185, .any), (186, .any), (187, .any)]) (0) ?_ ?_ ?_ ?_
       ·exact ⟨hX, Nat.zero_le _⟩
       ·intro i s h; rw [h.1.len]; exact Nat.le_refl _
       ·skip
        simp only [wR, Nat.reduceAdd, Nat.reduceLT, reduceIte]
        refine .inr ⟨?_, leS_self _ ?_⟩
        ·skip
         simp [wW, h2n, tokLt, tokLtL]
         try omega
        ·rw [Nat.min_self]; exact h2ok
       ·intro i st hI
        have hP := hI.1
        have hi := hI.2
        simp only [wR, Nat.reduceAdd, Nat.reduceLT, reduceIte]
        have g0 := (hfr 0 (by omega) i st hP).trans h20
        have g1 := (hfr 1 (by omega) i st hP).trans h21
        have gK := (hfr KS (by omega) i st hP).trans h2K
        have gL := (hfr tL (by omega) i st hP).trans h2L
        have hln := hP.len
        rw [h2n] at hln
        by_cases hlt : i < olds.length
        ·have hdec := dT (i := i) (n := olds.length) hlt
         have hi0 := nnI i
         have hic : ((i : Int) < (olds.length : Int)) = True := eq_true (by omega)
         have hw1 := wI i (by omega)
         have hDi := hDn i hlt
         have hbi := hK.big i hlt
         rw [hlenS] at hbi
         have hcK := cK_get (nm := nm) (c := cols.length) (o := o) (v := v) hlt
         have hcl2 := cK_len nm cols.length olds.length o v
         have hlo := hor olds[i] (List.getElem_mem hlt)
         obtain ⟨r0, _, ho1, ho2⟩ := hP.old i hlt
         have hro : r0 = olds[i] := by rw [ho2 (Nat.le_refl _)]; simp [List.getD, hlt]
         rw [hro] at ho1
         have hSO := asameR (σ := st) (t := o i) olds[i] olds[i] (by omega) (by omega) (by omega) ho1
         have hSt : sameV olds[i] olds[i] = true := decide_eq_true rfl
         rw [hSt, hlo] at hSO
         generalize olds[i] = q at *
         repeat' first | ((with_reducible first | refine cs ?_ ?_ | refine ws ?_ ?_ | refine wd ?_ ?_ | refine wu ?_ ?_) <;> intro h <;> try simp only [h]) | simp only [↓wBA, tKp, convA, seval, pl4_13Kp, pl4_17Kp, pl4_30Kp, pl4_35Kp, pl4_36Kp, enVV_len, enW_len, enTc_len, List.length_map, hdec, hi0, hic, hDi, hcK, hcl2, g0, g1, gL, bne_self_eq_false, Bool.not_true, Bool.not_false] | ((with_reducible show ACalls _ _ _ _ _); refine hSO.mono ?_; rintro _ _ ⟨rfl, rfl⟩) | (with_reducible refine dP pl4_13Kp 15 (some 54) (by decide) (by kernel_rfl) ?_) | (with_reducible refine dP pl4_17Kp 27 (some 76) (by decide) (by kernel_rfl) ?_) | (with_reducible refine dP pl4_30Kp 25 (some 137) (by decide) (by kernel_rfl) ?_) | (with_reducible refine dP pl4_35Kp 9 (some 172) (by decide) (by kernel_rfl) ?_) | (with_reducible refine dP pl4_36Kp 9 (some 180) (by decide) (by kernel_rfl) ?_)
         refine awp_loopI (I := fun k s => KpS cols.length olds.length (fun j => olds.getD j []) o v S2 (i + 1) s ∧ k ≤ cols.length) (cols.length) (fun k => [(15, intV .i64 (k : Nat)), (162, .any), (163, .any), (164, .any), (165, .any), (166, .any), (167, .any), (168, .any), (169, .any), (170, .any), (171, .any), (172, .any), (173, .any), (174, .any), (175, .any), (176, .any), (177, .any), (178, .any), (179, .any), (180, .any), (181, .any), (182, .any), (183, .any), (184, .any), (185, .any), (186, .any), (187, .any)]) (0) ?_ ?_ ?_ ?_
         ·exact ⟨hP.step, Nat.zero_le _⟩
         ·intro k s h; rw [h.1.len, hln, h2n]; exact Nat.le_refl _
         ·skip
          simp only [wR, Nat.reduceAdd, Nat.reduceLT, reduceIte]
          refine .inr ⟨?_, leS_self _ ?_⟩
          ·skip
           simp [wW, hln, tokLt, tokLtL]
           try omega
          ·rw [Nat.min_self, hln, ← h2n]; exact hP.ok
         ·intro k su hJ
          have hPk := hJ.1
          have hkc := hJ.2
          simp only [wR, Nat.reduceAdd, Nat.reduceLT, reduceIte]
          have gLk := (hfr tL (by omega) (i + 1) su hPk).trans h2L
          have hlk := hPk.len
          rw [h2n] at hlk
          obtain ⟨r2, hr2, ho2, _⟩ := hPk.old i hlt
          obtain ⟨r1, hr1, hn1⟩ := hPk.new i hlt
          by_cases hkl : k < cols.length
          ·have hdk := dT (i := k) (n := cols.length) hkl
           have hk0 := nnI k
           have hkT : ((k : Int) < (cols.length : Int)) = True := eq_true (by omega)
           have hwk := wI k (by omega)
           have hm1 : (muR r1)[k]? = some ((vaC (r1[k]'(by omega))).map .p) := muR_get _ _ _
           have hm2 : (muR r2)[k]? = some ((vaC (r2[k]'(by omega))).map .p) := muR_get _ _ _
           have hv1 : ((vaC (r1[k]'(by omega))).map AV.p).length = 3 := rfl
           have hv2 : ((vaC (r2[k]'(by omega))).map AV.p).length = 3 := rfl
           generalize (vaC (r1[k]'(by omega))).map AV.p = w1 at hm1 hv1
           generalize (vaC (r2[k]'(by omega))).map AV.p = w2 at hm2 hv2
           have hs1 : (muR r1).set k [.p (.v (.int .i64 1)), .p (.v (.int .i64 77)), .p (.v (.string emp))] = muR (r1.set k (1, 77, emp)) := muR_set _ _ (1, 77, emp)
           have hs2 : (muR r2).set k [.p (.v (.int .i64 1)), .p (.v (.int .i64 78)), .p (.v (.string emp))] = muR (r2.set k (1, 78, emp)) := muR_set _ _ (1, 78, emp)
           have hmk1 := set_same gLk
           obtain ⟨st1, hst1⟩ : ∃ st1, st1 = su.set (v i) (some (.row 3 (muR (r1.set k (1, 77, emp))))) := ⟨_, rfl⟩
           have hP1 : KpS cols.length olds.length (fun j => olds.getD j []) o v S2 (i + 1) st1 := by rw [hst1]; exact hPk.setNew hK.ap hlt (by rw [List.length_set]; exact hr1)
           have gL1 := (hfr tL (by omega) (i + 1) st1 hP1).trans h2L
           have hmk2 := set_same gL1
           have ho3 : st1[o i]? = some (some (.row 3 (muR r2))) := by rw [hst1, List.getElem?_set_ne (fun e => hK.ap.ov i i hlt hlt e.symm)]; exact ho2
           have hl1 := hP1.len
           rw [h2n] at hl1
           obtain ⟨st2, hst2⟩ : ∃ st2, st2 = st1.set (o i) (some (.row 3 (muR (r2.set k (1, 78, emp))))) := ⟨_, rfl⟩
           have hP2 : KpS cols.length olds.length (fun j => olds.getD j []) o v S2 (i + 1) st2 := by rw [hst2]; exact hP1.setOld hK.ap hlt (Nat.lt_succ_self i) (by rw [List.length_set]; exact hr2)
           have hl2 := hP2.len
           rw [h2n] at hl2
           repeat' first | ((with_reducible first | refine cs ?_ ?_ | refine ws ?_ ?_ | refine wd ?_ ?_ | refine wu ?_ ?_) <;> intro h <;> try simp only [h]) | simp only [↓wBA, tKp, convA, seval, pl4_13Kp, pl4_17Kp, pl4_30Kp, pl4_35Kp, pl4_36Kp, hdk, hk0, hkT, hwk, hi0, hic, hcK, hcl2, gLk, gL1, hn1, ho2, ho3, hm1, hm2, hv1, hv2, hs1, hs2, hmk1, hmk2, ← hst1, ← hst2, muR_len, hr1, hr2] | ((with_reducible show ACalls _ _ _ _ _); first | refine (hnum77 _).eq ?_ | refine (hnum78 _).eq ?_) | (with_reducible refine dP pl4_13Kp 15 (some 54) (by decide) (by kernel_rfl) ?_) | (with_reducible refine dP pl4_17Kp 27 (some 76) (by decide) (by kernel_rfl) ?_) | (with_reducible refine dP pl4_30Kp 25 (some 137) (by decide) (by kernel_rfl) ?_) | (with_reducible refine dP pl4_35Kp 9 (some 172) (by decide) (by kernel_rfl) ?_) | (with_reducible refine dP pl4_36Kp 9 (some 180) (by decide) (by kernel_rfl) ?_)
           refine ⟨⟨(k + 1, st2), ⟨hP2, hkl⟩⟩, by show cols.length - (k + 1) < cols.length - k; omega, ?_⟩
           simp only [wR, Nat.reduceAdd, Nat.reduceLT, reduceIte]
           refine .inr ⟨?_, leS_self _ ?_⟩
           ·skip
            simp [wW, hl2, tokLt, tokLtL]
            try omega
           ·rw [Nat.min_self, hl2, ← h2n]; exact hP2.ok
          ·have hdk := dF (i := k) (n := cols.length) (by omega)
           repeat' first | ((with_reducible first | refine cs ?_ ?_ | refine ws ?_ ?_ | refine wd ?_ ?_ | refine wu ?_ ?_) <;> intro h <;> try simp only [h]) | simp only [↓wBA, tKp, convA, seval, pl4_13Kp, pl4_17Kp, pl4_30Kp, pl4_35Kp, pl4_36Kp, hdk, hi0, hic, hw1, hcK, hcl2, gLk] | (with_reducible refine dP pl4_13Kp 15 (some 54) (by decide) (by kernel_rfl) ?_) | (with_reducible refine dP pl4_17Kp 27 (some 76) (by decide) (by kernel_rfl) ?_) | (with_reducible refine dP pl4_30Kp 25 (some 137) (by decide) (by kernel_rfl) ?_) | (with_reducible refine dP pl4_35Kp 9 (some 172) (by decide) (by kernel_rfl) ?_) | (with_reducible refine dP pl4_36Kp 9 (some 180) (by decide) (by kernel_rfl) ?_)
           refine ⟨⟨(i + 1, su), ⟨hPk, hlt⟩⟩, by show olds.length - (i + 1) < olds.length - i; omega, ?_⟩
           simp only [wR, Nat.reduceAdd, Nat.reduceLT, reduceIte]
           refine .inr ⟨?_, leS_self _ ?_⟩
           ·skip
            simp [wW, hlk, tokLt, tokLtL]
            try omega
           ·rw [Nat.min_self, hlk, ← h2n]; exact hPk.ok
        ·have hdec := dF (i := i) (n := olds.length) (by omega)
         repeat' first | ((with_reducible first | refine cs ?_ ?_ | refine ws ?_ ?_ | refine wd ?_ ?_ | refine wu ?_ ?_) <;> intro h <;> try simp only [h]) | simp only [↓wBA, tKp, convA, seval, pl4_13Kp, pl4_17Kp, pl4_30Kp, pl4_35Kp, pl4_36Kp, hdec, g0, g1, gK, beq_self_eq_true] | ((with_reducible show ACalls _ _ _ _ _); first | refine (hD _).eq ?_ | refine (hSD _).eq ?_) | (with_reducible refine dP pl4_13Kp 15 (some 54) (by decide) (by kernel_rfl) ?_) | (with_reducible refine dP pl4_17Kp 27 (some 76) (by decide) (by kernel_rfl) ?_) | (with_reducible refine dP pl4_30Kp 25 (some 137) (by decide) (by kernel_rfl) ?_) | (with_reducible refine dP pl4_35Kp 9 (some 172) (by decide) (by kernel_rfl) ?_) | (with_reducible refine dP pl4_36Kp 9 (some 180) (by decide) (by kernel_rfl) ?_)
         refine ret_is (a := _) ?_ rfl rfl
         simp only [↓wBA, tKp, convA, seval]
         simp [wS]
   ·have hl := updS_err s nm cols rows he
    have he' : ((updS s nm cols rows).2 != 0) = true := by simpa using he
    rw [hl] at hU
    have hz : enW nm [] = [] := rfl
    rw [hz] at hU
    simp only [tbA] at hU
    generalize (updS s nm cols rows).2 = e at *
    repeat' first | ((with_reducible first | refine cs ?_ ?_ | refine ws ?_ ?_ | refine wd ?_ ?_ | refine wu ?_ ?_) <;> intro h <;> try simp only [h]) | simp only [↓wBA, tKp, convA, seval, pl4_13Kp, pl4_17Kp, pl4_30Kp, pl4_35Kp, pl4_36Kp, smC_len, List.length_map, hk', hg0, he', List.length_nil, nc0] | ((with_reducible show ACalls _ _ _ _ _); refine (hU _).eq ?_) | (with_reducible refine dP pl4_13Kp 15 (some 54) (by decide) (by kernel_rfl) ?_) | (with_reducible refine dP pl4_17Kp 27 (some 76) (by decide) (by kernel_rfl) ?_) | (with_reducible refine dP pl4_30Kp 25 (some 137) (by decide) (by kernel_rfl) ?_) | (with_reducible refine dP pl4_35Kp 9 (some 172) (by decide) (by kernel_rfl) ?_) | (with_reducible refine dP pl4_36Kp 9 (some 180) (by decide) (by kernel_rfl) ?_)
    all_goals refine ret_is (a := _) ?_ rfl rfl
    all_goals simp only [↓wBA, tKp, convA, seval]
    all_goals simp_all [wS]
  ·have hk' : (s.kind != 5) = true := by simpa using hk
   repeat' first | ((with_reducible first | refine cs ?_ ?_ | refine ws ?_ ?_ | refine wd ?_ ?_ | refine wu ?_ ?_) <;> intro h <;> try simp only [h]) | simp only [↓wBA, tKp, convA, seval, pl4_13Kp, pl4_17Kp, pl4_30Kp, pl4_35Kp, pl4_36Kp, smC_len, List.length_map, hk', hg0] | (with_reducible refine dP pl4_13Kp 15 (some 54) (by decide) (by kernel_rfl) ?_) | (with_reducible refine dP pl4_17Kp 27 (some 76) (by decide) (by kernel_rfl) ?_) | (with_reducible refine dP pl4_30Kp 25 (some 137) (by decide) (by kernel_rfl) ?_) | (with_reducible refine dP pl4_35Kp 9 (some 172) (by decide) (by kernel_rfl) ?_) | (with_reducible refine dP pl4_36Kp 9 (some 180) (by decide) (by kernel_rfl) ?_)
   all_goals refine ret_is (a := _) ?_ rfl rfl
   all_goals simp only [↓wBA, tKp, convA, seval]
   all_goals simp_all [wS]
end Go.Proofs.Ytcnkmandddfdmaa
