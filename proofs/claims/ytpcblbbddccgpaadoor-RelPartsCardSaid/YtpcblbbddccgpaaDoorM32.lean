/- Joins. -/
import Derived.Test.YtpcblbbddccgpaaDoorM28
import Derived.Test.YtpcblbbddccgpaaDoorM31
import Derived.Test.YtpcblbbddccgpaaDoorM27
set_option linter.unusedSimpArgs false
set_option linter.unusedVariables false
set_option linter.defProp false
set_option maxRecDepth 100000
set_option maxHeartbeats 32000000
namespace Go.Proofs.YtpcblbbddccgpaaDoor
open Go.RowKit
def tJn := aa wX <| aa wbu <| aa T3 <| aa T4 <| aa T22 <| aa T24 <| aa T27 <| aa T36 <| aa T45 T54
theorem jS2_ok (x : Ex) (s : List (List Va) × Int) (mid : St) (h : mid.all (okO (mid.length + 4)) = true) : (jS2 x s mid).all (okO (mid.length + 4)) = true := by
 simp only [jS2, List.all_cons, List.all_append, h, okO, tokLtL, tokLt, intV, tokLtL_pr, List.all_nil, Bool.and_true, Bool.true_and, decide_eq_true_eq]
 omega
theorem jS2_at1 (x : Ex) (s : List (List Va) × Int) (mid : St) : (jS2 x s mid)[1]? = some (some (.row 1 [[.p (.v (.int .i64 s.2))]])) := rfl
theorem jS2_at2 (x : Ex) (s : List (List Va) × Int) (mid : St) : (jS2 x s mid)[2]? = some (some (.row 1 [[.nown (mid.length + 3) 1 (enVV s.1)]])) := rfl
theorem rsG_ok (E n : Nat) : ∀ gs : Gr, (rsG E gs).all (okO n) = true
 | [] => rfl
 | (k, l) :: gs => by simp only [rsG, List.all_cons, okO, rsG_ok E n gs, Bool.and_self]
theorem jS2_last (x : Ex) (mid : St) : (jS2 x ([], 0) mid)[mid.length + 3]? = some (some (.nright 36 0)) := by simp [jS2]
theorem leS_snoc {σ0 τ : St} {n : Nat} (E : Nat) : ∀ m : St, m.all (okO n) = true → leS σ0 n τ m (m ++ [some (.nright E 0)])
 | [], _ => by simp [leS]
 | o :: m, h => by
   simp only [List.all_cons, Bool.and_eq_true] at h
   simp only [List.cons_append, leS]
   refine ⟨?_, leS_snoc E m h.2⟩
   cases o with
   | none => simp [leO]
   | some ob => cases ob with
     | row e ls => exact ⟨rfl, .inl ⟨rfl, h.1⟩⟩
     | right E m => exact ⟨rfl, rfl⟩
     | nright E m => exact ⟨rfl, rfl⟩
     | map es => exact ⟨rfl, h.1⟩
theorem jS2_from {σ0 τ : St} (x : Ex) (mid : St) (h : mid.all (okO (mid.length + 3)) = true) (hl : τ[mid.length + 3]? = some (some (.nright 36 0))) : leS σ0 (mid.length + 3) τ (some (.row 8 [(exC x).map .p]) :: some (.row 1 [[intV .i64 0]]) :: some (.row 1 [[nilA]]) :: mid) (jS2 x ([], 0) mid) := by
 rw [jS2]
 simp only [leS, enVV, List.map_nil, List.length_nil, Nat.zero_mul]
 refine ⟨⟨rfl, .inl ⟨rfl, by simp [tokLtL_pr]⟩⟩, ⟨rfl, .inl ⟨rfl, by simp [tokLtL, tokLt, intV]⟩⟩, ⟨rfl, .inr ⟨⟨?_, rfl, trivial⟩, trivial⟩⟩, leS_snoc _ mid h⟩
 exact .inr (.inr (.inr (.inr (.inl ⟨_, _, _, rfl, rfl, Nat.le_refl _, hl⟩))))
theorem ajoin (a b : List (List Va)) (k vk vn : Int) (vs tb nm : ByteArray) (sl : Int) (kids : List Ex) (ha : a.length ≤ 4398046511104) (hb : b.length ≤ 4398046511104)
 (hab : ∀ x ∈ a, ∀ y ∈ b, x.length + y.length ≤ 4398046511104) (har : ∀ r ∈ a, ∀ v ∈ r, i64R v.2.1) (hbr : ∀ r ∈ b, ∀ v ∈ r, i64R v.2.1) (hks : ∀ y ∈ kids, i64R (exSl y)) (σ : St) :
 ACalls Tryd.prog 13 [.p (.sl 1 (enVV a)), .p (.sl 1 (enVV b)), exA (.mk k vk vn vs tb nm sl kids)] σ fun r s => s = σ ∧ r = .tup [.p (.sl 1 (enVV (joinS a b (.mk k vk vn vs tb nm sl kids)).1)), intV .i64 (joinS a b (.mk k vk vn vs tb nm sl kids)).2] := by
 refine ACalls.pureF (R := fun r => r = .tup [.p (.sl 1 (enVV (joinS a b (.mk k vk vn vs tb nm sl kids)).1)), intV .i64 (joinS a b (.mk k vk vn vs tb nm sl kids)).2]) ?_ rfl σ
 have hI := aindexed a b k vk vn vs tb nm sl kids ha hb hbr hks
 have hP := apairT (.mk k vk vn vs tb nm sl kids)
 unfold joinS joinF
 generalize hstp : filStep (.mk k vk vn vs tb nm sl kids) = stp at *
 generalize hrs : restS a b (.mk k vk vn vs tb nm sl kids) = rest at *
 simp only [jSt, exA, exC, List.map_cons, List.map_nil] at hI
 refine acalls_of cx_ok dr_ok Tryd.func13 (by kernel_rfl) rfl (nt := 68) (rs := [.tmp 6, .tmp 7]) rfl rfl ?_
 simp only [exA, exC, List.map_cons, List.map_nil]
 repeat' first | ((with_reducible first | refine cs ?_ ?_ | refine ws ?_ ?_) <;> intro h <;> try simp only [h]) | simp only [↓wBA, tJn, convA, seval, enVV_len]
 refine hI.mono ?_
 intro r0 s0 hp
 unfold IxPost at hp
 have hF : ∀ (i : Nat) (h : i < a.length), (a.take (i + 1)).foldl (fun s x => (rest x).foldl (fun s y => stp s (x ++ y)) s) ([], 0) = (rest a[i]).foldl (fun s y => stp s (a[i] ++ y)) ((a.take i).foldl (fun s x => (rest x).foldl (fun s y => stp s (x ++ y)) s) ([], 0)) := fun i h => take_step _ _ a i h
 have hA := aanswer
 generalize hfd : (fun (s : List (List Va) × Int) x => (rest x).foldl (fun s y => stp s (x ++ y)) s) = fd at *
 cases hi : idxS a b (.mk k vk vn vs tb nm sl kids) with
 | none =>
   rw [hi] at hp
   obtain ⟨rfl, rfl⟩ := hp
   have hrb : ∀ x, rest x = b := fun x => by rw [← hrs]; unfold restS; rw [hi]
   simp only [hrb] at hF
   simp only [noneA, jSt, exC, List.map_cons, List.map_nil]
   repeat' first | ((with_reducible first | refine cs ?_ ?_ | refine ws ?_ ?_) <;> intro h <;> try simp only [h]) | simp only [↓wBA, tJn, convA, seval, enVV_len, ev_nilmap]
   refine awp_loopT (a.length) (fun i => [(31, intV .i64 (i : Nat)), (15, .any), (17, .any), (19, .any), (32, .any), (33, .any), (34, .any), (35, .any), (36, .any), (37, .any), (38, .any), (39, .any), (40, .any), (41, .any), (42, .any), (43, .any), (44, .any), (45, .any), (46, .any), (47, .any), (48, .any), (49, .any), (50, .any), (51, .any), (52, .any), (53, .any), (54, .any), (55, .any), (56, .any), (57, .any), (58, .any), (59, .any), (60, .any), (61, .any), (62, .any), (63, .any), (64, .any), (65, .any)]) (fun i => jS2 (.mk k vk vn vs tb nm sl kids) ((a.take i).foldl fd ([], 0)) []) ?_ ?_ ?_
   ·intro i; simp [jS2]
   ·skip
    simp only [wR, Nat.reduceAdd, Nat.reduceLT, reduceIte]
    refine weak_at 3 (by simp [jS2]) ?_ ?_
    ·simp [wW]
    ·simp only [List.take_zero, List.foldl_nil]
     exact jS2_from (.mk k vk vn vs tb nm sl kids) [] rfl (jS2_last _ [])
   ·intro i hii
    simp only [wR, Nat.reduceAdd, Nat.reduceLT, reduceIte]
    by_cases hlt : i < a.length
    ·have hdec := dT (i := i) (n := a.length) (by omega)
     have hi0 := nnI i
     have hw := wI i (by omega)
     have hg := enVV_get a i hlt
     have hxa : a[i] ∈ a := List.getElem_mem hlt
     have hst := hF i hlt
     generalize hs : (a.take i).foldl fd ([], 0) = s at *
     generalize hx : a[i] = x at *
     repeat' first | ((with_reducible first | refine cs ?_ ?_ | refine ws ?_ ?_) <;> intro h <;> try simp only [h]) | simp only [↓wBA, tJn, convA, seval, enVV_len, hdec, hi0, hw, hg]
     refine awp_loopT (b.length) (fun j => [(39, intV .i64 (j : Nat)), (17, .any), (40, .any), (41, .any), (42, .any), (43, .any), (44, .any), (45, .any), (46, .any), (47, .any)]) (fun j => jS2 (.mk k vk vn vs tb nm sl kids) ((b.take j).foldl (fun s y => stp s (x ++ y)) s) []) ?_ ?_ ?_
     ·intro j; simp [jS2]
     ·skip
      simp only [wR, Nat.reduceAdd, Nat.reduceLT, reduceIte]
      refine weak_at 4 (by simp [jS2]) ?_ (leS_self _ (jS2_ok _ _ [] rfl))
      simp [wW]
     ·intro j hj
      simp only [wR, Nat.reduceAdd, Nat.reduceLT, reduceIte]
      by_cases hlj : j < b.length
      ·have hdec2 := dT (i := j) (n := b.length) (by omega)
       have hj0 := nnI j
       have hw2 := wI j (by omega)
       have hg2 := enVV_get b j hlj
       have hyb : b[j] ∈ b := List.getElem_mem hlj
       have hst2 := take_step (fun s y => stp s (x ++ y)) s b j hlj
       have hP' := hP x b[j] (hab x hxa _ hyb)
       repeat' first | ((with_reducible first | refine cs ?_ ?_ | refine ws ?_ ?_) <;> intro h <;> try simp only [h]) | simp only [↓wBA, tJn, convA, seval, enVV_len, hdec2, hj0, hw2, hg2] | ((with_reducible show ACalls _ _ _ _ _); refine (hP' _ _).mono ?_; rintro _ _ ⟨rfl,rfl⟩)
       refine ⟨⟨j + 1, by omega⟩, by show b.length - (j + 1) < b.length - j; omega, ?_⟩
       simp only [hst2]
       refine weak_at 4 (by simp [jS2]) ?_ (leS_self _ (jS2_ok _ _ [] rfl))
       simp [wW]
      ·have hdec2 := dF (i := j) (n := b.length) (by omega)
       have htk : b.take j = b := List.take_of_length_le (by omega)
       simp only [htk]
       rw [← hst]
       repeat' first | ((with_reducible first | refine cs ?_ ?_ | refine ws ?_ ?_) <;> intro h <;> try simp only [h]) | simp only [↓wBA, tJn, convA, seval, enVV_len, hdec2, hw]
       refine ⟨⟨i + 1, by omega⟩, by show a.length - (i + 1) < a.length - i; omega, ?_⟩
       refine weak_at 4 (by simp [jS2]) ?_ (leS_self _ (jS2_ok _ _ [] rfl))
       simp [wW]
    ·have hdec := dF (i := i) (n := a.length) (by omega)
     have htk : a.take i = a := List.take_of_length_le (by omega)
     simp only [htk]
     have hA' := hA (a.foldl fd ([], 0)).2 (a.foldl fd ([], 0)).1
     repeat' first | ((with_reducible first | refine cs ?_ ?_ | refine ws ?_ ?_) <;> intro h <;> try simp only [h]) | simp only [↓wBA, tJn, convA, seval, enVV_len, hdec, jS2_at1, jS2_at2] | ((with_reducible show ACalls _ _ _ _ _); refine ACalls.frzArgs ?_; simp only [frzL, frzA]; refine (hA' _).eq ?_)
     all_goals refine ret_is (a := _) ?_ rfl rfl
     all_goals simp only [↓wBA, tJn, convA, seval]
     all_goals simp_all [wS]
 | some cd =>
   obtain ⟨c, d⟩ := cd
   rw [hi] at hp
   obtain ⟨rfl, rfl⟩ := hp
   have hrow := idxS_row hi
   have hrb : ∀ x, rest x = contG (keyS c x) (allG (keyS d) b) := fun x => by rw [← hrs]; unfold restS; rw [hi]; exact (contG_all _ _ _).symm
   have hsub : ∀ x y, y ∈ rest x → y ∈ b := fun x y hy => by
    rw [hrb, contG_all] at hy
    exact (List.mem_filter.1 hy).1
   have hlb : ∀ x, (rest x).length ≤ b.length := fun x => by rw [hrb, contG_all]; exact List.length_filter_le _ _
   simp only [hrb] at hF
   generalize allG (keyS d) b = gs at *
   have hmk : ∀ n, 8 + 2 * gs.length ≤ n → (none :: none :: none :: none :: some (.map (esG 8 gs)) :: rsG 36 gs : St).all (okO n) = true := fun n hn => by
    simp only [List.all_cons, okO, esG_tok gs 8 n (by omega), rsG_ok, Bool.and_self]
   have hml : (none :: none :: none :: none :: some (.map (esG 8 gs)) :: rsG 36 gs : St).length = 2 * gs.length + 5 := by simp [rsG_len]
   simp only [jSt, exC, List.map_cons, List.map_nil, List.cons_append, List.nil_append]
   have hat7 : ∀ s, (jS2 (.mk k vk vn vs tb nm sl kids) s (none :: none :: none :: none :: some (.map (esG 8 gs)) :: rsG 36 gs))[7]? = some (some (.map (esG 8 gs))) := fun s => rfl
   have hfrom := @jS2_from
   generalize hmid : (none :: none :: none :: none :: some (.map (esG 8 gs)) :: rsG 36 gs : St) = mid at *
   have hself : ∀ (σ0 τ : St) s n, n = mid.length + 4 → leS σ0 n τ (jS2 (.mk k vk vn vs tb nm sl kids) s mid) (jS2 (.mk k vk vn vs tb nm sl kids) s mid) := fun σ0 τ s n hn => by
    subst hn
    exact leS_self _ (jS2_ok _ _ mid (hmk _ (by omega)))
   repeat' first | ((with_reducible first | refine cs ?_ ?_ | refine ws ?_ ?_) <;> intro h <;> try simp only [h]) | simp only [↓wBA, tJn, convA, seval, enVV_len, ev_nilmap]
   refine awp_loopT (a.length) (fun i => [(31, intV .i64 (i : Nat)), (15, .any), (17, .any), (19, .any), (32, .any), (33, .any), (34, .any), (35, .any), (36, .any), (37, .any), (38, .any), (39, .any), (40, .any), (41, .any), (42, .any), (43, .any), (44, .any), (45, .any), (46, .any), (47, .any), (48, .any), (49, .any), (50, .any), (51, .any), (52, .any), (53, .any), (54, .any), (55, .any), (56, .any), (57, .any), (58, .any), (59, .any), (60, .any), (61, .any), (62, .any), (63, .any), (64, .any), (65, .any)]) (fun i => jS2 (.mk k vk vn vs tb nm sl kids) ((a.take i).foldl fd ([], 0)) mid) ?_ ?_ ?_
   ·intro i; simp [jS2]
   ·skip
    simp only [wR, Nat.reduceAdd, Nat.reduceLT, reduceIte]
    refine weak_at (mid.length + 3) (by simp [jS2]) ?_ ?_
    ·simp [wW]
     omega
    ·simp only [List.take_zero, List.foldl_nil]
     exact jS2_from (.mk k vk vn vs tb nm sl kids) mid (hmk _ (by omega)) (jS2_last _ mid)
   ·intro i hii
    simp only [wR, Nat.reduceAdd, Nat.reduceLT, reduceIte]
    by_cases hlt : i < a.length
    ·have hdec := dT (i := i) (n := a.length) (by omega)
     have hi0 := nnI i
     have hc0 := nnI c
     have hw := wI i (by omega)
     have hg := enVV_get a i hlt
     have hxa : a[i] ∈ a := List.getElem_mem hlt
     have hst := hF i hlt
     have hrc := hrow a[i] hxa
     have hrv := har a[i] hxa
     have hsb := hsub a[i]
     have hlbx := hlb a[i]
     have hrbx := hrb a[i]
     have habx := hab a[i] hxa
     generalize hs : (a.take i).foldl fd ([], 0) = s at *
     generalize hx : a[i] = x at *
     have hrg : (enV x)[c]? = some (vaC (x.getD c va0)) := by rw [enV_get x c hrc]; simp [List.getD, hrc]
     have hvm : x.getD c va0 ∈ x := by simp [List.getD, hrc]
     have hkey := akey (x.getD c va0) (hrv _ hvm)
     have hks' : keyS c x = showV (x.getD c va0) := rfl
     rw [hks'] at hst hrbx
     generalize x.getD c va0 = v at *
     obtain ⟨v1, v2, v3⟩ := v
     simp only [vaA, vaC, List.map_cons, List.map_nil] at hkey hrg
     generalize showV (v1, v2, v3) = kk at *
     have hlk := lookG kk gs 8
     cases hf : findG kk gs with
     | none =>
       rw [hf] at hlk
       simp only [nilA] at hlk
       have hcn : contG kk gs = [] := by unfold contG; rw [hf]
       rw [hcn, List.foldl_nil] at hst
       repeat' first | ((with_reducible first | refine cs ?_ ?_ | refine ws ?_ ?_) <;> intro h <;> try simp only [h]) | simp only [↓wBA, tJn, convA, seval, enVV_len, hdec, hi0, hc0, hw, hg, hrg, hat7, hlk] | ((with_reducible show ACalls _ _ _ _ _); refine (hkey _).eq ?_)
       refine awp_loopT (0) (fun j => [(56, intV .i64 (j : Nat)), (19, .any), (57, .any), (58, .any), (59, .any), (60, .any), (61, .any), (62, .any), (63, .any), (64, .any)]) (fun j => jS2 (.mk k vk vn vs tb nm sl kids) s mid) ?_ ?_ ?_
       ·intro j; simp [jS2]
       ·skip
        simp only [wR, Nat.reduceAdd, Nat.reduceLT, reduceIte]
        refine weak_at (mid.length + 4) (by simp [jS2]) ?_ (hself _ _ _ _ rfl)
        simp [wW]
        try omega
       ·intro j hj
        simp only [wR, Nat.reduceAdd, Nat.reduceLT, reduceIte]
        obtain rfl : j = 0 := by omega
        have hdec2 : decide (((0 : Nat) : Int) < (0 : Int)) = false := by decide
        repeat' first | ((with_reducible first | refine cs ?_ ?_ | refine ws ?_ ?_) <;> intro h <;> try simp only [h]) | simp only [↓wBA, tJn, convA, seval, enVV_len, hdec2, hw]
        refine ⟨⟨i + 1, by omega⟩, by show a.length - (i + 1) < a.length - i; omega, ?_⟩
        simp only [hst]
        refine weak_at (mid.length + 4) (by simp [jS2]) ?_ (hself _ _ _ _ rfl)
        simp [wW]
        try omega
     | some y =>
       obtain ⟨j0, l⟩ := y
       rw [hf] at hlk
       simp only at hlk
       have hcn : contG kk gs = l := by unfold contG; rw [hf]
       rw [hcn] at hst hrbx
       rw [hrbx] at hsb hlbx
       have hjl := (findG_mem kk gs j0 l hf).1
       have htok : 2 * j0 + 1 + 8 < mid.length + 4 := by omega
       repeat' first | ((with_reducible first | refine cs ?_ ?_ | refine ws ?_ ?_) <;> intro h <;> try simp only [h]) | simp only [↓wBA, tJn, convA, seval, enVV_len, hdec, hi0, hc0, hw, hg, hrg, hat7, hlk] | ((with_reducible show ACalls _ _ _ _ _); refine (hkey _).eq ?_)
       refine awp_loopT (l.length) (fun j => [(56, intV .i64 (j : Nat)), (19, .any), (57, .any), (58, .any), (59, .any), (60, .any), (61, .any), (62, .any), (63, .any), (64, .any)]) (fun j => jS2 (.mk k vk vn vs tb nm sl kids) ((l.take j).foldl (fun s y => stp s (x ++ y)) s) mid) ?_ ?_ ?_
       ·intro j; simp [jS2]
       ·skip
        simp only [wR, Nat.reduceAdd, Nat.reduceLT, reduceIte]
        refine weak_at (mid.length + 4) (by simp [jS2]) ?_ (hself _ _ _ _ rfl)
        simp [wW]
        try omega
       ·intro j hj
        simp only [wR, Nat.reduceAdd, Nat.reduceLT, reduceIte]
        by_cases hlj : j < l.length
        ·have hdec2 := dT (i := j) (n := l.length) (by omega)
         have hj0 := nnI j
         have hw2 := wI j (by omega)
         have hg2 := enVV_get l j hlj
         have hyb : l[j] ∈ l := List.getElem_mem hlj
         have hst2 := take_step (fun s y => stp s (x ++ y)) s l j hlj
         have hP' := hP x l[j] (habx _ (hsb _ hyb))
         repeat' first | ((with_reducible first | refine cs ?_ ?_ | refine ws ?_ ?_) <;> intro h <;> try simp only [h]) | simp only [↓wBA, tJn, convA, seval, enVV_len, hdec2, hj0, hw2, hg2] | ((with_reducible show ACalls _ _ _ _ _); refine (hP' _ _).mono ?_; rintro _ _ ⟨rfl,rfl⟩)
         refine ⟨⟨j + 1, by omega⟩, by show l.length - (j + 1) < l.length - j; omega, ?_⟩
         simp only [hst2]
         refine weak_at (mid.length + 4) (by simp [jS2]) ?_ (hself _ _ _ _ rfl)
         simp [wW]
         try omega
        ·have hdec2 := dF (i := j) (n := l.length) (by omega)
         have htk : l.take j = l := List.take_of_length_le (by omega)
         simp only [htk]
         rw [← hst]
         repeat' first | ((with_reducible first | refine cs ?_ ?_ | refine ws ?_ ?_) <;> intro h <;> try simp only [h]) | simp only [↓wBA, tJn, convA, seval, enVV_len, hdec2, hw]
         refine ⟨⟨i + 1, by omega⟩, by show a.length - (i + 1) < a.length - i; omega, ?_⟩
         refine weak_at (mid.length + 4) (by simp [jS2]) ?_ (hself _ _ _ _ rfl)
         simp [wW]
         try omega
    ·have hdec := dF (i := i) (n := a.length) (by omega)
     have htk : a.take i = a := List.take_of_length_le (by omega)
     simp only [htk]
     have hA' := hA (a.foldl fd ([], 0)).2 (a.foldl fd ([], 0)).1
     repeat' first | ((with_reducible first | refine cs ?_ ?_ | refine ws ?_ ?_) <;> intro h <;> try simp only [h]) | simp only [↓wBA, tJn, convA, seval, enVV_len, hdec, jS2_at1, jS2_at2] | ((with_reducible show ACalls _ _ _ _ _); refine ACalls.frzArgs ?_; simp only [frzL, frzA]; refine (hA' _).eq ?_)
     all_goals refine ret_is (a := _) ?_ rfl rfl
     all_goals simp only [↓wBA, tJn, convA, seval]
     all_goals simp_all [wS]
end Go.Proofs.YtpcblbbddccgpaaDoor
