/- Projections to no expressions. A function that touches no object is handed rows that are written, to read them. RelLimit. -/
import Derived.Test.YtpcblbbddccgpaaDoorM31
import Derived.Test.YtpcblbbddccgpaaDoorM30
import Derived.Test.YtpcblbbddccgpaaDoorM18
set_option linter.unusedSimpArgs false
set_option linter.unusedVariables false
set_option linter.defProp false
set_option maxRecDepth 100000
set_option maxHeartbeats 32000000
namespace Go.Proofs.YtpcblbbddccgpaaDoor
open Go.RowKit
def tPo0 := aa wX <| aa wbu <| aa T3 <| aa T22 <| aa T24 <| aa T25 <| aa T27 <| aa T31 <| aa T36 T45
def nilR (n : Nat) : List (List PV) := List.replicate n [.v (.slice none 0 0)]
def empR (n : Nat) : List (List Va) := List.replicate n []
theorem nilR_len (n : Nat) : (nilR n).length = n := by simp [nilR]
theorem nilR_succ (n : Nat) : nilR (n + 1) = nilR n ++ [[.v (.slice none 0 0)]] := by simp [nilR, List.replicate_succ']
theorem nle_nilR : ∀ n, nleR (nilR n) (enVV (empR n))
 | 0 => by simp [nilR, empR, enVV, nleR]
 | n + 1 => by
   have := nle_nilR n
   simp only [nilR, empR, enVV, List.replicate_succ, List.map_cons, nleR, nleQ, nleP, and_true] at this ⊢
   exact ⟨⟨trivial, rfl⟩, this⟩
theorem nle_nil0 (n : Nat) : nleP (nilSl 1 (nilR n)) (nilSl 1 (enVV (empR n))) := by
 cases n with
 | zero => simp [nilR, empR, enVV, nilSl, nleP]
 | succ n =>
   have h := nle_nilR (n + 1)
   simp only [nilSl, nilR, empR, enVV, List.replicate_succ, List.map_cons, List.isEmpty_cons, Bool.false_eq_true, if_false, nleP] at h ⊢
   exact ⟨trivial, h⟩
theorem aproject0 (rows : List (List Va)) (hr : rows.length * 24 ≤ 140737488351232) (σ : St) : ACalls Tryd.prog 16 [.p (.sl 1 (enVV rows)), .p (.v (.slice none 0 0))] σ fun r s => s = σ ∧ r = .tup [.p (.sl 1 (enVV (ansS 0 (empR rows.length)).1)), intV .i64 (ansS 0 (empR rows.length)).2] := by
 refine ACalls.pureF (R := fun r => r = .tup [.p (.sl 1 (enVV (ansS 0 (empR rows.length)).1)), intV .i64 (ansS 0 (empR rows.length)).2]) ?_ rfl σ
 refine acalls_of cx_ok dr_ok Tryd.func16 (by kernel_rfl) rfl (nt := 48) (rs := [.tmp 4, .tmp 5]) rfl rfl ?_
 repeat' first | ((with_reducible first | refine cs ?_ ?_ | refine ws ?_ ?_) <;> intro h <;> try simp only [h]) | simp only [↓wBA, tPo0, convA, seval, enVV_len]
 refine awp_loopN (rows.length) (fun i => [(7, .nown 1 1 (nilR i)), (17, intV .i64 (i : Nat)), (9, .any), (10, .any), (12, .any), (13, .any), (14, .any), (18, .any), (19, .any), (20, .any), (21, .any), (22, .any), (23, .any), (24, .any), (25, .any), (26, .any), (27, .any), (28, .any), (29, .any), (30, .any), (31, .any), (32, .any), (33, .any), (34, .any), (35, .any), (36, .any), (37, .any), (38, .any), (39, .any), (40, .any), (41, .any), (42, .any), (43, .any), (44, .any)]) (fun i => [(0, .row 1 [[intV .i64 0]]), (1, .nright 36 (i * 1))]) (fun i => True) ?_ ?_ ?_
 ·trivial
 ·skip
  simp only [wR, Nat.reduceAdd, Nat.reduceLT, reduceIte]
  simp [wW, nilR]
 ·intro i hi _
  simp only [wR, Nat.reduceAdd, Nat.reduceLT, reduceIte]
  by_cases hlt : i < rows.length
  ·have hdec := dT (i := i) (n := rows.length) (by omega)
   have hi0 := nnI i
   have hw := wI i (by omega)
   have hg := enVV_get rows i hlt
   have hlim1 := tL (n := (i + 1) * 24) (by omega)
   have hlim2 := lM (n := i + 1) (by omega)
   repeat' first | ((with_reducible first | refine cs ?_ ?_ | refine ws ?_ ?_) <;> intro h <;> try simp only [h]) | simp only [↓wBA, tPo0, convA, seval, enVV_len, hdec, hi0, hg, hw]
   refine awp_loopN (0) (fun j => [(10, .p (.v (.slice none 0 0))), (23, intV .i64 (j : Nat)), (12, .any), (13, .any), (14, .any), (24, .any), (25, .any), (26, .any), (27, .any), (28, .any), (29, .any), (30, .any), (31, .any), (32, .any), (33, .any), (34, .any), (35, .any), (36, .any), (37, .any), (38, .any), (39, .any)]) (fun j => []) (fun j => True) ?_ ?_ ?_
   ·trivial
   ·skip
    simp only [wR, Nat.reduceAdd, Nat.reduceLT, reduceIte]
    simp [wW]
   ·intro j hj _
    obtain rfl : j = 0 := by omega
    simp only [wR, Nat.reduceAdd, Nat.reduceLT, reduceIte]
    repeat' first | ((with_reducible first | refine cs ?_ ?_ | refine ws ?_ ?_) <;> intro h <;> try simp only [h]) | simp only [↓wBA, tPo0, convA, seval, enVV_len, hdec, hi0, hw, nilR_len, hlim1, hlim2, appendA, srcA, List.length_append]
    all_goals refine ⟨⟨i + 1, by omega, trivial⟩, by show rows.length - (i + 1) < rows.length - i; omega, ?_⟩
    all_goals simp only [wR, Nat.reduceAdd, Nat.reduceLT, reduceIte]
    all_goals simp_all [wW, nilR_succ]
  ·have hdec := dF (i := i) (n := rows.length) (by omega)
   obtain rfl : i = rows.length := by omega
   repeat' first | ((with_reducible first | refine cs ?_ ?_ | refine ws ?_ ?_) <;> intro h <;> try simp only [h]) | simp only [↓wBA, tPo0, convA, seval, enVV_len, hdec] | ((with_reducible show ACalls _ _ _ _ _); refine ACalls.frzArgs ?_; simp only [frzL, frzA]; refine ACalls.arg2 (nle_nil0 _) ?_; refine (aanswer _ _ _).eq ?_)
   all_goals refine ret_is (a := _) ?_ rfl rfl
   all_goals simp only [↓wBA, tPo0, convA, seval]
   all_goals simp_all [wS]
end Go.Proofs.YtpcblbbddccgpaaDoor
namespace Go.Proofs.YtpcblbbddccgpaaDoor
open Go.RowKit
theorem make_eq {C : Ctx} {tk : Nat} {T : TypeId} {l c : Operand} {ρ : Operand → AV} {σ : St} : makeM C true tk T l c ρ σ = (match C.kind T with
    | some (.slice E es eb ez) => (match intA (ρ l) with
      | some (_, n) => (match intA (ρ c) with
        | some (_, m) => if n = m ∧ 0 ≤ n ∧ eb * n ≤ 140737488355328 ∧ n ≤ maxLen then some (.ms tk es 0 n.toNat, σ.put tk (.row es (List.replicate n.toNat (zeroA ez)))) else none
        | none => none)
      | none => none)
    | _ => none) := by
  unfold makeM
  cases C.kind T with
  | none => rfl
  | some k => cases k <;> cases intA (ρ l) <;> cases intA (ρ c) <;> rfl
def Rd (σ : St) : Nat → AV → PV → Prop
 | 0, a, x => a = .p x ∨ (∃ t e ls, a = .own t e ls ∧ x = .sl e ls) ∨ (∃ t e ls, a = .nown t e ls ∧ x = nilSl e ls)
 | k + 1, a, x => Rd σ k a x ∨ ∃ t e i n ls pls, a = .ms t e i n ∧ x = .sl e pls ∧ σ.at t (.row e ls) ∧ i + n ≤ ls.length ∧ pls.length = n ∧ ∀ (j : Nat) (c : List PV), pls[j]? = some c → ∃ c0, ls[i + j]? = some c0 ∧ c0.length = c.length ∧ ∀ (q : Nat) (y : PV), c[q]? = some y → ∃ b, c0[q]? = some b ∧ Rd σ k b y
def allI (w : World) : Nat → Nat → Prop := fun b _ => b < w.heap.size
theorem Rd.rep {M : View} {σ : St} (hM : Match M σ) : ∀ (k : Nat) {a : AV} {x : PV} {u : Value}, Rd σ k a x → ARep M a u → PRep M.w (allI M.w) x u
 | 0, a, x, u, h, hu => by
   have hp : ∀ p, PRep M.w M.I p u → PRep M.w (allI M.w) p u := fun p h => PRep.later (fun b o h => hM.imm b o h) (fun _ _ _ => rfl) _ _ h
   rcases h with rfl | ⟨t, e, ls, rfl, rfl⟩ | ⟨t, e, ls, rfl, rfl⟩
   ·simp only [ARep] at hu; exact hp _ hu
   ·exact hp _ (toP_rep (M := M) (x := .own t e ls) rfl hu)
   ·exact hp _ (toP_rep (M := M) (x := .nown t e ls) rfl hu)
 | k + 1, a, x, u, h, hu => by
   rcases h with h | ⟨t, e, i, n, ls, pls, rfl, rfl, ht, hin, hpl, hg⟩
   ·exact Rd.rep hM k h hu
   ·obtain ⟨_, b, cur, T, hb, hh, hI, hr, hcs⟩ := hM.obj t _ ht
    simp only [ARep] at hu
    obtain ⟨b', cap, hb', _, rfl, hn, hf⟩ := hu
    have : b' = b := by rw [hb] at hb'; simpa using hb'.symm
    subst this
    simp only [PRep]
    refine .inr ⟨b', i * e, cap, by rw [hpl], by omega, PRepR.of_get fun j c hj => ?_⟩
    obtain ⟨c0, h1, h2, h3⟩ := hg j c hj
    obtain ⟨h4, h5⟩ := hr (i + j) c0 h1
    refine ⟨by rw [← h2, h4], PRepC.of_get fun q y hy => ?_⟩
    obtain ⟨a0, h6, h7⟩ := h3 q y hy
    obtain ⟨_, v, h8, h9⟩ := h5 q a0 h6
    refine ⟨v, ?_, hM.lt t b' hb, Rd.rep hM k h7 h9⟩
    rw [cell_of_row _ _ _ _ _ _ hh, ← Nat.add_mul]; exact h8
def RdA (σ : St) (k : Nat) (a b : AV) : Prop := (∃ x, Rd σ k a x ∧ b = .p x) ∨ ∃ l : List PV, a = .agg (l.map .p) ∧ b = a
def RdL (σ : St) (k : Nat) : List AV → List AV → Prop
 | [], [] => True
 | a :: l, b :: m => RdA σ k a b ∧ RdL σ k l m
 | _, _ => False
theorem agg_rep {M M' : View} (hi : ∀ b o, M.I b o → M'.I b o) (hw : M'.w = M.w) : ∀ (l : List PV) (us : List Value), ARepL M (l.map .p) us → ARepL M' (l.map .p) us
 | [], us, h => by simpa [ARepL] using h
 | x :: l, us, h => by
   simp only [List.map_cons, ARepL] at h ⊢
   obtain ⟨u, us', h1, h2, h3⟩ := h
   refine ⟨u, us', h1, ?_, agg_rep hi hw l us' h3⟩
   simp only [ARep] at h2 ⊢
   rw [hw]
   exact PRep.later hi (fun _ _ _ => rfl) _ _ h2
theorem RdL.rep {M M0 : View} {σ : St} (hM : Match M σ) (hw : M0.w = M.w) (hI : M0.I = allI M.w) {k : Nat} : ∀ {l m : List AV} {us : List Value}, RdL σ k l m → ARepL M l us → ARepL M0 m us
 | [], [], us, _, h => by simpa [ARepL] using h
 | a :: l, b :: m, us, h, hu => by
   simp only [RdL] at h
   simp only [ARepL] at hu ⊢
   obtain ⟨u, us', h1, h2, h3⟩ := hu
   refine ⟨u, us', h1, ?_, RdL.rep hM hw hI h.2 h3⟩
   rcases h.1 with ⟨x, hx, rfl⟩ | ⟨l, rfl, rfl⟩
   ·simp only [ARep]; rw [hw, hI]; exact hx.rep hM k h2
   ·simp only [ARep] at h2 ⊢
    obtain ⟨g0, us, g1, g2⟩ := h2
    exact ⟨g0, us, g1, agg_rep (fun b o h => by rw [hI]; exact hM.imm b o h) hw l us g2⟩
 | [], _ :: _, _, h, _ => by simp [RdL] at h
 | _ :: _, [], _, h, _ => by simp [RdL] at h
end Go.Proofs.YtpcblbbddccgpaaDoor
namespace Go.Proofs.YtpcblbbddccgpaaDoor
open Go.RowKit
def tLm := aa wX <| aa wbu <| aa T2 <| aa T3 <| aa T4 <| aa T5 <| aa T22 <| aa T25 <| aa T27 <| aa T31 T36
def cxK : Ctx := { cx with muts := [22 * 100000 + 22] }
theorem cxK_ok : cxK.ok Tryd.prog := cx_ok
theorem drK_ok : DrawOk Tryd.prog (aDraw Tryd.prog cxK) := aDraw_ok cxK_ok (by kernel_rfl)
theorem kindK (t : TypeId) : cxK.kind t = cx.kind t := nr rfl
theorem tyK (t : TypeId) : cxK.ty t = cx.ty t := nr rfl
theorem lenK {T : TypeId} {x : AV} : lenA cxK T x = lenA cx T x := nr rfl
theorem mutsK : cxK.muts = [22 * 100000 + 22] := nr rfl
theorem toPss_map : ∀ l : List (List PV), toPss (l.map fun c => c.map .p) = some l
 | [] => rfl
 | c :: l => by
   have h1 : ∀ c : List PV, toPs (c.map .p) = some c := fun c => by
    induction c with
    | nil => rfl
    | cons x c ih => simp [toPs, toP, ih]
   simp only [List.map_cons, toPss, h1, toPss_map l]
theorem leC_self {σ0 τ : St} {n : Nat} : ∀ c : List AV, (c.all fun a => tokLt n a && leaf a) = true → leC σ0 n τ c c
 | [], _ => trivial
 | a :: c, h => by
   simp only [List.all_cons, Bool.and_eq_true] at h
   exact ⟨.inr (.inl ⟨rfl, h.1.1⟩), h.1.2, leC_self c h.2⟩
theorem leR_self {σ0 τ : St} {n : Nat} : ∀ l : List (List AV), (l.all fun c => c.all fun a => tokLt n a && leaf a) = true → leR σ0 n τ l l
 | [], _ => trivial
 | c :: l, h => by
   simp only [List.all_cons, Bool.and_eq_true] at h
   exact ⟨leC_self c h.1, leR_self l h.2⟩
theorem leR_mid {σ0 τ : St} {n : Nat} {B : List (List AV)} {x y : List AV} (hB : (B.all fun c => c.all fun a => tokLt n a && leaf a) = true) (h : leC σ0 n τ x y) : ∀ A : List (List AV), (A.all fun c => c.all fun a => tokLt n a && leaf a) = true → leR σ0 n τ (A ++ x :: B) (A ++ y :: B)
 | [], _ => ⟨h, leR_self B hB⟩
 | c :: A, hA => by
   simp only [List.all_cons, Bool.and_eq_true] at hA
   exact ⟨leC_self c hA.1, leR_mid hB h A hA.2⟩
theorem leC_own {σ0 τ : St} {n t e : Nat} {ls : List (List PV)} : leC σ0 n τ [.own t e ls] [.p (.sl e ls)] := by simp [leC, leA, leaf]
theorem okD {n : Nat} (l : List (List PV)) : ((l.map fun c => c.map AV.p).all fun c => c.all fun a => tokLt n a && leaf a) = true := by
 simp only [List.all_map, List.all_eq_true]
 intro c _
 simp [tokLt, leaf]
theorem okZ {n : Nat} (k : Nat) : ((List.replicate k [nilA]).all fun c => c.all fun a => tokLt n a && leaf a) = true := by
 simp only [List.all_eq_true]
 intro c hc
 rw [List.eq_of_mem_replicate hc]
 simp [tokLt, leaf, nilA]
def cellsK (k i : Nat) : List (List AV) := (enVV (lmRows i)).map (fun c => c.map .p) ++ List.replicate (k - i) [nilA]
theorem cellsK_zero (k : Nat) : cellsK k 0 = List.replicate k [nilA] := by simp [cellsK, lmRows, enVV]
theorem cellsK_get {k i : Nat} (h : i < k) : (cellsK k i)[i]? = some [nilA] := by
 unfold cellsK
 have hl : ((enVV (lmRows i)).map fun c => c.map AV.p).length = i := by simp [enVV_len, lmRows_len]
 rw [List.getElem?_append_right (by omega), hl, Nat.sub_self, List.getElem?_replicate, if_pos (by omega)]
theorem cellsK_set {k i : Nat} (h : i < k) (x : List AV) : (cellsK k i).set i x = (enVV (lmRows i)).map (fun c => c.map .p) ++ x :: List.replicate (k - (i + 1)) [nilA] := by
 unfold cellsK
 obtain ⟨m, hm⟩ : ∃ m, k - i = m + 1 := ⟨k - i - 1, by omega⟩
 have hl : ((enVV (lmRows i)).map fun c => c.map AV.p).length = i := by simp [enVV_len, lmRows_len]
 rw [List.set_append, if_neg (by omega), hl, Nat.sub_self, hm, List.replicate_succ, List.set_cons_zero, show k - (i + 1) = m by omega]
theorem cellsK_succ {k i : Nat} (h : i < k) : cellsK k (i + 1) = (enVV (lmRows i)).map (fun c => c.map .p) ++ [.p (.sl 3 (enV (lmRow i)))] :: List.replicate (k - (i + 1)) [nilA] := by
 unfold cellsK
 rw [lmRows_succ, enVV_app, List.map_append, List.append_assoc]; rfl
theorem cellsK_len {k i : Nat} (h : i ≤ k) : (cellsK k i).length = k := by simp [cellsK, enVV_len, lmRows_len]; omega
theorem cellsK_end (k : Nat) : toPss (cellsK k k) = some (enVV (lmRows k)) := by
 unfold cellsK
 rw [Nat.sub_self, List.replicate_zero, List.append_nil]
 exact toPss_map _
theorem frz_K (k : Nat) {τ : St} (hτ : τ[0]? = some none) {rest : St} : frzRow (some (.row 1 (cellsK k k)) :: rest) τ 0 1 0 k = some (enVV (lmRows k)) := by
 unfold frzRow
 have hl := cellsK_len (Nat.le_refl k)
 simp only [List.getElem?_cons_zero, hτ, Nat.zero_add, true_and, List.drop_zero]
 rw [if_pos (by omega), List.take_of_length_le (by omega), cellsK_end]
theorem empR_lenK (n : Nat) : (empR n).length = n := by simp [empR]
theorem lm_rem (i : Nat) : Int.tmod (i : Int) 2 = ((i % 2 : Nat) : Int) := by rw [Int.tmod_eq_emod_of_nonneg (by omega)]; omega
theorem lm_half (k : Nat) : Int.tdiv (k : Int) 2 = ((k / 2 : Nat) : Int) := by rw [Int.tdiv_eq_ediv_of_nonneg (by omega)]; omega
theorem alimit (n : Int) (h0 : 0 ≤ n) (h1 : n < 256) (σ : St) : ACalls Tryd.prog 6 [.p (.v (.int .u8 n))] σ fun r s => s = σ ∧ r = boolV true := by
 refine ACalls.pureF (R := fun r => r = boolV true) ?_ rfl σ
 have hA := aawake
 have hnum := anum
 have hslot := aslot
 have hn1 := anode 10 [slX 0, slX 1]
 have hn2 := anode 19 [.mk 1 1 1 emp emp emp 0 []]
 obtain ⟨k, hk, hk1, hk2⟩ : ∃ k : Nat, IntKind.i64.wrap (9998 + IntKind.i64.wrap (Int.tmod n 5)) = (k : Int) ∧ 9998 ≤ k ∧ k ≤ 10002 := ⟨9998 + (n % 5).toNat, by rw [IntKind.wrap_i64, IntKind.wrap_i64, Int.tmod_eq_emod_of_nonneg h0]; omega, by omega, by omega⟩
 have hm1 : ((24 : Int) * (k : Int) ≤ 140737488355328) = True := eq_true (by omega)
 have hm2 : ((k : Int) ≤ (maxLen : Int)) = True := eq_true (by unfold maxLen; omega)
 have hlen := lmRows_len k
 obtain ⟨⟨f1, f2⟩, ⟨j1, j2⟩, q1, q2⟩ := lm_all k
 have hFi := afilterL (lmRows k) lmYes ⟨by omega, fun r hr => by rcases lmRows_mem hr with rfl | rfl <;> decide⟩
 have hP := aproject0 (lmRows k) (by omega)
 have hrg : ∀ r ∈ lmRows k, ∀ v ∈ r, i64R v.2.1 := fun r hr v hv => by
  rcases lmRows_mem hr with rfl | rfl
  ·rw [List.mem_singleton] at hv; subst hv; decide
  ·rw [List.mem_singleton] at hv; subst hv; decide
 have hks : ∀ y ∈ [slX 0, slX 1], i64R (exSl y) := by
  intro y hy
  rcases List.mem_cons.1 hy with rfl | hy
  ·decide
  ·rcases List.mem_cons.1 hy with rfl | hy
   ·decide
   ·cases hy
 have hJ1 := ajoin (lmRows k) [[nmV 1]] 10 0 0 emp emp emp 0 [slX 0, slX 1] (by omega) (by decide) (fun x hx y hy => by
  rw [List.mem_singleton] at hy; subst hy
  rcases lmRows_mem hx with rfl | rfl <;> decide) hrg (by decide) hks
 have hJ2 := ajoin (lmRows k) [[nmV 1], [nmV 0]] 10 0 0 emp emp emp 0 [slX 0, slX 1] (by omega) (by decide) (fun x hx y hy => by
  have : y.length = 1 := by
   rcases List.mem_cons.1 hy with rfl | hy
   ·rfl
   ·rw [List.mem_singleton] at hy; subst hy; rfl
  rw [this]
  rcases lmRows_mem hx with rfl | rfl <;> decide) hrg (by decide) hks
 have e1 : (Ex.mk 10 0 0 emp emp emp 0 [slX 0, slX 1]) = lmOn := rfl
 rw [e1] at hJ1 hJ2
 rw [hlen] at hP
 have hz := cellsK_zero k
 have hrows : ∀ rest τ, τ[0]? = some none → frzRow (some (.row 1 (cellsK k k)) :: rest) τ 0 1 0 k = some (enVV (lmRows k)) := fun rest τ h => frz_K k h
 generalize filS (lmRows k) lmYes = F at *
 generalize joinS (lmRows k) [[nmV 1]] lmOn = J at *
 generalize joinS (lmRows k) [[nmV 1], [nmV 0]] lmOn = Q at *
 obtain ⟨F1, F2⟩ := F
 obtain ⟨J1, J2⟩ := J
 obtain ⟨Q1, Q2⟩ := Q
 simp only at f1 f2 j1 j2 q1 q2 hFi hJ1 hJ2
 have p1 : (ansS 0 (empR k)).2 = if k ≤ 10000 then 0 else 20 := by
  unfold ansS
  rw [if_neg (by simp), empR_lenK]
  by_cases h : k ≤ 10000
  ·rw [if_neg (by omega), if_pos h]
  ·rw [if_pos (by omega), if_neg h]
 have p2 : (ansS 0 (empR k)).1.length = if k ≤ 10000 then k else 0 := by
  unfold ansS
  rw [if_neg (by simp), empR_lenK]
  by_cases h : k ≤ 10000
  ·rw [if_neg (by omega), if_pos h]; exact empR_lenK k
  ·rw [if_pos (by omega), if_neg h]; rfl
 generalize ansS 0 (empR k) = P at *
 obtain ⟨P1, P2⟩ := P
 simp only at p1 p2 hP
 rw [← enVV_len] at f2 j2 q2 p2
 generalize enVV F1 = fv at *
 generalize enVV J1 = jv at *
 generalize enVV Q1 = qv at *
 generalize enVV P1 = pv at *
 have hRl : (enVV (lmRows k)).length = k := by rw [enVV_len]; exact hlen
 generalize hRv : enVV (lmRows k) = rv at *
 simp only [lmYes, lmOn, exA, exC, exL, enVV, enV, vaA, vaC, slX, noX, nmV, List.map_cons, List.map_nil, emp, intV] at hFi hJ1 hJ2 hn1 hn2 hnum hslot
 refine acalls_of cxK_ok drK_ok Tryd.func6 (by kernel_rfl) rfl (nt := 130) (rs := [.tmp 2]) rfl rfl ?_
 repeat' first | ((with_reducible first | refine cs ?_ ?_ | refine ws ?_ ?_) <;> intro h <;> try simp only [h]) | simp only [↓wBA, tLm, convA, seval, kindK, tyK, mutsK, lenK, hk, hm1, hm2, zeroA, make_eq, nnI] | ((with_reducible show ACalls _ _ _ _ _); refine (hA _).eq ?_)
 refine awp_loopX (k) (fun i => [(5, intV .i64 (i : Nat)), (23, .any), (24, .any), (25, .any), (26, .any), (27, .any), (28, .any), (29, .any), (30, .any), (31, .any), (32, .any), (33, .any), (34, .any)]) (fun i => [some (.row 1 (cellsK k i))]) 0 [(4, .p (.sl 1 rv)), (22, .any), (5, .any), (23, .any), (24, .any), (25, .any), (26, .any), (27, .any), (28, .any), (29, .any), (30, .any), (31, .any), (32, .any), (33, .any), (34, .any)] ([none]) ?_ ?_ ?_ ?_ ?_
 ·intro i; simp
 ·simp
 ·skip
  simp only [wR, Nat.reduceAdd, Nat.reduceLT, reduceIte]
  simp [wW, hz, nilA]
 ·intro i hi
  simp only [wR, Nat.reduceAdd, Nat.reduceLT, reduceIte]
  by_cases hlt : i < k
  ·have hdec := dT (i := i) (n := k) (by omega)
   have hltT : ((i : Int) < (k : Int)) = True := eq_true (by omega)
   have hw := wI i (by omega)
   have hget := cellsK_get hlt
   have hrem := lm_rem i
   simp only [nilA] at hget
   repeat' first | ((with_reducible first | refine cs ?_ ?_ | refine ws ?_ ?_) <;> intro h <;> try simp only [h]) | simp only [↓wBA, tLm, convA, seval, kindK, tyK, mutsK, lenK, hdec, hltT, nnI, hw, hget, hrem] | ((with_reducible show ACalls _ _ _ _ _); (with_reducible show ACalls _ 11 _ _ _); refine (hnum _ _).eq ?_)
   refine ⟨⟨i + 1, by omega⟩, by show k - (i + 1) < k - i; omega, .inr ⟨?_, ⟨rfl, .inr ?_⟩, trivial⟩⟩
   ·skip
    simp [wW]
   ·rw [cellsK_set hlt, cellsK_succ hlt]
    exact leR_mid (okZ _) leC_own _ (okD _)
  ·have hdec := dF (i := i) (n := k) (by omega)
   obtain rfl : i = k := by omega
   have hfz := hrows [] [none] rfl
   repeat' first | ((with_reducible first | refine cs ?_ ?_ | refine ws ?_ ?_) <;> intro h <;> try simp only [h]) | simp only [↓wBA, tLm, convA, seval, kindK, tyK, mutsK, lenK, hdec]
   refine .inr ⟨?_, by simp [leS, leO]⟩
   simp [wW]
   exact ⟨0, 1, 0, i, ⟨rfl, rfl, rfl, rfl⟩, _, ⟨rfl, rfl⟩, hfz⟩
 ·skip
  simp only [wR, Nat.reduceAdd, Nat.reduceLT, reduceIte]
  have hq : IntKind.i64.wrap (Int.tdiv (k : Int) 2) = ((k / 2 : Nat) : Int) := by rw [lm_half, wrap_i64 (by omega) (by omega)]
  rw [if_pos (by omega)] at j1 j2
  by_cases hk3 : k ≤ 10000
  ·have c1 : decide ((k : Int) > 10000) = false := by simp; omega
   rw [if_pos hk3] at f1 f2 q1 q2 p1 p2
   subst f1 j1 q1 p1
   repeat' first | ((with_reducible first | refine cs ?_ ?_ | refine ws ?_ ?_) <;> intro h <;> try simp only [h]) | simp only [↓wBA, tLm, convA, seval, kindK, tyK, mutsK, lenK, nnI, c1, hq, beq_self_eq_true, f2, j2, q2, p2] | ((with_reducible show ACalls _ _ _ _ _); first | ((with_reducible show ACalls _ 11 _ _ _); refine (hnum _ _).eq ?_) | ((with_reducible show ACalls _ 14 _ _ _); refine (hslot _ _).eq ?_) | ((with_reducible show ACalls _ 10 _ _ _); refine ACalls.frzArgs ?_; simp only [frzL, frzA]; refine (hn1 _).eq ?_) | ((with_reducible show ACalls _ 10 _ _ _); refine ACalls.frzArgs ?_; simp only [frzL, frzA]; refine ACalls.arg2 (by simp [nleP, nleR, nleQ]) ((hn2 _).mono ?_); rintro _ _ ⟨rfl,rfl⟩) | ((with_reducible show ACalls _ 13 _ _ _); refine ACalls.frzArgs ?_; simp only [frzL, frzA]; refine (hJ1 _).eq ?_) | ((with_reducible show ACalls _ 13 _ _ _); refine ACalls.frzArgs ?_; simp only [frzL, frzA]; refine (hJ2 _).eq ?_) | ((with_reducible show ACalls _ 8 _ _ _); refine (hFi _).eq ?_) | ((with_reducible show ACalls _ 16 _ _ _); refine (hP _).eq ?_))
   all_goals refine ret_is (a := _) ?_ rfl rfl
   all_goals simp only [↓wBA, tLm, convA, seval]
   all_goals simp_all [wS]
  ·have c1 : decide ((k : Int) > 10000) = true := by simp; omega
   rw [if_neg hk3] at f1 f2 q1 q2 p1 p2
   subst f1 j1 q1 p1
   repeat' first | ((with_reducible first | refine cs ?_ ?_ | refine ws ?_ ?_) <;> intro h <;> try simp only [h]) | simp only [↓wBA, tLm, convA, seval, kindK, tyK, mutsK, lenK, nnI, c1, hq, beq_self_eq_true, f2, j2, q2, p2] | ((with_reducible show ACalls _ _ _ _ _); first | ((with_reducible show ACalls _ 11 _ _ _); refine (hnum _ _).eq ?_) | ((with_reducible show ACalls _ 14 _ _ _); refine (hslot _ _).eq ?_) | ((with_reducible show ACalls _ 10 _ _ _); refine ACalls.frzArgs ?_; simp only [frzL, frzA]; refine (hn1 _).eq ?_) | ((with_reducible show ACalls _ 10 _ _ _); refine ACalls.frzArgs ?_; simp only [frzL, frzA]; refine ACalls.arg2 (by simp [nleP, nleR, nleQ]) ((hn2 _).mono ?_); rintro _ _ ⟨rfl,rfl⟩) | ((with_reducible show ACalls _ 13 _ _ _); refine ACalls.frzArgs ?_; simp only [frzL, frzA]; refine (hJ1 _).eq ?_) | ((with_reducible show ACalls _ 13 _ _ _); refine ACalls.frzArgs ?_; simp only [frzL, frzA]; refine (hJ2 _).eq ?_) | ((with_reducible show ACalls _ 8 _ _ _); refine (hFi _).eq ?_) | ((with_reducible show ACalls _ 16 _ _ _); refine (hP _).eq ?_))
   all_goals refine ret_is (a := _) ?_ rfl rfl
   all_goals simp only [↓wBA, tLm, convA, seval]
   all_goals simp_all [wS]
end Go.Proofs.YtpcblbbddccgpaaDoor
