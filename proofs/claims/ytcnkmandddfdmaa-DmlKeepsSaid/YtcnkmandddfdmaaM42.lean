/- Update, whose writes' rows are the caller's own: the state that holds them, round by round. Rows compared. cadastrelaw23.same: the same writes? -/
import Derived.Test.YtcnkmandddfdmaaM24
import Derived.Test.YtcnkmandddfdmaaM28
import Derived.Test.YtcnkmandddfdmaaM41
import Derived.Test.YtcnkmandddfdmaaM22
import Derived.Test.YtcnkmandddfdmaaM23
set_option linter.unusedSimpArgs false
set_option linter.unusedVariables false
set_option linter.defProp false
set_option maxRecDepth 100000
set_option maxHeartbeats 32000000
namespace Go.Proofs.Ytcnkmandddfdmaa
open Go.RowKit
mutual
theorem tokLt_le {n m : Nat} (h : n ≤ m) : ∀ a : AV, tokLt n a = true → tokLt m a = true
 | .any, _ => rfl
 | .p _, _ => rfl
 | .ip _ _, _ => rfl
 | .own t _ _, h1 => by simp only [tokLt, decide_eq_true_eq] at h1 ⊢; omega
 | .nown t _ _, h1 => by simp only [tokLt, decide_eq_true_eq] at h1 ⊢; omega
 | .mp t _ _ _, h1 => by simp only [tokLt, decide_eq_true_eq] at h1 ⊢; omega
 | .ms t _ _ _, h1 => by simp only [tokLt, decide_eq_true_eq] at h1 ⊢; omega
 | .mmap t, h1 => by simp only [tokLt, decide_eq_true_eq] at h1 ⊢; omega
 | .raw t _ _, h1 => by simp only [tokLt, decide_eq_true_eq] at h1 ⊢; omega
 | .fn _ f c, h1 => by
   simp only [tokLt, Bool.and_eq_true] at h1 ⊢
   exact ⟨tokLtL_le h f h1.1, tokLtL_le h c h1.2⟩
 | .agg l, h1 => by simp only [tokLt] at h1 ⊢; exact tokLtL_le h l h1
 | .tup l, h1 => by simp only [tokLt] at h1 ⊢; exact tokLtL_le h l h1
theorem tokLtL_le {n m : Nat} (h : n ≤ m) : ∀ l : List AV, tokLtL n l = true → tokLtL m l = true
 | [], _ => rfl
 | a :: l, h1 => by
   simp only [tokLtL, Bool.and_eq_true] at h1 ⊢
   exact ⟨tokLt_le h a h1.1, tokLtL_le h l h1.2⟩
end
theorem okO_le {n m : Nat} (h : n ≤ m) {o : Option Ob} (h1 : okO n o = true) : okO m o = true := by
 cases o with
 | none => rfl
 | some ob => cases ob with
   | row e ls =>
     simp only [okO, List.all_eq_true] at h1 ⊢
     exact fun c hc => tokLtL_le h c (h1 c hc)
   | right E k => rfl
   | nright E k => rfl
   | map es =>
     simp only [okO, List.all_eq_true] at h1 ⊢
     exact fun c hc => tokLt_le h _ (h1 c hc)
theorem allO_le {n m : Nat} (h : n ≤ m) {s : St} (h1 : s.all (okO n) = true) : s.all (okO m) = true := by
 simp only [List.all_eq_true] at h1 ⊢
 exact fun o ho => okO_le h (h1 o ho)
theorem allO_set {n : Nat} {s : St} (h1 : s.all (okO n) = true) (t : Nat) : (s.set t none).all (okO n) = true := by
 simp only [List.all_eq_true] at h1 ⊢
 intro o ho
 rcases List.mem_or_eq_of_mem_set ho with ho | rfl
 ·exact h1 o ho
 ·rfl
theorem objF4 : ∀ {acc : List (List Va)}, (∀ r ∈ acc, r ≠ []) → (objF acc).length = 4 * acc.length
 | [], _ => rfl
 | r :: acc, h => by
   rw [objF_cons, List.length_append, objF4 fun r hr => h r (List.mem_cons_of_mem _ hr)]
   cases r with
   | nil => exact absurd rfl (h [] (by simp))
   | cons v l => simp [blk]; omega
theorem posF4 {acc : List (List Va)} (h : ∀ r ∈ acc, r ≠ []) {j : Nat} (hj : j ≤ acc.length) : posF acc j = 4 * j := by
 unfold posF
 rw [objF4 fun r hr => h r (List.mem_of_mem_take hr), List.length_take]
 omega
theorem celF_at {acc : List (List Va)} {c : Nat} (hc : 0 < c) (h : ∀ r ∈ acc, r.length = c) {n j : Nat} (hj : j < acc.length) : (celF n acc)[j]? = some [.ms (n + 4 * j + 1) 3 0 c] := by
 have hne : ∀ r ∈ acc, r ≠ [] := fun r hr e => by have := h r hr; rw [e] at this; simp at this; omega
 rw [celF_get acc n j hj, posF4 hne (Nat.le_of_lt hj)]
 have hl := h acc[j] (List.getElem_mem hj)
 cases hr : acc[j] with
 | nil => rw [hr] at hl; simp at hl; omega
 | cons v l => rw [hr] at hl; simp only [celO]; simp at hl; rw [hl]
def fcU (B c i : Nat) : List (List AV) := (List.range i).map fun j => [.ms (B + 6 * j + 1) 3 0 c]
def lcU (nm : ByteArray) (p B c i : Nat) : List (List AV) := (List.range i).map fun j => [.p (.v (.string nm)), .ms (7 + p + 4 * j) 3 0 c, .ms (B + 6 * j + 1) 3 0 c]
theorem fcU_succ (B c i : Nat) : fcU B c (i + 1) = fcU B c i ++ [[.ms (B + 6 * i + 1) 3 0 c]] := by simp [fcU, List.range_succ]
theorem lcU_succ (nm : ByteArray) (p B c i : Nat) : lcU nm p B c (i + 1) = lcU nm p B c i ++ [[.p (.v (.string nm)), .ms (7 + p + 4 * i) 3 0 c, .ms (B + 6 * i + 1) 3 0 c]] := by simp [lcU, List.range_succ]
theorem fcU_len (B c i : Nat) : (fcU B c i).length = i := by simp [fcU]
theorem lcU_len (nm : ByteArray) (p B c i : Nat) : (lcU nm p B c i).length = i := by simp [lcU]
theorem fcU_get {B c i j : Nat} (h : j < i) : (fcU B c i)[j]? = some [.ms (B + 6 * j + 1) 3 0 c] := by simp [fcU, h]
theorem fcU_tok {B c i n : Nat} (h : B + 6 * i ≤ n) : (fcU B c i).all (tokLtL n) = true := by
 simp only [fcU, List.all_map, List.all_eq_true, List.mem_range]
 intro j hj
 simp [tokLtL, tokLt]; omega
theorem lcU_tok {nm : ByteArray} {p B c i n : Nat} (h : B + 6 * i ≤ n) (h2 : 7 + p + 4 * i ≤ n + 3) : (lcU nm p B c i).all (tokLtL n) = true := by
 simp only [lcU, List.all_map, List.all_eq_true, List.mem_range]
 intro j hj
 simp [tokLtL, tokLt]; omega
structure UpI (p : Nat) (nm : ByteArray) (c : Nat) (olds : List (List Va)) (wr : List Va → List Va) (i : Nat) (s : St) : Prop where
 len : s.length = 6 + p + 4 * olds.length + 6 * i
 ok : s.all (okO (6 + p + 4 * olds.length + 6 * i)) = true
 top : s[5 + p + 4 * olds.length]? = some (some (.row 1 (celF (6 + p) olds)))
 old : ∀ j (h : j < olds.length), s[7 + p + 4 * j]? = some (some (.row 3 (muR olds[j])))
 new : ∀ j (h : j < olds.length), j < i → s[7 + p + 4 * olds.length + 6 * j]? = some (some (.row 3 (muR (wr olds[j]))))
 fr : 0 < i → s[3 + p + 4 * olds.length + 6 * i]? = some (some (.row 1 (fcU (6 + p + 4 * olds.length) c i)))
 ls : 0 < i → s[5 + p + 4 * olds.length + 6 * i]? = some (some (.row 3 (lcU nm p (6 + p + 4 * olds.length) c i)))
def cutU (p n i : Nat) (s : St) : St := if i = 0 then s else (s.set (3 + p + 4 * n + 6 * i) none).set (5 + p + 4 * n + 6 * i) none
theorem UpI.next {p : Nat} {nm : ByteArray} {c : Nat} {olds : List (List Va)} {wr : List Va → List Va} {i : Nat} {s : St} (h : UpI p nm c olds wr i s) (hi : i < olds.length) :
 UpI p nm c olds wr (i + 1) (cutU p olds.length i s ++ [none, some (.row 3 (muR (wr olds[i]))), none, some (.row 1 (fcU (6 + p + 4 * olds.length) c (i + 1))), none, some (.row 3 (lcU nm p (6 + p + 4 * olds.length) c (i + 1)))]) := by
 have hcl : (cutU p olds.length i s).length = 6 + p + 4 * olds.length + 6 * i := by unfold cutU; split <;> simp [h.len]
 have hget : ∀ t o, t ≠ 3 + p + 4 * olds.length + 6 * i → t ≠ 5 + p + 4 * olds.length + 6 * i → s[t]? = some (some o) → ∀ rest : St, (cutU p olds.length i s ++ rest)[t]? = some (some o) := fun t o h1 h2 h3 rest => by
  have hlt : t < s.length := (List.getElem?_eq_some_iff.1 h3).1
  rw [List.getElem?_append_left (by rw [hcl, ← h.len]; exact hlt)]
  unfold cutU
  split
  ·exact h3
  ·rw [List.getElem?_set_ne (by omega), List.getElem?_set_ne (by omega)]; exact h3
 have hget0 : i = 0 → ∀ t o, s[t]? = some (some o) → ∀ rest : St, (cutU p olds.length i s ++ rest)[t]? = some (some o) := fun h0 t o h3 rest => by
  have hlt : t < s.length := (List.getElem?_eq_some_iff.1 h3).1
  rw [List.getElem?_append_left (by rw [hcl, ← h.len]; exact hlt)]
  unfold cutU
  rw [if_pos h0]; exact h3
 have hat : ∀ k (rest : St), (cutU p olds.length i s ++ rest)[6 + p + 4 * olds.length + 6 * i + k]? = rest[k]? := fun k rest => by
  rw [List.getElem?_append_right (by omega), hcl]; congr 1; omega
 refine ⟨?_, ?_, ?_, ?_, ?_, ?_, ?_⟩
 ·rw [List.length_append, hcl]; simp; omega
 ·rw [List.all_append, Bool.and_eq_true]
  refine ⟨?_, ?_⟩
  ·have h1 := allO_le (m := 6 + p + 4 * olds.length + 6 * (i + 1)) (by omega) h.ok
   unfold cutU
   split
   ·exact h1
   ·exact allO_set (allO_set h1 _) _
  ·have h1 := muR_tok (6 + p + 4 * olds.length + 6 * (i + 1)) (wr olds[i])
   have h2 := fcU_tok (B := 6 + p + 4 * olds.length) (c := c) (i := i + 1) (n := 6 + p + 4 * olds.length + 6 * (i + 1)) (Nat.le_refl _)
   have h3 := lcU_tok (nm := nm) (p := p) (B := 6 + p + 4 * olds.length) (c := c) (i := i + 1) (n := 6 + p + 4 * olds.length + 6 * (i + 1)) (Nat.le_refl _) (by omega)
   simp only [List.all_cons, List.all_nil, okO, h1, h2, h3, Bool.and_self]
 ·rcases Nat.eq_zero_or_pos i with h0 | h0
  ·exact hget0 h0 _ _ h.top _
  ·exact hget _ _ (by omega) (by omega) h.top _
 ·intro j hj
  rcases Nat.eq_zero_or_pos i with h0 | h0
  ·exact hget0 h0 _ _ (h.old j hj) _
  ·exact hget _ _ (by omega) (by omega) (h.old j hj) _
 ·intro j hj hji
  by_cases he : j = i
  ·subst he
   have := hat 1 [none, some (.row 3 (muR (wr olds[j]))), none, some (.row 1 (fcU (6 + p + 4 * olds.length) c (j + 1))), none, some (.row 3 (lcU nm p (6 + p + 4 * olds.length) c (j + 1)))]
   rw [show 7 + p + 4 * olds.length + 6 * j = 6 + p + 4 * olds.length + 6 * j + 1 by omega]
   exact this
  ·exact hget _ _ (by omega) (by omega) (h.new j hj (by omega)) _
 ·intro _
  have := hat 3 [none, some (.row 3 (muR (wr olds[i]))), none, some (.row 1 (fcU (6 + p + 4 * olds.length) c (i + 1))), none, some (.row 3 (lcU nm p (6 + p + 4 * olds.length) c (i + 1)))]
  rw [show 3 + p + 4 * olds.length + 6 * (i + 1) = 6 + p + 4 * olds.length + 6 * i + 3 by omega]
  exact this
 ·intro _
  have := hat 5 [none, some (.row 3 (muR (wr olds[i]))), none, some (.row 1 (fcU (6 + p + 4 * olds.length) c (i + 1))), none, some (.row 3 (lcU nm p (6 + p + 4 * olds.length) c (i + 1)))]
  rw [show 5 + p + 4 * olds.length + 6 * (i + 1) = 6 + p + 4 * olds.length + 6 * i + 5 by omega]
  exact this
theorem UpI.start (p : Nat) {nm : ByteArray} {c : Nat} (hc : 0 < c) {olds : List (List Va)} (wr : List Va → List Va) (ho : olds ≠ []) (h : ∀ r ∈ olds, r.length = c) {b0 b1 : Option Ob} (h0 : okO 0 b0 = true) (h1 : okO 0 b1 = true) :
 UpI p nm c olds wr 0 (b0 :: b1 :: (List.replicate (4 + p) none ++ tlF (6 + p) olds)) := by
 have hne : ∀ r ∈ olds, r ≠ [] := fun r hr e => by have := h r hr; rw [e] at this; simp at this; omega
 have hl := objF4 hne
 obtain ⟨k, e1, e2, e3, e4, e5, e6⟩ := tlF_ne (n := 6 + p) ho
 have ek : k + 1 = 4 * olds.length := by omega
 have hcons : ∀ j, (b0 :: b1 :: (List.replicate (4 + p) none ++ tlF (6 + p) olds))[6 + p + j]? = (tlF (6 + p) olds)[j]? := fun j => by
  rw [show 6 + p + j = (4 + p + j) + 1 + 1 by omega, List.getElem?_cons_succ, List.getElem?_cons_succ, List.getElem?_append_right (by simp), List.length_replicate]
  congr 1; omega
 refine ⟨?_, ?_, ?_, ?_, fun j _ hj => by omega, fun h => by omega, fun h => by omega⟩
 ·simp only [List.length_cons, List.length_append, List.length_replicate, e2]; omega
 ·have g1 := tlF_ok (6 + p) (6 + p + 4 * olds.length + 6 * 0) olds (by omega)
  have g2 := okO_le (m := 6 + p + 4 * olds.length + 6 * 0) (Nat.zero_le _) h0
  have g3 := okO_le (m := 6 + p + 4 * olds.length + 6 * 0) (Nat.zero_le _) h1
  have g4 : (List.replicate (4 + p) (none : Option Ob)).all (okO (6 + p + 4 * olds.length + 6 * 0)) = true := by
   rw [List.all_eq_true]
   intro o ho
   rw [(List.mem_replicate.1 ho).2]; rfl
  simp only [List.all_cons, List.all_append, g1, g2, g3, g4, Bool.and_self]
 ·rw [show 5 + p + 4 * olds.length = 6 + p + k by omega, hcons, e3]
 ·intro j hj
  rw [show 7 + p + 4 * j = 6 + p + (4 * j + 1) by omega, hcons]
  have hp := posF4 hne (Nat.le_of_lt hj)
  have hr := List.getElem?_eq_getElem hj
  have hx := hne _ (List.getElem_mem hj)
  cases hv : olds[j] with
  | nil => exact absurd hv hx
  | cons v l =>
    rw [hv] at hr
    have := tlF_get (n := 6 + p) hr
    rwa [hp] at this
theorem UpI.okl {p : Nat} {nm : ByteArray} {c : Nat} {olds : List (List Va)} {wr : List Va → List Va} {i : Nat} {s : St} (h : UpI p nm c olds wr i s) : s.all (okO s.length) = true := by rw [h.len]; exact h.ok
end Go.Proofs.Ytcnkmandddfdmaa
namespace Go.Proofs.Ytcnkmandddfdmaa
open Go.RowKit
def pl9_6Sa : Plan := (.det 0 (.det 1 (.det 2 (.det 3 (.det 4 (.det 5 (.det 6 (.det 7 (.det 8 .done)))))))))
def pl14_6Sa : Plan := (.det 0 (.det 1 (.det 2 (.det 3 (.det 4 (.det 5 (.det 6 (.det 7 (.fin 8 (.det 9 .done))))))))))
def tSa := aa wX <| aa wbu <| aa T3 <| aa T4 <| aa T25 <| aa T46 T50
theorem ba_ext {a b : ByteArray} (h : a.toList = b.toList) : a = b := by
 rw [ba_list, ba_list] at h
 cases a; cases b
 congr
 exact Array.toList_inj.1 h
def sameVV (a b : List (List Va)) : Bool := decide (a = b)
theorem va_eq (a1 a2 b1 b2 : Int) (a3 b3 : ByteArray) : (a1 == b1 && ((a2 == b2) && ((a3.toList == b3.toList) && true))) = decide (((a1, a2, a3) : Va) = (b1, b2, b3)) := by
 by_cases h : ((a1, a2, a3) : Va) = (b1, b2, b3)
 ·cases h; simp
 ·rw [decide_eq_false h]
  by_cases h1 : a1 = b1
  ·by_cases h2 : a2 = b2
   ·have h3 : a3.toList ≠ b3.toList := fun e => h (by rw [h1, h2, ba_ext e])
    simp [h3]
   ·simp [h2]
  ·simp [h1]
def sameV (a b : List Va) : Bool := decide (a = b)
theorem asameV (a b : List Va) (ha : a.length ≤ 4398046511104) (hb : b.length ≤ 4398046511104) (σ : St) : ACalls Try.prog 9 [.p (.sl 3 (enV a)), .p (.sl 3 (enV b))] σ fun r s => s = σ ∧ r = boolV (sameV a b) := by
 refine ACalls.pureF (R := fun r => r = boolV (sameV a b)) ?_ rfl σ
 refine acalls_of cx_ok dr_ok Try.func9 (by kernel_rfl) rfl (nt := 24) (rs := [.tmp 4]) rfl rfl ?_
 by_cases hab : a.length = b.length
 ·have d : ((a.length : Int) != (b.length : Int)) = false := by simp [hab]
  repeat' first | ((with_reducible first | refine cs ?_ ?_ | refine ws ?_ ?_ | refine wd ?_ ?_ | refine wu ?_ ?_) <;> intro h <;> try simp only [h]) | simp only [↓wBA, tSa, convA, seval, pl9_6Sa, enV_len, d] | (with_reducible refine dP pl9_6Sa 9 (some 17) (by decide) (by kernel_rfl) ?_)
  refine awp_loopN (a.length) (fun i => [(5, intV .i64 (i : Nat)), (4, .any), (11, .any), (12, .any), (13, .any), (14, .any), (15, .any), (16, .any), (17, .any), (18, .any), (19, .any), (20, .any), (21, .any), (22, .any), (23, .any), (24, .any), (25, .any)]) (fun i => []) (fun i => a.take i = b.take i) ?_ ?_ ?_
  ·rfl
  ·skip
   simp only [wR, Nat.reduceAdd, Nat.reduceLT, reduceIte]
   simp [wW]
  ·intro i hi hI
   simp only [wR, Nat.reduceAdd, Nat.reduceLT, reduceIte]
   by_cases hlt : i < a.length
   ·have hdec := dT (i := i) (n := a.length) (by omega)
    have hi0 := nnI i
    have hw := wI i (by omega)
    have hltb : i < b.length := by omega
    have hg := enV_get a i hlt
    have hgb := enV_get b i hltb
    have hta := List.take_succ_eq_append_getElem hlt
    have htb := List.take_succ_eq_append_getElem hltb
    have hfin : a[i] ≠ b[i] → sameV a b = false := fun h => decide_eq_false fun e => h (by subst e; rfl)
    rcases hai : a[i] with ⟨a1, a2, a3⟩
    rcases hbi : b[i] with ⟨b1, b2, b3⟩
    rw [hai] at hg hta hfin
    rw [hbi] at hgb htb hfin
    simp only [vaC] at hg hgb
    have hv := va_eq a1 a2 b1 b2 a3 b3
    repeat' first | ((with_reducible first | refine cs ?_ ?_ | refine ws ?_ ?_ | refine wd ?_ ?_ | refine wu ?_ ?_) <;> intro h <;> try simp only [h]) | simp only [↓wBA, tSa, convA, seval, pl9_6Sa, enV_len, hdec, hi0, hw, hg, hgb, hv] | (with_reducible refine dP pl9_6Sa 9 (some 17) (by decide) (by kernel_rfl) ?_)
    ·have hf := hfin (by intro e; rw [decide_eq_true e] at h; simp at h)
     simp only [hf]
     all_goals refine ret_is (a := _) ?_ rfl rfl
     all_goals simp only [↓wBA, tSa, convA, seval]
     all_goals simp_all [wS]
    ·skip
     refine ⟨⟨i + 1, by omega, ?_⟩, by show a.length - (i + 1) < a.length - i; omega, ?_⟩
     ·rw [hta, htb, hI]; congr 1; simpa using h
     ·skip
      simp only [wR, Nat.reduceAdd, Nat.reduceLT, reduceIte]
      simp [wW]
   ·have hdec := dF (i := i) (n := a.length) (by omega)
    have hs : sameV a b = true := decide_eq_true (by rw [List.take_of_length_le (by omega), List.take_of_length_le (by omega)] at hI; exact hI)
    simp only [hs]
    repeat' first | ((with_reducible first | refine cs ?_ ?_ | refine ws ?_ ?_ | refine wd ?_ ?_ | refine wu ?_ ?_) <;> intro h <;> try simp only [h]) | simp only [↓wBA, tSa, convA, seval, pl9_6Sa, enV_len, hdec] | (with_reducible refine dP pl9_6Sa 9 (some 17) (by decide) (by kernel_rfl) ?_)
    all_goals refine ret_is (a := _) ?_ rfl rfl
    all_goals simp only [↓wBA, tSa, convA, seval]
    all_goals simp_all [wS]
 ·have d : ((a.length : Int) != (b.length : Int)) = true := by simp; omega
  have hs : sameV a b = false := decide_eq_false fun e => hab (by rw [e])
  simp only [hs]
  repeat' first | ((with_reducible first | refine cs ?_ ?_ | refine ws ?_ ?_ | refine wd ?_ ?_ | refine wu ?_ ?_) <;> intro h <;> try simp only [h]) | simp only [↓wBA, tSa, convA, seval, pl9_6Sa, enV_len, d] | (with_reducible refine dP pl9_6Sa 9 (some 17) (by decide) (by kernel_rfl) ?_)
  all_goals refine ret_is (a := _) ?_ rfl rfl
  all_goals simp only [↓wBA, tSa, convA, seval]
  all_goals simp_all [wS]
theorem asameVV (a b : List (List Va)) (ha : a.length ≤ 4398046511104) (hb : b.length ≤ 4398046511104) (hra : ∀ r ∈ a, r.length ≤ 4398046511104) (hrb : ∀ r ∈ b, r.length ≤ 4398046511104) (σ : St) : ACalls Try.prog 14 [.p (.sl 1 (enVV a)), .p (.sl 1 (enVV b))] σ fun r s => s = σ ∧ r = boolV (sameVV a b) := by
 refine ACalls.pureF (R := fun r => r = boolV (sameVV a b)) ?_ rfl σ
 refine acalls_of cx_ok dr_ok Try.func14 (by kernel_rfl) rfl (nt := 25) (rs := [.tmp 4]) rfl rfl ?_
 by_cases hab : a.length = b.length
 ·have d : ((a.length : Int) != (b.length : Int)) = false := by simp [hab]
  repeat' first | ((with_reducible first | refine cs ?_ ?_ | refine ws ?_ ?_ | refine wd ?_ ?_ | refine wu ?_ ?_) <;> intro h <;> try simp only [h]) | simp only [↓wBA, tSa, convA, seval, pl14_6Sa, enVV_len, d] | (with_reducible refine dP pl14_6Sa 10 (some 17) (by decide) (by kernel_rfl) ?_)
  refine awp_loopN (a.length) (fun i => [(5, intV .i64 (i : Nat)), (4, .any), (11, .any), (12, .any), (13, .any), (14, .any), (15, .any), (16, .any), (17, .any), (18, .any), (19, .any), (20, .any), (21, .any), (22, .any), (23, .any), (24, .any), (25, .any), (26, .any)]) (fun i => []) (fun i => a.take i = b.take i) ?_ ?_ ?_
  ·rfl
  ·skip
   simp only [wR, Nat.reduceAdd, Nat.reduceLT, reduceIte]
   simp [wW]
  ·intro i hi hI
   simp only [wR, Nat.reduceAdd, Nat.reduceLT, reduceIte]
   by_cases hlt : i < a.length
   ·have hdec := dT (i := i) (n := a.length) (by omega)
    have hi0 := nnI i
    have hw := wI i (by omega)
    have hltb : i < b.length := by omega
    have hg := enVV_get a i hlt
    have hgb := enVV_get b i hltb
    have hta := List.take_succ_eq_append_getElem hlt
    have htb := List.take_succ_eq_append_getElem hltb
    have hfin : a[i] ≠ b[i] → sameVV a b = false := fun h => decide_eq_false fun e => h (by subst e; rfl)
    have hS := asameV a[i] b[i] (hra _ (List.getElem_mem hlt)) (hrb _ (List.getElem_mem hltb))
    repeat' first | ((with_reducible first | refine cs ?_ ?_ | refine ws ?_ ?_ | refine wd ?_ ?_ | refine wu ?_ ?_) <;> intro h <;> try simp only [h]) | simp only [↓wBA, tSa, convA, seval, pl14_6Sa, enVV_len, hdec, hi0, hw, hg, hgb] | ((with_reducible show ACalls _ _ _ _ _); refine (hS _).eq ?_) | (with_reducible refine dP pl14_6Sa 10 (some 17) (by decide) (by kernel_rfl) ?_)
    all_goals first
     | (refine ⟨⟨i + 1, by omega, ?_⟩, by show a.length - (i + 1) < a.length - i; omega, ?_⟩
        ·rw [hta, htb, hI]; congr 1; simpa [sameV] using h
        ·simp [wW])
     | (have hf := hfin (by intro e; simp [sameV, e] at h)
        simp only [hf]
        refine ret_is (a := _) ?_ rfl rfl
        simp only [resA, resL, resV, List.getD_cons_zero, List.getD_cons_succ]
        simp_all [leT, leG, leA, leC, leM, leaf, tokLt, tokLtL, intV, boolV, nilA, nilSl]
        done)
   ·have hdec := dF (i := i) (n := a.length) (by omega)
    have hs : sameVV a b = true := decide_eq_true (by rw [List.take_of_length_le (by omega), List.take_of_length_le (by omega)] at hI; exact hI)
    simp only [hs]
    repeat' first | ((with_reducible first | refine cs ?_ ?_ | refine ws ?_ ?_ | refine wd ?_ ?_ | refine wu ?_ ?_) <;> intro h <;> try simp only [h]) | simp only [↓wBA, tSa, convA, seval, pl14_6Sa, enVV_len, hdec] | (with_reducible refine dP pl14_6Sa 10 (some 17) (by decide) (by kernel_rfl) ?_)
    all_goals refine ret_is (a := _) ?_ rfl rfl
    all_goals simp only [↓wBA, tSa, convA, seval]
    all_goals simp_all [wS]
 ·have d : ((a.length : Int) != (b.length : Int)) = true := by simp; omega
  have hs : sameVV a b = false := decide_eq_false fun e => hab (by rw [e])
  simp only [hs]
  repeat' first | ((with_reducible first | refine cs ?_ ?_ | refine ws ?_ ?_ | refine wd ?_ ?_ | refine wu ?_ ?_) <;> intro h <;> try simp only [h]) | simp only [↓wBA, tSa, convA, seval, pl14_6Sa, enVV_len, d] | (with_reducible refine dP pl14_6Sa 10 (some 17) (by decide) (by kernel_rfl) ?_)
  all_goals refine ret_is (a := _) ?_ rfl rfl
  all_goals simp only [↓wBA, tSa, convA, seval]
  all_goals simp_all [wS]
end Go.Proofs.Ytcnkmandddfdmaa
namespace Go.Proofs.Ytcnkmandddfdmaa
open Go.RowKit
def pl8_6Sm : Plan := (.det 0 (.det 1 (.det 2 (.det 3 (.det 4 (.det 5 (.det 6 (.det 7 (.det 8 (.det 9 (.det 10 (.det 11 (.det 12 (.det 13 (.det 14 (.det 15 (.det 16 (.det 17 (.det 18 (.det 19 (.det 20 (.det 21 (.fin 22 (.det 23 (.det 24 (.det 25 (.det 26 (.det 27 (.det 28 (.det 29 (.det 30 (.det 31 (.det 32 (.det 33 (.det 34 (.det 35 (.fin 36 (.det 37 (.det 38 (.det 39 (.det 40 (.det 41 (.det 42 (.det 43 (.det 44 (.det 45 (.det 46 (.det 47 (.det 48 (.det 49 (.det 50 (.det 51 (.det 52 (.det 53 .done))))))))))))))))))))))))))))))))))))))))))))))))))))))
def tSm := aa wX <| aa wbu <| aa T3 <| aa T4 <| aa T9 <| aa T39 <| aa T46 T48
def nnW (l : List Wr) : Prop := ∀ w ∈ l, ∃ r, w.2 = some r ∧ r ≠ [] ∧ r.length ≤ 4398046511104 ∧ w.1.length ≤ 4398046511104
theorem asameW (nm : ByteArray) (a b : List Wr) (ha : a.length ≤ 1000000000000) (hb : b.length ≤ 1000000000000) (hna : nnW a) (hnb : nnW b) (σ : St) : ACalls Try.prog 8 [.p (.sl 3 (enW nm a)), .p (.sl 3 (enW nm b))] σ fun r s => s = σ ∧ r = boolV (decide (a = b)) := by
 refine ACalls.pureF (R := fun r => r = boolV (decide (a = b))) ?_ rfl σ
 refine acalls_of cx_ok dr_ok Try.func8 (by kernel_rfl) rfl (nt := 69) (rs := [.tmp 4]) rfl rfl ?_
 by_cases hab : a.length = b.length
 ·have d : ((a.length : Int) != (b.length : Int)) = false := by simp [hab]
  repeat' first | ((with_reducible first | refine cond_split ?_ ?_ | refine ws ?_ ?_ | refine wd ?_ ?_ | refine wu ?_ ?_) <;> intro h <;> try simp only [h]) | simp only [↓wBA, tSm, convA, seval, pl8_6Sm, enW_len, d] | (with_reducible refine dP pl8_6Sm 54 (some 17) (by decide) (by kernel_rfl) ?_)
  refine awp_loopN (a.length) (fun i => [(5, intV .i64 (i : Nat)), (4, .any), (11, .any), (12, .any), (13, .any), (14, .any), (15, .any), (16, .any), (17, .any), (18, .any), (19, .any), (20, .any), (21, .any), (22, .any), (23, .any), (24, .any), (25, .any), (26, .any), (27, .any), (28, .any), (29, .any), (30, .any), (31, .any), (32, .any), (33, .any), (34, .any), (35, .any), (36, .any), (37, .any), (38, .any), (39, .any), (40, .any), (41, .any), (42, .any), (43, .any), (44, .any), (45, .any), (46, .any), (47, .any), (48, .any), (49, .any), (50, .any), (51, .any), (52, .any), (53, .any), (54, .any), (55, .any), (56, .any), (57, .any), (58, .any), (59, .any), (60, .any), (61, .any), (62, .any), (63, .any), (64, .any), (65, .any), (66, .any), (67, .any), (68, .any), (69, .any), (70, .any)]) (fun i => []) (fun i => a.take i = b.take i) ?_ ?_ ?_
  ·rfl
  ·skip
   simp only [wR, Nat.reduceAdd, Nat.reduceLT, reduceIte]
   simp [wW]
  ·intro i hi hI
   simp only [wR, Nat.reduceAdd, Nat.reduceLT, reduceIte]
   by_cases hlt : i < a.length
   ·have hdec := dT (i := i) (n := a.length) (by omega)
    have hi0 := nnI i
    have hw := wI i (by omega)
    have hltb : i < b.length := by omega
    have hg := enW_get nm a i hlt
    have hgb := enW_get nm b i hltb
    have hta := List.take_succ_eq_append_getElem hlt
    have htb := List.take_succ_eq_append_getElem hltb
    have hfin : a[i] ≠ b[i] → decide (a = b) = false := fun h => decide_eq_false fun e => h (by subst e; rfl)
    obtain ⟨ra, ea, na, la, la1⟩ := hna a[i] (List.getElem_mem hlt)
    obtain ⟨rb, eb, nb, lb, lb1⟩ := hnb b[i] (List.getElem_mem hltb)
    rcases hai : a[i] with ⟨oa, wa⟩
    rcases hbi : b[i] with ⟨ob, wb⟩
    rw [hai] at hg hta hfin ea la1
    rw [hbi] at hgb htb hfin eb lb1
    simp only at ea eb la1 lb1
    subst ea eb
    simp only [wrC] at hg hgb
    have hS1 := asameV oa ob la1 lb1
    have hS2 := asameV ra rb la lb
    have hn1 : isNilA (.p (.sl 3 (enV ra))) = some false := by
     cases ra with
     | nil => exact absurd rfl na
     | cons x l => rfl
    have hn2 : isNilA (.p (.sl 3 (enV rb))) = some false := by
     cases rb with
     | nil => exact absurd rfl nb
     | cons x l => rfl
    have hnm : (!(nm.toList == nm.toList)) = false := by simp
    simp only [sameV] at hS1 hS2
    by_cases h1 : oa = ob
    ·subst h1
     rw [decide_eq_true rfl] at hS1
     by_cases h2 : ra = rb
     ·subst h2
      rw [decide_eq_true rfl] at hS2
      repeat' first | ((with_reducible first | refine cond_split ?_ ?_ | refine ws ?_ ?_ | refine wd ?_ ?_ | refine wu ?_ ?_) <;> intro h <;> try simp only [h]) | simp only [↓wBA, tSm, convA, seval, pl8_6Sm, enW_len, hdec, hi0, hw, hg, hgb, hn1, hn2, hnm, binStr, beq_self_eq_true, bne_self_eq_false] | ((with_reducible show ACalls _ _ _ _ _); first | refine (hS1 _).eq ?_ | refine (hS2 _).eq ?_) | (with_reducible refine dP pl8_6Sm 54 (some 17) (by decide) (by kernel_rfl) ?_)
      refine ⟨⟨i + 1, by omega, ?_⟩, by show a.length - (i + 1) < a.length - i; omega, ?_⟩
      ·rw [hta, htb, hI]
      ·skip
       simp [wW]
     ·have hf := hfin (by intro e; simp at e; exact h2 e)
      rw [decide_eq_false h2] at hS2
      simp only [hf]
      repeat' first | ((with_reducible first | refine cond_split ?_ ?_ | refine ws ?_ ?_ | refine wd ?_ ?_ | refine wu ?_ ?_) <;> intro h <;> try simp only [h]) | simp only [↓wBA, tSm, convA, seval, pl8_6Sm, enW_len, hdec, hi0, hw, hg, hgb, hn1, hn2, hnm, binStr, beq_self_eq_true, bne_self_eq_false] | ((with_reducible show ACalls _ _ _ _ _); first | refine (hS1 _).eq ?_ | refine (hS2 _).eq ?_) | (with_reducible refine dP pl8_6Sm 54 (some 17) (by decide) (by kernel_rfl) ?_)
      all_goals refine ret_is (a := _) ?_ rfl rfl
      all_goals simp only [↓wBA, tSm, convA, seval]
      all_goals simp_all [wS]
    ·have hf := hfin (by intro e; simp at e; exact h1 e.1)
     rw [decide_eq_false h1] at hS1
     simp only [hf]
     repeat' first | ((with_reducible first | refine cond_split ?_ ?_ | refine ws ?_ ?_ | refine wd ?_ ?_ | refine wu ?_ ?_) <;> intro h <;> try simp only [h]) | simp only [↓wBA, tSm, convA, seval, pl8_6Sm, enW_len, hdec, hi0, hw, hg, hgb, hn1, hn2, hnm, binStr, beq_self_eq_true, bne_self_eq_false] | ((with_reducible show ACalls _ _ _ _ _); first | refine (hS1 _).eq ?_ | refine (hS2 _).eq ?_) | (with_reducible refine dP pl8_6Sm 54 (some 17) (by decide) (by kernel_rfl) ?_)
     all_goals refine ret_is (a := _) ?_ rfl rfl
     all_goals simp only [↓wBA, tSm, convA, seval]
     all_goals simp_all [wS]
   ·have hdec := dF (i := i) (n := a.length) (by omega)
    have hs : decide (a = b) = true := decide_eq_true (by rw [List.take_of_length_le (by omega), List.take_of_length_le (by omega)] at hI; exact hI)
    simp only [hs]
    repeat' first | ((with_reducible first | refine cond_split ?_ ?_ | refine ws ?_ ?_ | refine wd ?_ ?_ | refine wu ?_ ?_) <;> intro h <;> try simp only [h]) | simp only [↓wBA, tSm, convA, seval, pl8_6Sm, enW_len, hdec] | (with_reducible refine dP pl8_6Sm 54 (some 17) (by decide) (by kernel_rfl) ?_)
    all_goals refine ret_is (a := _) ?_ rfl rfl
    all_goals simp only [↓wBA, tSm, convA, seval]
    all_goals simp_all [wS]
 ·have d : ((a.length : Int) != (b.length : Int)) = true := by simp; omega
  have hs : decide (a = b) = false := decide_eq_false fun e => hab (by rw [e])
  simp only [hs]
  repeat' first | ((with_reducible first | refine cond_split ?_ ?_ | refine ws ?_ ?_ | refine wd ?_ ?_ | refine wu ?_ ?_) <;> intro h <;> try simp only [h]) | simp only [↓wBA, tSm, convA, seval, pl8_6Sm, enW_len, d] | (with_reducible refine dP pl8_6Sm 54 (some 17) (by decide) (by kernel_rfl) ?_)
  all_goals refine ret_is (a := _) ?_ rfl rfl
  all_goals simp only [↓wBA, tSm, convA, seval]
  all_goals simp_all [wS]
end Go.Proofs.Ytcnkmandddfdmaa
