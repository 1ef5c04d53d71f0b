/- RelParts: the walk. RelParts: the walk where there is no error. -/
import Derived.Test.YtpcblbbddccgpaaDoorM35
import Derived.Test.YtpcblbbddccgpaaDoorM30
set_option linter.unusedSimpArgs false
set_option linter.unusedVariables false
set_option linter.defProp false
set_option maxRecDepth 100000
set_option maxHeartbeats 32000000
namespace Go.Proofs.YtpcblbbddccgpaaDoor
open Go.RowKit
def pl3_11Px : Plan := (.det 0 (.det 1 (.det 2 (.det 3 (.fin 4 (.det 5 (.det 6 (.det 7 (.det 8 (.det 9 .done))))))))))
def pl3_12Px : Plan := (.det 0 (.det 1 (.det 2 (.det 3 (.fin 4 (.det 5 (.det 6 (.det 7 (.det 8 (.det 9 .done))))))))))
def pl3_29Px : Plan := (.det 0 (.det 1 (.det 2 (.det 3 (.det 4 (.act 5 (.det 6 (.fin 7 .done))))))))
def tPx := aa wX <| aa wbu <| aa T2 <| aa T3 <| aa T4 <| aa T5 <| aa T22 <| aa T24 <| aa T25 <| aa T27 <| aa T29 <| aa T31 T36
def cxW : Ctx := { cx with muts := [22 * 100000 + 93, 22 * 100000 + 95] }
theorem cxW_ok : cxW.ok Tryd.prog := cx_ok
theorem drW_ok : DrawOk Tryd.prog (aDraw Tryd.prog cxW) := aDraw_ok cxW_ok (by kernel_rfl)
theorem kindW (t : TypeId) : cxW.kind t = cx.kind t := nr rfl
theorem tyW (t : TypeId) : cxW.ty t = cx.ty t := nr rfl
theorem mutsW : cxW.muts = [22 * 100000 + 93, 22 * 100000 + 95] := nr rfl
theorem lenW {T : TypeId} {x : AV} : lenA cxW T x = lenA cx T x := nr rfl
theorem enVV_take (l : List (List Va)) (k : Nat) : (enVV l).take k = enVV (l.take k) := by simp [enVV]
theorem enVV_drop (l : List (List Va)) (k : Nat) : (enVV l).drop k = enVV (l.drop k) := by simp [enVV]
def partsA (rows : List (List Va)) (x y : Ex) (c : Int) : AV := .agg (.p (.sl 1 (enVV rows)) :: ((exC x).map .p ++ ((exC y).map .p ++ [.p (.v (.int .u8 c))])))
theorem aparts_big (rows : List (List Va)) (x y : Ex) (c : Int) (hbig : rows.length > 10000) (hn : rows.length ≤ 5864062014635) (σ : St) : ACalls Tryd.prog 3 [partsA rows x y c] σ fun r s => s = σ ∧ r = boolV true := by
 refine ACalls.pureF (R := fun r => r = boolV true) ?_ (by cases x; cases y; rfl) σ
 have hA := aawake
 have hd : decide ((rows.length : Int) > 10000) = true := by simp; omega
 obtain ⟨xk, xvk, xvn, xvs, xtb, xnm, xs, xkids⟩ := x
 obtain ⟨yk, yvk, yvn, yvs, ytb, ynm, ys, ykids⟩ := y
 refine acalls_of cx_ok dr_ok Tryd.func3 (by kernel_rfl) rfl (nt := 160) (rs := [.tmp 2]) rfl rfl ?_
 simp only [partsA, exC, List.map_cons, List.map_nil, List.cons_append, List.nil_append]
 repeat' first | ((with_reducible first | refine cs ?_ ?_ | refine ws ?_ ?_ | refine wd ?_ ?_ | refine wu ?_ ?_) <;> intro h <;> try simp only [h]) | simp only [↓wBA, tPx, convA, seval, pl3_11Px, pl3_12Px, pl3_29Px, enVV_len, hd] | ((with_reducible show ACalls _ _ _ _ _); refine (hA _).eq ?_) | (with_reducible refine dP pl3_11Px 10 (some 48) (by decide) (by kernel_rfl) ?_) | (with_reducible refine dP pl3_12Px 10 (some 56) (by decide) (by kernel_rfl) ?_) | (with_reducible refine dP pl3_29Px 8 (some 141) (by decide) (by kernel_rfl) ?_)
 all_goals refine ret_is (a := _) ?_ rfl rfl
 all_goals simp only [↓wBA, tPx, convA, seval]
 all_goals simp_all [wS]
theorem aparts_err (rows : List (List Va)) (x y : Ex) (c : Int) (hsm : rows.length ≤ 10000) (hr : ∀ r ∈ rows, r.length ≤ 4398046511104) (h0 : 0 ≤ c) (h1 : c < 256) (he : (filS rows x).2 ≠ 0) (σ : St) : ACalls Tryd.prog 3 [partsA rows x y c] σ fun r s => s = σ ∧ r = boolV true := by
 refine ACalls.pureF (R := fun r => r = boolV true) ?_ (by cases x; cases y; rfl) σ
 have hA := aawake
 obtain ⟨kk, hkk, hkl⟩ : ∃ kk : Nat, Int.tmod (IntKind.i64.wrap c) ((rows.length + 1 : Nat) : Int) = (kk : Int) ∧ kk ≤ rows.length := ⟨(c % ((rows.length : Int) + 1)).toNat, by
  rw [wrap_i64 (by omega) (by omega), Int.tmod_eq_emod_of_nonneg h0]
  have h2 := Int.emod_nonneg c (show ((rows.length : Int) + 1) ≠ 0 by omega)
  rw [show ((rows.length + 1 : Nat) : Int) = (rows.length : Int) + 1 by omega]
  omega, by
  have h2 := Int.emod_nonneg c (show ((rows.length : Int) + 1) ≠ 0 by omega)
  have h3 := Int.emod_lt_of_pos c (show (0 : Int) < (rows.length : Int) + 1 by omega)
  omega⟩
 have hd : decide ((rows.length : Int) > 10000) = false := by simp; omega
 have hw1 : IntKind.i64.wrap ((rows.length : Int) + 1) = ((rows.length + 1 : Nat) : Int) := by rw [wrap_i64 (by omega) (by omega)]; simp
 have hne : (((rows.length + 1 : Nat) : Int) = 0) = False := eq_false (by omega)
 have hLL : ((rows.length : Int) ≤ (rows.length : Int)) = True := eq_true (Int.le_refl _)
 have hkT : ((kk : Int) ≤ (rows.length : Int)) = True := eq_true (by omega)
 have htk : (enVV rows).take rows.length = enVV rows := List.take_of_length_le (by rw [enVV_len]; omega)
 have hz := filS_err he
 have hor : OkRowsL rows := ⟨by omega, hr⟩
 have hot : OkRowsL (rows.take kk) := ⟨by simp; omega, fun r h => hr r (List.mem_of_mem_take h)⟩
 have hod : OkRowsL (rows.drop kk) := ⟨by simp; omega, fun r h => hr r (List.mem_of_mem_drop h)⟩
 have hF := afilterL rows x hor
 have hFa := afilterM (rows.take kk) x hot
 have hFb := afilterL (rows.drop kk) x hod
 have hpe := parts_err x rows kk hsm
 have hfa : (filS (rows.take kk) x).2 = ((rows.take kk).foldl (filStep x) ([], 0)).2 := by
  rw [filS_small (by simp; omega), fold_err]; rfl
 have hla : ((rows.take kk).foldl (filStep x) ([], 0)).1.length ≤ 10000 := by
  have := joinS_len x (rows.take kk) ([], 0)
  simp at this; omega
 rw [hfa] at hpe
 rw [hz] at hF
 generalize (rows.take kk).foldl (filStep x) ([], 0) = fa at *
 obtain ⟨acc, f⟩ := fa
 generalize filS (rows.drop kk) x = fb at *
 obtain ⟨bs, g⟩ := fb
 generalize (filS rows x).2 = e at *
 simp only at hpe hfa hla hFa hFb
 have h3 := leastI_or f g
 rw [← hpe] at h3
 have hee : (e == 0) = false := by simpa using he
 have hen : (e != 0) = true := by simpa using he
 have hEn : enVV ([] : List (List Va)) = [] := rfl
 rw [hEn] at hF
 obtain ⟨xk, xvk, xvn, xvs, xtb, xnm, xs, xkids⟩ := x
 obtain ⟨yk, yvk, yvn, yvs, ytb, ynm, ys, ykids⟩ := y
 simp only [exA, exC, List.map_cons, List.map_nil] at hF hFa hFb
 by_cases hf0 : f = 0
 ·have hg0 : g ≠ 0 := fun h => he (h3.2.2 ⟨hf0, h⟩)
  have heg : e = g := by rcases h3.1 with h | h; exact (he (h.trans hf0)).elim; exact h
  have hgb : (g == 0) = false := by simpa using hg0
  have hfb : (f == 0) = true := by simpa using hf0
  have hef : (e != f) = true := by rw [hf0]; exact hen
  have hge : (e != g) = false := by simp [heg]
  have han : ∀ A, ansM f A acc.length = .tup [A, intV .i64 0] := fun A => by unfold ansM; rw [if_neg (by simpa using hf0), if_neg (by omega)]
  simp only [han] at hFa
  subst hf0
  refine acalls_of cxW_ok drW_ok Tryd.func3 (by kernel_rfl) rfl (nt := 160) (rs := [.tmp 2]) rfl rfl ?_
  simp only [partsA, exC, List.map_cons, List.map_nil, List.cons_append, List.nil_append]
  repeat' first | ((with_reducible first | refine cs ?_ ?_ | refine ws ?_ ?_ | refine wd ?_ ?_ | refine wu ?_ ?_) <;> intro h <;> try simp only [h]) | simp only [↓wBA, tPx, convA, seval, pl3_11Px, pl3_12Px, pl3_29Px, kindW, tyW, mutsW, lenW, enVV_len, enVV_take, enVV_drop, List.drop_zero, htk, hd, hw1, hne, hkk, hkT, hLL, hkl, nnI, sliceA, boundA, hee, hen, hgb, hef, hge] | ((with_reducible show ACalls _ _ _ _ _); first | refine (hA _).eq ?_ | refine (hF _).eq ?_ | (refine (hFa _).mono ?_; rintro _ _ ⟨rfl,rfl⟩) | refine (hFb _).eq ?_) | (with_reducible refine dP pl3_11Px 10 (some 48) (by decide) (by kernel_rfl) ?_) | (with_reducible refine dP pl3_12Px 10 (some 56) (by decide) (by kernel_rfl) ?_) | (with_reducible refine dP pl3_29Px 8 (some 141) (by decide) (by kernel_rfl) ?_)
  all_goals refine ret_is (a := _) ?_ rfl rfl
  all_goals simp only [↓wBA, tPx, convA, seval]
  all_goals simp_all [wS]
 ·have hfb : (f == 0) = false := by simpa using hf0
  have han : ∀ A, ansM f A acc.length = .tup [nilA, intV .i64 f] := fun A => by unfold ansM; rw [if_pos hf0]
  simp only [han, nilA] at hFa
  by_cases hef0 : e = f
  ·have hef : (e != f) = false := by simp [hef0]
   clear hef0
   refine acalls_of cxW_ok drW_ok Tryd.func3 (by kernel_rfl) rfl (nt := 160) (rs := [.tmp 2]) rfl rfl ?_
   simp only [partsA, exC, List.map_cons, List.map_nil, List.cons_append, List.nil_append]
   repeat' first | ((with_reducible first | refine cs ?_ ?_ | refine ws ?_ ?_ | refine wd ?_ ?_ | refine wu ?_ ?_) <;> intro h <;> try simp only [h]) | simp only [↓wBA, tPx, convA, seval, pl3_11Px, pl3_12Px, pl3_29Px, kindW, tyW, mutsW, lenW, enVV_len, enVV_take, enVV_drop, List.drop_zero, htk, hd, hw1, hne, hkk, hkT, hLL, hkl, nnI, sliceA, boundA, hee, hen, hfb, hef] | ((with_reducible show ACalls _ _ _ _ _); first | refine (hA _).eq ?_ | refine (hF _).eq ?_ | (refine (hFa _).mono ?_; rintro _ _ ⟨rfl,rfl⟩) | refine (hFb _).eq ?_) | (with_reducible refine dP pl3_11Px 10 (some 48) (by decide) (by kernel_rfl) ?_) | (with_reducible refine dP pl3_12Px 10 (some 56) (by decide) (by kernel_rfl) ?_) | (with_reducible refine dP pl3_29Px 8 (some 141) (by decide) (by kernel_rfl) ?_)
   all_goals clear hpe h3 hF hFa hFb hfa hA
   all_goals refine ret_is (a := _) ?_ rfl rfl
   all_goals simp only [↓wBA, tPx, convA, seval]
   all_goals simp_all [wS]
  ·have hef : (e != f) = true := by simpa using hef0
   have heg : e = g := h3.1.resolve_left hef0
   have hge : (e != g) = false := by simp [heg]
   clear hef0 heg
   refine acalls_of cxW_ok drW_ok Tryd.func3 (by kernel_rfl) rfl (nt := 160) (rs := [.tmp 2]) rfl rfl ?_
   simp only [partsA, exC, List.map_cons, List.map_nil, List.cons_append, List.nil_append]
   repeat' first | ((with_reducible first | refine cs ?_ ?_ | refine ws ?_ ?_ | refine wd ?_ ?_ | refine wu ?_ ?_) <;> intro h <;> try simp only [h]) | simp only [↓wBA, tPx, convA, seval, pl3_11Px, pl3_12Px, pl3_29Px, kindW, tyW, mutsW, lenW, enVV_len, enVV_take, enVV_drop, List.drop_zero, htk, hd, hw1, hne, hkk, hkT, hLL, hkl, nnI, sliceA, boundA, hee, hen, hfb, hef, hge] | ((with_reducible show ACalls _ _ _ _ _); first | refine (hA _).eq ?_ | refine (hF _).eq ?_ | (refine (hFa _).mono ?_; rintro _ _ ⟨rfl,rfl⟩) | refine (hFb _).eq ?_) | (with_reducible refine dP pl3_11Px 10 (some 48) (by decide) (by kernel_rfl) ?_) | (with_reducible refine dP pl3_12Px 10 (some 56) (by decide) (by kernel_rfl) ?_) | (with_reducible refine dP pl3_29Px 8 (some 141) (by decide) (by kernel_rfl) ?_)
   all_goals clear hpe h3 hF hFa hFb hfa hA
   all_goals refine ret_is (a := _) ?_ rfl rfl
   all_goals simp only [↓wBA, tPx, convA, seval]
   all_goals simp_all [wS]
end Go.Proofs.YtpcblbbddccgpaaDoor
namespace Go.Proofs.YtpcblbbddccgpaaDoor
open Go.RowKit
def n77 : Va := nmV 77
def p77 (r : List Va) (m : Nat) : List Va := List.replicate m n77 ++ r.drop m
theorem p77_zero (r : List Va) : p77 r 0 = r := by simp [p77]
theorem p77_len {r : List Va} {m : Nat} (h : m ≤ r.length) : (p77 r m).length = r.length := by simp [p77]; omega
theorem p77_set {r : List Va} {m : Nat} (h : m < r.length) : (p77 r m).set m n77 = p77 r (m + 1) := by
 unfold p77
 rw [List.set_append, if_neg (by simp), List.length_replicate, Nat.sub_self, List.drop_eq_getElem_cons h, List.set_cons_zero, List.replicate_succ']
 simp
def mixF (acc : List (List Va)) (i m : Nat) : List (List Va) := (acc.take i).map (fun r => p77 r r.length) ++ (match acc.drop i with
 | [] => []
 | r :: rest => p77 r m :: rest)
theorem mixF_at {acc : List (List Va)} {i : Nat} (m : Nat) (h : i < acc.length) : mixF acc i m = (acc.take i).map (fun r => p77 r r.length) ++ p77 acc[i] m :: acc.drop (i + 1) := by
 unfold mixF
 rw [List.drop_eq_getElem_cons h]
theorem mixF_zero (acc : List (List Va)) : mixF acc 0 0 = acc := by
 cases acc with
 | nil => rfl
 | cons r l => simp [mixF, p77_zero]
theorem mixF_next {acc : List (List Va)} {i : Nat} (h : i < acc.length) : mixF acc i acc[i].length = mixF acc (i + 1) 0 := by
 rw [mixF_at _ h]
 unfold mixF
 rw [List.take_succ_eq_append_getElem h, List.map_append, List.append_assoc]
 congr 1
 simp only [List.map_cons, List.map_nil, List.cons_append, List.nil_append, List.cons.injEq, true_and]
 cases acc.drop (i + 1) with
 | nil => rfl
 | cons q l => simp [p77_zero]
theorem mixF_get {acc : List (List Va)} {i : Nat} (m : Nat) (h : i < acc.length) : (mixF acc i m)[i]? = some (p77 acc[i] m) := by
 rw [mixF_at _ h, List.getElem?_append_right (by simp; omega)]
 simp [Nat.min_eq_left (Nat.le_of_lt h)]
theorem mixF_set {acc : List (List Va)} {i : Nat} (m : Nat) (h : i < acc.length) : (mixF acc i m).set i (p77 acc[i] (m + 1)) = mixF acc i (m + 1) := by
 rw [mixF_at _ h, mixF_at _ h, List.set_append, if_neg (by simp; omega)]
 simp [Nat.min_eq_left (Nat.le_of_lt h)]
theorem lenEq_app : ∀ {a b c d : List (List Va)}, lenEq a b → lenEq c d → lenEq (a ++ c) (b ++ d)
 | [], [], c, d, _, h => h
 | r :: a, q :: b, c, d, h, k => by simp only [lenEq, List.cons_append] at h ⊢; exact ⟨h.1, lenEq_app h.2 k⟩
 | [], _ :: _, _, _, h, _ => by simp [lenEq] at h
 | _ :: _, [], _, _, h, _ => by simp [lenEq] at h
theorem lenEq_rfl (a : List (List Va)) : lenEq a a := lenEq_set.lenEq_refl a
theorem lenEq_map (f : List Va → List Va) (hf : ∀ r, r.length = (f r).length) : ∀ a : List (List Va), lenEq a (a.map f)
 | [] => trivial
 | r :: a => ⟨hf r, lenEq_map f hf a⟩
theorem mixF_len {acc : List (List Va)} {i m : Nat} (h : ∀ (hi : i < acc.length), m ≤ acc[i].length) : lenEq acc (mixF acc i m) := by
 have h1 : lenEq (acc.take i ++ acc.drop i) (mixF acc i m) := by
  unfold mixF
  refine lenEq_app (lenEq_map _ (fun r => (p77_len (Nat.le_refl _)).symm) _) ?_
  by_cases hi : i < acc.length
  ·rw [List.drop_eq_getElem_cons hi]
   exact ⟨(p77_len (h hi)).symm, lenEq_rfl _⟩
  ·rw [List.drop_eq_nil_of_le (by omega)]; trivial
 rwa [List.take_append_drop] at h1
theorem lenEq_take : ∀ {a b : List (List Va)} (i : Nat), lenEq a b → lenEq (a.take i) (b.take i)
 | _, _, 0, _ => by simp [lenEq]
 | [], [], i + 1, _ => by simp [lenEq]
 | r :: a, q :: b, i + 1, h => by simp only [lenEq, List.take_succ_cons] at h ⊢; exact ⟨h.1, lenEq_take i h.2⟩
 | [], _ :: _, i + 1, h => by simp [lenEq] at h
 | _ :: _, [], i + 1, h => by simp [lenEq] at h
theorem lenEq_pos {a b : List (List Va)} (i : Nat) (h : lenEq a b) : posF a i = posF b i := lenEq_obj (lenEq_take i h)
theorem lenEq_sym : ∀ {a b : List (List Va)}, lenEq a b → lenEq b a
 | [], [], _ => trivial
 | r :: a, q :: b, h => by simp only [lenEq] at h ⊢; exact ⟨h.1.symm, lenEq_sym h.2⟩
 | [], _ :: _, h => by simp [lenEq] at h
 | _ :: _, [], h => by simp [lenEq] at h
theorem mix_top {acc : List (List Va)} {k i m n : Nat} (hk : (objF acc).length = k + 1) (h : lenEq acc (mixF acc i m)) (rest : St) : (tlF n (mixF acc i m) ++ rest)[k]? = some (some (.row 1 (celF n acc))) := by
 have hne : mixF acc i m ≠ [] := fun e => by
  rw [e] at h
  cases acc with
  | nil => simp [objF] at hk
  | cons q l => simp [lenEq] at h
 obtain ⟨k', e1, e2, e3, _⟩ := tlF_ne (n := n) hne
 have : k' = k := by rw [lenEq_obj (lenEq_sym h)] at e1; omega
 subst this
 rw [List.getElem?_append_left (by omega), e3, lenEq_cel n (lenEq_sym h)]
theorem mix_row {acc : List (List Va)} {i m n : Nat} (hi : i < acc.length) (hm : m < acc[i].length) (rest : St) : (tlF n (mixF acc i m) ++ rest)[posF acc i + 1]? = some (some (.row 3 (muR (p77 acc[i] m)))) := by
 have hle : lenEq acc (mixF acc i m) := mixF_len fun _ => by omega
 have hg := mixF_get m hi
 have hl : (p77 acc[i] m).length = acc[i].length := p77_len (by omega)
 cases hp : p77 acc[i] m with
 | nil => rw [hp] at hl; simp at hl; omega
 | cons u q =>
   rw [hp] at hg
   have := tlF_get (n := n) hg
   rw [lenEq_pos i hle, List.getElem?_append_left (List.getElem?_eq_some_iff.1 this).1]
   exact this
theorem mix_set {acc : List (List Va)} {i m n : Nat} (hi : i < acc.length) (hm : m < acc[i].length) (rest : St) : (tlF n (mixF acc i m) ++ rest).set (posF acc i + 1) (some (.row 3 (muR (p77 acc[i] (m + 1))))) = tlF n (mixF acc i (m + 1)) ++ rest := by
 have hle : lenEq acc (mixF acc i m) := mixF_len fun _ => by omega
 have hg := mixF_get m hi
 have hl : (p77 acc[i] m).length = acc[i].length := p77_len (by omega)
 have hl2 : (p77 acc[i] (m + 1)).length = acc[i].length := p77_len (by omega)
 have hms := mixF_set m hi
 cases hp : p77 acc[i] m with
 | nil => rw [hp] at hl; simp at hl; omega
 | cons u q =>
   cases hp2 : p77 acc[i] (m + 1) with
   | nil => rw [hp2] at hl2; simp at hl2; omega
   | cons u2 q2 =>
     rw [hp] at hg hl
     rw [hp2] at hl2 hms
     have h1 := tlF_get (n := n) hg
     have h2 := tlF_set (n := n) (u := u2) (m := q2) hg (by simp at hl hl2; omega)
     rw [hms] at h2
     rw [lenEq_pos i hle, List.set_append, if_pos (List.getElem?_eq_some_iff.1 h1).1, h2]
theorem mix_cell {r : List Va} {m : Nat} (hm : m < r.length) : (p77 r m)[m]? = some r[m] := by
 unfold p77
 rw [List.getElem?_append_right (by simp)]
 simp [hm]
theorem muR_set (l : List Va) (m : Nat) (v : Va) : (muR l).set m ((vaC v).map .p) = muR (l.set m v) := by simp [muR, List.map_set]
end Go.Proofs.YtpcblbbddccgpaaDoor
