/- Rows filtered, as many as an argument may have. A function that makes objects of its own, called where there are others: its objects stand behind them. Rows of rows that are all of the call's own: the state that holds them. Filter, whose rows are written later. -/
import Derived.Test.YtpcblbbddccgpaaDoorM24
import Derived.Test.YtpcblbbddccgpaaDoorM18
import Derived.Test.YtpcblbbddccgpaaDoorM27
set_option linter.unusedSimpArgs false
set_option linter.unusedVariables false
set_option linter.defProp false
set_option maxRecDepth 100000
set_option maxHeartbeats 32000000
namespace Go.Proofs.YtpcblbbddccgpaaDoor
open Go.RowKit
def tFl := aa wX <| aa wbu <| aa T3 <| aa T22 <| aa T27 <| aa T31 <| aa T36 T45
def OkRowsL (rows : List (List Va)) : Prop := rows.length ≤ 140737488351232 ∧ ∀ r ∈ rows, r.length ≤ 4398046511104
theorem afilterL (rows : List (List Va)) (x : Ex) (hr : OkRowsL rows) (σ : St) : ACalls Tryd.prog 8 [.p (.sl 1 (enVV rows)), exA x] σ fun r s => s = σ ∧ r = .tup [.p (.sl 1 (enVV (filS rows x).1)), intV .i64 (filS rows x).2] := by
 refine ACalls.pureF (R := fun r => r = .tup [.p (.sl 1 (enVV (filS rows x).1)), intV .i64 (filS rows x).2]) ?_ (by cases x; rfl) σ
 obtain ⟨hn, hr⟩ := hr
 have hH := fun row => aholdsV row x
 unfold filS
 generalize hst : filStep x = stp at *
 have hstp : ∀ s r, stp s r = (if (holdsV r x).1 = true ∧ s.1.length ≤ 10000 then s.1 ++ [r] else s.1, leastI s.2 (holdsV r x).2) := fun s r => by rw [← hst]; rfl
 generalize hhv : (fun r => holdsV r x) = hv at *
 have hhv' : ∀ r, holdsV r x = hv r := fun r => by rw [← hhv]
 simp only [hhv'] at hH hstp
 clear hst hhv hhv'
 obtain ⟨k, vk, vn, vs, tb, nm, s, kids⟩ := x
 simp only [exA, exC, List.map_cons, List.map_nil] at hH
 refine acalls_of cx_ok dr_ok Tryd.func8 (by kernel_rfl) rfl (nt := 41) (rs := [.tmp 4, .tmp 5]) rfl rfl ?_
 simp only [exA, exC, List.map_cons, List.map_nil]
 simp only [↓wBA, tFl, convA, seval, enVV_len]
 refine awp_loopN (rows.length) (fun i => [(7, .nown 2 1 (enVV ((rows.take i).foldl stp ([], 0)).1)), (14, intV .i64 (i : Nat)), (9, .any), (10, .any), (11, .any), (15, .any), (16, .any), (17, .any), (18, .any), (19, .any), (20, .any), (21, .any), (22, .any), (23, .any), (24, .any), (25, .any), (26, .any), (27, .any), (28, .any), (29, .any), (30, .any), (31, .any), (32, .any), (33, .any), (34, .any), (35, .any), (36, .any), (37, .any)]) (fun i => [(1, .row 1 [[intV .i64 ((rows.take i).foldl stp ([], 0)).2]]), (2, .nright 36 (((rows.take i).foldl stp ([], 0)).1.length * 1))]) (fun i => True) ?_ ?_ ?_
 ·trivial
 ·skip
  simp only [wR, Nat.reduceAdd, Nat.reduceLT, reduceIte]
  simp [wW, enVV]
 ·intro i hi _
  simp only [wR, Nat.reduceAdd, Nat.reduceLT, reduceIte]
  by_cases hlt : i < rows.length
  ·have hdec := dT (i := i) (n := rows.length) (by omega)
   have hi0 := nnI i
   have hw := wI i (by omega)
   have hg := enVV_get rows i hlt
   have hst := take_step stp ([], 0) rows i hlt
   have hrl := hr rows[i] (List.getElem_mem hlt)
   rw [hstp] at hst
   generalize hs : (rows.take i).foldl stp ([], 0) = st at *
   obtain ⟨out, l⟩ := st
   simp only at hst
   generalize hrow : rows[i] = row at *
   by_cases ho : out.length ≤ 10000
   ·have hd : decide ((out.length : Int) ≤ 10000) = true := by simp; omega
    have hlim1 := tL (n := (out.length + 1) * 24) (by omega)
    have hlim2 := lM (n := out.length + 1) (by omega)
    repeat' first | ((with_reducible first | refine cs ?_ ?_ | refine ws ?_ ?_) <;> intro h <;> try simp only [h]) | simp only [↓wBA, tFl, convA, seval, enVV_len, hdec, hi0, hg, hw, hd, hlim1, hlim2, appendA, srcA, List.length_append] | ((with_reducible show ACalls _ _ _ _ _); first | refine (hH _ _).eq ?_ | (refine (asee _ _ _ 1 rfl).mono ?_; rintro _ _ ⟨_, ⟨rfl, rfl⟩, rfl⟩; simp only [lsO]) | refine (aclone _ hrl _).eq ?_)
    all_goals refine ⟨⟨i + 1, by omega, trivial⟩, by show rows.length - (i + 1) < rows.length - i; omega, ?_⟩
    all_goals simp only [wR, Nat.reduceAdd, Nat.reduceLT, reduceIte]
    all_goals simp_all [wW, enVV]
   ·have hd : decide ((out.length : Int) ≤ 10000) = false := by simp; omega
    repeat' first | ((with_reducible first | refine cs ?_ ?_ | refine ws ?_ ?_) <;> intro h <;> try simp only [h]) | simp only [↓wBA, tFl, convA, seval, enVV_len, hdec, hi0, hg, hw, hd] | ((with_reducible show ACalls _ _ _ _ _); first | refine (hH _ _).eq ?_ | (refine (asee _ _ _ 1 rfl).mono ?_; rintro _ _ ⟨_, ⟨rfl, rfl⟩, rfl⟩; simp only [lsO]))
    all_goals refine ⟨⟨i + 1, by omega, trivial⟩, by show rows.length - (i + 1) < rows.length - i; omega, ?_⟩
    all_goals simp only [wR, Nat.reduceAdd, Nat.reduceLT, reduceIte]
    all_goals simp_all [wW, enVV]
  ·have hdec := dF (i := i) (n := rows.length) (by omega)
   have ht : rows.take i = rows := List.take_of_length_le (by omega)
   simp only [ht]
   repeat' first | ((with_reducible first | refine cs ?_ ?_ | refine ws ?_ ?_) <;> intro h <;> try simp only [h]) | simp only [↓wBA, tFl, convA, seval, enVV_len, hdec] | ((with_reducible show ACalls _ _ _ _ _); refine ACalls.frzArgs ?_; simp only [frzL, frzA]; refine (aanswer _ _ _).eq ?_)
   all_goals refine ret_is (a := _) ?_ rfl rfl
   all_goals simp only [↓wBA, tFl, convA, seval]
   all_goals simp_all [wS]
end Go.Proofs.YtpcblbbddccgpaaDoor
namespace Go.Proofs.YtpcblbbddccgpaaDoor
open Go.RowKit
def tokS (n : Nat) (s : St) : Prop := ∀ t ob, s.at t ob → tokOb n ob = true
theorem at_app {σ τ : St} {t : Nat} {ob : Ob} (h : St.at (σ ++ τ) t ob) : (t < σ.length ∧ σ.at t ob) ∨ ∃ t', t = t' + σ.length ∧ τ.at t' ob := by
 unfold St.at at *
 rw [List.getElem?_append] at h
 split at h
 ·exact .inl ⟨by assumption, h⟩
 ·exact .inr ⟨t - σ.length, by omega, h⟩
theorem ACalls.fresh {P : Program} {f : FuncId} {args : List AV} {R : AV → St → Prop} (h : ACalls P f args [] fun r s => tokLt s.length r = true ∧ tokS s.length s ∧ R r s) (ha : tokLtL 0 args = true) (σ : St) :
 ACalls P f args σ fun r s => ∃ r0 s0, R r0 s0 ∧ r = renA (fun t => t + σ.length) r0 ∧ s = σ ++ s0.map fun o => o.map (renOb fun t => t + σ.length) := by
 refine ⟨h.1, fun M vs hM hv => ?_⟩
 let M0 : View := { M with mu := fun _ => none, len := fun _ => none }
 have hA : Alike 0 M M0 := ⟨rfl, rfl, fun t ht => by omega, fun t ht => by omega, fun t ht => by omega⟩
 have hM0 : Match M0 [] := ⟨fun t ob ht => by simp [St.at] at ht, fun t t' ob ob' b ht => by simp [St.at] at ht, fun t _ => ⟨rfl, rfl⟩, fun t b hb => by simp [M0] at hb, hM.imm, fun x hx => by
  obtain ⟨cs, T, g1, g2, _⟩ := hM.glob x hx
  exact ⟨cs, T, g1, g2, fun t ob ht => by simp [St.at] at ht⟩⟩
 refine (h.2 M0 vs hM0 (ARepL.alike hA _ _ ha hv)).mono ?_
 rintro e w' ⟨v, r, s0, M1, rfl, rfl, h1, h2, h3, h4, h5, h6, h7⟩
 generalize hn : σ.length = n at *
 generalize hm : s0.length = m at *
 let M' : View := { w := M1.w, I := M1.I, mu := fun t => if t < n then M.mu t else M1.mu (t - n), len := fun t => if t < n then M.len t else M1.len (t - n), cap := fun t => if t < n then M.cap t else M1.cap (t - n) }
 have hlo : ∀ t, t < n → M'.mu t = M.mu t ∧ M'.len t = M.len t ∧ M'.cap t = M.cap t := fun t ht => by simp [M', ht]
 have hnl : ∀ t, ¬ t + n < n := fun t => by omega
 have hren : Ren (fun t => t + n) m M1 M' := ⟨rfl, rfl, fun t _ => by simp [M', hnl t], fun t _ => by simp [M', hnl t], fun t _ => by simp [M', hnl t]⟩
 have hmn : ∀ t b, M.mu t = some b → t < n := fun t b ht => by
  rcases Nat.lt_or_ge t n with h | h
  ·exact h
  ·rw [(hM.fresh t (by omega)).1] at ht; simp at ht
 have hln : ∀ t k, M.len t = some k → t < n := fun t k ht => by
  rcases Nat.lt_or_ge t n with h | h
  ·exact h
  ·rw [(hM.fresh t (by omega)).2] at ht; simp at ht
 have hL : Later M M' := ⟨fun t b ht h0 => by
  obtain ⟨e1, e2, e3⟩ := hlo t (hmn t b ht)
  exact ⟨e1.trans ht, e2.trans h0, e3⟩, fun t k ht => by
  obtain ⟨e1, e2, e3⟩ := hlo t (hln t k ht)
  exact ⟨k, e2.trans ht, Nat.le_refl _, fun _ => ⟨e1, e3⟩⟩, h1.imm, h1.cell⟩
 have hk : ∀ b, b < M.w.heap.size → M1.w.heap[b]? = M.w.heap[b]? ∧ ∀ o, M1.I b o → M.I b o := fun b hb => h1.keep b hb fun t ob ht => by simp [St.at] at ht
 have hnew : ∀ t ob b, s0.at t ob → M1.mu t = some b → M.w.heap.size ≤ b := fun t ob b ht hb => by
  rcases h1.new t ob b ht hb with h | ⟨t0, ob0, h, _⟩
  ·exact h
  ·simp [St.at] at h
 have hat : ∀ t ob, St.at (σ ++ s0.map fun o => o.map (renOb fun t => t + n)) t ob → (t < n ∧ σ.at t ob) ∨ ∃ t' ob', t = t' + n ∧ s0.at t' ob' ∧ ob = renOb (fun t => t + n) ob' := fun t ob ht => by
  rcases at_app ht with ⟨g1, g2⟩ | ⟨t', g1, g2⟩
  ·exact .inl ⟨by omega, g2⟩
  ·refine .inr ⟨t', ?_⟩
   unfold St.at at g2
   rw [List.getElem?_map] at g2
   cases hs : s0[t']? with
   | none => rw [hs] at g2; simp at g2
   | some o =>
     rw [hs] at g2
     cases o with
     | none => simp at g2
     | some ob' => simp at g2; exact ⟨ob', by omega, hs, g2.symm⟩
 have hE' : Ext M σ M' (σ ++ s0.map fun o => o.map (renOb fun t => t + n)) := by
  refine ⟨hL.mu, hL.own, hL.imm, hL.cell, fun b hb _ => hk b hb, fun t ob b ht hb => ?_, h1.size, h1.os, h1.tape, h1.output⟩
  rcases hat t ob ht with ⟨g1, g2⟩ | ⟨t', ob', rfl, g2, _⟩
  ·rw [(hlo t g1).1] at hb; exact .inr ⟨t, ob, g2, hb⟩
  ·have : M'.mu (t' + n) = M1.mu t' := by simp [M', hnl t']
   rw [this] at hb
   exact .inl (hnew t' ob' b g2 hb)
 have hmu1 : ∀ t, M'.mu (t + n) = M1.mu t := fun t => by simp [M', hnl t]
 refine ⟨v, renA (fun t => t + n) r, σ ++ s0.map fun o => o.map (renOb fun t => t + n), M', rfl, rfl, hE', ⟨fun t ob ht => ?_, fun t t' ob ob' b ht ht' hb hb' => ?_, fun t ht => ?_, fun t b hb => ?_, h2.imm, hM.glob.ext hE'⟩, (ARep.ren hren _ _ h5).2 h3, by simp; omega, r, s0, h7, rfl, rfl⟩
 ·rcases hat t ob ht with ⟨g1, g2⟩ | ⟨t', ob', rfl, g2, rfl⟩
  ·exact (hM.obj t ob g2).later hL (hlo t g1).1 (hlo t g1).2.1 (hlo t g1).2.2 fun b hb => hk b (hM.lt t b hb)
  ·exact (ObRep.ren hren (by have := (List.getElem?_eq_some_iff.1 g2).1; omega) (h6 t' ob' g2)).2 (h2.obj t' ob' g2)
 ·rcases hat t ob ht with ⟨g1, g2⟩ | ⟨s, obs, rfl, g2, rfl⟩ <;> rcases hat t' ob' ht' with ⟨g3, g4⟩ | ⟨s', obs', rfl, g4, rfl⟩
  ·rw [(hlo t g1).1] at hb; rw [(hlo t' g3).1] at hb'; exact hM.inj t t' ob ob' b g2 g4 hb hb'
  ·rw [(hlo t g1).1] at hb; rw [hmu1] at hb'
   have := hM.lt t b hb; have := hnew s' obs' b g4 hb'; omega
  ·rw [(hlo t' g3).1] at hb'; rw [hmu1] at hb
   have := hM.lt t' b hb'; have := hnew s obs b g2 hb; omega
  ·rw [hmu1] at hb hb'
   rw [h2.inj s s' obs obs' b g2 g4 hb hb']
 ·simp only [List.length_append, List.length_map, hn, hm] at ht
  have h8 := h2.fresh (t - n) (by omega)
  have h9 : ¬ t < n := by omega
  simp only [M', h9, if_false]
  exact h8
 ·by_cases ht : t < n
  ·rw [(hlo t ht).1] at hb; exact Nat.lt_of_lt_of_le (hM.lt t b hb) h1.size
  ·simp only [M', ht, if_false] at hb; exact h2.lt _ b hb
end Go.Proofs.YtpcblbbddccgpaaDoor
namespace Go.Proofs.YtpcblbbddccgpaaDoor
open Go.RowKit
def blk : List Va → St
 | [] => [none, none]
 | v :: l => [none, some (.row 3 (muR (v :: l))), none, none]
def objF (acc : List (List Va)) : St := acc.flatMap blk
def celO (n : Nat) : List Va → AV
 | [] => .p (.sl 3 [])
 | _ :: l => .ms (n + 1) 3 0 (l.length + 1)
def celF : Nat → List (List Va) → List (List AV)
 | _, [] => []
 | n, r :: rs => [celO n r] :: celF (n + (blk r).length) rs
theorem objF_snoc (acc : List (List Va)) (r : List Va) : objF (acc ++ [r]) = objF acc ++ blk r := by simp [objF]
theorem objF_cons (acc : List (List Va)) (r : List Va) : objF (r :: acc) = blk r ++ objF acc := by simp [objF]
theorem celF_snoc (r : List Va) : ∀ (acc : List (List Va)) (n : Nat), celF n (acc ++ [r]) = celF n acc ++ [[celO (n + (objF acc).length) r]]
 | [], n => by simp [celF, objF]
 | q :: acc, n => by
   simp only [List.cons_append, celF, celF_snoc r acc, objF_cons, List.length_append, Nat.add_assoc]
theorem celF_len : ∀ (acc : List (List Va)) (n : Nat), (celF n acc).length = acc.length
 | [], n => rfl
 | q :: acc, n => by simp [celF, celF_len acc]
theorem blk_pos (r : List Va) : 0 < (blk r).length := by cases r <;> simp [blk]
theorem celO_tok (n m : Nat) (r : List Va) (h : n + (blk r).length ≤ m) : tokLt m (celO n r) = true ∧ leaf (celO n r) = true := by
 cases r with
 | nil => simp [celO, tokLt, leaf]
 | cons v l => simp [blk] at h; simp [celO, tokLt, leaf]; omega
theorem celF_tok : ∀ (acc : List (List Va)) (n m : Nat), n + (objF acc).length ≤ m → (celF n acc).all (tokLtL m) = true
 | [], n, m, h => rfl
 | r :: acc, n, m, h => by
   rw [objF_cons, List.length_append] at h
   simp only [celF, List.all_cons, tokLtL, Bool.and_true, Bool.and_eq_true]
   exact ⟨(celO_tok n m r (by omega)).1, celF_tok acc _ m (by omega)⟩
theorem muR_tok (n : Nat) (l : List Va) : (muR l).all (tokLtL n) = true := by
 simp only [muR, List.all_map, List.all_eq_true]
 intro v _
 simp [vaC, tokLtL, tokLt]
theorem blk_ok (n : Nat) (r : List Va) : (blk r).all (okO n) = true := by
 cases r with
 | nil => rfl
 | cons v l => simp [blk, okO, muR_tok]
theorem objF_ok (n : Nat) : ∀ acc : List (List Va), (objF acc).all (okO n) = true
 | [] => rfl
 | r :: acc => by rw [objF_cons, List.all_append, blk_ok, objF_ok n acc]; rfl
def tlF (n : Nat) (acc : List (List Va)) : St := match acc with
 | [] => []
 | q :: l => (objF (q :: l)).set ((objF (q :: l)).length - 1) (some (.row 1 (celF n (q :: l))))
def outO (n : Nat) (acc : List (List Va)) : AV := match acc with
 | [] => nilA
 | q :: l => .ms (n + (objF (q :: l)).length - 1) 1 0 (l.length + 1)
theorem tlF_len (n : Nat) (acc : List (List Va)) : (tlF n acc).length = (objF acc).length := by
 cases acc with
 | nil => rfl
 | cons q l => simp [tlF]
theorem tlF_nil (n : Nat) : tlF n [] = [] := rfl
theorem outO_nil (n : Nat) : outO n [] = nilA := rfl
theorem tlF_ne {n : Nat} {acc : List (List Va)} (h : acc ≠ []) : ∃ k, (objF acc).length = k + 1 ∧ (tlF n acc).length = k + 1 ∧ (tlF n acc)[k]? = some (some (.row 1 (celF n acc))) ∧ (tlF n acc).set k none = objF acc ∧ outO n acc = .ms (n + k) 1 0 acc.length ∧ (celF n acc).length = acc.length := by
 cases acc with
 | nil => exact absurd rfl h
 | cons q l =>
   have hp : 0 < (objF (q :: l)).length := by rw [objF_cons, List.length_append]; have := blk_pos q; omega
   have hlast : ∀ acc : List (List Va), acc ≠ [] → (objF acc)[(objF acc).length - 1]? = some none := fun acc hne => by
    obtain ⟨a', r, rfl⟩ : ∃ a' r, acc = a' ++ [r] := ⟨acc.dropLast, acc.getLast hne, (List.dropLast_concat_getLast hne).symm⟩
    rw [objF_snoc, List.length_append, List.getElem?_append_right (by have := blk_pos r; omega)]
    cases r with
    | nil => simp [blk]
    | cons v l => simp [blk]
   refine ⟨(objF (q :: l)).length - 1, by omega, by rw [tlF_len]; omega, ?_, ?_, ?_, celF_len _ _⟩
   ·simp only [tlF]
    rw [List.getElem?_set, if_pos rfl, if_pos (by omega)]
   ·simp only [tlF]
    rw [List.set_set]
    apply List.ext_getElem?
    intro i
    rw [List.getElem?_set]
    split
    ·rename_i e; subst e
     rw [if_pos (by omega), hlast _ (by simp)]
    ·rfl
   ·simp only [outO, List.length_cons]
    congr 1
    omega
theorem outO_tok (acc : List (List Va)) {n : Nat} : tokLt (n + (objF acc).length) (outO n acc) = true := by
 cases acc with
 | nil => rfl
 | cons q l =>
   have hp : 0 < (objF (q :: l)).length := by rw [objF_cons, List.length_append]; have := blk_pos q; omega
   simp only [outO, tokLt, decide_eq_true_eq]
   omega
theorem tlF_snoc (n : Nat) (acc : List (List Va)) (r : List Va) : tlF n (acc ++ [r]) = objF acc ++ (match r with
    | [] => [none, some (.row 1 (celF n acc ++ [[.p (.sl 3 [])]]))]
    | v :: l => [none, some (.row 3 (muR (v :: l))), none, some (.row 1 (celF n acc ++ [[.ms (n + (objF acc).length + 1) 3 0 (l.length + 1)]]))]) := by
  have key : tlF n (acc ++ [r]) = (objF (acc ++ [r])).set ((objF (acc ++ [r])).length - 1) (some (.row 1 (celF n (acc ++ [r])))) := by
    cases acc <;> rfl
  rw [key, objF_snoc, celF_snoc]
  cases r with
  | nil =>
    rw [List.set_append, if_neg (by simp [blk])]
    simp [blk, celO]
  | cons v l =>
    rw [List.set_append, if_neg (by simp [blk])]
    simp [blk, celO]
theorem outO_snoc (n : Nat) (acc : List (List Va)) (r : List Va) : outO n (acc ++ [r]) = .ms (n + (objF acc).length + (blk r).length - 1) 1 0 (acc.length + 1) := by
 have key : outO n (acc ++ [r]) = .ms (n + (objF (acc ++ [r])).length - 1) 1 0 (acc ++ [r]).length := by
  cases acc <;> simp [outO]
 rw [key, objF_snoc]
 simp [Nat.add_assoc]
theorem leS_pre {σ0 τ : St} {n : Nat} {a b : St} (h : leS σ0 n τ a b) : ∀ p : St, p.all (okO n) = true → leS σ0 n τ (p ++ a) (p ++ b)
 | [], _ => h
 | o :: p, hp => by
   simp only [List.all_cons, Bool.and_eq_true] at hp
   simp only [List.cons_append, leS]
   refine ⟨?_, leS_pre h p hp.2⟩
   cases o with
   | none => simp [leO]
   | some ob => cases ob with
     | row e ls => exact ⟨rfl, .inl ⟨rfl, hp.1⟩⟩
     | right E m => exact ⟨rfl, rfl⟩
     | nright E m => exact ⟨rfl, rfl⟩
     | map es => exact ⟨rfl, hp.1⟩
theorem okO_row {n e : Nat} {ls : List (List AV)} (h : ls.all (tokLtL n) = true) : okO n (some (.row e ls)) = true := by simpa [okO] using h
theorem tlF_ok (n m : Nat) (acc : List (List Va)) (h : n + (objF acc).length ≤ m) : (tlF n acc).all (okO m) = true := by
 cases acc with
 | nil => rfl
 | cons q l =>
   rw [List.all_eq_true]
   intro o ho
   simp only [tlF] at ho
   rcases List.mem_or_eq_of_mem_set ho with ho | rfl
   ·exact List.all_eq_true.1 (objF_ok m _) o ho
   ·exact okO_row (celF_tok _ n m h)
end Go.Proofs.YtpcblbbddccgpaaDoor
namespace Go.Proofs.YtpcblbbddccgpaaDoor
open Go.RowKit
def tFm := aa wX <| aa wbu <| aa T3 <| aa T22 T31
def cxF : Ctx := { cx with muts := [22 * 100000 + 36] }
theorem cxF_ok : cxF.ok Tryd.prog := cx_ok
theorem drF_ok : DrawOk Tryd.prog (aDraw Tryd.prog cxF) := aDraw_ok cxF_ok (by kernel_rfl)
theorem kindF (t : TypeId) : cxF.kind t = cx.kind t := nr rfl
theorem tyF (t : TypeId) : cxF.ty t = cx.ty t := nr rfl
theorem mutsF : cxF.muts = [22 * 100000 + 36] := nr rfl
theorem lenF {T : TypeId} {x : AV} : lenA cxF T x = lenA cx T x := nr rfl
theorem lenMM {t e i n : Nat} : lenA cx 22 (.ms t e i n) = some n := nr (len_ms ck_22)
def ansM (l : Int) (A : AV) (n : Nat) : AV := if l ≠ 0 then .tup [nilA, intV .i64 l] else if n > 10000 then .tup [nilA, intV .i64 20] else .tup [A, intV .i64 0]
theorem aanswerM (l : Int) (A : AV) (n : Nat) (hA : (A = nilA ∧ n = 0) ∨ ∃ t, A = .ms t 1 0 n) (σ : St) : ACalls Tryd.prog 20 [intV .i64 l, A] σ fun r s => r = ansM l A n ∧ s = σ := by
 by_cases hl : l = 0
 ·have hn0 : (l != 0) = false := by simp [hl]
  by_cases hn : n > 10000
  ·have hd : decide ((n : Int) > 10000) = true := by simp; omega
   have ha : ansM l A n = .tup [nilA, intV .i64 20] := by unfold ansM; rw [if_neg (by simpa using hl), if_pos hn]
   rw [ha]
   rcases hA with ⟨rfl, rfl⟩ | ⟨t, rfl⟩
   ·omega
   ·skip
    refine acalls_of cx_ok dr_ok Tryd.func20 (by kernel_rfl) rfl (nt := 13) (rs := [.tmp 4, .tmp 5]) rfl rfl ?_
    repeat' first | ((with_reducible first | refine cs ?_ ?_ | refine ws ?_ ?_) <;> intro h <;> try simp only [h]) | simp only [↓wBA, tFm, convA, seval, hn0, hd, lenMM]
    all_goals exact ⟨.inl rfl, _, _, _, rfl, .inl ⟨rfl, rfl⟩, Nat.le_refl _, rfl, rfl⟩
  ·have hd : decide ((n : Int) > 10000) = false := by simp; omega
   have ha : ansM l A n = .tup [A, intV .i64 0] := by unfold ansM; rw [if_neg (by simpa using hl), if_neg hn]
   rw [ha]
   rcases hA with ⟨rfl, rfl⟩ | ⟨t, rfl⟩
   ·skip
    refine acalls_of cx_ok dr_ok Tryd.func20 (by kernel_rfl) rfl (nt := 13) (rs := [.tmp 4, .tmp 5]) rfl rfl ?_
    repeat' first | ((with_reducible first | refine cs ?_ ?_ | refine ws ?_ ?_) <;> intro h <;> try simp only [h]) | simp only [↓wBA, tFm, convA, seval, hn0, hd, nilA, lenMM]
    all_goals exact ⟨.inl rfl, _, _, _, rfl, .inl ⟨rfl, rfl⟩, Nat.le_refl _, rfl, rfl⟩
   ·skip
    refine acalls_of cx_ok dr_ok Tryd.func20 (by kernel_rfl) rfl (nt := 13) (rs := [.tmp 4, .tmp 5]) rfl rfl ?_
    repeat' first | ((with_reducible first | refine cs ?_ ?_ | refine ws ?_ ?_) <;> intro h <;> try simp only [h]) | simp only [↓wBA, tFm, convA, seval, hn0, hd, lenMM]
    all_goals exact ⟨.inl rfl, _, _, _, rfl, .inl ⟨rfl, rfl⟩, Nat.le_refl _, rfl, rfl⟩
 ·have hn0 : (l != 0) = true := by simpa using hl
  have ha : ansM l A n = .tup [nilA, intV .i64 l] := by unfold ansM; rw [if_pos hl]
  rw [ha]
  rcases hA with ⟨rfl, rfl⟩ | ⟨t, rfl⟩
  ·skip
   refine acalls_of cx_ok dr_ok Tryd.func20 (by kernel_rfl) rfl (nt := 13) (rs := [.tmp 4, .tmp 5]) rfl rfl ?_
   repeat' first | ((with_reducible first | refine cs ?_ ?_ | refine ws ?_ ?_) <;> intro h <;> try simp only [h]) | simp only [↓wBA, tFm, convA, seval, hn0, nilA]
   all_goals exact ⟨.inl rfl, _, _, _, rfl, .inl ⟨rfl, rfl⟩, Nat.le_refl _, rfl, rfl⟩
  ·skip
   refine acalls_of cx_ok dr_ok Tryd.func20 (by kernel_rfl) rfl (nt := 13) (rs := [.tmp 4, .tmp 5]) rfl rfl ?_
   repeat' first | ((with_reducible first | refine cs ?_ ?_ | refine ws ?_ ?_) <;> intro h <;> try simp only [h]) | simp only [↓wBA, tFm, convA, seval, hn0]
   all_goals exact ⟨.inl rfl, _, _, _, rfl, .inl ⟨rfl, rfl⟩, Nat.le_refl _, rfl, rfl⟩
end Go.Proofs.YtpcblbbddccgpaaDoor
