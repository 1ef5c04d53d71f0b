/- Rows filtered. Rows filtered, as many as an argument may have. Loops and states: of general use. A function that makes objects of its own, called where there are others: its objects stand behind them. Rows of rows that are all of the call's own: the state that holds them. A function that touches no object is handed rows that are written, to read them. Rows of rows of one's own: rows read and written one by one. -/
import Derived.Test.YtcnkmandddfdmaaM23
import Derived.Test.YtcnkmandddfdmaaM18
import Derived.Test.YtcnkmandddfdmaaM17
set_option linter.unusedSimpArgs false
set_option linter.unusedVariables false
set_option linter.defProp false
set_option maxRecDepth 100000
set_option maxHeartbeats 32000000
namespace Go.Proofs.Ytcnkmandddfdmaa
open Go.RowKit
def tFi := aa wX <| aa wbu <| aa T3 <| aa T25 <| aa T40 <| aa T46 <| aa T86 T130
def leastI (l e : Int) : Int := if e ≠ 0 ∧ (l = 0 ∨ e < l) then e else l
def lsO (e : Int) : Ob := .row 1 [[intV .i64 e]]
theorem lsP (e : Int) : PlainOb (lsO e) := ⟨fun g => by simp [renOb, lsO, renL, renA, intV], fun n => by simp [tokOb, lsO, tokLtL, tokLt, intV], 1, _, rfl⟩
theorem asee (l e : Int) : OCalls lsO 63 (fun t => [.mp t 1 0 0, intV .i64 e]) l fun r l' => r = .tup [] ∧ l' = leastI l e := by
 refine OCalls.of lsP (fun t => rfl) rfl ?_
 refine acalls_of cx_ok dr_ok Try.func63 (by kernel_rfl) rfl (nt := 20) (rs := []) rfl rfl ?_
 simp only [lsO]
 repeat' first | ((with_reducible first | refine cs ?_ ?_ | refine ws ?_ ?_) <;> intro h <;> try simp only [h]) | simp only [↓wBA, tFi, convA, seval]
 all_goals refine ret_obI (a := _) (b := _) (lsP _) ?_ rfl rfl
 all_goals simp only [↓wBA, tFi, convA, seval]
 all_goals simp_all [wS, lsO, leastI]
 all_goals grind
def ansS (l : Int) (rows : List (List Va)) : List (List Va) × Int := if l ≠ 0 then ([], l) else if rows.length > 10000 then ([], 20) else (rows, 0)
theorem aanswer (l : Int) (rows : List (List Va)) (σ : St) : ACalls Try.prog 64 [intV .i64 l, .p (nilSl 1 (enVV rows))] σ fun r s => s = σ ∧ r = .tup [.p (.sl 1 (enVV (ansS l rows).1)), intV .i64 (ansS l rows).2] := by
 refine ACalls.pureF (R := fun r => r = .tup [.p (.sl 1 (enVV (ansS l rows).1)), intV .i64 (ansS l rows).2]) ?_ rfl σ
 cases rows with
 | nil =>
   refine acalls_of cx_ok dr_ok Try.func64 (by kernel_rfl) rfl (nt := 13) (rs := [.tmp 4, .tmp 5]) rfl rfl ?_
   simp only [nilSl, enVV, List.map_nil, List.isEmpty_nil, if_true]
   repeat' first | ((with_reducible first | refine cs ?_ ?_ | refine ws ?_ ?_) <;> intro h <;> try simp only [h]) | simp only [↓wBA, tFi, convA, seval]
   all_goals refine ret_is (a := _) ?_ rfl rfl
   all_goals simp only [↓wBA, tFi, convA, seval]
   all_goals simp_all [wS, ansS, enVV]
   all_goals grind
 | cons r rows =>
   refine acalls_of cx_ok dr_ok Try.func64 (by kernel_rfl) rfl (nt := 13) (rs := [.tmp 4, .tmp 5]) rfl rfl ?_
   simp only [nilSl, enVV, List.map_cons, List.isEmpty_cons, Bool.false_eq_true, if_false]
   repeat' first | ((with_reducible first | refine cs ?_ ?_ | refine ws ?_ ?_) <;> intro h <;> try simp only [h]) | simp only [↓wBA, tFi, convA, seval, List.length_map]
   all_goals refine ret_is (a := _) ?_ rfl rfl
   all_goals simp only [↓wBA, tFi, convA, seval]
   all_goals simp_all [wS, ansS, enVV]
   all_goals grind
def filStep (x : Ex) (s : List (List Va) × Int) (r : List Va) : List (List Va) × Int := (if (holdsV r x).1 = true ∧ s.1.length ≤ 10000 then s.1 ++ [r] else s.1, leastI s.2 (holdsV r x).2)
def filS (rows : List (List Va)) (x : Ex) : List (List Va) × Int := ansS (rows.foldl (filStep x) ([], 0)).2 (rows.foldl (filStep x) ([], 0)).1
theorem take_step {α β : Type} (f : β → α → β) (b : β) (l : List α) (i : Nat) (h : i < l.length) : (l.take (i + 1)).foldl f b = f ((l.take i).foldl f b) l[i] := by
 rw [List.take_succ_eq_append_getElem h, List.foldl_append]; rfl
def OkRows (rows : List (List Va)) : Prop := rows.length ≤ 4398046511104 ∧ ∀ r ∈ rows, r.length ≤ 4398046511104
theorem afilter (rows : List (List Va)) (x : Ex) (hr : OkRows rows) (σ : St) : ACalls Try.prog 39 [.p (.sl 1 (enVV rows)), exA x] σ fun r s => s = σ ∧ r = .tup [.p (.sl 1 (enVV (filS rows x).1)), intV .i64 (filS rows x).2] := by
 refine ACalls.pureF (R := fun r => r = .tup [.p (.sl 1 (enVV (filS rows x).1)), intV .i64 (filS rows x).2]) ?_ (by cases x; rfl) σ
 obtain ⟨hn, hr⟩ := hr
 have hH := fun row => aholdsV row x
 unfold filS
 generalize hst : filStep x = stp at *
 have hstp : ∀ s r, stp s r = (if (holdsV r x).1 = true ∧ s.1.length ≤ 10000 then s.1 ++ [r] else s.1, leastI s.2 (holdsV r x).2) := fun s r => by rw [← hst]; rfl
 generalize hhv : (fun r => holdsV r x) = hv at *
 have hhv' : ∀ r, holdsV r x = hv r := fun r => by rw [← hhv]
 simp only [hhv'] at hH hstp
 clear hst hhv hhv'
 obtain ⟨k, vk, vn, vs, tb, nm, s, kids⟩ := x
 simp only [exA, exC, List.map_cons, List.map_nil] at hH
 refine acalls_of cx_ok dr_ok Try.func39 (by kernel_rfl) rfl (nt := 41) (rs := [.tmp 4, .tmp 5]) rfl rfl ?_
 simp only [exA, exC, List.map_cons, List.map_nil]
 simp only [↓wBA, tFi, convA, seval, enVV_len]
 refine awp_loopN (rows.length) (fun i => [(7, .nown 2 1 (enVV ((rows.take i).foldl stp ([], 0)).1)), (14, intV .i64 (i : Nat)), (9, .any), (10, .any), (11, .any), (15, .any), (16, .any), (17, .any), (18, .any), (19, .any), (20, .any), (21, .any), (22, .any), (23, .any), (24, .any), (25, .any), (26, .any), (27, .any), (28, .any), (29, .any), (30, .any), (31, .any), (32, .any), (33, .any), (34, .any), (35, .any), (36, .any), (37, .any)]) (fun i => [(1, .row 1 [[intV .i64 ((rows.take i).foldl stp ([], 0)).2]]), (2, .nright 46 (((rows.take i).foldl stp ([], 0)).1.length * 1))]) (fun i => True) ?_ ?_ ?_
 ·trivial
 ·skip
  simp only [wR, Nat.reduceAdd, Nat.reduceLT, reduceIte]
  simp [wW, enVV]
 ·intro i hi _
  simp only [wR, Nat.reduceAdd, Nat.reduceLT, reduceIte]
  by_cases hlt : i < rows.length
  ·have hdec := dT (i := i) (n := rows.length) (by omega)
   have hi0 := nnI i
   have hw := wI i (by omega)
   have hg := enVV_get rows i hlt
   have hst := take_step stp ([], 0) rows i hlt
   have hrl := hr rows[i] (List.getElem_mem hlt)
   rw [hstp] at hst
   generalize hs : (rows.take i).foldl stp ([], 0) = st at *
   obtain ⟨out, l⟩ := st
   simp only at hst
   generalize hrow : rows[i] = row at *
   by_cases ho : out.length ≤ 10000
   ·have hd : decide ((out.length : Int) ≤ 10000) = true := by simp; omega
    have hlim1 := tL (n := (out.length + 1) * 24) (by omega)
    have hlim2 := lM (n := out.length + 1) (by omega)
    repeat' first | ((with_reducible first | refine cs ?_ ?_ | refine ws ?_ ?_) <;> intro h <;> try simp only [h]) | simp only [↓wBA, tFi, convA, seval, enVV_len, hdec, hi0, hg, hw, hd, hlim1, hlim2, appendA, srcA, List.length_append] | ((with_reducible show ACalls _ _ _ _ _); first | refine (hH _ _).eq ?_ | (refine (asee _ _ _ 1 rfl).mono ?_; rintro _ _ ⟨_, ⟨rfl, rfl⟩, rfl⟩; simp only [lsO]) | refine (aclone _ hrl _).eq ?_)
    all_goals refine ⟨⟨i + 1, by omega, trivial⟩, by show rows.length - (i + 1) < rows.length - i; omega, ?_⟩
    all_goals simp only [wR, Nat.reduceAdd, Nat.reduceLT, reduceIte]
    all_goals simp_all [wW, enVV]
   ·have hd : decide ((out.length : Int) ≤ 10000) = false := by simp; omega
    repeat' first | ((with_reducible first | refine cs ?_ ?_ | refine ws ?_ ?_) <;> intro h <;> try simp only [h]) | simp only [↓wBA, tFi, convA, seval, enVV_len, hdec, hi0, hg, hw, hd] | ((with_reducible show ACalls _ _ _ _ _); first | refine (hH _ _).eq ?_ | (refine (asee _ _ _ 1 rfl).mono ?_; rintro _ _ ⟨_, ⟨rfl, rfl⟩, rfl⟩; simp only [lsO]))
    all_goals refine ⟨⟨i + 1, by omega, trivial⟩, by show rows.length - (i + 1) < rows.length - i; omega, ?_⟩
    all_goals simp only [wR, Nat.reduceAdd, Nat.reduceLT, reduceIte]
    all_goals simp_all [wW, enVV]
  ·have hdec := dF (i := i) (n := rows.length) (by omega)
   have ht : rows.take i = rows := List.take_of_length_le (by omega)
   simp only [ht]
   repeat' first | ((with_reducible first | refine cs ?_ ?_ | refine ws ?_ ?_) <;> intro h <;> try simp only [h]) | simp only [↓wBA, tFi, convA, seval, enVV_len, hdec] | ((with_reducible show ACalls _ _ _ _ _); refine ACalls.frzArgs ?_; simp only [frzL, frzA]; refine (aanswer _ _ _).eq ?_)
   all_goals refine ret_is (a := _) ?_ rfl rfl
   all_goals simp only [↓wBA, tFi, convA, seval]
   all_goals simp_all [wS]
end Go.Proofs.Ytcnkmandddfdmaa
namespace Go.Proofs.Ytcnkmandddfdmaa
open Go.RowKit
def OkRowsL (rows : List (List Va)) : Prop := rows.length ≤ 140737488351232 ∧ ∀ r ∈ rows, r.length ≤ 4398046511104
end Go.Proofs.Ytcnkmandddfdmaa
namespace Go.Proofs.Ytcnkmandddfdmaa
open Go.RowKit
theorem leS_self {σ0 τ : St} {n : Nat} (σ : St) (h : σ.all (okO n) = true) : leS σ0 n τ σ σ := by
 have := leS_take (σ0 := σ0) (τ := τ) (k := n) σ σ.length (by rw [List.take_length]; exact h)
 rwa [List.take_length] at this
theorem awp_loopT {P : Program} {C : Ctx} {fr : List AV} {σ : St} {Q : Exit → List AV → St → Prop} {c : Code} (n : Nat) (D : Nat → List (Nat × AV)) (T : Nat → St) (hl : ∀ i, σ.length ≤ (T i).length) (h2 : WeakE fr σ (setsF fr (D 0)) (T 0))
 (h3 : ∀ i, (hi : i ≤ n) → AWp P C (aDraw P C) c (setsF fr (D i)) (T i) (roundA (fun x : { i : Nat // i ≤ n } => (setsF fr (D x.1), T x.1)) (fun x => n - x.1) ⟨i, hi⟩ Q)) : AWp P C (aDraw P C) (.loop c) fr σ Q :=
 awp_loop' (X := { i : Nat // i ≤ n }) (fun x => (setsF fr (D x.1), T x.1)) (fun x => n - x.1) ⟨0, by omega⟩ (fun x => hl x.1) h2 fun ⟨i, hi⟩ => h3 i hi
end Go.Proofs.Ytcnkmandddfdmaa
namespace Go.Proofs.Ytcnkmandddfdmaa
open Go.RowKit
def tokS (n : Nat) (s : St) : Prop := ∀ t ob, s.at t ob → tokOb n ob = true
theorem at_app {σ τ : St} {t : Nat} {ob : Ob} (h : St.at (σ ++ τ) t ob) : (t < σ.length ∧ σ.at t ob) ∨ ∃ t', t = t' + σ.length ∧ τ.at t' ob := by
 unfold St.at at *
 rw [List.getElem?_append] at h
 split at h
 ·exact .inl ⟨by assumption, h⟩
 ·exact .inr ⟨t - σ.length, by omega, h⟩
theorem ACalls.fresh {P : Program} {f : FuncId} {args : List AV} {R : AV → St → Prop} (h : ACalls P f args [] fun r s => tokLt s.length r = true ∧ tokS s.length s ∧ R r s) (ha : tokLtL 0 args = true) (σ : St) :
 ACalls P f args σ fun r s => ∃ r0 s0, R r0 s0 ∧ r = renA (fun t => t + σ.length) r0 ∧ s = σ ++ s0.map fun o => o.map (renOb fun t => t + σ.length) := by
 refine ⟨h.1, fun M vs hM hv => ?_⟩
 let M0 : View := { M with mu := fun _ => none, len := fun _ => none }
 have hA : Alike 0 M M0 := ⟨rfl, rfl, fun t ht => by omega, fun t ht => by omega, fun t ht => by omega⟩
 have hM0 : Match M0 [] := ⟨fun t ob ht => by simp [St.at] at ht, fun t t' ob ob' b ht => by simp [St.at] at ht, fun t _ => ⟨rfl, rfl⟩, fun t b hb => by simp [M0] at hb, hM.imm, fun x hx => by
  obtain ⟨cs, T, g1, g2, _⟩ := hM.glob x hx
  exact ⟨cs, T, g1, g2, fun t ob ht => by simp [St.at] at ht⟩⟩
 refine (h.2 M0 vs hM0 (ARepL.alike hA _ _ ha hv)).mono ?_
 rintro e w' ⟨v, r, s0, M1, rfl, rfl, h1, h2, h3, h4, h5, h6, h7⟩
 generalize hn : σ.length = n at *
 generalize hm : s0.length = m at *
 let M' : View := { w := M1.w, I := M1.I, mu := fun t => if t < n then M.mu t else M1.mu (t - n), len := fun t => if t < n then M.len t else M1.len (t - n), cap := fun t => if t < n then M.cap t else M1.cap (t - n) }
 have hlo : ∀ t, t < n → M'.mu t = M.mu t ∧ M'.len t = M.len t ∧ M'.cap t = M.cap t := fun t ht => by simp [M', ht]
 have hnl : ∀ t, ¬ t + n < n := fun t => by omega
 have hren : Ren (fun t => t + n) m M1 M' := ⟨rfl, rfl, fun t _ => by simp [M', hnl t], fun t _ => by simp [M', hnl t], fun t _ => by simp [M', hnl t]⟩
 have hmn : ∀ t b, M.mu t = some b → t < n := fun t b ht => by
  rcases Nat.lt_or_ge t n with h | h
  ·exact h
  ·rw [(hM.fresh t (by omega)).1] at ht; simp at ht
 have hln : ∀ t k, M.len t = some k → t < n := fun t k ht => by
  rcases Nat.lt_or_ge t n with h | h
  ·exact h
  ·rw [(hM.fresh t (by omega)).2] at ht; simp at ht
 have hL : Later M M' := ⟨fun t b ht h0 => by
  obtain ⟨e1, e2, e3⟩ := hlo t (hmn t b ht)
  exact ⟨e1.trans ht, e2.trans h0, e3⟩, fun t k ht => by
  obtain ⟨e1, e2, e3⟩ := hlo t (hln t k ht)
  exact ⟨k, e2.trans ht, Nat.le_refl _, fun _ => ⟨e1, e3⟩⟩, h1.imm, h1.cell⟩
 have hk : ∀ b, b < M.w.heap.size → M1.w.heap[b]? = M.w.heap[b]? ∧ ∀ o, M1.I b o → M.I b o := fun b hb => h1.keep b hb fun t ob ht => by simp [St.at] at ht
 have hnew : ∀ t ob b, s0.at t ob → M1.mu t = some b → M.w.heap.size ≤ b := fun t ob b ht hb => by
  rcases h1.new t ob b ht hb with h | ⟨t0, ob0, h, _⟩
  ·exact h
  ·simp [St.at] at h
 have hat : ∀ t ob, St.at (σ ++ s0.map fun o => o.map (renOb fun t => t + n)) t ob → (t < n ∧ σ.at t ob) ∨ ∃ t' ob', t = t' + n ∧ s0.at t' ob' ∧ ob = renOb (fun t => t + n) ob' := fun t ob ht => by
  rcases at_app ht with ⟨g1, g2⟩ | ⟨t', g1, g2⟩
  ·exact .inl ⟨by omega, g2⟩
  ·refine .inr ⟨t', ?_⟩
   unfold St.at at g2
   rw [List.getElem?_map] at g2
   cases hs : s0[t']? with
   | none => rw [hs] at g2; simp at g2
   | some o =>
     rw [hs] at g2
     cases o with
     | none => simp at g2
     | some ob' => simp at g2; exact ⟨ob', by omega, hs, g2.symm⟩
 have hE' : Ext M σ M' (σ ++ s0.map fun o => o.map (renOb fun t => t + n)) := by
  refine ⟨hL.mu, hL.own, hL.imm, hL.cell, fun b hb _ => hk b hb, fun t ob b ht hb => ?_, h1.size, h1.os, h1.tape, h1.output⟩
  rcases hat t ob ht with ⟨g1, g2⟩ | ⟨t', ob', rfl, g2, _⟩
  ·rw [(hlo t g1).1] at hb; exact .inr ⟨t, ob, g2, hb⟩
  ·have : M'.mu (t' + n) = M1.mu t' := by simp [M', hnl t']
   rw [this] at hb
   exact .inl (hnew t' ob' b g2 hb)
 have hmu1 : ∀ t, M'.mu (t + n) = M1.mu t := fun t => by simp [M', hnl t]
 refine ⟨v, renA (fun t => t + n) r, σ ++ s0.map fun o => o.map (renOb fun t => t + n), M', rfl, rfl, hE', ⟨fun t ob ht => ?_, fun t t' ob ob' b ht ht' hb hb' => ?_, fun t ht => ?_, fun t b hb => ?_, h2.imm, hM.glob.ext hE'⟩, (ARep.ren hren _ _ h5).2 h3, by simp; omega, r, s0, h7, rfl, rfl⟩
 ·rcases hat t ob ht with ⟨g1, g2⟩ | ⟨t', ob', rfl, g2, rfl⟩
  ·exact (hM.obj t ob g2).later hL (hlo t g1).1 (hlo t g1).2.1 (hlo t g1).2.2 fun b hb => hk b (hM.lt t b hb)
  ·exact (ObRep.ren hren (by have := (List.getElem?_eq_some_iff.1 g2).1; omega) (h6 t' ob' g2)).2 (h2.obj t' ob' g2)
 ·rcases hat t ob ht with ⟨g1, g2⟩ | ⟨s, obs, rfl, g2, rfl⟩ <;> rcases hat t' ob' ht' with ⟨g3, g4⟩ | ⟨s', obs', rfl, g4, rfl⟩
  ·rw [(hlo t g1).1] at hb; rw [(hlo t' g3).1] at hb'; exact hM.inj t t' ob ob' b g2 g4 hb hb'
  ·rw [(hlo t g1).1] at hb; rw [hmu1] at hb'
   have := hM.lt t b hb; have := hnew s' obs' b g4 hb'; omega
  ·rw [(hlo t' g3).1] at hb'; rw [hmu1] at hb
   have := hM.lt t' b hb'; have := hnew s obs b g2 hb; omega
  ·rw [hmu1] at hb hb'
   rw [h2.inj s s' obs obs' b g2 g4 hb hb']
 ·simp only [List.length_append, List.length_map, hn, hm] at ht
  have h8 := h2.fresh (t - n) (by omega)
  have h9 : ¬ t < n := by omega
  simp only [M', h9, if_false]
  exact h8
 ·by_cases ht : t < n
  ·rw [(hlo t ht).1] at hb; exact Nat.lt_of_lt_of_le (hM.lt t b hb) h1.size
  ·simp only [M', ht, if_false] at hb; exact h2.lt _ b hb
end Go.Proofs.Ytcnkmandddfdmaa
namespace Go.Proofs.Ytcnkmandddfdmaa
open Go.RowKit
def blk : List Va → St
 | [] => [none, none]
 | v :: l => [none, some (.row 3 (muR (v :: l))), none, none]
def objF (acc : List (List Va)) : St := acc.flatMap blk
def celO (n : Nat) : List Va → AV
 | [] => .p (.sl 3 [])
 | _ :: l => .ms (n + 1) 3 0 (l.length + 1)
def celF : Nat → List (List Va) → List (List AV)
 | _, [] => []
 | n, r :: rs => [celO n r] :: celF (n + (blk r).length) rs
theorem objF_snoc (acc : List (List Va)) (r : List Va) : objF (acc ++ [r]) = objF acc ++ blk r := by simp [objF]
theorem objF_cons (acc : List (List Va)) (r : List Va) : objF (r :: acc) = blk r ++ objF acc := by simp [objF]
theorem celF_snoc (r : List Va) : ∀ (acc : List (List Va)) (n : Nat), celF n (acc ++ [r]) = celF n acc ++ [[celO (n + (objF acc).length) r]]
 | [], n => by simp [celF, objF]
 | q :: acc, n => by
   simp only [List.cons_append, celF, celF_snoc r acc, objF_cons, List.length_append, Nat.add_assoc]
theorem celF_len : ∀ (acc : List (List Va)) (n : Nat), (celF n acc).length = acc.length
 | [], n => rfl
 | q :: acc, n => by simp [celF, celF_len acc]
theorem blk_pos (r : List Va) : 0 < (blk r).length := by cases r <;> simp [blk]
theorem celO_tok (n m : Nat) (r : List Va) (h : n + (blk r).length ≤ m) : tokLt m (celO n r) = true ∧ leaf (celO n r) = true := by
 cases r with
 | nil => simp [celO, tokLt, leaf]
 | cons v l => simp [blk] at h; simp [celO, tokLt, leaf]; omega
theorem celF_tok : ∀ (acc : List (List Va)) (n m : Nat), n + (objF acc).length ≤ m → (celF n acc).all (tokLtL m) = true
 | [], n, m, h => rfl
 | r :: acc, n, m, h => by
   rw [objF_cons, List.length_append] at h
   simp only [celF, List.all_cons, tokLtL, Bool.and_true, Bool.and_eq_true]
   exact ⟨(celO_tok n m r (by omega)).1, celF_tok acc _ m (by omega)⟩
theorem muR_tok (n : Nat) (l : List Va) : (muR l).all (tokLtL n) = true := by
 simp only [muR, List.all_map, List.all_eq_true]
 intro v _
 simp [vaC, tokLtL, tokLt]
theorem blk_ok (n : Nat) (r : List Va) : (blk r).all (okO n) = true := by
 cases r with
 | nil => rfl
 | cons v l => simp [blk, okO, muR_tok]
theorem objF_ok (n : Nat) : ∀ acc : List (List Va), (objF acc).all (okO n) = true
 | [] => rfl
 | r :: acc => by rw [objF_cons, List.all_append, blk_ok, objF_ok n acc]; rfl
def tlF (n : Nat) (acc : List (List Va)) : St := match acc with
 | [] => []
 | q :: l => (objF (q :: l)).set ((objF (q :: l)).length - 1) (some (.row 1 (celF n (q :: l))))
def outO (n : Nat) (acc : List (List Va)) : AV := match acc with
 | [] => nilA
 | q :: l => .ms (n + (objF (q :: l)).length - 1) 1 0 (l.length + 1)
theorem tlF_len (n : Nat) (acc : List (List Va)) : (tlF n acc).length = (objF acc).length := by
 cases acc with
 | nil => rfl
 | cons q l => simp [tlF]
theorem tlF_nil (n : Nat) : tlF n [] = [] := rfl
theorem outO_nil (n : Nat) : outO n [] = nilA := rfl
theorem tlF_ne {n : Nat} {acc : List (List Va)} (h : acc ≠ []) : ∃ k, (objF acc).length = k + 1 ∧ (tlF n acc).length = k + 1 ∧ (tlF n acc)[k]? = some (some (.row 1 (celF n acc))) ∧ (tlF n acc).set k none = objF acc ∧ outO n acc = .ms (n + k) 1 0 acc.length ∧ (celF n acc).length = acc.length := by
 cases acc with
 | nil => exact absurd rfl h
 | cons q l =>
   have hp : 0 < (objF (q :: l)).length := by rw [objF_cons, List.length_append]; have := blk_pos q; omega
   have hlast : ∀ acc : List (List Va), acc ≠ [] → (objF acc)[(objF acc).length - 1]? = some none := fun acc hne => by
    obtain ⟨a', r, rfl⟩ : ∃ a' r, acc = a' ++ [r] := ⟨acc.dropLast, acc.getLast hne, (List.dropLast_concat_getLast hne).symm⟩
    rw [objF_snoc, List.length_append, List.getElem?_append_right (by have := blk_pos r; omega)]
    cases r with
    | nil => simp [blk]
    | cons v l => simp [blk]
   refine ⟨(objF (q :: l)).length - 1, by omega, by rw [tlF_len]; omega, ?_, ?_, ?_, celF_len _ _⟩
   ·simp only [tlF]
    rw [List.getElem?_set, if_pos rfl, if_pos (by omega)]
   ·simp only [tlF]
    rw [List.set_set]
    apply List.ext_getElem?
    intro i
    rw [List.getElem?_set]
    split
    ·rename_i e; subst e
     rw [if_pos (by omega), hlast _ (by simp)]
    ·rfl
   ·simp only [outO, List.length_cons]
    congr 1
    omega
theorem outO_tok (acc : List (List Va)) {n : Nat} : tokLt (n + (objF acc).length) (outO n acc) = true := by
 cases acc with
 | nil => rfl
 | cons q l =>
   have hp : 0 < (objF (q :: l)).length := by rw [objF_cons, List.length_append]; have := blk_pos q; omega
   simp only [outO, tokLt, decide_eq_true_eq]
   omega
theorem tlF_snoc (n : Nat) (acc : List (List Va)) (r : List Va) : tlF n (acc ++ [r]) = objF acc ++ (match r with
    | [] => [none, some (.row 1 (celF n acc ++ [[.p (.sl 3 [])]]))]
    | v :: l => [none, some (.row 3 (muR (v :: l))), none, some (.row 1 (celF n acc ++ [[.ms (n + (objF acc).length + 1) 3 0 (l.length + 1)]]))]) := by
  have key : tlF n (acc ++ [r]) = (objF (acc ++ [r])).set ((objF (acc ++ [r])).length - 1) (some (.row 1 (celF n (acc ++ [r])))) := by
    cases acc <;> rfl
  rw [key, objF_snoc, celF_snoc]
  cases r with
  | nil =>
    rw [List.set_append, if_neg (by simp [blk])]
    simp [blk, celO]
  | cons v l =>
    rw [List.set_append, if_neg (by simp [blk])]
    simp [blk, celO]
theorem outO_snoc (n : Nat) (acc : List (List Va)) (r : List Va) : outO n (acc ++ [r]) = .ms (n + (objF acc).length + (blk r).length - 1) 1 0 (acc.length + 1) := by
 have key : outO n (acc ++ [r]) = .ms (n + (objF (acc ++ [r])).length - 1) 1 0 (acc ++ [r]).length := by
  cases acc <;> simp [outO]
 rw [key, objF_snoc]
 simp [Nat.add_assoc]
theorem leS_pre {σ0 τ : St} {n : Nat} {a b : St} (h : leS σ0 n τ a b) : ∀ p : St, p.all (okO n) = true → leS σ0 n τ (p ++ a) (p ++ b)
 | [], _ => h
 | o :: p, hp => by
   simp only [List.all_cons, Bool.and_eq_true] at hp
   simp only [List.cons_append, leS]
   refine ⟨?_, leS_pre h p hp.2⟩
   cases o with
   | none => simp [leO]
   | some ob => cases ob with
     | row e ls => exact ⟨rfl, .inl ⟨rfl, hp.1⟩⟩
     | right E m => exact ⟨rfl, rfl⟩
     | nright E m => exact ⟨rfl, rfl⟩
     | map es => exact ⟨rfl, hp.1⟩
theorem okO_row {n e : Nat} {ls : List (List AV)} (h : ls.all (tokLtL n) = true) : okO n (some (.row e ls)) = true := by simpa [okO] using h
theorem tlF_ok (n m : Nat) (acc : List (List Va)) (h : n + (objF acc).length ≤ m) : (tlF n acc).all (okO m) = true := by
 cases acc with
 | nil => rfl
 | cons q l =>
   rw [List.all_eq_true]
   intro o ho
   simp only [tlF] at ho
   rcases List.mem_or_eq_of_mem_set ho with ho | rfl
   ·exact List.all_eq_true.1 (objF_ok m _) o ho
   ·exact okO_row (celF_tok _ n m h)
end Go.Proofs.Ytcnkmandddfdmaa
namespace Go.Proofs.Ytcnkmandddfdmaa
open Go.RowKit
def Rd (σ : St) : Nat → AV → PV → Prop
 | 0, a, x => a = .p x ∨ (∃ t e ls, a = .own t e ls ∧ x = .sl e ls) ∨ (∃ t e ls, a = .nown t e ls ∧ x = nilSl e ls)
 | k + 1, a, x => Rd σ k a x ∨ ∃ t e i n ls pls, a = .ms t e i n ∧ x = .sl e pls ∧ σ.at t (.row e ls) ∧ i + n ≤ ls.length ∧ pls.length = n ∧ ∀ (j : Nat) (c : List PV), pls[j]? = some c → ∃ c0, ls[i + j]? = some c0 ∧ c0.length = c.length ∧ ∀ (q : Nat) (y : PV), c[q]? = some y → ∃ b, c0[q]? = some b ∧ Rd σ k b y
def allI (w : World) : Nat → Nat → Prop := fun b _ => b < w.heap.size
theorem Rd.rep {M : View} {σ : St} (hM : Match M σ) : ∀ (k : Nat) {a : AV} {x : PV} {u : Value}, Rd σ k a x → ARep M a u → PRep M.w (allI M.w) x u
 | 0, a, x, u, h, hu => by
   have hp : ∀ p, PRep M.w M.I p u → PRep M.w (allI M.w) p u := fun p h => PRep.later (fun b o h => hM.imm b o h) (fun _ _ _ => rfl) _ _ h
   rcases h with rfl | ⟨t, e, ls, rfl, rfl⟩ | ⟨t, e, ls, rfl, rfl⟩
   ·simp only [ARep] at hu; exact hp _ hu
   ·exact hp _ (toP_rep (M := M) (x := .own t e ls) rfl hu)
   ·exact hp _ (toP_rep (M := M) (x := .nown t e ls) rfl hu)
 | k + 1, a, x, u, h, hu => by
   rcases h with h | ⟨t, e, i, n, ls, pls, rfl, rfl, ht, hin, hpl, hg⟩
   ·exact Rd.rep hM k h hu
   ·obtain ⟨_, b, cur, T, hb, hh, hI, hr, hcs⟩ := hM.obj t _ ht
    simp only [ARep] at hu
    obtain ⟨b', cap, hb', _, rfl, hn, hf⟩ := hu
    have : b' = b := by rw [hb] at hb'; simpa using hb'.symm
    subst this
    simp only [PRep]
    refine .inr ⟨b', i * e, cap, by rw [hpl], by omega, PRepR.of_get fun j c hj => ?_⟩
    obtain ⟨c0, h1, h2, h3⟩ := hg j c hj
    obtain ⟨h4, h5⟩ := hr (i + j) c0 h1
    refine ⟨by rw [← h2, h4], PRepC.of_get fun q y hy => ?_⟩
    obtain ⟨a0, h6, h7⟩ := h3 q y hy
    obtain ⟨_, v, h8, h9⟩ := h5 q a0 h6
    refine ⟨v, ?_, hM.lt t b' hb, Rd.rep hM k h7 h9⟩
    rw [cell_of_row _ _ _ _ _ _ hh, ← Nat.add_mul]; exact h8
def noMem : AV → Bool
 | .p (.v x) => plain x
 | .tup l => l.all fun a => match a with
   | .p (.v x) => plain x
   | _ => false
 | _ => false
def RdA (σ : St) (k : Nat) (a b : AV) : Prop := (∃ x, Rd σ k a x ∧ b = .p x) ∨ ∃ l : List PV, a = .agg (l.map .p) ∧ b = a
def RdL (σ : St) (k : Nat) : List AV → List AV → Prop
 | [], [] => True
 | a :: l, b :: m => RdA σ k a b ∧ RdL σ k l m
 | _, _ => False
theorem agg_rep {M M' : View} (hi : ∀ b o, M.I b o → M'.I b o) (hw : M'.w = M.w) : ∀ (l : List PV) (us : List Value), ARepL M (l.map .p) us → ARepL M' (l.map .p) us
 | [], us, h => by simpa [ARepL] using h
 | x :: l, us, h => by
   simp only [List.map_cons, ARepL] at h ⊢
   obtain ⟨u, us', h1, h2, h3⟩ := h
   refine ⟨u, us', h1, ?_, agg_rep hi hw l us' h3⟩
   simp only [ARep] at h2 ⊢
   rw [hw]
   exact PRep.later hi (fun _ _ _ => rfl) _ _ h2
theorem RdL.rep {M M0 : View} {σ : St} (hM : Match M σ) (hw : M0.w = M.w) (hI : M0.I = allI M.w) {k : Nat} : ∀ {l m : List AV} {us : List Value}, RdL σ k l m → ARepL M l us → ARepL M0 m us
 | [], [], us, _, h => by simpa [ARepL] using h
 | a :: l, b :: m, us, h, hu => by
   simp only [RdL] at h
   simp only [ARepL] at hu ⊢
   obtain ⟨u, us', h1, h2, h3⟩ := hu
   refine ⟨u, us', h1, ?_, RdL.rep hM hw hI h.2 h3⟩
   rcases h.1 with ⟨x, hx, rfl⟩ | ⟨l, rfl, rfl⟩
   ·simp only [ARep]; rw [hw, hI]; exact hx.rep hM k h2
   ·simp only [ARep] at h2 ⊢
    obtain ⟨g0, us, g1, g2⟩ := h2
    exact ⟨g0, us, g1, agg_rep (fun b o h => by rw [hI]; exact hM.imm b o h) hw l us g2⟩
 | [], _ :: _, _, h, _ => by simp [RdL] at h
 | _ :: _, [], _, h, _ => by simp [RdL] at h
theorem noMem_rep {M M' : View} {a : AV} {u : Value} (h : noMem a = true) (hu : ARep M a u) : ARep M' a u := by
 unfold noMem at h
 split at h
 ·simpa only [ARep, PRep] using hu
 ·rename_i l
  simp only [ARep] at hu ⊢
  obtain ⟨us, h1, h2⟩ := hu
  refine ⟨us, h1, ?_⟩
  clear h1
  induction l generalizing us with
  | nil => simpa [ARepL] using h2
  | cons x l ih =>
    simp only [List.all_cons, Bool.and_eq_true] at h
    simp only [ARepL] at h2 ⊢
    obtain ⟨v, us', h3, h4, h5⟩ := h2
    refine ⟨v, us', h3, ?_, ih h.2 us' h5⟩
    have h1 := h.1
    split at h1
    ·simpa only [ARep, PRep] using h4
    ·simp at h1
 ·simp at h
theorem ACalls.borrow {P : Program} {f : FuncId} {args args' : List AV} {R : AV → Prop} (k : Nat) {σ : St} (h : ACalls P f args' [] fun r _ => noMem r = true ∧ R r) (hr : RdL σ k args args') : ACalls P f args σ fun r σ' => σ' = σ ∧ R r := by
 refine ⟨h.1, fun M vs hM hv => ?_⟩
 let M0 : View := { M with I := allI M.w, mu := fun _ => none, len := fun _ => none }
 have hM0 : Match M0 [] := ⟨fun t ob ht => by simp [St.at] at ht, fun t t' ob ob' b ht => by simp [St.at] at ht, fun t _ => ⟨rfl, rfl⟩, fun t b hb => by simp [M0] at hb, fun b o h => h, fun x hx => by
  obtain ⟨cs, T, g1, g2, _⟩ := hM.glob x hx
  exact ⟨cs, T, g1, g2, fun t ob ht => by simp [St.at] at ht⟩⟩
 refine (h.2 M0 vs hM0 (RdL.rep (M0 := M0) hM rfl rfl hr hv)).mono ?_
 rintro e w' ⟨v, r, σ', M1, rfl, rfl, h1, h2, h3, h4, h5, h6⟩
 have hk : ∀ b, b < M.w.heap.size → M1.w.heap[b]? = M.w.heap[b]? := fun b hb => (h1.keep b hb fun t ob ht => by simp [St.at] at ht).1
 let M' : View := { M with w := M1.w }
 have hcell : ∀ b o, M.I b o → M1.w.cell? ⟨b, o, none⟩ = M.w.cell? ⟨b, o, none⟩ := fun b o hb => World.cell?_of_block (hk b (hM.imm b o hb))
 have hL : Later M M' := ⟨fun _ _ h h' => ⟨h, h', rfl⟩, own_same (fun _ => rfl) (fun _ => rfl) (fun _ => rfl), fun _ _ h => h, hcell⟩
 have hE' : Ext M σ M' σ := ⟨hL.mu, hL.own, hL.imm, hL.cell, fun b hb _ => ⟨hk b hb, fun _ h => h⟩, fun t ob b h7 h8 => .inr ⟨t, ob, h7, h8⟩, h1.size, h1.os, h1.tape, h1.output⟩
 refine ⟨v, r, σ, M', rfl, rfl, hE', ?_, noMem_rep h5 h3, Nat.le_refl _, rfl, h6⟩
 exact ⟨fun t ob ht => (hM.obj t ob ht).later hL rfl rfl rfl fun b hb => ⟨hk b (hM.lt t b hb), fun _ h => h⟩, hM.inj, hM.fresh, fun t b hb => Nat.lt_of_lt_of_le (hM.lt t b hb) h1.size, fun b o h => Nat.lt_of_lt_of_le (hM.imm b o h) h1.size, hM.glob.ext hE'⟩
end Go.Proofs.Ytcnkmandddfdmaa
namespace Go.Proofs.Ytcnkmandddfdmaa
open Go.RowKit
def posF (acc : List (List Va)) (j : Nat) : Nat := (objF (acc.take j)).length
theorem celF_get : ∀ (acc : List (List Va)) (n j : Nat) (h : j < acc.length), (celF n acc)[j]? = some [celO (n + posF acc j) acc[j]]
 | r :: acc, n, 0, _ => by simp [celF, posF, objF]
 | r :: acc, n, j + 1, h => by
   have := celF_get acc (n + (blk r).length) j (by simpa using h)
   simp only [celF, List.getElem?_cons_succ, this, List.getElem_cons_succ, posF, List.take_succ_cons, objF_cons, List.length_append, Nat.add_assoc]
 | [], _, _, h => by simp at h
theorem objF_get : ∀ (acc : List (List Va)) (j : Nat) (v : Va) (l : List Va), acc[j]? = some (v :: l) → (objF acc)[posF acc j + 1]? = some (some (.row 3 (muR (v :: l)))) ∧ posF acc j + 4 ≤ (objF acc).length
 | r :: acc, 0, v, l, h => by
   simp at h; subst h
   simp [objF_cons, posF, objF, blk]
 | r :: acc, j + 1, v, l, h => by
   obtain ⟨h1, h2⟩ := objF_get acc j v l (by simpa using h)
   have hp : posF (r :: acc) (j + 1) = (blk r).length + posF acc j := by simp [posF, objF_cons]
   rw [hp, objF_cons]
   refine ⟨?_, by rw [List.length_append]; omega⟩
   rw [List.getElem?_append_right (by omega), show (blk r).length + posF acc j + 1 - (blk r).length = posF acc j + 1 by omega]
   exact h1
 | [], _, _, _, h => by simp at h
theorem tlF_get {n : Nat} {acc : List (List Va)} {j : Nat} {v : Va} {l : List Va} (h : acc[j]? = some (v :: l)) : (tlF n acc)[posF acc j + 1]? = some (some (.row 3 (muR (v :: l)))) := by
 obtain ⟨h1, h2⟩ := objF_get acc j v l h
 cases acc with
 | nil => simp at h
 | cons q m =>
   simp only [tlF]
   rw [List.getElem?_set, if_neg (by omega)]
   exact h1
end Go.Proofs.Ytcnkmandddfdmaa
