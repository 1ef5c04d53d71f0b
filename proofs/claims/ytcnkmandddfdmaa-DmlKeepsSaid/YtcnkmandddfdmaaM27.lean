/- A function that makes objects of its own, and whose answer has no other memory, is handed rows that are written, to read them. Filter, whose rows are written later. Filter, whose rows are written later: the walk. Filter whose rows are its own, where there are other objects. -/
import Derived.Test.YtcnkmandddfdmaaM24
set_option linter.unusedSimpArgs false
set_option linter.unusedVariables false
set_option linter.defProp false
set_option maxRecDepth 100000
set_option maxHeartbeats 32000000
namespace Go.Proofs.Ytcnkmandddfdmaa
open Go.RowKit
def elemNM : AV → Bool
 | .any => true
 | .p (.v _) => true
 | .p (.sl _ []) => true
 | .ms .. => true
 | .mp .. => true
 | _ => false
def noMemT : AV → Bool
 | .tup l => l.all elemNM
 | a => elemNM a
def noMemO : Ob → Bool
 | .row _ ls => ls.all fun c => c.all elemNM
 | _ => false
def noMemS (s : St) : Bool := s.all fun o => match o with
 | some ob => noMemO ob
 | none => true
theorem elemNM_rep {M M' : View} (hmu : M'.mu = M.mu) (hlen : M'.len = M.len) (hcap : M'.cap = M.cap) {a : AV} {u : Value} (h : elemNM a = true) (hu : ARep M a u) : ARep M' a u := by
 unfold elemNM at h
 split at h
 ·simp only [ARep]
 ·simpa only [ARep, PRep] using hu
 ·simp only [ARep, PRep, PRepR] at hu ⊢
  exact hu
 ·simp only [ARep] at hu ⊢
  rw [hmu, hlen, hcap]; exact hu
 ·simp only [ARep] at hu ⊢
  rw [hmu, hlen]; exact hu
 ·simp at h
theorem elemsNM_rep {M M' : View} (hmu : M'.mu = M.mu) (hlen : M'.len = M.len) (hcap : M'.cap = M.cap) : ∀ {l : List AV} {us : List Value}, l.all elemNM = true → ARepL M l us → ARepL M' l us
 | [], us, _, h => by simpa [ARepL] using h
 | a :: l, us, h, hu => by
   simp only [List.all_cons, Bool.and_eq_true] at h
   simp only [ARepL] at hu ⊢
   obtain ⟨v, us', h1, h2, h3⟩ := hu
   exact ⟨v, us', h1, elemNM_rep hmu hlen hcap h.1 h2, elemsNM_rep hmu hlen hcap h.2 h3⟩
theorem noMemT_rep {M M' : View} (hmu : M'.mu = M.mu) (hlen : M'.len = M.len) (hcap : M'.cap = M.cap) {a : AV} {u : Value} (h : noMemT a = true) (hu : ARep M a u) : ARep M' a u := by
 unfold noMemT at h
 split at h
 ·simp only [ARep] at hu ⊢
  obtain ⟨us, h1, h2⟩ := hu
  exact ⟨us, h1, elemsNM_rep hmu hlen hcap h h2⟩
 ·exact elemNM_rep hmu hlen hcap h hu
theorem noMemO_rep {M M' : View} (hw : M'.w = M.w) (hmu : M'.mu = M.mu) (hlen : M'.len = M.len) (hcap : M'.cap = M.cap) {t : Nat} {ob : Ob} (h : noMemO ob = true) (hI : ∀ b, M.mu t = some b → ∀ o, ¬ M'.I b o) (hu : ObRep M t ob) : ObRep M' t ob := by
 unfold noMemO at h
 split at h
 ·simp only [ObRep] at hu ⊢
  obtain ⟨h1, b, cur, T, h2, h3, h4, h5, h6⟩ := hu
  refine ⟨by rw [hlen]; exact h1, b, cur, T, by rw [hmu]; exact h2, by rw [hw]; exact h3, hI b h2, fun i c hc => ?_, by rw [hcap]; exact h6⟩
  obtain ⟨h7, h8⟩ := h5 i c hc
  refine ⟨h7, fun j a ha => ?_⟩
  obtain ⟨h9, v, g1, g2⟩ := h8 j a ha
  exact ⟨h9, v, g1, elemNM_rep hmu hlen hcap (List.all_eq_true.1 (List.all_eq_true.1 h c (List.mem_of_getElem? hc)) a (List.mem_of_getElem? ha)) g2⟩
 ·simp at h
theorem ACalls.borrowF {P : Program} {f : FuncId} {args args' : List AV} {R : AV → St → Prop} (k : Nat) {σ : St} (h : ACalls P f args' [] fun r s => tokLt s.length r = true ∧ tokS s.length s ∧ noMemT r = true ∧ noMemS s = true ∧ R r s) (hr : RdL σ k args args') :
 ACalls P f args σ fun r s => ∃ r0 s0, R r0 s0 ∧ r = renA (fun t => t + σ.length) r0 ∧ s = σ ++ s0.map fun o => o.map (renOb fun t => t + σ.length) := by
 refine ⟨h.1, fun M vs hM hv => ?_⟩
 let M0 : View := { M with I := allI M.w, mu := fun _ => none, len := fun _ => none }
 have hM0 : Match M0 [] := ⟨fun t ob ht => by simp [St.at] at ht, fun t t' ob ob' b ht => by simp [St.at] at ht, fun t _ => ⟨rfl, rfl⟩, fun t b hb => by simp [M0] at hb, fun b o h => h, fun x hx => by
  obtain ⟨cs, T, g1, g2, _⟩ := hM.glob x hx
  exact ⟨cs, T, g1, g2, fun t ob ht => by simp [St.at] at ht⟩⟩
 refine (h.2 M0 vs hM0 (RdL.rep (M0 := M0) hM rfl rfl hr hv)).mono ?_
 rintro e w' ⟨v, r, s0, M1, rfl, rfl, h1, h2, h3, h4, h5, h6, h7, h8, h9⟩
 generalize hn : σ.length = n at *
 generalize hm : s0.length = m at *
 let M2 : View := { M1 with I := M.I }
 let M' : View := { w := M1.w, I := M.I, mu := fun t => if t < n then M.mu t else M1.mu (t - n), len := fun t => if t < n then M.len t else M1.len (t - n), cap := fun t => if t < n then M.cap t else M1.cap (t - n) }
 have hlo : ∀ t, t < n → M'.mu t = M.mu t ∧ M'.len t = M.len t ∧ M'.cap t = M.cap t := fun t ht => by simp [M', ht]
 have hnl : ∀ t, ¬ t + n < n := fun t => by omega
 have hren : Ren (fun t => t + n) m M2 M' := ⟨rfl, rfl, fun t _ => by simp [M', M2, hnl t], fun t _ => by simp [M', M2, hnl t], fun t _ => by simp [M', M2, hnl t]⟩
 have hmn : ∀ t b, M.mu t = some b → t < n := fun t b ht => by
  rcases Nat.lt_or_ge t n with h | h
  ·exact h
  ·rw [(hM.fresh t (by omega)).1] at ht; simp at ht
 have hln : ∀ t k, M.len t = some k → t < n := fun t k ht => by
  rcases Nat.lt_or_ge t n with h | h
  ·exact h
  ·rw [(hM.fresh t (by omega)).2] at ht; simp at ht
 have hk : ∀ b, b < M.w.heap.size → M1.w.heap[b]? = M.w.heap[b]? := fun b hb => (h1.keep b hb fun t ob ht => by simp [St.at] at ht).1
 have hcell : ∀ b o, M.I b o → M1.w.cell? ⟨b, o, none⟩ = M.w.cell? ⟨b, o, none⟩ := fun b o hb => World.cell?_of_block (hk b (hM.imm b o hb))
 have hL : Later M M' := ⟨fun t b ht h0 => by
  obtain ⟨e1, e2, e3⟩ := hlo t (hmn t b ht)
  exact ⟨e1.trans ht, e2.trans h0, e3⟩, fun t k ht => by
  obtain ⟨e1, e2, e3⟩ := hlo t (hln t k ht)
  exact ⟨k, e2.trans ht, Nat.le_refl _, fun _ => ⟨e1, e3⟩⟩, fun _ _ h => h, hcell⟩
 have hnew : ∀ t ob b, s0.at t ob → M1.mu t = some b → M.w.heap.size ≤ b := fun t ob b ht hb => by
  rcases h1.new t ob b ht hb with h | ⟨t0, ob0, h, _⟩
  ·exact h
  ·simp [St.at] at h
 have hat : ∀ t ob, St.at (σ ++ s0.map fun o => o.map (renOb fun t => t + n)) t ob → (t < n ∧ σ.at t ob) ∨ ∃ t' ob', t = t' + n ∧ s0.at t' ob' ∧ ob = renOb (fun t => t + n) ob' := fun t ob ht => by
  rcases at_app ht with ⟨g1, g2⟩ | ⟨t', g1, g2⟩
  ·exact .inl ⟨by omega, g2⟩
  ·refine .inr ⟨t', ?_⟩
   unfold St.at at g2
   rw [List.getElem?_map] at g2
   cases hs : s0[t']? with
   | none => rw [hs] at g2; simp at g2
   | some o =>
     rw [hs] at g2
     cases o with
     | none => simp at g2
     | some ob' => simp at g2; exact ⟨ob', by omega, hs, g2.symm⟩
 have hE' : Ext M σ M' (σ ++ s0.map fun o => o.map (renOb fun t => t + n)) := by
  refine ⟨hL.mu, hL.own, hL.imm, hL.cell, fun b hb _ => ⟨hk b hb, fun _ h => h⟩, fun t ob b ht hb => ?_, h1.size, h1.os, h1.tape, h1.output⟩
  rcases hat t ob ht with ⟨g1, g2⟩ | ⟨t', ob', rfl, g2, _⟩
  ·rw [(hlo t g1).1] at hb; exact .inr ⟨t, ob, g2, hb⟩
  ·have : M'.mu (t' + n) = M1.mu t' := by simp [M', hnl t']
   rw [this] at hb
   exact .inl (hnew t' ob' b g2 hb)
 have hmu1 : ∀ t, M'.mu (t + n) = M1.mu t := fun t => by simp [M', hnl t]
 have hob2 : ∀ t ob, s0.at t ob → ObRep M2 t ob := fun t ob ht => by
  refine noMemO_rep (M := M1) (M' := M2) rfl rfl rfl rfl ?_ (fun b hb o ho => ?_) (h2.obj t ob ht)
  ·have := List.all_eq_true.1 h8 (some ob) (List.mem_of_getElem? ht)
   exact this
  ·have g1 := hnew t ob b ht hb
   have g2 := hM.imm b o ho
   omega
 refine ⟨v, renA (fun t => t + n) r, σ ++ s0.map fun o => o.map (renOb fun t => t + n), M', rfl, rfl, hE', ⟨fun t ob ht => ?_, fun t t' ob ob' b ht ht' hb hb' => ?_, fun t ht => ?_, fun t b hb => ?_, fun b o h => Nat.lt_of_lt_of_le (hM.imm b o h) h1.size, hM.glob.ext hE'⟩, (ARep.ren hren _ _ h5).2 (noMemT_rep (M := M1) (M' := M2) rfl rfl rfl h7 h3), by simp; omega, r, s0, h9, rfl, rfl⟩
 ·rcases hat t ob ht with ⟨g1, g2⟩ | ⟨t', ob', rfl, g2, rfl⟩
  ·exact (hM.obj t ob g2).later hL (hlo t g1).1 (hlo t g1).2.1 (hlo t g1).2.2 fun b hb => ⟨hk b (hM.lt t b hb), fun _ h => h⟩
  ·exact (ObRep.ren hren (by have := (List.getElem?_eq_some_iff.1 g2).1; omega) (h6 t' ob' g2)).2 (hob2 t' ob' g2)
 ·rcases hat t ob ht with ⟨g1, g2⟩ | ⟨s, obs, rfl, g2, rfl⟩ <;> rcases hat t' ob' ht' with ⟨g3, g4⟩ | ⟨s', obs', rfl, g4, rfl⟩
  ·rw [(hlo t g1).1] at hb; rw [(hlo t' g3).1] at hb'; exact hM.inj t t' ob ob' b g2 g4 hb hb'
  ·rw [(hlo t g1).1] at hb; rw [hmu1] at hb'
   have := hM.lt t b hb; have := hnew s' obs' b g4 hb'; omega
  ·rw [(hlo t' g3).1] at hb'; rw [hmu1] at hb
   have := hM.lt t' b hb'; have := hnew s obs b g2 hb; omega
  ·rw [hmu1] at hb hb'
   rw [h2.inj s s' obs obs' b g2 g4 hb hb']
 ·simp only [List.length_append, List.length_map, hn, hm] at ht
  have h8 := h2.fresh (t - n) (by omega)
  have h9 : ¬ t < n := by omega
  simp only [M', h9, if_false]
  exact h8
 ·by_cases ht : t < n
  ·rw [(hlo t ht).1] at hb; exact Nat.lt_of_lt_of_le (hM.lt t b hb) h1.size
  ·simp only [M', ht, if_false] at hb; exact h2.lt _ b hb
end Go.Proofs.Ytcnkmandddfdmaa
namespace Go.Proofs.Ytcnkmandddfdmaa
open Go.RowKit
def tFm := aa wX <| aa wbu <| aa T3 <| aa T25 T40
def cxF : Ctx := { cx with muts := [25 * 100000 + 36] }
theorem cxF_ok : cxF.ok Try.prog := cx_ok
theorem drF_ok : DrawOk Try.prog (aDraw Try.prog cxF) := aDraw_ok cxF_ok (by kernel_rfl)
theorem kindF (t : TypeId) : cxF.kind t = cx.kind t := nr rfl
theorem tyF (t : TypeId) : cxF.ty t = cx.ty t := nr rfl
theorem mutsF : cxF.muts = [25 * 100000 + 36] := nr rfl
theorem lenF {T : TypeId} {x : AV} : lenA cxF T x = lenA cx T x := nr rfl
theorem lenMM {t e i n : Nat} : lenA cx 25 (.ms t e i n) = some n := nr (len_ms ck_25)
def ansM (l : Int) (A : AV) (n : Nat) : AV := if l ≠ 0 then .tup [nilA, intV .i64 l] else if n > 10000 then .tup [nilA, intV .i64 20] else .tup [A, intV .i64 0]
theorem aanswerM (l : Int) (A : AV) (n : Nat) (hA : (A = nilA ∧ n = 0) ∨ ∃ t, A = .ms t 1 0 n) (σ : St) : ACalls Try.prog 64 [intV .i64 l, A] σ fun r s => r = ansM l A n ∧ s = σ := by
 by_cases hl : l = 0
 ·have hn0 : (l != 0) = false := by simp [hl]
  by_cases hn : n > 10000
  ·have hd : decide ((n : Int) > 10000) = true := by simp; omega
   have ha : ansM l A n = .tup [nilA, intV .i64 20] := by unfold ansM; rw [if_neg (by simpa using hl), if_pos hn]
   rw [ha]
   rcases hA with ⟨rfl, rfl⟩ | ⟨t, rfl⟩
   ·omega
   ·skip
    refine acalls_of cx_ok dr_ok Try.func64 (by kernel_rfl) rfl (nt := 13) (rs := [.tmp 4, .tmp 5]) rfl rfl ?_
    repeat' first | ((with_reducible first | refine cs ?_ ?_ | refine ws ?_ ?_) <;> intro h <;> try simp only [h]) | simp only [↓wBA, tFm, convA, seval, hn0, hd, lenMM]
    all_goals exact ⟨.inl rfl, _, _, _, rfl, .inl ⟨rfl, rfl⟩, Nat.le_refl _, rfl, rfl⟩
  ·have hd : decide ((n : Int) > 10000) = false := by simp; omega
   have ha : ansM l A n = .tup [A, intV .i64 0] := by unfold ansM; rw [if_neg (by simpa using hl), if_neg hn]
   rw [ha]
   rcases hA with ⟨rfl, rfl⟩ | ⟨t, rfl⟩
   ·skip
    refine acalls_of cx_ok dr_ok Try.func64 (by kernel_rfl) rfl (nt := 13) (rs := [.tmp 4, .tmp 5]) rfl rfl ?_
    repeat' first | ((with_reducible first | refine cs ?_ ?_ | refine ws ?_ ?_) <;> intro h <;> try simp only [h]) | simp only [↓wBA, tFm, convA, seval, hn0, hd, nilA, lenMM]
    all_goals exact ⟨.inl rfl, _, _, _, rfl, .inl ⟨rfl, rfl⟩, Nat.le_refl _, rfl, rfl⟩
   ·skip
    refine acalls_of cx_ok dr_ok Try.func64 (by kernel_rfl) rfl (nt := 13) (rs := [.tmp 4, .tmp 5]) rfl rfl ?_
    repeat' first | ((with_reducible first | refine cs ?_ ?_ | refine ws ?_ ?_) <;> intro h <;> try simp only [h]) | simp only [↓wBA, tFm, convA, seval, hn0, hd, lenMM]
    all_goals exact ⟨.inl rfl, _, _, _, rfl, .inl ⟨rfl, rfl⟩, Nat.le_refl _, rfl, rfl⟩
 ·have hn0 : (l != 0) = true := by simpa using hl
  have ha : ansM l A n = .tup [nilA, intV .i64 l] := by unfold ansM; rw [if_pos hl]
  rw [ha]
  rcases hA with ⟨rfl, rfl⟩ | ⟨t, rfl⟩
  ·skip
   refine acalls_of cx_ok dr_ok Try.func64 (by kernel_rfl) rfl (nt := 13) (rs := [.tmp 4, .tmp 5]) rfl rfl ?_
   repeat' first | ((with_reducible first | refine cs ?_ ?_ | refine ws ?_ ?_) <;> intro h <;> try simp only [h]) | simp only [↓wBA, tFm, convA, seval, hn0, nilA]
   all_goals exact ⟨.inl rfl, _, _, _, rfl, .inl ⟨rfl, rfl⟩, Nat.le_refl _, rfl, rfl⟩
  ·skip
   refine acalls_of cx_ok dr_ok Try.func64 (by kernel_rfl) rfl (nt := 13) (rs := [.tmp 4, .tmp 5]) rfl rfl ?_
   repeat' first | ((with_reducible first | refine cs ?_ ?_ | refine ws ?_ ?_) <;> intro h <;> try simp only [h]) | simp only [↓wBA, tFm, convA, seval, hn0]
   all_goals exact ⟨.inl rfl, _, _, _, rfl, .inl ⟨rfl, rfl⟩, Nat.le_refl _, rfl, rfl⟩
end Go.Proofs.Ytcnkmandddfdmaa
namespace Go.Proofs.Ytcnkmandddfdmaa
open Go.RowKit
def tFn2 := aa wX <| aa wbu <| aa T3 <| aa T25 <| aa T40 <| aa T46 <| aa T86 T130
theorem okO_tokS {n : Nat} {s : St} (h : s.all (okO n) = true) : tokS n s := fun t ob ht => by
 have := List.all_eq_true.1 h _ (List.mem_of_getElem? ht)
 cases ob with
 | row e ls => exact this
 | map es => exact this
 | right E m => rfl
 | nright E m => rfl
theorem afilterM0 (rows : List (List Va)) (x : Ex) (hr : OkRowsL rows) : ACalls Try.prog 39 [.p (.sl 1 (enVV rows)), exA x] [] fun r s => tokLt s.length r = true ∧ tokS s.length s ∧ r = ansM (rows.foldl (filStep x) ([], 0)).2 (outO 2 (rows.foldl (filStep x) ([], 0)).1) (rows.foldl (filStep x) ([], 0)).1.length ∧ s = none :: none :: tlF 2 (rows.foldl (filStep x) ([], 0)).1 := by
 obtain ⟨hn, hr⟩ := hr
 have hH := fun row => aholdsV row x
 have hC0 := aclone [] (by simp)
 generalize hst : filStep x = stp at *
 have hstp : ∀ s r, stp s r = (if (holdsV r x).1 = true ∧ s.1.length ≤ 10000 then s.1 ++ [r] else s.1, leastI s.2 (holdsV r x).2) := fun s r => by rw [← hst]; rfl
 generalize hhv : (fun r => holdsV r x) = hv at *
 have hhv' : ∀ r, holdsV r x = hv r := fun r => by rw [← hhv]
 simp only [hhv'] at hH hstp
 clear hst hhv hhv'
 obtain ⟨k, vk, vn, vs, tb, nm, s, kids⟩ := x
 simp only [exA, exC, List.map_cons, List.map_nil] at hH
 refine acalls_of cxF_ok drF_ok Try.func39 (by kernel_rfl) rfl (nt := 41) (rs := [.tmp 4, .tmp 5]) rfl rfl ?_
 simp only [exA, exC, List.map_cons, List.map_nil]
 repeat' first | ((with_reducible first | refine cs ?_ ?_ | refine ws ?_ ?_) <;> intro h <;> try simp only [h]) | simp only [↓wBA, tFn2, convA, seval, enVV_len, kindF, tyF, mutsF, lenF]
 refine awp_loopT (rows.length) (fun i => [(7, outO 2 ((rows.take i).foldl stp ([], 0)).1), (14, intV .i64 (i : Nat)), (9, .any), (10, .any), (11, .any), (15, .any), (16, .any), (17, .any), (18, .any), (19, .any), (20, .any), (21, .any), (22, .any), (23, .any), (24, .any), (25, .any), (26, .any), (27, .any), (28, .any), (29, .any), (30, .any), (31, .any), (32, .any), (33, .any), (34, .any), (35, .any), (36, .any), (37, .any)]) (fun i => some (.row 8 [[intV .i64 k, intV .i64 vk, intV .i64 vn, .p (.v (.string vs)), .p (.v (.string tb)), .p (.v (.string nm)), intV .i64 s, .p (.sl 8 (exL kids))]]) :: some (.row 1 [[intV .i64 ((rows.take i).foldl stp ([], 0)).2]]) :: tlF 2 ((rows.take i).foldl stp ([], 0)).1) ?_ ?_ ?_
 ·intro i; simp
 ·skip
  simp only [wR, Nat.reduceAdd, Nat.reduceLT, reduceIte]
  simp [wW, outO, tlF, nilA]
 ·intro i hi
  simp only [wR, Nat.reduceAdd, Nat.reduceLT, reduceIte]
  by_cases hlt : i < rows.length
  ·have hdec := dT (i := i) (n := rows.length) (by omega)
   have hi0 := nnI i
   have hw := wI i (by omega)
   have hg := enVV_get rows i hlt
   have hst := take_step stp ([], 0) rows i hlt
   have hrl := hr rows[i] (List.getElem_mem hlt)
   rw [hstp] at hst
   generalize hs : (rows.take i).foldl stp ([], 0) = st at *
   obtain ⟨out, l⟩ := st
   simp only at hst
   generalize hrow : rows[i] = row at *
   have hH' := hH row
   generalize hq : hv row = q at *
   obtain ⟨ok, e⟩ := q
   simp only at hst hH'
   by_cases hb : ok = true ∧ out.length ≤ 10000
   ·obtain ⟨rfl, ho⟩ := hb
    have hd : decide ((out.length : Int) ≤ 10000) = true := by simp; omega
    rw [if_pos ⟨rfl, ho⟩] at hst
    have hlim1 := tL (n := (out.length + 1) * 24) (by omega)
    have hlim2 := lM (n := out.length + 1) (by omega)
    have hmx1 := lM (n := (1 : Nat)) (by omega)
    rcases out with _ | ⟨o0, out⟩
    ·simp only [tlF_nil, outO_nil, nilA, List.length_nil, List.nil_append] at *
     rcases row with _ | ⟨v, row⟩
     ·skip
      repeat' first | ((with_reducible first | refine cs ?_ ?_ | refine ws ?_ ?_) <;> intro h <;> try simp only [h]) | simp only [↓wBA, tFn2, convA, seval, enVV_len, kindF, tyF, mutsF, lenF, hdec, hi0, hg, hw, hd, hlim1, hlim2, hmx1, appendM, srcM, srcA] | ((with_reducible show ACalls _ _ _ _ _); first | refine (hH' _).eq ?_ | (refine (asee _ _ _ 1 rfl).mono ?_; rintro _ _ ⟨_, ⟨rfl, rfl⟩, rfl⟩; simp only [lsO]) | refine (hC0 _).eq ?_)
      refine ⟨⟨i + 1, by omega⟩, by show rows.length - (i + 1) < rows.length - i; omega, ?_⟩
      simp only [hst]
      have hs1 := tlF_snoc 2 [] []
      have ho1 := outO_snoc 2 [] []
      simp only [List.nil_append, objF, List.flatMap_nil, celF, blk, List.length_nil, List.length_cons] at hs1 ho1
      rw [hs1, ho1]
      simp [wW, enV]
     ·simp only [List.length_cons] at hrl
      repeat' first | ((with_reducible first | refine cs ?_ ?_ | refine ws ?_ ?_) <;> intro h <;> try simp only [h]) | simp only [↓wBA, tFn2, convA, seval, enVV_len, kindF, tyF, mutsF, lenF, hdec, hi0, hg, hw, hd, hlim1, hlim2, hmx1, appendM, srcM, srcA] | ((with_reducible show ACalls _ _ _ _ _); first | refine (hH' _).eq ?_ | (refine (asee _ _ _ 1 rfl).mono ?_; rintro _ _ ⟨_, ⟨rfl, rfl⟩, rfl⟩; simp only [lsO]) | (refine (acloneM v row hrl _).mono ?_; rintro _ _ ⟨rfl,rfl⟩))
      refine ⟨⟨i + 1, by omega⟩, by show rows.length - (i + 1) < rows.length - i; omega, ?_⟩
      simp only [hst]
      have hs1 := tlF_snoc 2 [] (v :: row)
      have ho1 := outO_snoc 2 [] (v :: row)
      simp only [List.nil_append, objF, List.flatMap_nil, celF, blk, List.length_nil, List.length_cons] at hs1 ho1
      rw [hs1, ho1]
      have hmt := fun n => muR_tok n (v :: row)
      simp [wW, hmt]
    ·obtain ⟨k, e1, e2, e3, e4, e5, e6⟩ := tlF_ne (n := 2) (acc := o0 :: out) (by simp)
     have hs1 := tlF_snoc 2 (o0 :: out) row
     have ho1 := outO_snoc 2 (o0 :: out) row
     have hct := celF_tok (o0 :: out) 2
     have hok := fun n => objF_ok n (o0 :: out)
     have e7 : 2 + k = k + 1 + 1 := by omega
     rw [e7] at e5
     simp only [e1] at hs1 ho1 hct
     generalize tlF 2 (o0 :: out) = tl at *
     generalize outO 2 (o0 :: out) = ou at *
     generalize celF 2 (o0 :: out) = cells at *
     generalize objF (o0 :: out) = ob at *
     generalize hacc : o0 :: out = acc at *
     subst e5
     have a1 : ∀ rest : St, (tl ++ rest)[k]? = some (some (.row 1 cells)) := fun rest => by rw [List.getElem?_append_left (by omega)]; exact e3
     have a2 : ∀ rest : St, (tl ++ rest).set k none = ob ++ rest := fun rest => by rw [List.set_append, if_pos (by omega), e4]
     have a3 : ∀ (j : Nat) (rest : St), (tl ++ rest)[k + 1 + j]? = rest[j]? := fun j rest => by rw [List.getElem?_append_right (by omega), e2]; congr 1; omega
     have a4 : ∀ rest : St, (tl ++ rest)[k + 1]? = rest[0]? := fun rest => a3 0 rest
     have a5 : ∀ rest : St, (tl ++ rest)[k + 3]? = rest[2]? := fun rest => a3 2 rest
     have a6 : ∀ rest : St, (tl ++ rest)[k + 2]? = rest[1]? := fun rest => a3 1 rest
     have hacl : (acc.length ≤ acc.length) = True := eq_true (Nat.le_refl _)
     have htk : cells.take acc.length = cells := List.take_of_length_le (by omega)
     rcases row with _ | ⟨v, row⟩
     ·skip
      repeat' first | ((with_reducible first | refine cs ?_ ?_ | refine ws ?_ ?_) <;> intro h <;> try simp only [h]) | simp only [↓wBA, tFn2, convA, seval, enVV_len, kindF, tyF, mutsF, lenF, hdec, hi0, hg, hw, hd, hlim1, hlim2, hmx1, appendM, srcM, srcA, lenMM, e1, e2, e6, a1, a2, a3, a4, a5, a6, hacl, htk, List.append_assoc, List.length_append] | ((with_reducible show ACalls _ _ _ _ _); first | refine (hH' _).eq ?_ | (refine (asee _ _ _ 1 rfl).mono ?_; rintro _ _ ⟨_, ⟨rfl, rfl⟩, rfl⟩; simp only [lsO]) | refine (hC0 _).eq ?_)
      refine ⟨⟨i + 1, by omega⟩, by show rows.length - (i + 1) < rows.length - i; omega, ?_⟩
      simp only [hst]
      have en : 2 + (k + 1) + (blk []).length - 1 = k + 1 + 1 + 1 + 1 := by simp [blk]; omega
      rw [en] at ho1
      simp only at hs1
      rw [hs1, ho1]
      refine .inr ⟨?_, ?_⟩
      ·skip
       simp [wW, e1]
       try omega
      ·have hn4 : ∀ (x y z u : Option Ob) (c d : List (List AV)), 2 + (k + 1) ≤ min (x :: y :: (ob ++ [z, some (.row 1 c)])).length (x :: y :: (ob ++ [u, some (.row 1 d)])).length := fun x y z u c d => by simp [e1]; omega
       refine leS_pre ?_ (some _ :: some _ :: ob) ?_
       ·refine ⟨trivial, ⟨rfl, .inl ⟨rfl, ?_⟩⟩, trivial⟩
        rw [List.all_append, hct _ (hn4 _ _ _ _ _ _)]; simp [tokLtL, tokLt]
       ·simp [okO, tokLtL, tokLt, intV, hok]
     ·simp only [List.length_cons] at hrl
      repeat' first | ((with_reducible first | refine cs ?_ ?_ | refine ws ?_ ?_) <;> intro h <;> try simp only [h]) | simp only [↓wBA, tFn2, convA, seval, enVV_len, kindF, tyF, mutsF, lenF, hdec, hi0, hg, hw, hd, hlim1, hlim2, hmx1, appendM, srcM, srcA, lenMM, e1, e2, e6, a1, a2, a3, a4, a5, a6, hacl, htk, List.append_assoc, List.length_append] | ((with_reducible show ACalls _ _ _ _ _); first | refine (hH' _).eq ?_ | (refine (asee _ _ _ 1 rfl).mono ?_; rintro _ _ ⟨_, ⟨rfl, rfl⟩, rfl⟩; simp only [lsO]) | (refine (acloneM v row hrl _).mono ?_; rintro _ _ ⟨rfl,rfl⟩))
      refine ⟨⟨i + 1, by omega⟩, by show rows.length - (i + 1) < rows.length - i; omega, ?_⟩
      simp only [hst]
      have en : 2 + (k + 1) + (blk (v :: row)).length - 1 = k + 1 + 3 + 1 + 1 := by simp [blk]; omega
      have en2 : 2 + (k + 1) + 1 = k + 1 + 1 + 1 + 1 := by omega
      rw [en] at ho1
      simp only [en2] at hs1
      rw [hs1, ho1]
      refine .inr ⟨?_, ?_⟩
      ·skip
       simp [wW, e1]
       try omega
      ·have hn4 : ∀ (x y z u z2 u2 : Option Ob) (c d e f : List (List AV)), 2 + (k + 1) + 2 ≤ min (x :: y :: (ob ++ [z, some (.row 3 e), u, some (.row 1 c)])).length (x :: y :: (ob ++ [z2, some (.row 3 f), u2, some (.row 1 d)])).length := fun x y z u z2 u2 c d e f => by simp [e1]; omega
       refine leS_pre ?_ (some _ :: some _ :: ob) ?_
       ·refine ⟨trivial, ⟨rfl, .inl ⟨rfl, muR_tok _ _⟩⟩, trivial, ⟨rfl, .inl ⟨rfl, ?_⟩⟩, trivial⟩
        rw [List.all_append, hct _ (Nat.le_trans (Nat.le_add_right _ 2) (hn4 _ _ _ _ _ _ _ _ _ _))]
        have h6 := fun x y z u z2 u2 c d e f => Nat.lt_of_lt_of_le (show k + 1 + 1 + 1 + 1 < 2 + (k + 1) + 2 by omega) (hn4 x y z u z2 u2 c d e f)
        simp only [List.all_cons, List.all_nil, tokLtL, tokLt, Bool.and_true, Bool.true_and, decide_eq_true_eq]
        exact h6 _ _ _ _ _ _ _ _ _ _
       ·simp [okO, tokLtL, tokLt, intV, hok]
   ·rw [if_neg hb] at hst
    by_cases hok : ok = true
    ·have hol : ¬ out.length ≤ 10000 := fun h => hb ⟨hok, h⟩
     have hd : decide ((out.length : Int) ≤ 10000) = false := by simp; omega
     subst hok
     have hou : lenA cx 25 (outO 2 out) = some out.length := by
      cases out with
      | nil => simp at hol
      | cons o l => exact lenMM
     have htl := tlF_len 2 out
     have hto := tlF_ok 2 ((objF out).length + 1 + 1) out (by omega)
     have hot : tokLt ((objF out).length + 1 + 1) (outO 2 out) = true := by have := outO_tok out (n := 2); rwa [show 2 + (objF out).length = (objF out).length + 1 + 1 by omega] at this
     generalize hgo : outO 2 out = ou at *
     generalize hgt : tlF 2 out = tl at *
     repeat' first | ((with_reducible first | refine cs ?_ ?_ | refine ws ?_ ?_) <;> intro h <;> try simp only [h]) | simp only [↓wBA, tFn2, convA, seval, enVV_len, kindF, tyF, mutsF, lenF, hdec, hi0, hg, hw, hd, hou] | ((with_reducible show ACalls _ _ _ _ _); first | refine (hH' _).eq ?_ | (refine (asee _ _ _ 1 rfl).mono ?_; rintro _ _ ⟨_, ⟨rfl, rfl⟩, rfl⟩; simp only [lsO]))
     refine ⟨⟨i + 1, by omega⟩, by show rows.length - (i + 1) < rows.length - i; omega, ?_⟩
     simp only [hst, hgo, hgt]
     refine .inr ⟨?_, ?_⟩
     ·skip
      simp [wW, htl, hot]
     ·refine leS_self _ ?_
      simp only [List.length_cons, htl, Nat.min_self]
      exact hto
    ·obtain rfl : ok = false := by simpa using hok
     have htl := tlF_len 2 out
     have hto := tlF_ok 2 ((objF out).length + 1 + 1) out (by omega)
     have hot : tokLt ((objF out).length + 1 + 1) (outO 2 out) = true := by have := outO_tok out (n := 2); rwa [show 2 + (objF out).length = (objF out).length + 1 + 1 by omega] at this
     generalize hgo : outO 2 out = ou at *
     generalize hgt : tlF 2 out = tl at *
     repeat' first | ((with_reducible first | refine cs ?_ ?_ | refine ws ?_ ?_) <;> intro h <;> try simp only [h]) | simp only [↓wBA, tFn2, convA, seval, enVV_len, kindF, tyF, mutsF, lenF, hdec, hi0, hg, hw] | ((with_reducible show ACalls _ _ _ _ _); first | refine (hH' _).eq ?_ | (refine (asee _ _ _ 1 rfl).mono ?_; rintro _ _ ⟨_, ⟨rfl, rfl⟩, rfl⟩; simp only [lsO]))
     refine ⟨⟨i + 1, by omega⟩, by show rows.length - (i + 1) < rows.length - i; omega, ?_⟩
     simp only [hst, hgo, hgt]
     refine .inr ⟨?_, ?_⟩
     ·skip
      simp [wW, htl, hot]
     ·refine leS_self _ ?_
      simp only [List.length_cons, htl, Nat.min_self]
      exact hto
  ·have hdec := dF (i := i) (n := rows.length) (by omega)
   have ht : rows.take i = rows := List.take_of_length_le (by omega)
   simp only [ht]
   generalize rows.foldl stp ([], 0) = st at *
   obtain ⟨out, l⟩ := st
   have htl := tlF_len 2 out
   have hto := tlF_ok 2 ((objF out).length + 1 + 1) out (by omega)
   have hot : tokLt ((objF out).length + 1 + 1) (outO 2 out) = true := by have := outO_tok out (n := 2); rwa [show 2 + (objF out).length = (objF out).length + 1 + 1 by omega] at this
   have hou : (outO 2 out = nilA ∧ out.length = 0) ∨ ∃ t, outO 2 out = .ms t 1 0 out.length := by
    cases out with
    | nil => exact .inl ⟨rfl, rfl⟩
    | cons o q => exact .inr ⟨_, rfl⟩
   have hM := aanswerM l (outO 2 out) out.length hou
   have hfin : ∃ x y, ansM l (outO 2 out) out.length = .tup [x, y] ∧ tokLt ((objF out).length + 1 + 1) x = true ∧ tokLt ((objF out).length + 1 + 1) y = true := by
    unfold ansM
    split
    ·exact ⟨_, _, rfl, rfl, rfl⟩
    ·split
     ·exact ⟨_, _, rfl, rfl, rfl⟩
     ·exact ⟨_, _, rfl, hot, rfl⟩
   obtain ⟨x1, x2, hx, hx1, hx2⟩ := hfin
   simp only [hx] at hM ⊢
   generalize outO 2 out = ou at *
   generalize tlF 2 out = tl at *
   repeat' first | ((with_reducible first | refine cs ?_ ?_ | refine ws ?_ ?_) <;> intro h <;> try simp only [h]) | simp only [↓wBA, tFn2, convA, seval, enVV_len, kindF, tyF, mutsF, lenF, hdec] | ((with_reducible show ACalls _ _ _ _ _); refine (hM _).mono ?_; rintro _ _ ⟨rfl,rfl⟩)
   refine ⟨.inl rfl, _, .tup [x1, x2], none :: none :: tl, rfl, .inr ⟨?_, ?_⟩, Nat.zero_le _, ?_, ?_, rfl, rfl⟩
   ·skip
    simp [wW, htl, hx1, hx2]
   ·refine ⟨trivial, trivial, leS_self _ ?_⟩
    simp only [List.length_cons, htl, Nat.min_self]
    exact hto
   ·simp [tokLt, tokLtL, htl, hx1, hx2]
   ·refine okO_tokS ?_
    simp only [List.length_cons, htl]
    exact hto
end Go.Proofs.Ytcnkmandddfdmaa
namespace Go.Proofs.Ytcnkmandddfdmaa
open Go.RowKit
theorem ren_celO (n m : Nat) (r : List Va) : renA (fun t => t + m) (celO n r) = celO (n + m) r := by
 cases r with
 | nil => rfl
 | cons v l => simp [celO, renA]; omega
theorem ren_celF (m : Nat) : ∀ (acc : List (List Va)) (n : Nat), (celF n acc).map (renL fun t => t + m) = celF (n + m) acc
 | [], n => rfl
 | r :: acc, n => by
   simp only [celF, List.map_cons, renL, ren_celO, ren_celF m acc]
   rw [show n + (blk r).length + m = n + m + (blk r).length by omega]
theorem ren_muR (m : Nat) (l : List Va) : (muR l).map (renL fun t => t + m) = muR l := by
 simp only [muR, List.map_map]
 refine List.map_congr_left fun v _ => ?_
 simp [vaC, renL, renA]
theorem ren_blk (m : Nat) (r : List Va) : (blk r).map (fun o => o.map (renOb fun t => t + m)) = blk r := by
 cases r with
 | nil => rfl
 | cons v l => simp [blk, renOb, ren_muR]
theorem ren_objF (m : Nat) : ∀ acc : List (List Va), (objF acc).map (fun o => o.map (renOb fun t => t + m)) = objF acc
 | [] => rfl
 | r :: acc => by rw [objF_cons, List.map_append, ren_blk, ren_objF m acc]
theorem ren_tlF (n m : Nat) (acc : List (List Va)) : (tlF n acc).map (fun o => o.map (renOb fun t => t + m)) = tlF (n + m) acc := by
 cases acc with
 | nil => rfl
 | cons q l =>
   simp only [tlF, List.map_set, ren_objF, Option.map_some, renOb, ren_celF]
theorem ren_outO (n m : Nat) (acc : List (List Va)) (hn : 0 < n) : renA (fun t => t + m) (outO n acc) = outO (n + m) acc := by
 cases acc with
 | nil => rfl
 | cons q l => simp only [outO, renA]; congr 1; omega
theorem afilterM (rows : List (List Va)) (x : Ex) (hr : OkRowsL rows) (σ : St) : ACalls Try.prog 39 [.p (.sl 1 (enVV rows)), exA x] σ fun r s => r = ansM (rows.foldl (filStep x) ([], 0)).2 (outO (2 + σ.length) (rows.foldl (filStep x) ([], 0)).1) (rows.foldl (filStep x) ([], 0)).1.length ∧ s = σ ++ (none :: none :: tlF (2 + σ.length) (rows.foldl (filStep x) ([], 0)).1) := by
 refine ((afilterM0 rows x hr).fresh (by cases x; rfl) σ).mono ?_
 rintro r s ⟨r0, s0, ⟨rfl, rfl⟩, rfl, rfl⟩
 constructor
 ·unfold ansM
  split
  ·rfl
  ·split
   ·rfl
   ·simp only [renA, renL, ren_outO _ _ _ (show 0 < 2 by decide)]; rfl
 ·simp only [List.map_cons, Option.map_none, ren_tlF]
end Go.Proofs.Ytcnkmandddfdmaa
