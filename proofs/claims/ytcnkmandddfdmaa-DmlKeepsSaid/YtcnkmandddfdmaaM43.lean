/- An update, row by row. DmlKeeps: what is known of an update's writes; the rows that are written over, as a state. -/
import Derived.Test.YtcnkmandddfdmaaM42
import Derived.Test.YtcnkmandddfdmaaM40
set_option linter.unusedSimpArgs false
set_option linter.unusedVariables false
set_option linter.defProp false
set_option maxRecDepth 100000
set_option maxHeartbeats 32000000
namespace Go.Proofs.Ytcnkmandddfdmaa
open Go.RowKit
theorem least0 (l e : Int) : leastI l e = 0 ↔ l = 0 ∧ e = 0 := by unfold leastI; split <;> omega
theorem filGo_form (x : Ex) : ∀ (rows : List (List Va)) (acc : List (List Va)) (l : Int), acc.length + rows.length ≤ 10001 →
 ((rows.foldl (filStep x) (acc, l)).2 = 0 ↔ l = 0 ∧ ∀ r ∈ rows, (holdsV r x).2 = 0) ∧ (rows.foldl (filStep x) (acc, l)).1 = acc ++ rows.filter fun r => (holdsV r x).1
 | [], acc, l, _ => by simp
 | r :: rows, acc, l, h => by
   simp only [List.length_cons] at h
   rw [List.foldl_cons]
   have hst : filStep x (acc, l) r = (if (holdsV r x).1 = true then acc ++ [r] else acc, leastI l (holdsV r x).2) := by
    unfold filStep
    by_cases hb : (holdsV r x).1 = true
    ·rw [if_pos ⟨hb, by show acc.length ≤ 10000; omega⟩, if_pos hb]
    ·rw [if_neg (fun h => hb h.1), if_neg hb]
   rw [hst]
   have hl : (if (holdsV r x).1 = true then acc ++ [r] else acc).length + rows.length ≤ 10001 := by
    split
    ·simp; omega
    ·omega
   obtain ⟨h1, h2⟩ := filGo_form x rows _ (leastI l (holdsV r x).2) hl
   refine ⟨?_, ?_⟩
   ·rw [h1, least0]
    simp only [List.mem_cons, forall_eq_or_imp, and_assoc]
   ·rw [h2, List.filter_cons]
    split <;> simp_all
theorem filS_form (rows : List (List Va)) (x : Ex) (h : rows.length ≤ 10000) : ((filS rows x).2 = 0 ↔ ∀ r ∈ rows, (holdsV r x).2 = 0) ∧ ((filS rows x).2 = 0 → (filS rows x).1 = rows.filter fun r => (holdsV r x).1) := by
 obtain ⟨h1, h2⟩ := filGo_form x rows [] 0 (by simp; omega)
 have hl : (rows.filter fun r => (holdsV r x).1).length ≤ rows.length := List.length_filter_le _ _
 simp only [true_and, List.nil_append] at h1 h2
 unfold filS ansS
 rw [h2]
 by_cases h0 : (rows.foldl (filStep x) ([], 0)).2 = 0
 ·rw [if_neg (by simp [h0]), if_neg (by omega)]
  exact ⟨⟨fun _ => h1.1 h0, fun _ => rfl⟩, fun _ => rfl⟩
 ·rw [if_pos h0]
  exact ⟨⟨fun h => absurd h h0, fun h => absurd (h1.2 h) h0⟩, fun h => absurd h h0⟩
theorem wGo_form (row : List Va) : ∀ (l : List (Ex × Int)) (s : List Va) (e : Int), (l.foldl (wStep row) (s, e)).1 = (l.foldl (wStep row) (s, 0)).1 ∧ ((l.foldl (wStep row) (s, e)).2 = 0 ↔ e = 0 ∧ ∀ q ∈ l, (evalV row q.1).2 = 0)
 | [], s, e => by simp
 | q :: l, s, e => by
   rw [List.foldl_cons, List.foldl_cons]
   have h1 := wGo_form row l (wStep row (s, e) q).1 (wStep row (s, e) q).2
   have h2 := wGo_form row l (wStep row (s, 0) q).1 (wStep row (s, 0) q).2
   have e1 : (wStep row (s, e) q).1 = (wStep row (s, 0) q).1 := rfl
   have e2 : (wStep row (s, e) q).2 = leastI e (evalV row q.1).2 := rfl
   refine ⟨?_, ?_⟩
   ·have a := h1.1
    have b := h2.1
    rw [e1] at a
    exact a.trans b.symm
   ·have a := h1.2
    rw [e2] at a
    refine Iff.trans a ?_
    rw [least0]
    simp only [List.mem_cons, forall_eq_or_imp, and_assoc]
theorem wrk_form (row : List Va) (xs : List Ex) (cs : List Int) (e : Int) : (wrkS row xs cs e).1 = (wrkS row xs cs 0).1 ∧ ((wrkS row xs cs e).2 = 0 ↔ e = 0 ∧ (wrkS row xs cs 0).2 = 0) := by
 obtain ⟨h1, h2⟩ := wGo_form row (xs.zip cs) row e
 obtain ⟨_, h3⟩ := wGo_form row (xs.zip cs) row 0
 refine ⟨h1, ?_⟩
 unfold wrkS
 rw [h2, h3]
 simp
theorem uGo_form (xs : List Ex) (cs : List Int) : ∀ (l : List (List Va)) (acc : List Wr) (e : Int), (l.foldl (uStep xs cs) (acc, e)).1 = acc ++ l.map (fun r => (r, some (wrkS r xs cs 0).1)) ∧ ((l.foldl (uStep xs cs) (acc, e)).2 = 0 ↔ e = 0 ∧ ∀ r ∈ l, (wrkS r xs cs 0).2 = 0)
 | [], acc, e => by simp
 | r :: l, acc, e => by
   rw [List.foldl_cons]
   have hst : uStep xs cs (acc, e) r = (acc ++ [(r, some (wrkS r xs cs 0).1)], (wrkS r xs cs e).2) := by
    unfold uStep
    rw [(wrk_form r xs cs e).1]
   rw [hst]
   obtain ⟨h1, h2⟩ := uGo_form xs cs l (acc ++ [(r, some (wrkS r xs cs 0).1)]) (wrkS r xs cs e).2
   refine ⟨by rw [h1]; simp, ?_⟩
   rw [h2, (wrk_form r xs cs e).2]
   simp only [List.mem_cons, forall_eq_or_imp, and_assoc]
theorem soundS_0 (cols : List Tc) (rows : List (List Va)) : soundS cols rows = 0 ↔ ∀ r ∈ rows, rowOk cols r = true := by
 unfold soundS
 rw [← List.all_eq_true]
 split <;> simp_all
theorem updS_err (s : Sm) (nm : ByteArray) (cols : List Tc) (rows : List (List Va)) (h : (updS s nm cols rows).2 ≠ 0) : (updS s nm cols rows).1 = [] := by
 unfold updS finU at *
 repeat' split
 all_goals first | rfl | skip
 all_goals simp_all
theorem updS_form (s : Sm) (nm : ByteArray) (cols : List Tc) : (∃ e, e ≠ 0 ∧ ∀ rows, updS s nm cols rows = ([], e)) ∨
 (s.kind = 5 ∧ (tgtS s.names cols).2 = 0 ∧ ∃ (good : List Va → Prop) (hp : List Va → Bool) (g : List Va → List Va), (∀ r, (g r).length = r.length) ∧
  ∀ rows : List (List Va), rows.length ≤ 10000 → ((updS s nm cols rows).2 = 0 ↔ ∀ r ∈ rows, good r) ∧ ((updS s nm cols rows).2 = 0 → (updS s nm cols rows).1 = (rows.filter hp).map fun r => (r, some (g r)))) := by
 by_cases h1 : s.kind = 5
 case neg => exact .inl ⟨1, by decide, fun rows => by unfold updS; rw [if_pos h1]⟩
 by_cases h2 : (tgtS s.names cols).2 = 0
 case neg => exact .inl ⟨_, h2, fun rows => by unfold updS; rw [if_neg (by simp [h1]), if_pos h2]⟩
 by_cases h3 : (asgS (scopeS nm cols) cols s.sets (tgtS s.names cols).1).2 = 0
 case neg => exact .inl ⟨_, h3, fun rows => by unfold updS; rw [if_neg (by simp [h1]), if_neg (by simp [h2]), if_pos h3]⟩
 by_cases h4 : (whereS s nm cols).2 = 0
 case neg => exact .inl ⟨_, h4, fun rows => by
  have : hitS s nm cols rows = ([], (whereS s nm cols).2) := by unfold hitS; rw [if_pos h4]
  unfold updS; rw [if_neg (by simp [h1]), if_neg (by simp [h2]), if_neg (by simp [h3]), this, if_pos h4]⟩
 refine .inr ⟨h1, h2, ?_⟩
 generalize hxs : (asgS (scopeS nm cols) cols s.sets (tgtS s.names cols).1).1 = xs at *
 generalize hcs : (tgtS s.names cols).1 = cs at *
 generalize hx : (whereS s nm cols).1.headD trueE = x at *
 refine ⟨fun r => (holdsV r x).2 = 0 ∧ ((holdsV r x).1 = true → (wrkS r xs cs 0).2 = 0 ∧ rowOk cols (wrkS r xs cs 0).1 = true), fun r => (holdsV r x).1, fun r => (wrkS r xs cs 0).1, fun r => wrkS_len r xs cs 0, fun rows hr => ?_⟩
 have hu : updS s nm cols rows = if (filS rows x).2 ≠ 0 then ([], (filS rows x).2) else finU cols ((filS rows x).1.foldl (uStep xs cs) ([], 0)) := by
  have hh : hitS s nm cols rows = filS rows x := by unfold hitS; rw [if_neg (by simp [h4]), hx]
  unfold updS
  rw [if_neg (by simp [h1]), if_neg (by simp [h2]), hcs, if_neg (by simp [h3]), hh, hxs]
 rw [hu]
 obtain ⟨f1, f2⟩ := filS_form rows x hr
 by_cases h5 : (filS rows x).2 = 0
 ·rw [if_neg (by simp [h5]), f2 h5]
  obtain ⟨u1, u2⟩ := uGo_form xs cs (rows.filter fun r => (holdsV r x).1) [] 0
  simp only [true_and, List.nil_append] at u1 u2
  unfold finU
  rw [u1]
  have hmap : (((rows.filter fun r => (holdsV r x).1).map fun r => ((r, some (wrkS r xs cs 0).1) : Wr)).map newR) = (rows.filter fun r => (holdsV r x).1).map fun r => (wrkS r xs cs 0).1 := by
   rw [List.map_map]; rfl
  rw [hmap]
  have hs := soundS_0 cols ((rows.filter fun r => (holdsV r x).1).map fun r => (wrkS r xs cs 0).1)
  by_cases h6 : ((rows.filter fun r => (holdsV r x).1).foldl (uStep xs cs) ([], 0)).2 = 0
  ·rw [if_neg (by simp [h6])]
   by_cases h7 : soundS cols ((rows.filter fun r => (holdsV r x).1).map fun r => (wrkS r xs cs 0).1) = 0
   ·rw [if_neg (by simp [h7])]
    refine ⟨⟨fun _ r hr => ⟨f1.1 h5 r hr, fun hp => ⟨u2.1 h6 r (List.mem_filter.2 ⟨hr, hp⟩), hs.1 h7 _ (List.mem_map.2 ⟨r, List.mem_filter.2 ⟨hr, hp⟩, rfl⟩)⟩⟩, fun _ => rfl⟩, fun _ => rfl⟩
   ·rw [if_pos h7]
    refine ⟨⟨fun h => absurd h h7, fun h => absurd (hs.2 fun r hr => ?_) h7⟩, fun h => absurd h h7⟩
    obtain ⟨q, hq, rfl⟩ := List.mem_map.1 hr
    obtain ⟨hq1, hq2⟩ := List.mem_filter.1 hq
    exact ((h q hq1).2 hq2).2
  ·rw [if_pos h6]
   refine ⟨⟨fun h => absurd h h6, fun h => absurd (u2.2 fun r hr => ?_) h6⟩, fun h => absurd h h6⟩
   obtain ⟨hq1, hq2⟩ := List.mem_filter.1 hr
   exact ((h r hq1).2 hq2).1
 ·rw [if_pos h5]
  exact ⟨⟨fun h => absurd h h5, fun h => absurd (f1.2 fun r hr => (h r hr).1) h5⟩, fun h => absurd h h5⟩
end Go.Proofs.Ytcnkmandddfdmaa
namespace Go.Proofs.Ytcnkmandddfdmaa
open Go.RowKit
def goneS (s : Sm) : Sm := { s with kind := 6, names := [], sets := [] }
theorem updS_hit {s : Sm} {nm : ByteArray} {cols : List Tc} {rows : List (List Va)} (h0 : (updS s nm cols rows).2 = 0) : s.kind = 5 ∧ (tgtS s.names cols).2 = 0 ∧ (hitS s nm cols rows).2 = 0 ∧ (updS s nm cols rows).1.map Prod.fst = (hitS s nm cols rows).1 := by
 have hk : s.kind = 5 := by
  by_cases h : s.kind = 5
  ·exact h
  ·exfalso; unfold updS at h0; rw [if_pos h] at h0; simp at h0
 have ht : (tgtS s.names cols).2 = 0 := by
  by_cases h : (tgtS s.names cols).2 = 0
  ·exact h
  ·exfalso; unfold updS at h0; rw [if_neg (by simp [hk]), if_pos h] at h0; exact h h0
 have ha : (asgS (scopeS nm cols) cols s.sets (tgtS s.names cols).1).2 = 0 := by
  by_cases h : (asgS (scopeS nm cols) cols s.sets (tgtS s.names cols).1).2 = 0
  ·exact h
  ·exfalso; unfold updS at h0; rw [if_neg (by simp [hk]), if_neg (by simp [ht]), if_pos h] at h0; exact h h0
 have hh : (hitS s nm cols rows).2 = 0 := by
  by_cases h : (hitS s nm cols rows).2 = 0
  ·exact h
  ·exfalso; unfold updS at h0; rw [if_neg (by simp [hk]), if_neg (by simp [ht]), if_neg (by simp [ha]), if_pos h] at h0; exact h h0
 have hu : updS s nm cols rows = finU cols ((hitS s nm cols rows).1.foldl (uStep (asgS (scopeS nm cols) cols s.sets (tgtS s.names cols).1).1 (tgtS s.names cols).1) ([], 0)) := by
  unfold updS; rw [if_neg (by simp [hk]), if_neg (by simp [ht]), if_neg (by simp [ha]), if_neg (by simp [hh])]
 refine ⟨hk, ht, hh, ?_⟩
 rw [hu] at h0 ⊢
 generalize (asgS (scopeS nm cols) cols s.sets (tgtS s.names cols).1).1 = xs at *
 generalize (tgtS s.names cols).1 = ks at *
 generalize (hitS s nm cols rows).1 = olds at *
 obtain ⟨u1, u2⟩ := uGo_form xs ks olds [] 0
 have hfin : finU cols (olds.foldl (uStep xs ks) ([], 0)) = ((olds.foldl (uStep xs ks) ([], 0)).1, 0) := by
  unfold finU at h0 ⊢
  split
  ·rename_i h; rw [if_pos h] at h0; exact absurd h0 h
  ·rename_i h; rw [if_neg h] at h0
   split
   ·rename_i h1; rw [if_pos h1] at h0; exact absurd h0 h1
   ·rfl
 rw [hfin]
 simp only [u1, List.nil_append, List.map_map]
 exact List.map_id' olds ▸ (by simp [Function.comp_def])
theorem delS_gone {s : Sm} {nm : ByteArray} {cols : List Tc} {rows : List (List Va)} (h5 : s.kind = 5) (h : (hitS s nm cols rows).2 = 0) : delS (goneS s) nm cols rows = ((hitS s nm cols rows).1.map fun r => (r, none), 0) := by
 have hw : whereS (goneS s) nm cols = whereS s nm cols := by unfold whereS; simp [goneS, h5]
 have hh : hitS (goneS s) nm cols rows = hitS s nm cols rows := by unfold hitS; rw [hw]
 unfold delS
 rw [if_neg (by simp [goneS]), hh, if_neg (by simp [h])]
theorem keeps_form {s : Sm} {nm : ByteArray} {cols : List Tc} {rows : List (List Va)} (hl : rows.length ≤ 500) (h0 : (updS s nm cols rows).2 = 0) : ∃ (hp : List Va → Bool) (g : List Va → List Va), (∀ r, (g r).length = r.length) ∧ (updS s nm cols rows).1 = ((rows.filter hp).map fun r => ((r, some (g r)) : Wr)) ∧ ∀ r ∈ rows, updS s nm cols [r] = (if hp r = true then [((r, some (g r)) : Wr)] else [], 0) := by
 rcases updS_form s nm cols with ⟨e, he, h⟩ | ⟨h1, h2, good, hp, g, hg, h⟩
 ·rw [h rows] at h0; exact absurd h0 he
 ·obtain ⟨a1, b1⟩ := h rows (by omega)
  refine ⟨hp, g, hg, b1 h0, fun r hr => ?_⟩
  obtain ⟨a2, b2⟩ := h [r] (by simp)
  have h3 : (updS s nm cols [r]).2 = 0 := a2.2 fun q hq => by
   rw [List.mem_singleton] at hq; subst hq; exact a1.1 h0 q hr
  have h4 := b2 h3
  refine Prod.ext ?_ h3
  rw [h4, List.filter_cons]
  split <;> simp
def cntK (hp : List Va → Bool) (rows : List (List Va)) (i : Nat) : Nat := ((rows.take i).filter hp).length
theorem cntK_zero (hp : List Va → Bool) (rows : List (List Va)) : cntK hp rows 0 = 0 := by simp [cntK]
theorem cntK_succ {hp : List Va → Bool} {rows : List (List Va)} {i : Nat} (h : i < rows.length) : cntK hp rows (i + 1) = cntK hp rows i + if hp rows[i] = true then 1 else 0 := by
 unfold cntK
 rw [List.take_succ_eq_append_getElem h, List.filter_append, List.length_append, List.filter_cons]
 split <;> simp
theorem cntK_le (hp : List Va → Bool) (rows : List (List Va)) (i : Nat) : cntK hp rows i ≤ (rows.filter hp).length := by
 unfold cntK
 exact (List.Sublist.filter hp (List.take_sublist i rows)).length_le
theorem cntK_all (hp : List Va → Bool) (rows : List (List Va)) : cntK hp rows rows.length = (rows.filter hp).length := by simp [cntK]
theorem cntK_get {hp : List Va → Bool} {rows : List (List Va)} {i : Nat} (h : i < rows.length) (hh : hp rows[i] = true) : (rows.filter hp)[cntK hp rows i]? = some rows[i] := by
 have e : rows.filter hp = (rows.take i).filter hp ++ rows[i] :: (rows.drop (i + 1)).filter hp := by
  conv => lhs; rw [← List.take_append_drop i rows, List.drop_eq_getElem_cons h]
  rw [List.filter_append, List.filter_cons, if_pos hh]
 unfold cntK
 rw [e, List.getElem?_append_right (Nat.le_refl _), Nat.sub_self]
 rfl
def cK (nm : ByteArray) (c n : Nat) (o v : Nat → Nat) : List (List AV) := (List.range n).map fun j => [.p (.v (.string nm)), .ms (o j) 3 0 c, .ms (v j) 3 0 c]
theorem cK_len (nm : ByteArray) (c n : Nat) (o v : Nat → Nat) : (cK nm c n o v).length = n := by simp [cK]
theorem cK_get {nm : ByteArray} {c n j : Nat} {o v : Nat → Nat} (h : j < n) : (cK nm c n o v)[j]? = some [.p (.v (.string nm)), .ms (o j) 3 0 c, .ms (v j) 3 0 c] := by simp [cK, h]
structure ApK (n : Nat) (o v : Nat → Nat) (tL : Nat) : Prop where
 oo : ∀ j k, j < n → k < n → o j = o k → j = k
 vv : ∀ j k, j < n → k < n → v j = v k → j = k
 ov : ∀ j k, j < n → k < n → o j ≠ v k
 ol : ∀ j, j < n → o j ≠ tL
 vl : ∀ j, j < n → v j ≠ tL
structure KpS (c n : Nat) (olds : Nat → List Va) (o v : Nat → Nat) (S : St) (i : Nat) (s : St) : Prop where
 len : s.length = S.length
 ok : s.all (okO S.length) = true
 fr : ∀ t, (∀ j, j < n → t ≠ o j) → (∀ j, j < n → t ≠ v j) → s[t]? = S[t]?
 old : ∀ j, j < n → ∃ r, r.length = c ∧ s[o j]? = some (some (.row 3 (muR r))) ∧ (i ≤ j → r = olds j)
 new : ∀ j, j < n → ∃ r, r.length = c ∧ s[v j]? = some (some (.row 3 (muR r)))
theorem okR_set {m : Nat} {s : St} (h1 : s.all (okO m) = true) (t : Nat) (r : List Va) : (s.set t (some (.row 3 (muR r)))).all (okO m) = true := by
 simp only [List.all_eq_true] at h1 ⊢
 intro x hx
 rcases List.mem_or_eq_of_mem_set hx with hx | rfl
 ·exact h1 x hx
 ·exact okO_row (muR_tok m r)
theorem KpS.step {c n i : Nat} {olds : Nat → List Va} {o v : Nat → Nat} {S s : St} (h : KpS c n olds o v S i s) : KpS c n olds o v S (i + 1) s :=
 ⟨h.len, h.ok, h.fr, fun j hj => by
  obtain ⟨r, h1, h2, h3⟩ := h.old j hj
  exact ⟨r, h1, h2, fun hi => h3 (by omega)⟩, h.new⟩
theorem KpS.setNew {c n i j tL : Nat} {olds : Nat → List Va} {o v : Nat → Nat} {S s : St} (hA : ApK n o v tL) (h : KpS c n olds o v S i s) (hj : j < n) {r : List Va} (hr : r.length = c) : KpS c n olds o v S i (s.set (v j) (some (.row 3 (muR r)))) := by
 obtain ⟨r0, _, g0⟩ := h.new j hj
 have hlt : v j < s.length := (List.getElem?_eq_some_iff.1 g0).1
 refine ⟨by rw [List.length_set]; exact h.len, okR_set h.ok _ _, fun t h1 h2 => ?_, fun k hk => ?_, fun k hk => ?_⟩
 ·rw [List.getElem?_set_ne (fun e => h2 j hj e.symm)]; exact h.fr t h1 h2
 ·rw [List.getElem?_set_ne (fun e => hA.ov k j hk hj e.symm)]; exact h.old k hk
 ·by_cases e : j = k
  ·subst e
   exact ⟨r, hr, by rw [List.getElem?_set, if_pos rfl, if_pos hlt]⟩
  ·rw [List.getElem?_set_ne (fun e2 => e (hA.vv j k hj hk e2))]; exact h.new k hk
theorem KpS.setOld {c n i j tL : Nat} {olds : Nat → List Va} {o v : Nat → Nat} {S s : St} (hA : ApK n o v tL) (h : KpS c n olds o v S i s) (hj : j < n) (hi : j < i) {r : List Va} (hr : r.length = c) : KpS c n olds o v S i (s.set (o j) (some (.row 3 (muR r)))) := by
 obtain ⟨r0, _, g0, _⟩ := h.old j hj
 have hlt : o j < s.length := (List.getElem?_eq_some_iff.1 g0).1
 refine ⟨by rw [List.length_set]; exact h.len, okR_set h.ok _ _, fun t h1 h2 => ?_, fun k hk => ?_, fun k hk => ?_⟩
 ·rw [List.getElem?_set_ne (fun e => h1 j hj e.symm)]; exact h.fr t h1 h2
 ·by_cases e : j = k
  ·subst e
   exact ⟨r, hr, by rw [List.getElem?_set, if_pos rfl, if_pos hlt], fun h => by omega⟩
  ·rw [List.getElem?_set_ne (fun e2 => e (hA.oo j k hj hk e2))]; exact h.old k hk
 ·rw [List.getElem?_set_ne (fun e => hA.ov j k hj hk e)]; exact h.new k hk
def oK (P j : Nat) : Nat := 7 + 4 * j + P
def vK (P n j : Nat) : Nat := 7 + 4 * n + 6 * j + P
def lK (P n : Nat) : Nat := 5 + 10 * n + P
theorem apK (P n : Nat) : ApK n (oK P) (vK P n) (lK P n) := by
 refine ⟨fun j k _ _ h => ?_, fun j k _ _ h => ?_, fun j k h1 h2 h => ?_, fun j h1 h => ?_, fun j h1 h => ?_⟩ <;> simp only [oK, vK, lK] at h <;> omega
theorem UpI.behind {p : Nat} {nm : ByteArray} {c : Nat} {olds : List (List Va)} {wr : List Va → List Va} {s0 : St} (h : UpI p nm c olds wr olds.length s0) (hn : olds ≠ []) (hc : ∀ r ∈ olds, r.length = c) (hw : ∀ r ∈ olds, (wr r).length = c) {σ : St} (hσ : σ.all (okO σ.length) = true) (rest : St) (hrest : rest.all (okO 0) = true) {st : St} (hst : st = (σ ++ s0.map fun o => o.map (renOb fun t => t + σ.length)) ++ rest) :
 KpS c olds.length (fun j => olds.getD j []) (oK (p + σ.length)) (vK (p + σ.length) olds.length) st 0 st ∧ st[lK (p + σ.length) olds.length]? = some (some (.row 3 (cK nm c olds.length (oK (p + σ.length)) (vK (p + σ.length) olds.length)))) ∧ (∀ j (hj : j < olds.length), st[vK (p + σ.length) olds.length j]? = some (some (.row 3 (muR (wr olds[j]))))) ∧ (∀ t, t < σ.length → st[t]? = σ[t]?) ∧ st.length = σ.length + (6 + p + 10 * olds.length) + rest.length ∧ (∀ j, st[σ.length + (6 + p + 10 * olds.length) + j]? = rest[j]?) := by
 subst hst
 have hlen0 : s0.length = 6 + p + 10 * olds.length := by rw [h.len]; omega
 have hat : ∀ t ob, s0[t]? = some (some ob) → ((σ ++ s0.map fun o => o.map (renOb fun t => t + σ.length)) ++ rest)[t + σ.length]? = some (some (renOb (fun t => t + σ.length) ob)) := fun t ob ht => by
  have hlt := (List.getElem?_eq_some_iff.1 ht).1
  rw [List.getElem?_append_left (by simp <;> omega), List.getElem?_append_right (by omega), Nat.add_sub_cancel, List.getElem?_map, ht]; rfl
 have hrow : ∀ r : List Va, renOb (fun t => t + σ.length) (.row 3 (muR r)) = .row 3 (muR r) := fun r => by simp only [renOb, ren_muR]
 have hpos : 0 < olds.length := List.length_pos_iff.2 hn
 have hold : ∀ j (hj : j < olds.length), ((σ ++ s0.map fun o => o.map (renOb fun t => t + σ.length)) ++ rest)[oK (p + σ.length) j]? = some (some (.row 3 (muR olds[j]))) := fun j hj => by
  have := hat _ _ (h.old j hj)
  rwa [hrow, show 7 + p + 4 * j + σ.length = oK (p + σ.length) j by unfold oK; omega] at this
 have hnew : ∀ j (hj : j < olds.length), ((σ ++ s0.map fun o => o.map (renOb fun t => t + σ.length)) ++ rest)[vK (p + σ.length) olds.length j]? = some (some (.row 3 (muR (wr olds[j])))) := fun j hj => by
  have := hat _ _ (h.new j hj hj)
  rwa [hrow, show 7 + p + 4 * olds.length + 6 * j + σ.length = vK (p + σ.length) olds.length j by unfold vK; omega] at this
 have hlenT : ((σ ++ s0.map fun o => o.map (renOb fun t => t + σ.length)) ++ rest).length = σ.length + (6 + p + 10 * olds.length) + rest.length := by simp [hlen0]; omega
 refine ⟨⟨rfl, ?_, fun _ _ _ => rfl, fun j hj => ⟨olds[j], hc _ (List.getElem_mem hj), hold j hj, fun _ => by simp [hj]⟩, fun j hj => ⟨_, hw _ (List.getElem_mem hj), hnew j hj⟩⟩, ?_, hnew, fun t ht => ?_, hlenT, fun j => ?_⟩
 ·rw [hlenT, List.all_append, List.all_append, Bool.and_eq_true, Bool.and_eq_true]
  refine ⟨⟨allO_le (by omega) hσ, ?_⟩, allO_le (Nat.zero_le _) hrest⟩
  rw [List.all_map, List.all_eq_true]
  intro o ho
  have h1 := List.all_eq_true.1 h.okl o ho
  cases o with
  | none => rfl
  | some ob =>
    show okO _ (some (renOb _ ob)) = true
    rw [hlen0] at h1
    exact okO_ren h1
 ·have h1 := hat _ _ (h.ls hpos)
  rw [show 5 + p + 4 * olds.length + 6 * olds.length + σ.length = lK (p + σ.length) olds.length by unfold lK; omega] at h1
  rw [h1]
  simp only [renOb, lcU, cK, List.map_map, Function.comp_def, renL, renA, oK, vK]
  congr 4
  funext j
  rw [show 7 + p + 4 * j + σ.length = 7 + 4 * j + (p + σ.length) by omega, show 6 + p + 4 * olds.length + 6 * j + 1 + σ.length = 7 + 4 * olds.length + 6 * j + (p + σ.length) by omega]
 ·rw [List.getElem?_append_left (by simp <;> omega), List.getElem?_append_left ht]
 ·rw [List.getElem?_append_right (by simp [hlen0] <;> omega)]
  congr 1
  simp [hlen0]
where
 okO_ren {m k p : Nat} {ob : Ob} (h : okO m (some ob) = true) : okO (p + m + k) (some (renOb (fun t => t + p) ob)) = true := by
  cases ob with
  | row e ls =>
    simp only [okO, renOb, List.all_map, List.all_eq_true] at h ⊢
    exact fun c hc => tokL_ren c (h c hc)
  | right E k => rfl
  | nright E k => rfl
  | map es =>
    simp only [okO, renOb, List.all_map, List.all_eq_true] at h ⊢
    exact fun q hq => tok_ren q.2 (h q hq)
 tok_ren {m k p : Nat} : ∀ a : AV, tokLt m a = true → tokLt (p + m + k) (renA (fun t => t + p) a) = true
  | .any, _ => rfl
  | .p _, _ => rfl
  | .ip _ _, _ => rfl
  | .own t _ _, h => by simp only [renA, tokLt, decide_eq_true_eq] at h ⊢; omega
  | .nown t _ _, h => by simp only [renA, tokLt, decide_eq_true_eq] at h ⊢; omega
  | .mp t _ _ _, h => by simp only [renA, tokLt, decide_eq_true_eq] at h ⊢; omega
  | .ms t _ _ _, h => by simp only [renA, tokLt, decide_eq_true_eq] at h ⊢; omega
  | .mmap t, h => by simp only [renA, tokLt, decide_eq_true_eq] at h ⊢; omega
  | .raw t _ _, h => by simp only [renA, tokLt, decide_eq_true_eq] at h ⊢; omega
  | .fn _ f c, h => by
    simp only [renA, tokLt, Bool.and_eq_true] at h ⊢
    exact ⟨tokL_ren f h.1, tokL_ren c h.2⟩
  | .agg l, h => by simp only [renA, tokLt] at h ⊢; exact tokL_ren l h
  | .tup l, h => by simp only [renA, tokLt] at h ⊢; exact tokL_ren l h
 tokL_ren {m k p : Nat} : ∀ l : List AV, tokLtL m l = true → tokLtL (p + m + k) (renL (fun t => t + p) l) = true
  | [], _ => rfl
  | a :: l, h => by
    simp only [renL, tokLtL, Bool.and_eq_true] at h ⊢
    exact ⟨tok_ren a h.1, tokL_ren l h.2⟩
structure Kst (nm : ByteArray) (c : Nat) (olds : List (List Va)) (wr : List Va → List Va) (o v : Nat → Nat) (tL : Nat) (a b : Option Ob) (S : St) : Prop where
 ap : ApK olds.length o v tL
 h0 : S[0]? = some a
 h1 : S[1]? = some b
 ls : S[tL]? = some (some (.row 3 (cK nm c olds.length o v)))
 new : ∀ j (h : j < olds.length), S[v j]? = some (some (.row 3 (muR (wr olds[j]))))
 ext : ∀ rest : St, rest.all (okO 0) = true → KpS c olds.length (fun j => olds.getD j []) o v (S ++ rest) 0 (S ++ rest)
 big : ∀ j, j < olds.length → 2 ≤ o j ∧ o j < S.length ∧ 2 ≤ v j ∧ v j < S.length
 bigL : 2 ≤ tL ∧ tL < S.length
theorem UpI.kst {p : Nat} {nm : ByteArray} {c : Nat} {olds : List (List Va)} {wr : List Va → List Va} {s0 : St} (h : UpI p nm c olds wr olds.length s0) (hn : olds ≠ []) (hc : ∀ r ∈ olds, r.length = c) (hw : ∀ r ∈ olds, (wr r).length = c) {a b : Option Ob} (ha : okO 0 a = true) (hb : okO 0 b = true) :
 Kst nm c olds wr (oK (p + 2)) (vK (p + 2) olds.length) (lK (p + 2) olds.length) a b ([a, b] ++ s0.map fun o => o.map (renOb fun t => t + 2)) := by
 have hσ : ([a, b] : St).all (okO ([a, b] : St).length) = true := by
  have g1 := okO_le (m := 2) (Nat.zero_le _) ha
  have g2 := okO_le (m := 2) (Nat.zero_le _) hb
  simp only [List.all_cons, List.all_nil, List.length_cons, List.length_nil, Nat.zero_add, Nat.reduceAdd, g1, g2, Bool.and_self]
 have hB := fun (rest : St) (hr : rest.all (okO 0) = true) => h.behind hn hc hw hσ rest hr (st := ([a, b] ++ s0.map fun o => o.map (renOb fun t => t + 2)) ++ rest) rfl
 obtain ⟨h1, h2, h3, h4, h5, _⟩ := hB [] rfl
 simp only [List.append_nil, List.length_cons, List.length_nil, Nat.zero_add, Nat.reduceAdd] at h1 h2 h3 h4 h5
 refine ⟨apK _ _, rfl, rfl, h2, h3, fun rest hr => (hB rest hr).1, fun j hj => ?_, ?_⟩
 ·rw [h5]; simp only [oK, vK]; omega
 ·rw [h5]; simp only [lK]; omega
end Go.Proofs.Ytcnkmandddfdmaa
