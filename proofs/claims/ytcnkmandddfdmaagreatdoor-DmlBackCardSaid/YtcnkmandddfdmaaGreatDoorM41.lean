/- An insert of literals: its rows. What is read passes no VALUES; names are read. -/
import Derived.Test.YtcnkmandddfdmaaGreatDoorM33
import Derived.Test.YtcnkmandddfdmaaGreatDoorM39
import Derived.Test.YtcnkmandddfdmaaGreatDoorM40
set_option linter.unusedSimpArgs false
set_option linter.unusedVariables false
set_option linter.defProp false
set_option maxRecDepth 100000
set_option maxHeartbeats 32000000
namespace Go.Proofs.YtcnkmandddfdmaaGreatDoor
open Go.RowKit
theorem okV_emp {v : Va} (hok : okV v = true) (h3 : v.1 ≠ 3) : v.2.2 = emp := by
 obtain ⟨k, n, t⟩ := v
 simp only at h3 ⊢
 simp only [okV] at hok
 split at hok
 ·simp only [Bool.and_eq_true, beq_iff_eq] at hok; exact ba_ext hok.2
 ·split at hok
  ·simp only [beq_iff_eq] at hok; exact ba_ext hok
  ·split at hok
   ·simp only [Bool.and_eq_true, beq_iff_eq] at hok; exact ba_ext hok.2
   ·simp only [Bool.and_eq_true, beq_iff_eq] at hok; exact absurd hok.1.1 h3
theorem okV_kind {v : Va} (hok : okV v = true) : (v.1 = 0 ∧ v.2.1 = 0) ∨ v.1 = 1 ∨ v.1 = 2 ∨ (v.1 = 3 ∧ v.2.1 = 0) := by
 obtain ⟨k, n, t⟩ := v
 simp only [okV] at hok ⊢
 split at hok
 ·simp only [Bool.and_eq_true, decide_eq_true_eq] at hok; exact .inl ⟨by assumption, hok.1⟩
 ·split at hok
  ·exact .inr (.inl (by assumption))
  ·split at hok
   ·exact .inr (.inr (.inl (by assumption)))
   ·simp only [Bool.and_eq_true, beq_iff_eq] at hok; exact .inr (.inr (.inr hok.1))
theorem litX_cases {v : Va} (hok : okV v = true) : litX v = lfE 1 v.1 v.2.1 v.2.2 emp emp ∨ (v.1 = 1 ∧ v.2.1 < 0 ∧ v.2.2 = emp ∧ litX v = kdE 3 [lfE 1 1 (-v.2.1) emp emp emp]) := by
 have he := @okV_emp v hok
 have hk := okV_kind hok
 have h2 := @okV_num v hok
 obtain ⟨k, n, t⟩ := v
 simp only at he hk h2 ⊢
 unfold litX
 simp only
 rcases hk with ⟨rfl, rfl⟩ | rfl | rfl | ⟨rfl, rfl⟩
 ·rw [he (by decide)]; exact .inl rfl
 ·by_cases hn : n < 0
  ·rw [if_pos rfl, if_pos hn]; exact .inr ⟨rfl, hn, he (by decide), rfl⟩
  ·rw [if_pos rfl, if_neg hn, he (by decide)]; exact .inl rfl
 ·rw [if_neg (by decide), if_pos rfl, he (by decide)]
  rcases h2 rfl with rfl | rfl
  ·exact .inl rfl
  ·exact .inl rfl
 ·exact .inl rfl
theorem bnd_lf {k n : Int} {t : ByteArray} (hok : okV (k, n, t) = true) : bndS [] (lfE 1 k n t emp emp) = (lfE 1 k n t emp emp, k, 0) := by
 unfold lfE
 rw [bndS, if_neg (by decide), if_neg (by decide), if_pos rfl, if_pos hok]
theorem ok1 (m : Int) : okV (1, m, emp) = true := by simp [okV]
theorem bnd_lit {v : Va} (hok : okV v = true) : bndS [] (litX v) = (litX v, v.1, 0) := by
 rcases litX_cases hok with h | ⟨h1, h2, h3, h⟩
 ·rw [h]; exact bnd_lf hok
 ·rw [h, h1]
  unfold kdE
  rw [bndS, if_neg (by decide), if_neg (by simp [kidsB]), if_neg (by decide), if_neg (by decide)]
  have hb := bnd_lf (ok1 (-v.2.1))
  simp only [bndL, hb]
  rfl
theorem eval_lf {row : List Va} {k n : Int} {t : ByteArray} (hok : okV (k, n, t) = true) (e : Int) : findV row (lfE 1 k n t emp emp) e = ((k, n, t), e) := by
 unfold lfE
 rw [findV, if_neg (by decide)]
 unfold leafV
 rw [if_neg (by decide), if_pos ⟨rfl, hok⟩]
theorem eval_lit {row : List Va} {v : Va} (hok : LitOk v) : evalV row (litX v) = (v, 0) := by
 obtain ⟨hok, hn⟩ := hok
 rcases litX_cases hok with h | ⟨h1, h2, h3, h⟩
 ·unfold evalV
  rw [h, eval_lf hok]
  rfl
 ·unfold evalV
  have hn := hn h1
  have hf : findV row (litX v) 0 = (v, 0) := by
   rw [h]
   unfold kdE
   rw [findV, if_neg (by decide), eval_lf (ok1 _)]
   unfold oneV
   simp only
   rw [if_neg (by decide), if_neg (by decide), if_neg (by decide), if_neg (by decide), if_neg (by decide), if_neg (by omega), wrap_i64 (by omega) (by omega)]
   obtain ⟨k, n, t⟩ := v
   simp only at h1 h3 ⊢
   rw [h1, h3, show (0 : Int) - -n = n by omega]
  rw [hf]
  rfl
theorem asg_lits (cols : List Tc) : ∀ (l : List Va) (cs : List Int), (∀ v ∈ l, okV v = true) → l.length = cs.length → (∀ i (h : i < l.length) (h' : i < cs.length), l[i].1 = 0 ∨ l[i].1 = tyAt cols cs[i]) → asgS [] cols (l.map litX) cs = (l.map litX, 0)
 | [], [], _, _, _ => rfl
 | [], c :: cs, _, h, _ => by simp at h
 | v :: l, [], _, h, _ => by simp at h
 | v :: l, c :: cs, hok, hl, ht => by
   have hv := bnd_lit (hok v (by simp))
   have h0 := ht 0 (by simp) (by simp)
   simp only [List.getElem_cons_zero] at h0
   have ih := asg_lits cols l cs (fun u hu => hok u (by simp [hu])) (by simpa using hl) (fun i h h' => by have := ht (i + 1) (by simpa using h) (by simpa using h'); simpa using this)
   have ha : asgE [] (litX v) (tyAt cols c) = 0 := by
    unfold asgE
    rw [hv]
    simp only
    rw [if_neg]
    rintro ⟨_, h1, h2⟩
    rcases h0 with h0 | h0
    ·exact h1 h0
    ·exact h2 h0
   simp only [List.map_cons, asgS, ha, ih, hv]
   simp
theorem wrk_fold (row r : List Va) : ∀ (L : List (Va × Int)) (s : List Va × Int), (∀ q ∈ L, r[q.2.toNat]? = some q.1 ∧ LitOk q.1) → s.1.length = r.length → s.2 = 0 →
 (((L.map fun q => (litX q.1, q.2)).foldl (wStep row) s).2 = 0 ∧ ((L.map fun q => (litX q.1, q.2)).foldl (wStep row) s).1.length = r.length ∧ ∀ j, ((∃ q ∈ L, q.2.toNat = j) ∨ s.1[j]? = r[j]?) → ((L.map fun q => (litX q.1, q.2)).foldl (wStep row) s).1[j]? = r[j]?)
 | [], s, _, hl, h0 => ⟨h0, hl, fun j h => by
   rcases h with ⟨q, hq, _⟩ | h
   ·simp at hq
   ·exact h⟩
 | q :: L, s, hL, hl, h0 => by
   have hq := hL q (by simp)
   have hst : wStep row s (litX q.1, q.2) = (s.1.set q.2.toNat q.1, 0) := by
    unfold wStep
    simp only [eval_lit hq.2, h0, leastI]
    simp
   simp only [List.map_cons, List.foldl_cons, hst]
   obtain ⟨i1, i2, i3⟩ := wrk_fold row r L (s.1.set q.2.toNat q.1, 0) (fun p hp => hL p (by simp [hp])) (by simp [hl]) rfl
   refine ⟨i1, i2, fun j h => i3 j ?_⟩
   by_cases hj : q.2.toNat = j
   ·right
    subst hj
    have hlt : q.2.toNat < r.length := (List.getElem?_eq_some_iff.1 hq.1).1
    rw [List.getElem?_set_self (by omega), hq.1]
   ·rcases h with ⟨p, hp, he⟩ | h
    ·rcases List.mem_cons.1 hp with rfl | hp
     ·exact absurd he hj
     ·exact .inl ⟨p, hp, he⟩
    ·right
     simp only
     rw [List.getElem?_set_ne hj]
     exact h
theorem tgt_val (ns : List ByteArray) (cols : List Tc) : (tgtS ns cols).2 = 32 ∨ tgtS ns cols = (ns.map fun n => idxP (isN n) cols, 0) := by
 have h1 : ∀ (l : List ByteArray) (s : List Int × Bool), (l.foldl (tStep cols) s).1 = s.1 ++ l.map fun n => idxP (isN n) cols := by
  intro l
  induction l with
  | nil => intro s; simp
  | cons n l ih => intro s; rw [List.foldl_cons, ih]; simp [tStep]
 unfold tgtS
 split
 ·exact .inl rfl
 ·right
  rw [tGo, h1]; rfl
theorem idx_of {cols : List Tc} (hn : namesR cols cols.length) (i : Nat) (h : i < cols.length) : idxP (isN cols[i].1) cols = (i : Nat) := by
 refine idxP_at _ cols i h (fun j hj => ?_) (by simp [isN])
 have := (hn i h h).2 j hj
 simp only [isN, beq_eq_false_iff_ne, ne_eq]
 exact fun e => this (ba_ext e)
theorem ins_law (cols : List Tc) (r : List Va) (hlen : r.length = cols.length) (hnm : namesR cols cols.length) (hv : valsR cols r r.length) (hlit : ∀ v ∈ r, LitOk v) (P : List Nat) (hP : ∀ p ∈ P, p < cols.length) (hcov : ∀ j, j < cols.length → j ∈ P) (s : Sm) (hk : s.kind = 3)
 (hns : nmsS s cols = P.map fun p => (cols.getD p (emp, 0, false, false)).1) (hrows : s.rows = [(P.map fun p => r.getD p va0).map litX]) :
 (insS s cols).2 = 32 ∨ insS s cols = finI cols ([r], 0) := by
 rcases tgt_val (nmsS s cols) cols with h | h
 ·left
  unfold insS
  rw [if_neg (by simp [hk]), if_pos (by rw [h]; decide)]
  exact h
 right
 have hcs : ((P.map fun p => (cols.getD p (emp, 0, false, false)).1).map fun n => idxP (isN n) cols) = P.map fun p => ((p : Nat) : Int) := by
  rw [List.map_map]
  refine List.map_congr_left fun p hp => ?_
  have := hP p hp
  simp only [Function.comp_apply, List.getD_eq_getElem?_getD, List.getElem?_eq_getElem this, Option.getD_some]
  exact idx_of hnm p this
 rw [hns, hcs] at h
 have hgd : ∀ p ∈ P, ∃ hp : p < r.length, r.getD p va0 = r[p] := fun p hp => ⟨by have := hP p hp; omega, by
  have : p < r.length := by have := hP p hp; omega
  simp [List.getD_eq_getElem?_getD, this]⟩
 have hb : bdE cols (P.map fun p => ((p : Nat) : Int)) ((P.map fun p => r.getD p va0).map litX) = 0 ∧ bdX cols (P.map fun p => ((p : Nat) : Int)) ((P.map fun p => r.getD p va0).map litX) = (P.map fun p => r.getD p va0).map litX := by
  have ha := asg_lits cols (P.map fun p => r.getD p va0) (P.map fun p => ((p : Nat) : Int)) (fun v hv => by
   obtain ⟨p, hp, rfl⟩ := List.mem_map.1 hv
   obtain ⟨h1, h2⟩ := hgd p hp
   rw [h2]
   exact (hlit _ (List.getElem_mem h1)).1) (by simp) (fun i h h' => by
   simp only [List.length_map] at h
   simp only [List.getElem_map]
   have hp := List.getElem_mem h
   obtain ⟨h1, h2⟩ := hgd _ hp
   rw [h2]
   have h3 := (hv P[i] (by omega) h1 (hP _ hp)).2
   unfold tyAt
   simp only [Int.toNat_natCast, List.getD_eq_getElem?_getD, List.getElem?_eq_getElem (hP _ hp), Option.getD_some]
   exact h3)
  unfold bdE bdX
  rw [if_neg (by simp), ha]
  exact ⟨rfl, rfl⟩
 unfold insS
 rw [if_neg (by simp [hk]), hns, h, hrows]
 simp only [ne_eq, not_true_eq_false, if_false]
 have hbd : bdS cols (P.map fun p => ((p : Nat) : Int)) [(P.map fun p => r.getD p va0).map litX] = ([(P.map fun p => r.getD p va0).map litX], 0) := by
  simp only [bdS, hb.1, hb.2]
  simp
 rw [hbd]
 simp only [not_true_eq_false, if_false, List.foldl_cons, List.foldl_nil]
 have hz : (z0 cols).length = r.length := by simp [z0, hlen]
 have hw := wrk_fold (z0 cols) r (P.map fun p => (r.getD p va0, ((p : Nat) : Int))) (z0 cols, 0) (fun q hq => by
  obtain ⟨p, hp, rfl⟩ := List.mem_map.1 hq
  obtain ⟨h1, h2⟩ := hgd p hp
  refine ⟨by simp only [Int.toNat_natCast]; rw [h2, List.getElem?_eq_getElem h1], ?_⟩
  simp only
  rw [h2]
  exact hlit _ (List.getElem_mem h1)) hz rfl
 have hzip : (((P.map fun p => r.getD p va0).map litX).zip (P.map fun p => ((p : Nat) : Int))) = ((P.map fun p => (r.getD p va0, ((p : Nat) : Int))).map fun q => (litX q.1, q.2)) := by
  rw [List.map_map, List.map_map, List.zip_map']; rfl
 have hwk : wrkS (z0 cols) ((P.map fun p => r.getD p va0).map litX) (P.map fun p => ((p : Nat) : Int)) 0 = (r, 0) := by
  unfold wrkS
  rw [hzip]
  obtain ⟨w1, w2, w3⟩ := hw
  refine Prod.ext (List.ext_getElem? fun j => ?_) w1
  by_cases hj : j < cols.length
  ·exact w3 j (.inl ⟨(r.getD j va0, ((j : Nat) : Int)), List.mem_map.2 ⟨j, hcov j hj, rfl⟩, by simp⟩)
  ·exact (List.getElem?_eq_none (by rw [w2]; omega)).trans (List.getElem?_eq_none (show r.length ≤ j by omega)).symm
 simp only [iStep, hwk, List.nil_append]
theorem fin_cases (cols : List Tc) (r : List Va) : (soundS cols [r] = 0 ∧ finI cols ([r], 0) = ([r], 0)) ∨ finI cols ([r], 0) = ([], 34) := by
 unfold finI
 simp only [ne_eq, not_true_eq_false, if_false]
 by_cases h : soundS cols [r] = 0
 ·rw [if_neg (by simp [h])]; exact .inl ⟨h, rfl⟩
 ·right
  rw [if_pos h]
  have : soundS cols [r] = 34 := by
   unfold soundS at h ⊢
   split
   ·rename_i h2; rw [if_pos h2] at h; exact absurd rfl h
   ·rfl
  rw [this]
end Go.Proofs.YtcnkmandddfdmaaGreatDoor
namespace Go.Proofs.YtcnkmandddfdmaaGreatDoor
open Go.RowKit
def NV (ts : List Tok) (a b : Nat) : Prop := ∀ i, a ≤ i → i < b → ∀ t, ts[i]? = some t → ¬ (t.1 = 1 ∧ t.2.1 = wVALUES)
theorem NV.refl (ts : List Tok) (a : Nat) : NV ts a a := fun i h1 h2 => by omega
theorem NV.trans {ts : List Tok} {a b c : Nat} (h : NV ts a b) (g : NV ts b c) : NV ts a c := fun i h1 h2 t ht => by
 rcases Nat.lt_or_ge i b with h3 | h3
 ·exact h i h1 h3 t ht
 ·exact g i h3 h2 t ht
theorem NV.one {ts : List Tok} {q : Rs} (h : ¬ ((pkF ts q).1 = 1 ∧ (pkF ts q).2.1 = wVALUES)) (hb : q.2 = false) : NV ts q.1 (q.1 + 1) := fun i h1 h2 t ht => by
 obtain ⟨k, b⟩ := q
 simp only at hb h1 h2
 subst hb
 obtain rfl : i = k := by omega
 obtain ⟨hlt, he⟩ := List.getElem?_eq_some_iff.1 ht
 rw [pkF_at ts i hlt, he] at h
 exact h
theorem NV.is {ts : List Tok} {kd : Int} {s : ByteArray} {q : Rs} (hkd : kd ≠ 0) (h : isF ts kd s q = true) (hs : ¬ (kd = 1 ∧ s.toList = wVALUES.toList)) : NV ts q.1 (q.1 + 1) := by
 refine .one ?_ (isF_in hkd h).1
 simp only [isF, Bool.and_eq_true, beq_iff_eq] at h
 rintro ⟨h1, h2⟩
 rw [h.1] at h1
 rw [h2] at h
 exact hs ⟨h1, h.2.symm⟩
theorem NV.ps {ts : List Tok} {kd : Int} {s : ByteArray} {q : Rs} (hkd : kd ≠ 0) (hs : ¬ (kd = 1 ∧ s.toList = wVALUES.toList)) : NV ts q.1 (psF ts kd s q).1 := by
 cases hv : isF ts kd s q
 ·rw [psF_neg hv]; exact .refl ts q.1
 ·rw [psF_pos hv]; exact .is hkd hv hs
theorem NV.wn {ts : List Tok} {kd : Int} {s : ByteArray} {q : Rs} (hkd : kd ≠ 0) (hs : ¬ (kd = 1 ∧ s.toList = wVALUES.toList)) : NV ts q.1 (wnF ts kd s q).1 := by
 cases hv : isF ts kd s q
 ·rw [wnF_neg hv]; exact .refl ts q.1
 ·rw [wnF_pos hv]; exact .is hkd hv hs
theorem NV.an {ts : List Tok} {q : Rs} : NV ts q.1 (anF ts 2 q).2.1 := by
 unfold anF
 split
 ·rename_i e
  exact .one (fun h => by rw [e] at h; exact absurd h.1 (by decide)) (pkF_in (by rw [e]; decide)).1
 ·exact .refl ts q.1
theorem val_ne {s : ByteArray} (h : s.data.toList ≠ wVALUES.data.toList) {kd : Int} : ¬ (kd = 1 ∧ s.toList = wVALUES.toList) := fun e => h (by have := e.2; rw [ByteArray.toList_eq, ByteArray.toList_eq] at this; exact this)
theorem op_val {ts : List Tok} {q : Rs} (h : (bnF ts q).1 ≠ 0) : ¬ ((pkF ts q).1 = 1 ∧ (pkF ts q).2.1 = wVALUES) := by
 rintro ⟨h1, h2⟩
 refine h ?_
 unfold bnF
 obtain ⟨⟨tk, tt, tn⟩, ht⟩ : ∃ t, pkF ts q = t := ⟨_, rfl⟩
 rw [ht] at h1 h2 ⊢
 simp only at h1 h2
 subst h1 h2
 simp [opsGo, opsL, opM, wVALUES, ByteArray.toList_eq]
theorem pgF_nv (ts : List Tok) : ∀ (m : Nat) (j : Job), j.need ts ≤ m → j.at.1 ≤ ts.length → (pgF ts m j).2.2 = false → NV ts j.at.1 (pgF ts m j).2.1
 | 0, j, h, _, _ => by cases j <;> simp only [Job.need] at h <;> omega
 | m + 1, .fac q, h, hk, hg => by
   have ih := pgF_nv ts m
   have hfw := pgF_fwd ts m
   simp only [Job.need, Job.at] at h hk ⊢
   have hg : (facB ts (pgF ts m) q).2.2 = false := hg
   show NV ts q.1 (facB ts (pgF ts m) q).2.1
   unfold facB at hg ⊢
   by_cases e : isF ts 5 sMinus q = true
   ·rw [if_pos e] at hg ⊢
    have hlt := (isF_in (by decide) e).2
    exact (NV.is (by decide) e (val_ne (by decide))).trans (ih (.fac q.next) (by have h9 : q.1 + 1 ≤ q.next.1 := Nat.le_refl _; simp only [Job.need]; omega) hlt hg)
   rw [if_neg e] at hg ⊢
   by_cases h0 : (pkF ts q).1 = 0
   ·rw [if_pos h0]; exact .refl ts q.1
   rw [if_neg h0] at hg ⊢
   have hb := (pkF_in h0).1
   have hlt := (pkF_in h0).2
   have hkd : ∀ {a : Int}, a ≠ 1 → (pkF ts q).1 = a → NV ts q.1 q.next.1 := fun ha he => .one (fun h => ha (he.symm.trans h.1)) hb
   by_cases h3 : (pkF ts q).1 = 3
   ·rw [if_pos h3]; exact hkd (by decide) h3
   rw [if_neg h3] at hg ⊢
   by_cases h4 : (pkF ts q).1 = 4
   ·rw [if_pos h4]; exact hkd (by decide) h4
   rw [if_neg h4] at hg ⊢
   by_cases h2 : (pkF ts q).1 = 2
   ·rw [if_pos h2] at hg ⊢
    by_cases e2 : isF ts 5 sDot q.next = true
    ·rw [if_pos e2]
     exact (hkd (by decide) h2).trans ((NV.is (by decide) e2 (val_ne (by decide))).trans (NV.an (q := q.next.next)))
    ·rw [if_neg e2]; exact hkd (by decide) h2
   rw [if_neg h2] at hg ⊢
   have htx : ∀ {s : ByteArray}, s.data.toList ≠ wVALUES.data.toList → ((pkF ts q).2.1.toList == s.toList) = true → NV ts q.1 q.next.1 := fun hs he => .one (fun h => hs (by
    have := h.2
    rw [beq_iff_eq, this, ByteArray.toList_eq, ByteArray.toList_eq] at he
    exact he.symm)) hb
   by_cases g1 : ((pkF ts q).2.1.toList == wTRUE.toList) = true
   ·rw [if_pos g1]; exact htx (by decide) g1
   rw [if_neg g1] at hg ⊢
   by_cases g2 : ((pkF ts q).2.1.toList == wFALSE.toList) = true
   ·rw [if_pos g2]; exact htx (by decide) g2
   rw [if_neg g2] at hg ⊢
   by_cases g3 : ((pkF ts q).2.1.toList == wNULL.toList) = true
   ·rw [if_pos g3]; exact htx (by decide) g3
   rw [if_neg g3] at hg ⊢
   have hexp : ∀ (q' : Rs), q.1 < q'.1 → q'.1 ≤ ts.length → (pgF ts m (.exp 0 q')).2.2 = false → NV ts q'.1 (pgF ts m (.exp 0 q')).2.1 := fun q' h1 h2 h3 => ih (.exp 0 q') (by simp only [Job.need]; omega) h2 h3
   have hexf : ∀ (q' : Rs), q.1 < q'.1 → q'.1 ≤ ts.length → Fwd ts q' (pgF ts m (.exp 0 q')).2 := fun q' h1 h2 => hfw (.exp 0 q') (by simp only [Job.need]; omega) h2
   by_cases g4 : (pkF ts q).1 = 5 ∧ ((pkF ts q).2.1.toList == sOpen.toList) = true
   ·rw [if_pos g4] at hg ⊢
    have hx := hexf q.next (Nat.lt_succ_self _) hlt
    have hw : Fwd ts (pgF ts m (.exp 0 q.next)).2 (wnF ts 5 sShut (pgF ts m (.exp 0 q.next)).2) := .wn (by decide) _ hx.2.1
    exact (hkd (by decide) g4.1).trans ((hexp q.next (Nat.lt_succ_self _) hlt (hw.2.2 hg)).trans (.wn (by decide) (val_ne (by decide))))
   rw [if_neg g4] at hg ⊢
   have hn : Fwd ts q q.next := .next hlt
   have h5 : Fwd ts q.next (wnF ts 5 sOpen q.next) := .wn (by decide) _ hn.2.1
   have h7 : q.1 + 1 ≤ (wnF ts 5 sOpen q.next).1 := h5.1
   cases hag : agGo (pkF ts q).2.1 0 agL with
   | none => rw [hag] at hg; simp at hg
   | some i =>
     rw [hag] at hg
     have hq : NV ts q.1 q.next.1 := .one (fun h => by
      rw [h.2] at hag
      have : agGo wVALUES 0 agL = none := by simp [agGo, agL, wVALUES, ByteArray.toList_eq]
      rw [this] at hag; cases hag) hb
     by_cases e2 : i = 0 ∧ isF ts 5 sStar (wnF ts 5 sOpen q.next) = true
     ·simp only [if_pos e2]
      exact hq.trans ((NV.wn (by decide) (val_ne (by decide))).trans ((NV.is (by decide) e2.2 (val_ne (by decide))).trans (.wn (q := (wnF ts 5 sOpen q.next).next) (by decide) (val_ne (by decide)))))
     ·simp only [if_neg e2] at hg ⊢
      have hx := hexf (wnF ts 5 sOpen q.next) h7 h5.2.1
      have hw : Fwd ts (pgF ts m (.exp 0 (wnF ts 5 sOpen q.next))).2 (wnF ts 5 sShut (pgF ts m (.exp 0 (wnF ts 5 sOpen q.next))).2) := .wn (by decide) _ hx.2.1
      exact hq.trans ((NV.wn (by decide) (val_ne (by decide))).trans ((hexp _ h7 h5.2.1 (hw.2.2 hg)).trans (.wn (by decide) (val_ne (by decide)))))
 | m + 1, .exp n q, h, hk, hg => by
   have ih := pgF_nv ts m
   have hfw := pgF_fwd ts m
   simp only [Job.need, Job.at] at h hk ⊢
   have hg : (expB ts (pgF ts m) n q).2.2 = false := hg
   show NV ts q.1 (expB ts (pgF ts m) n q).2.1
   unfold expB at hg ⊢
   by_cases e : n < 3 ∧ isF ts 1 wNOT q = true
   ·rw [if_pos e] at hg ⊢
    have hlt := (isF_in (by decide) e.2).2
    have hx : Fwd ts q.next (pgF ts m (.exp 2 q.next)).2 := hfw (.exp 2 q.next) (by have h9 : q.1 + 1 ≤ q.next.1 := Nat.le_refl _; simp only [Job.need]; omega) hlt
    have h9 : q.1 + 1 ≤ (pgF ts m (.exp 2 q.next)).2.1 := hx.1
    have hl := hfw (.lop n (kdE 4 [(pgF ts m (.exp 2 q.next)).1]) true (pgF ts m (.exp 2 q.next)).2) (by simp only [Job.need]; omega) hx.2.1
    exact (NV.is (by decide) e.2 (val_ne (by decide))).trans ((ih (.exp 2 q.next) (by have h9 : q.1 + 1 ≤ q.next.1 := Nat.le_refl _; simp only [Job.need]; omega) hlt (hl.2.2 hg)).trans (ih (.lop n _ true (pgF ts m (.exp 2 q.next)).2) (by simp only [Job.need]; omega) hx.2.1 hg))
   ·rw [if_neg e] at hg ⊢
    have hx : Fwd ts q (pgF ts m (.fac q)).2 := hfw (.fac q) (by simp only [Job.need]; omega) hk
    have h9 : q.1 ≤ (pgF ts m (.fac q)).2.1 := hx.1
    have hl := hfw (.lop n (pgF ts m (.fac q)).1 false (pgF ts m (.fac q)).2) (by simp only [Job.need]; omega) hx.2.1
    exact (ih (.fac q) (by simp only [Job.need]; omega) hk (hl.2.2 hg)).trans (ih (.lop n _ false (pgF ts m (.fac q)).2) (by simp only [Job.need]; omega) hx.2.1 hg)
 | m + 1, .lop n x c q, h, hk, hg => by
   have ih := pgF_nv ts m
   have hfw := pgF_fwd ts m
   simp only [Job.need, Job.at] at h hk ⊢
   have hg : (lopB ts (pgF ts m) n x c q).2.2 = false := hg
   show NV ts q.1 (lopB ts (pgF ts m) n x c q).2.1
   unfold lopB at hg ⊢
   by_cases e0 : q.2 = true
   ·rw [if_pos e0]; exact .refl ts q.1
   rw [if_neg e0] at hg ⊢
   by_cases e : (bnF ts q).1 > 0 ∧ (bnF ts q).2 > n ∧ ¬ (c = true ∧ (bnF ts q).2 ≥ 4)
   ·rw [if_pos e] at hg ⊢
    have hne : (bnF ts q).1 ≠ 0 := by omega
    have hlt := (bnF_in hne).2
    have h8 : q.1 + 1 ≤ q.next.1 := Nat.le_refl _
    have hx : Fwd ts q.next (pgF ts m (.exp (bnF ts q).2 q.next)).2 := hfw (.exp _ q.next) (by simp only [Job.need]; omega) hlt
    have h9 : q.1 + 1 ≤ (pgF ts m (.exp (bnF ts q).2 q.next)).2.1 := hx.1
    have hl := hfw (.lop n (kdE (bnF ts q).1 [x, (pgF ts m (.exp (bnF ts q).2 q.next)).1]) (c || decide ((bnF ts q).2 ≤ 4)) (pgF ts m (.exp (bnF ts q).2 q.next)).2) (by simp only [Job.need]; omega) hx.2.1
    exact (NV.one (op_val hne) (bnF_in hne).1).trans ((ih (.exp _ q.next) (by simp only [Job.need]; omega) hlt (hl.2.2 hg)).trans (ih (.lop n _ _ (pgF ts m (.exp (bnF ts q).2 q.next)).2) (by simp only [Job.need]; omega) hx.2.1 hg))
   rw [if_neg e] at hg ⊢
   by_cases e2 : (bnF ts q).1 = 0 ∧ n < 4 ∧ c = false ∧ isF ts 1 wIS q = true
   ·rw [if_pos e2] at hg ⊢
    have hlt := (isF_in (by decide) e2.2.2.2).2
    have h1 : Fwd ts q.next (psF ts 1 wNOT q.next) := .ps (by decide) _ hlt
    have h3 := h1.trans (.wn (kd := 1) (by decide) wNULL h1.2.1)
    have h9 : q.1 + 1 ≤ (wnF ts 1 wNULL (psF ts 1 wNOT q.next)).1 := h3.1
    exact (NV.is (by decide) e2.2.2.2 (val_ne (by decide))).trans ((NV.ps (q := q.next) (by decide) (val_ne (by decide))).trans ((NV.wn (by decide) (val_ne (by decide))).trans (ih (.lop n _ _ (wnF ts 1 wNULL (psF ts 1 wNOT q.next))) (by simp only [Job.need]; omega) h3.2.1 hg)))
   rw [if_neg e2]
   exact .refl ts q.1
theorem liG_nv {α : Type} {step : Rs → α × Rs} {ts : List Tok} {k0 : Nat} (hs : ∀ q, k0 ≤ q.1 → q.1 ≤ ts.length → Fwd ts q (step q).2 ∧ ((step q).2.2 = false → NV ts q.1 (step q).2.1)) : ∀ (g : Nat) (l : List α) (more : Bool) (q : Rs), LiOk ts k0 g l more q → (liG step ts g l more q).2.2 = false → NV ts q.1 (liG step ts g l more q).2.1
 | 0, l, more, q, h, _ => by obtain ⟨g0, h0⟩ := h.pos; omega
 | g + 1, l, more, q, h, hg => by
   by_cases hm : more = false ∨ q.2 = true
   ·rw [liG_stop _ _ _ _ _ _ hm]; exact .refl ts q.1
   ·obtain ⟨k, b⟩ := q
    simp only [not_or, Bool.not_eq_false, Bool.not_eq_true] at hm
    obtain ⟨rfl, rfl⟩ := hm
    rw [liG_go] at hg ⊢
    have hf := hs (k, false) h.ge h.le
    have hst := (h.step (x := (step (k, false)).1) hf.1).1
    have hfw := (liG_fwd (fun q h1 h2 => (hs q h1 h2).1) g _ _ _ hst).1
    have hps : Fwd ts (step (k, false)).2 (psF ts 5 sComma (step (k, false)).2) := .ps (by decide) _ hf.1.2.1
    exact (hf.2 (hps.2.2 (hfw.2.2 hg))).trans ((NV.ps (by decide) (val_ne (by decide))).trans (liG_nv hs g _ _ _ hst hg))
theorem xsF_nv (ts : List Tok) (hts : ts.length ≤ 2048) (q : Rs) (hk : q.1 ≤ ts.length) (hg : (xsF ts q).2.2 = false) : NV ts q.1 (xsF ts q).2.1 := by
 simp only [xsF, Bool.or_eq_false_iff] at hg
 exact liG_nv (k0 := q.1) (fun q' _ h => ⟨exF_fwd ts hts q' h, fun hg => pgF_nv ts 5000 (.exp 0 q') (by simp only [Job.need]; omega) h hg⟩) 3000 [] true q (LiOk.zero hts hk) hg.1
theorem rwF_nv (ts : List Tok) (hts : ts.length ≤ 2048) (q : Rs) (hk : q.1 ≤ ts.length) (hg : (rwF ts q).2.2 = false) : NV ts q.1 (rwF ts q).2.1 := by
 have h1 : Fwd ts q (wnF ts 5 sOpen q) := .wn (by decide) _ hk
 have h2 := (xsF_fwd ts hts _ h1.2.1).1
 have h3 : Fwd ts (xsF ts (wnF ts 5 sOpen q)).2 (wnF ts 5 sShut (xsF ts (wnF ts 5 sOpen q)).2) := .wn (by decide) _ h2.2.1
 exact (NV.wn (by decide) (val_ne (by decide))).trans ((xsF_nv ts hts _ h1.2.1 (h3.2.2 hg)).trans (.wn (by decide) (val_ne (by decide))))
inductive AltT : List Tok → List ByteArray → Prop where
 | one (x : ByteArray) (n : Int) : AltT [(2, x, n)] [x]
 | cons (x : ByteArray) (n m : Int) {T : List Tok} {xs : List ByteArray} : AltT T xs → AltT ((2, x, n) :: (5, sComma, m) :: T) (x :: xs)
theorem is_tok {ts : List Tok} {kd : Int} {s : ByteArray} {k : Nat} (hkd : kd ≠ 0) (h : isF ts kd s (k, false) = true) : ∃ n, ts.drop k = (kd, s, n) :: ts.drop (k + 1) := by
 have hlt := (isF_in hkd h).2
 simp only at hlt
 simp only [isF, Bool.and_eq_true, beq_iff_eq] at h
 rw [pkF_at ts k hlt] at h
 refine ⟨ts[k].2.2, ?_⟩
 rw [List.drop_eq_getElem_cons hlt]
 refine congrArg (· :: ts.drop (k + 1)) (Prod.ext h.1 (Prod.ext ?_ rfl))
 have h2 := h.2
 simp only [ByteArray.toList_eq] at h2
 exact ByteArray.ext (Array.toList_inj.1 h2)
theorem li_names {ts : List Tok} {k0 k' : Nat} {ns : List ByteArray} : ∀ (g : Nat) (acc : List ByteArray) (k : Nat), LiOk ts k0 g acc true (k, false) → liG (nmF ts) ts g acc true (k, false) = (ns, (k', false)) → ∃ T xs, ns = acc ++ xs ∧ AltT T xs ∧ ts.drop k = T ++ ts.drop k'
 | 0, acc, k, h, _ => by obtain ⟨g0, h0⟩ := h.pos; omega
 | g + 1, acc, k, h, he => by
   rw [liG_go] at he
   have hf : Fwd ts (k, false) (nmF ts (k, false)).2 := nmF_fwd ts (k, false) h.le
   have hst := (h.step (x := (nmF ts (k, false)).1) hf).1
   have hfw := (liG_fwd (fun q _ h2 => nmF_fwd ts q h2) g _ _ _ hst).1
   have hps : Fwd ts (nmF ts (k, false)).2 (psF ts 5 sComma (nmF ts (k, false)).2) := .ps (by decide) _ hf.2.1
   rw [he] at hfw
   have hgood : (nmF ts (k, false)).2.2 = false := hps.2.2 (hfw.2.2 rfl)
   have hnm : ∃ x n, ts.drop k = (2, x, n) :: ts.drop (k + 1) ∧ nmF ts (k, false) = (x, (k + 1, false)) := by
    unfold nmF anF at hgood ⊢
    by_cases h2 : (pkF ts (k, false)).1 = 2
    ·have hlt := (pkF_in (q := (k, false)) (by rw [h2]; decide)).2
     simp only at hlt
     rw [if_pos h2]
     rw [pkF_at ts k hlt] at h2 ⊢
     refine ⟨ts[k].2.1, ts[k].2.2, ?_, rfl⟩
     rw [List.drop_eq_getElem_cons hlt]
     exact congrArg (· :: ts.drop (k + 1)) (Prod.ext h2 rfl)
    ·rw [if_neg h2] at hgood
     simp at hgood
   obtain ⟨x, n, hd, hx⟩ := hnm
   rw [hx] at he hst
   simp only at he hst
   cases hc : isF ts 5 sComma (k + 1, false)
   ·rw [hc, psF_neg hc, liG_stop _ _ _ _ _ _ (.inl rfl)] at he
    simp only [Prod.mk.injEq] at he
    obtain ⟨rfl, rfl, _⟩ := he
    exact ⟨_, _, rfl, .one x n, hd⟩
   ·rw [hc, psF_pos hc] at he hst
    obtain ⟨m, hm⟩ := is_tok (by decide) hc
    obtain ⟨T, xs, h1, h2, h3⟩ := li_names g (acc ++ [x]) (k + 1 + 1) hst he
    refine ⟨_, _, by rw [h1, List.append_assoc]; rfl, .cons x n m h2, ?_⟩
    rw [hd, hm, h3]
    rfl
theorem AltT.no {T : List Tok} {xs : List ByteArray} (h : AltT T xs) : ∀ t ∈ T, t.2.1 ≠ sShut ∨ t.1 ≠ 5 := by
 induction h with
 | one x n => intro t ht; simp only [List.mem_singleton] at ht; subst ht; exact .inr (by show (2 : Int) ≠ 5; decide)
 | cons x n m h ih =>
   intro t ht
   rcases List.mem_cons.1 ht with rfl | ht
   ·exact .inr (by show (2 : Int) ≠ 5; decide)
   ·rcases List.mem_cons.1 ht with rfl | ht
    ·exact .inl (by show sComma ≠ sShut; decide)
    ·exact ih t ht
theorem AltT.no4 {T : List Tok} {xs : List ByteArray} (h : AltT T xs) : ∀ t ∈ T, t.1 ≠ 4 := by
 induction h with
 | one x n => intro t ht; simp only [List.mem_singleton] at ht; subst ht; show (2 : Int) ≠ 4; decide
 | cons x n m h ih =>
   intro t ht
   rcases List.mem_cons.1 ht with rfl | ht
   ·show (2 : Int) ≠ 4; decide
   ·rcases List.mem_cons.1 ht with rfl | ht
    ·show (5 : Int) ≠ 4; decide
    ·exact ih t ht
theorem ins_two {ts N : List Tok} {l : List Va} (hts : ts.length ≤ 2048) (hne : l ≠ []) (hok : ∀ v ∈ l, LitOk v) (h16 : l.length ≤ 16) (h : ts = [(1, wINS, 0), (1, ⟨#[73, 78, 84, 79]⟩, 0), (2, nT, 0), tOpen] ++ (N ++ tShut :: tVal :: tOpen :: (toksV l ++ [tShut]))) (hgood : psF ts 5 sSemi (insF ts (1, false)).2 = (ts.length, false)) : ∃ ns, AltT N ns ∧ (insF ts (1, false)).1 = stmtI nT ns [l.map litX] := by
 have d1 : ts.drop 1 = (1, ⟨#[73, 78, 84, 79]⟩, 0) :: (2, nT, 0) :: tOpen :: (N ++ tShut :: tVal :: tOpen :: (toksV l ++ [tShut])) := by rw [h]; rfl
 obtain ⟨p1, d2, _⟩ := pk_drop d1
 obtain ⟨p2, d3, _⟩ := pk_drop d2
 obtain ⟨p3, d4, l3⟩ := pk_drop d3
 have e1 : wnF ts 1 wINTO (1, false) = (2, false) := wnF_pos (isF_is d1 rfl rfl)
 have e2 : nmF ts (2, false) = (nT, (3, false)) := by
  unfold nmF anF
  rw [p2]; rfl
 have hO : isF ts 5 sOpen (3, false) = true := isF_is d3 rfl rfl
 have hz := LiOk.zero (α := ByteArray) (q := (4, false)) hts l3
 have g3 := (liG_fwd (k0 := 4) (fun q _ h => nmF_fwd ts q h) 3000 [] true (4, false) hz).1
 obtain ⟨⟨ns, ⟨kn, bn⟩⟩, hN⟩ : ∃ r, liG (nmF ts) ts 3000 [] true (4, false) = r := ⟨_, rfl⟩
 rw [hN] at g3
 have e3 : colsF ts (3, false) = (ns, wnF ts 5 sShut (kn, bn)) := by
  unfold colsF
  rw [if_pos hO]
  show ((liG (nmF ts) ts 3000 [] true (4, false)).1, wnF ts 5 sShut (liG (nmF ts) ts 3000 [] true (4, false)).2) = _
  rw [hN]
 have f3 : Fwd ts (kn, bn) (wnF ts 5 sShut (kn, bn)) := .wn (by decide) _ g3.2.1
 have f5 : Fwd ts _ (wnF ts 1 wVALUES (wnF ts 5 sShut (kn, bn))) := .wn (by decide) wVALUES f3.2.1
 have hz2 := LiOk.zero (α := List Ex) hts f5.2.1
 have g6 := (liG_fwd (fun q _ h => rwF_fwd ts hts q h) 3000 [] true _ hz2).1
 have hI : insF ts (1, false) = (stmtI nT ns (liG (rwF ts) ts 3000 [] true (wnF ts 1 wVALUES (wnF ts 5 sShut (kn, bn)))).1, ((liG (rwF ts) ts 3000 [] true (wnF ts 1 wVALUES (wnF ts 5 sShut (kn, bn)))).2.1, (liG (rwF ts) ts 3000 [] true (wnF ts 1 wVALUES (wnF ts 5 sShut (kn, bn)))).2.2 || decide (16 < ns.length) || decide (32 < (liG (rwF ts) ts 3000 [] true (wnF ts 1 wVALUES (wnF ts 5 sShut (kn, bn)))).1.length))) := by
  unfold insF
  simp only [e1, e2, e3]
 rw [hI] at hgood ⊢
 have hb2 : ∀ q : Rs, (psF ts 5 sSemi q).2 = false → q.2 = false := fun q h => by
  cases hv : isF ts 5 sSemi q
  ·rw [psF_neg hv] at h; exact h
  ·rw [psF_pos hv] at h; exact h
 have hbad := hb2 _ (by rw [hgood])
 simp only [Bool.or_eq_false_iff] at hbad
 have hrg := hbad.1.1
 have h5g := g6.2.2 hrg
 have h3g := f5.2.2 h5g
 have hng : bn = false := f3.2.2 h3g
 subst hng
 have hS : isF ts 5 sShut (kn, false) = true := by
  cases hv : isF ts 5 sShut (kn, false)
  ·rw [wnF_neg hv] at h3g; simp at h3g
  ·rfl
 have e4 : wnF ts 5 sShut (kn, false) = (kn + 1, false) := wnF_pos hS
 rw [e4] at hgood hrg h5g hz2 g6 f5 hI ⊢
 have hV : isF ts 1 wVALUES (kn + 1, false) = true := by
  cases hv : isF ts 1 wVALUES (kn + 1, false)
  ·rw [wnF_neg hv] at h5g; simp at h5g
  ·rfl
 have e5 : wnF ts 1 wVALUES (kn + 1, false) = (kn + 2, false) := wnF_pos hV
 rw [e5] at hgood hrg hz2 g6 f5 hI ⊢
 obtain ⟨n1, s1⟩ := is_tok (by decide) hS
 obtain ⟨n2, s2⟩ := is_tok (by decide) hV
 obtain ⟨T, xs, h1, h2, h3⟩ := li_names 3000 [] 4 hz hN
 rw [List.nil_append] at h1
 subst h1
 rw [d4, s1, s2] at h3
 have hTN : N = T := by
  rcases List.append_eq_append_iff.1 h3 with ⟨A, hA1, hA2⟩ | ⟨A, hA1, hA2⟩
  ·cases A with
   | nil => simp at hA1; exact hA1.symm
   | cons a A =>
     simp only [List.cons_append, List.cons.injEq] at hA2
     have := h2.no a (by rw [hA1]; simp)
     rw [← hA2.1] at this
     rcases this with h | h <;> exact absurd rfl h
  ·cases A with
   | nil => simp at hA1; exact hA1
   | cons a A =>
     exfalso
     simp only [List.cons_append, List.cons.injEq] at hA2
     cases A with
     | nil =>
       simp only [List.nil_append, List.cons.injEq] at hA2
       have := congrArg Prod.fst hA2.2.1
       exact absurd this (by show (1 : Int) ≠ 5; decide)
     | cons a2 A =>
       simp only [List.cons_append, List.cons.injEq] at hA2
       have hd := hA2.2.2
       have hat : ts[kn + 2 + (A.length + 1)]? = some tVal := by
        have : (ts.drop (kn + 2))[A.length + 1]? = some tVal := by
         rw [hd, List.getElem?_append_right (by omega)]
         simp
        rwa [List.getElem?_drop] at this
       have hnv := liG_nv (k0 := kn + 2) (fun q h1 h2 => ⟨rwF_fwd ts hts q h2, fun hg => rwF_nv ts hts q h2 hg⟩) 3000 [] true (kn + 2, false) hz2 hrg
       have hlt := (List.getElem?_eq_some_iff.1 hat).1
       have hgood : psF ts 5 sSemi ((liG (rwF ts) ts 3000 [] true (kn + 2, false)).2.1, (liG (rwF ts) ts 3000 [] true (kn + 2, false)).2.2 || decide (16 < ns.length) || decide (32 < (liG (rwF ts) ts 3000 [] true (kn + 2, false)).1.length)) = (ts.length, false) := hgood
       generalize (liG (rwF ts) ts 3000 [] true (kn + 2, false)).2 = qr at *
       have hqr : ts.length ≤ qr.1 ∨ (qr.1 + 1 = ts.length ∧ ∃ n, ts[qr.1]? = some (5, sSemi, n)) := by
        cases hv : isF ts 5 sSemi (qr.1, qr.2 || decide (16 < ns.length) || decide (32 < (liG (rwF ts) ts 3000 [] true (kn + 2, false)).1.length))
        ·rw [psF_neg hv] at hgood
         exact .inl (Nat.le_of_eq (congrArg Prod.fst hgood).symm)
        ·rw [psF_pos hv] at hgood
         have hbb : (qr.2 || decide (16 < ns.length) || decide (32 < (liG (rwF ts) ts 3000 [] true (kn + 2, false)).1.length)) = false := congrArg Prod.snd hgood
         rw [hbb] at hv
         obtain ⟨n, hn⟩ := is_tok (by decide) hv
         refine .inr ⟨congrArg Prod.fst hgood, n, ?_⟩
         have : (ts.drop qr.1)[0]? = some (5, sSemi, n) := by rw [hn]; rfl
         rwa [List.getElem?_drop] at this
       rcases hqr with hq | ⟨hq1, n, hq2⟩
       ·exact hnv _ (by omega) (by omega) _ hat ⟨rfl, rfl⟩
       ·by_cases hp : kn + 2 + (A.length + 1) = qr.1
        ·rw [hp, hq2] at hat
         have := congrArg Prod.fst (Option.some.inj hat)
         exact absurd this (by show (5 : Int) ≠ 1; decide)
        ·exact hnv _ (by omega) (by omega) _ hat ⟨rfl, rfl⟩
 subst hTN
 have hd := List.append_cancel_left h3
 simp only [List.cons.injEq] at hd
 have e6 := row_lits hne hok h16 hd.2.2.symm
 have dend : ts.drop (kn + 2 + 1 + (toksV l).length + 1) = [] := by
  have := hd.2.2
  rw [show kn + 2 + 1 + (toksV l).length + 1 = kn + 2 + (1 + (toksV l).length + 1) by omega, ← List.drop_drop, ← this]
  refine List.drop_of_length_le ?_
  simp; omega
 have e7 : isF ts 5 sComma (kn + 2 + 1 + (toksV l).length + 1, false) = false := by
  unfold isF
  rw [pk_end dend]; rfl
 refine ⟨ns, h2, ?_⟩
 rw [liG_go, e6]
 simp only [e7, psF_neg e7]
 rw [liG_stop _ _ _ _ _ _ (.inl rfl)]
 rfl
end Go.Proofs.YtcnkmandddfdmaaGreatDoor
