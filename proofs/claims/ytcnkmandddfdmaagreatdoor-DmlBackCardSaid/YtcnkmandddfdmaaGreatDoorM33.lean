/- An insert parsed, told. Tokens of literals: what is read of them. Names found, types of bound expressions. -/
import Derived.Test.YtcnkmandddfdmaaGreatDoorM31
import Derived.Test.YtcnkmandddfdmaaGreatDoorM24
import Derived.Test.YtcnkmandddfdmaaGreatDoorM32
import Derived.Test.YtcnkmandddfdmaaGreatDoorM30
import Derived.Test.YtcnkmandddfdmaaGreatDoorM20
set_option linter.unusedSimpArgs false
set_option linter.unusedVariables false
set_option linter.defProp false
set_option maxRecDepth 100000
set_option maxHeartbeats 32000000
namespace Go.Proofs.YtcnkmandddfdmaaGreatDoor
open Go.RowKit
def tGn := aa wX <| aa wbu <| aa T3 <| aa T4 <| aa T9 <| aa T33 <| aa T36 <| aa T45 <| aa T64 <| aa T67 <| aa T69 T78
def sSemi : ByteArray := ⟨#[59]⟩
def wCREATE : ByteArray := ⟨#[67, 82, 69, 65, 84, 69]⟩
def wINSERT : ByteArray := ⟨#[73, 78, 83, 69, 82, 84]⟩
theorem lexB_code {rec : List UInt8 → LexO} {c : UInt8} {l : List UInt8} {e : Int} (hr : ∀ r, r.length ≤ l.length → ∀ e, rec r = .err e → e = 30 ∨ e = 35) (h : lexB rec c l = .err e) : e = 30 ∨ e = 35 := by
 have pre : ∀ (o : LexO) ts, o.pre ts = .err e → o = .err e := fun o ts h => by cases o <;> simp [LexO.pre] at h; rw [h]
 unfold lexB at h
 split at h
 ·exact hr l (Nat.le_refl _) e h
 ·split at h
  ·split at h
   ·exact hr _ (dw_len _ _) e (pre _ _ h)
   ·cases h; exact .inl rfl
  ·split at h
   ·split at h
    ·cases h; exact .inl rfl
    ·split at h
     ·exact hr _ (dw_len _ _) e (pre _ _ h)
     ·cases h; exact .inr rfl
   ·split at h
    ·split at h
     ·rename_i q hq
      split at h
      ·cases h; exact .inl rfl
      ·exact hr _ (by have := quoS_len l.length l q.1 q.2 (Nat.le_refl _) hq; omega) e (pre _ _ h)
     ·cases h
    ·split at h
     ·cases h; exact .inl rfl
     ·exact hr _ (by rw [List.length_drop]; omega) e (pre _ _ h)
theorem lexN_code : ∀ (n : Nat) (l : List UInt8) (e : Int), lexN n l = .err e → e = 30 ∨ e = 35
 | n, [], e, h => by cases n <;> simp [lexN] at h
 | 0, c :: l, e, h => by simp [lexN] at h
 | n + 1, c :: l, e, h => lexB_code (fun r _ e h => lexN_code n r e h) h
theorem lexB_len {rec : List UInt8 → LexO} {c : UInt8} {l : List UInt8} {ts : List Tok} (hr : ∀ r, r.length ≤ l.length → ∀ ts, rec r = .ok ts → ts.length ≤ r.length) (h : lexB rec c l = .ok ts) : ts.length ≤ l.length + 1 := by
 have pre : ∀ (o : LexO) (t : Tok), o.pre [t] = .ok ts → ∃ us, o = .ok us ∧ ts.length = us.length + 1 := fun o t h => by
  cases o <;> simp [LexO.pre] at h
  exact ⟨_, rfl, by rw [← h]; simp⟩
 unfold lexB at h
 split at h
 ·exact Nat.le_succ_of_le (hr l (Nat.le_refl _) ts h)
 ·split at h
  ·split at h
   ·obtain ⟨us, h1, h2⟩ := pre _ _ h
    have := hr _ (dw_len _ _) us h1
    have := dw_len isWb l
    omega
   ·cases h
  ·split at h
   ·split at h
    ·cases h
    ·split at h
     ·obtain ⟨us, h1, h2⟩ := pre _ _ h
      have := hr _ (dw_len _ _) us h1
      have := dw_len isDb l
      omega
     ·cases h
   ·split at h
    ·split at h
     ·rename_i q hq
      split at h
      ·cases h
      ·obtain ⟨us, h1, h2⟩ := pre _ _ h
       have hq := quoS_len l.length l q.1 q.2 (Nat.le_refl _) hq
       have := hr _ (by omega) us h1
       omega
     ·cases h
    ·split at h
     ·cases h
     ·obtain ⟨us, h1, h2⟩ := pre _ _ h
      have := hr _ (by rw [List.length_drop]; omega) us h1
      rw [List.length_drop] at this
      omega
theorem lexN_len : ∀ (n : Nat) (l : List UInt8) (ts : List Tok), lexN n l = .ok ts → ts.length ≤ l.length
 | n, [], ts, h => by cases n <;> simp [lexN] at h <;> subst h <;> simp
 | 0, c :: l, ts, h => by simp [lexN] at h
 | n + 1, c :: l, ts, h => lexB_len (fun r _ ts h => lexN_len n r ts h) h
theorem allS_code {s : ByteArray} {e : Int} (h : allS s = .err e) : e = 30 ∨ e = 35 := by
 unfold allS at h
 split at h
 ·cases h; exact .inl rfl
 ·exact lexN_code _ _ _ h
theorem allS_len {s : ByteArray} {ts : List Tok} (h : allS s = .ok ts) : ts.length ≤ 2048 := by
 unfold allS at h
 split at h
 ·cases h
 ·have := lexN_len _ _ _ h
  rw [bl_len] at this
  omega
theorem i64R_pk (ts : List Tok) (q : Rs) : i64R (pkF ts q).2.2 := by
 unfold pkF
 split
 ·decide
 ·split
  ·exact i64R_wrap _
  ·decide
theorem kdE_ok1 {k : Int} {x : Ex} (h : okE x) : okE (kdE k [x]) := okE_mk1 h
theorem kdE_ok2 {k : Int} {x y : Ex} (h : okE x) (g : okE y) : okE (kdE k [x, y]) := okE_mk2 h g
def JobOk : Job → Prop
 | .lop _ x _ _ => okE x
 | _ => True
theorem pgF_ok (ts : List Tok) : ∀ (m : Nat) (j : Job), JobOk j → okE (pgF ts m j).1
 | 0, j, _ => okE_ex0
 | m + 1, .fac q, _ => by
   have ih := pgF_ok ts m
   show okE (facB ts (pgF ts m) q).1
   unfold facB
   by_cases e : isF ts 5 sMinus q = true
   ·rw [if_pos e]; exact okE_mk1 (ih (.fac q.next) trivial)
   rw [if_neg e]
   by_cases h0 : (pkF ts q).1 = 0
   ·rw [if_pos h0]; exact okE_ex0
   rw [if_neg h0]
   by_cases h3 : (pkF ts q).1 = 3
   ·rw [if_pos h3]; exact okE_mk0 (i64R_pk ts q)
   rw [if_neg h3]
   by_cases h4 : (pkF ts q).1 = 4
   ·rw [if_pos h4]; exact okE_mk0
   rw [if_neg h4]
   by_cases h2 : (pkF ts q).1 = 2
   ·rw [if_pos h2]
    by_cases e2 : isF ts 5 sDot q.next = true
    ·rw [if_pos e2]; exact okE_mk0
    ·rw [if_neg e2]; exact okE_mk0
   rw [if_neg h2]
   by_cases g1 : ((pkF ts q).2.1.toList == wTRUE.toList) = true
   ·rw [if_pos g1]; exact okE_mk0
   rw [if_neg g1]
   by_cases g2 : ((pkF ts q).2.1.toList == wFALSE.toList) = true
   ·rw [if_pos g2]; exact okE_mk0
   rw [if_neg g2]
   by_cases g3 : ((pkF ts q).2.1.toList == wNULL.toList) = true
   ·rw [if_pos g3]; exact okE_mk0
   rw [if_neg g3]
   by_cases g4 : (pkF ts q).1 = 5 ∧ ((pkF ts q).2.1.toList == sOpen.toList) = true
   ·rw [if_pos g4]; exact ih (.exp 0 q.next) trivial
   rw [if_neg g4]
   cases hag : agGo (pkF ts q).2.1 0 agL with
   | none => exact okE_ex0
   | some i =>
     by_cases e2 : i = 0 ∧ isF ts 5 sStar (wnF ts 5 sOpen q.next) = true
     ·simp only [if_pos e2]; exact okE_mk0
     ·simp only [if_neg e2]; exact okE_mk1 (ih (.exp 0 _) trivial)
 | m + 1, .exp n q, _ => by
   have ih := pgF_ok ts m
   show okE (expB ts (pgF ts m) n q).1
   unfold expB
   split
   ·exact ih (.lop n (kdE 4 [_]) true _) (kdE_ok1 (k := 4) (ih (.exp 2 q.next) trivial))
   ·exact ih (.lop n _ false _) (ih (.fac q) trivial)
 | m + 1, .lop n x c q, hx => by
   have ih := pgF_ok ts m
   show okE (lopB ts (pgF ts m) n x c q).1
   unfold lopB
   split
   ·exact hx
   ·split
    ·exact ih (.lop n (kdE (bnF ts q).1 [_, _]) _ _) (kdE_ok2 (k := (bnF ts q).1) hx (ih (.exp _ q.next) trivial))
    ·split
     ·exact ih (.lop n (kdE (if isF ts 1 wNOT q.next = true then 19 else 18) [x]) _ _) (kdE_ok1 (k := if isF ts 1 wNOT q.next = true then 19 else 18) hx)
     ·exact hx
theorem liG_all {α : Type} {step : Rs → α × Rs} {ts : List Tok} {P : α → Prop} (hs : ∀ q, q.1 ≤ ts.length → Fwd ts q (step q).2 ∧ P (step q).1) : ∀ (g : Nat) (l : List α) (more : Bool) (q : Rs), q.1 ≤ ts.length → (∀ x ∈ l, P x) → ∀ x ∈ (liG step ts g l more q).1, P x
 | 0, l, more, q, hk, h => h
 | g + 1, l, more, q, hk, h => by
   by_cases hm : more = false ∨ q.2 = true
   ·rw [liG_stop _ _ _ _ _ _ hm]; exact h
   ·obtain ⟨k, b⟩ := q
    simp only [not_or, Bool.not_eq_false, Bool.not_eq_true] at hm
    obtain ⟨rfl, rfl⟩ := hm
    rw [liG_go]
    have hf := hs (k, false) hk
    exact liG_all hs g _ _ _ (Fwd.ps (by decide) _ hf.1.2.1).2.1 (mem_snoc h hf.2)
theorem insF_bd (ts : List Tok) (hts : ts.length ≤ 2048) (q : Rs) (hk : q.1 ≤ ts.length) : Bd (insF ts q).1 ∧ Fwd ts q (insF ts q).2 := by
 have f1 : Fwd ts q (wnF ts 1 wINTO q) := .wn (by decide) _ hk
 have f2 := nmF_fwd ts _ f1.2.1
 have hcs : Fwd ts (nmF ts (wnF ts 1 wINTO q)).2 (colsF ts (nmF ts (wnF ts 1 wINTO q)).2).2 ∧ (colsF ts (nmF ts (wnF ts 1 wINTO q)).2).1.length ≤ ts.length + 1 := by
  generalize (nmF ts (wnF ts 1 wINTO q)).2 = q2 at f2
  by_cases hO : isF ts 5 sOpen q2 = true
  ·have hlt := (isF_in (by decide) hO).2
   have g3 := liG_fwd (k0 := q2.next.1) (fun q _ h => nmF_fwd ts q h) 3000 [] true q2.next (LiOk.zero hts hlt)
   simp only [colsF, hO, if_true]
   exact ⟨(Fwd.next hlt).trans (g3.1.trans (.wn (by decide) _ g3.1.2.1)), g3.2⟩
  ·simp only [colsF, hO]
   exact ⟨.refl f2.2.1, Nat.zero_le _⟩
 have f5 : Fwd ts _ (wnF ts 1 wVALUES (colsF ts (nmF ts (wnF ts 1 wINTO q)).2).2) := .wn (by decide) wVALUES hcs.1.2.1
 have g6 := liG_fwd (k0 := (wnF ts 1 wVALUES (colsF ts (nmF ts (wnF ts 1 wINTO q)).2).2).1) (fun q _ h => rwF_fwd ts hts q h) 3000 [] true _ (LiOk.zero hts f5.2.1)
 have hall := liG_all (step := rwF ts) (ts := ts) (P := fun r => r.length ≤ 2050 ∧ okEL r) (fun q' hq' => ⟨rwF_fwd ts hts q' hq', by
  have h1 : Fwd ts q' (wnF ts 5 sOpen q') := .wn (by decide) _ hq'
  have h2 := xsF_fwd ts hts _ h1.2.1
  refine ⟨by show (xsF ts (wnF ts 5 sOpen q')).1.length ≤ 2050; omega, okEL_iff.2 ?_⟩
  exact liG_all (step := exF ts) (ts := ts) (P := okE) (fun q hq => ⟨exF_fwd ts hts q hq, pgF_ok ts 5000 (.exp 0 q) trivial⟩) 3000 [] true _ h1.2.1 (by simp)⟩) 3000 [] true _ f5.2.1 (by simp)
 refine ⟨?_, ?_⟩
 ·simp only [insF, stmtI]
  constructor <;> simp only [okEL, List.length_nil, List.not_mem_nil, false_imp_iff, implies_true, and_true] <;> first | omega | exact hall | skip
 ·have := f1.trans (f2.trans (hcs.1.trans (f5.trans g6.1)))
  exact ⟨this.1, this.2.1, fun e => this.2.2 (by simp only [insF, Bool.or_eq_false_iff] at e; exact e.1.1)⟩
def GoodI (txt : ByteArray) (s : Sm) : Prop := ∃ ts, allS txt = .ok ts ∧ s = (insF ts (1, false)).1 ∧ psF ts 5 sSemi (insF ts (1, false)).2 = (ts.length, false)
def ParI (txt : ByteArray) (r : AV) : Prop := ∃ (s : Sm) (e : Int), r = .tup [.agg ((smC s).map .p), intV .i64 e] ∧ (e = 0 → GoodI txt s) ∧ Bd s
theorem aparseI (txt : ByteArray) (h1 : ∀ ts, allS txt = .ok ts → isF ts 1 wINSERT (0, false) = true ∧ isF ts 1 wCREATE (0, false) = false) (σ : St) : ACalls Tryz.prog 7 [.p (.v (.string txt))] σ fun r s => s = σ ∧ ParI txt r := by
 refine ACalls.pureF ?_ rfl σ
 have hA := aallF txt
 refine acalls_of cx_ok dr_ok Tryz.func7 (by kernel_rfl) rfl (nt := 101) (rs := [.cell 2 36, .tmp 3]) rfl rfl ?_
 have hcase : (∃ ts, allS txt = .ok ts) ∨ ∃ e, (allS txt).toks = [] ∧ (allS txt).code = e ∧ e ≠ 0 := by
  cases h : allS txt with
  | ok ts => exact .inl ⟨ts, rfl⟩
  | err e => exact .inr ⟨e, rfl, rfl, by rcases allS_code h with rfl | rfl <;> decide⟩
  | opn => exact .inr ⟨30, rfl, rfl, by decide⟩
 rcases hcase with ⟨ts, hts⟩ | ⟨e, he1, he2, he3⟩
 ·have hlen := allS_len hts
  obtain ⟨hI, hC⟩ := h1 ts hts
  rw [hts] at hA
  simp only [allR, LexO.toks, LexO.code] at hA
  have c1 := arwF wCREATE ts hlen (0, false)
  have c2 := arwF wINSERT ts hlen (0, false)
  rw [hC, psF_neg hC] at c1
  rw [hI, psF_pos hI] at c2
  have hlt := (isF_in (by decide) hI).2
  simp only at hlt
  have c3 := ainsF ts hlen (Rs.next (0, false)) hlt
  obtain ⟨hbd, hfw⟩ := insF_bd ts hlen (Rs.next (0, false)) hlt
  have hst : ∃ nm ns rows, (insF ts (Rs.next (0, false))).1 = stmtI nm ns rows := ⟨_, _, _, rfl⟩
  have hgood : psF ts 5 sSemi (insF ts (Rs.next (0, false))).2 = (ts.length, false) → GoodI txt (insF ts (Rs.next (0, false))).1 := fun h => ⟨ts, hts, rfl, h⟩
  obtain ⟨⟨st, q1⟩, hr⟩ : ∃ r, insF ts (Rs.next (0, false)) = r := ⟨_, rfl⟩
  rw [hr] at c3 hbd hfw hst hgood
  simp only at hbd hst hgood
  obtain ⟨nm, ns, rows, rfl⟩ := hst
  have c4 := arsF sSemi ts hlen q1
  obtain ⟨v, hv⟩ : ∃ v, isF ts 5 sSemi q1 = v := ⟨_, rfl⟩
  obtain ⟨⟨k2, b2⟩, h2⟩ : ∃ v, psF ts 5 sSemi q1 = v := ⟨_, rfl⟩
  rw [hv, h2] at c4
  rw [h2] at hgood
  have hal := aallE (stmtI nm ns rows) hbd
  simp only [smC, stmtI, List.map_cons, List.map_nil, Rs.next, wCREATE, wINSERT, sSemi] at c1 c2 c3 c4 hal
  obtain ⟨k1, b1⟩ := q1
  cases b2
  ·cases hQ : (((k2 : Nat) : Int) != (ts.length : Int))
   ·obtain rfl : k2 = ts.length := by have := bne_eq_false_iff_eq.1 hQ; omega
    have hgood := hgood rfl
    repeat' first | ((with_reducible first | refine cs ?_ ?_ | refine ws ?_ ?_) <;> intro h <;> try simp only [h]) | simp only [↓wBA, tGn, convA, seval, len_nilT, hQ] | ((with_reducible show ACalls _ _ _ _ _); first | refine (hA _).eq ?_ | (refine (c1 _ 1 rfl).mono ?_; rintro _ _ ⟨_, ⟨rfl, rfl⟩, rfl⟩; simp only [rdS, rdO]) | (refine (c2 _ 1 rfl).mono ?_; rintro _ _ ⟨_, ⟨rfl, rfl⟩, rfl⟩; simp only [rdS, rdO]) | (refine (c3 _ 1 rfl).mono ?_; rintro _ _ ⟨_, ⟨rfl, rfl⟩, rfl⟩; simp only [rdS, rdO]) | (refine (c4 _ 1 rfl).mono ?_; rintro _ _ ⟨_, ⟨rfl, rfl⟩, rfl⟩; simp only [rdS, rdO]))
    refine (hal _).mono ?_
    rintro _ _ ⟨rfl, xs, rfl, hxl, hxo⟩
    repeat' first | ((with_reducible first | refine cs ?_ ?_ | refine ws ?_ ?_) <;> intro h <;> try simp only [h]) | simp only [↓wBA, tGn, convA, seval]
    refine awp_loopN (xs.length) (fun i => [(9, intV .i64 (i : Nat)), (3, .any), (88, .any), (89, .any), (90, .any), (91, .any), (92, .any), (93, .any), (94, .any), (95, .any), (96, .any), (97, .any), (98, .any), (99, .any), (100, .any)]) (fun i => []) (fun i => True) ?_ ?_ ?_
    ·trivial
    ·skip
     simp only [wR, Nat.reduceAdd, Nat.reduceLT, reduceIte]
     simp [wW]
    ·intro i hi _
     simp only [wR, Nat.reduceAdd, Nat.reduceLT, reduceIte]
     by_cases hltx : i < xs.length
     ·have hdec := dT (i := i) (n := xs.length) hltx
      have hi0 := nnI i
      have hw := wI i (by omega)
      have hg := exL_get xs i hltx
      repeat' first | ((with_reducible first | refine cs ?_ ?_ | refine ws ?_ ?_) <;> intro h <;> try simp only [h]) | simp only [↓wBA, tGn, convA, seval, exL_len, hdec, hi0, hg, exC_len, List.length_map, hw] | ((with_reducible show ACalls _ _ _ _ _); refine (aheight xs[i] (okEL_iff.1 hxo _ (List.getElem_mem hltx)) _).eq ?_)
      ·exact ret_sl (R := ParI txt) (r1 := .tup [.agg ((smC sm0).map .p), intV .i64 31]) rfl (by simp [leT, leG, leC, leA, leM, sm0, intV, tokLt, smC, nilSl, exC, exL, enS, enR, emp, leaf, nilA, List.map_nil, List.map_cons]) rfl ⟨sm0, 31, rfl, fun h => absurd h (by decide), bd0⟩
      ·skip
       refine ⟨⟨i + 1, by omega, ?_⟩, by show xs.length - (i + 1) < xs.length - i; omega, ?_⟩
       ·trivial
       ·skip
        simp only [wR, Nat.reduceAdd, Nat.reduceLT, reduceIte]
        simp [wW]
     ·have hdec := dF (i := i) (n := xs.length) hltx
      repeat' first | ((with_reducible first | refine cs ?_ ?_ | refine ws ?_ ?_) <;> intro h <;> try simp only [h]) | simp only [↓wBA, tGn, convA, seval, exL_len, hdec]
      exact ret_sl (R := ParI txt) (r1 := .tup [.agg ((smC (stmtI nm ns rows)).map .p), intV .i64 0]) rfl (by simp [leT, leG, leC, leA, leM, intV, tokLt, tokLtL, stmtI, smC, nilSl, exC, exL, enS, enR, emp, leaf, nilA, List.map_nil, List.map_cons]) rfl ⟨stmtI nm ns rows, 0, rfl, fun _ => hgood, hbd⟩
   ·skip
    repeat' first | ((with_reducible first | refine cs ?_ ?_ | refine ws ?_ ?_) <;> intro h <;> try simp only [h]) | simp only [↓wBA, tGn, convA, seval, len_nilT, hQ] | ((with_reducible show ACalls _ _ _ _ _); first | refine (hA _).eq ?_ | (refine (c1 _ 1 rfl).mono ?_; rintro _ _ ⟨_, ⟨rfl, rfl⟩, rfl⟩; simp only [rdS, rdO]) | (refine (c2 _ 1 rfl).mono ?_; rintro _ _ ⟨_, ⟨rfl, rfl⟩, rfl⟩; simp only [rdS, rdO]) | (refine (c3 _ 1 rfl).mono ?_; rintro _ _ ⟨_, ⟨rfl, rfl⟩, rfl⟩; simp only [rdS, rdO]) | (refine (c4 _ 1 rfl).mono ?_; rintro _ _ ⟨_, ⟨rfl, rfl⟩, rfl⟩; simp only [rdS, rdO]))
    exact ret_sl (R := ParI txt) (r1 := .tup [.agg ((smC sm0).map .p), intV .i64 30]) rfl (by simp [leT, leG, leC, leA, leM, sm0, intV, tokLt, smC, nilSl, exC, exL, enS, enR, emp, leaf, nilA, List.map_nil, List.map_cons]) rfl ⟨sm0, 30, rfl, fun h => absurd h (by decide), bd0⟩
  ·skip
   repeat' first | ((with_reducible first | refine cs ?_ ?_ | refine ws ?_ ?_) <;> intro h <;> try simp only [h]) | simp only [↓wBA, tGn, convA, seval, len_nilT] | ((with_reducible show ACalls _ _ _ _ _); first | refine (hA _).eq ?_ | (refine (c1 _ 1 rfl).mono ?_; rintro _ _ ⟨_, ⟨rfl, rfl⟩, rfl⟩; simp only [rdS, rdO]) | (refine (c2 _ 1 rfl).mono ?_; rintro _ _ ⟨_, ⟨rfl, rfl⟩, rfl⟩; simp only [rdS, rdO]) | (refine (c3 _ 1 rfl).mono ?_; rintro _ _ ⟨_, ⟨rfl, rfl⟩, rfl⟩; simp only [rdS, rdO]) | (refine (c4 _ 1 rfl).mono ?_; rintro _ _ ⟨_, ⟨rfl, rfl⟩, rfl⟩; simp only [rdS, rdO]))
   exact ret_sl (R := ParI txt) (r1 := .tup [.agg ((smC sm0).map .p), intV .i64 30]) rfl (by simp [leT, leG, leC, leA, leM, sm0, intV, tokLt, smC, nilSl, exC, exL, enS, enR, emp, leaf, nilA, List.map_nil, List.map_cons]) rfl ⟨sm0, 30, rfl, fun h => absurd h (by decide), bd0⟩
 ·simp only [allR, he1, he2] at hA
  have hE : (e != 0) = true := by simpa using he3
  repeat' first | ((with_reducible first | refine cs ?_ ?_ | refine ws ?_ ?_) <;> intro h <;> try simp only [h]) | simp only [↓wBA, tGn, convA, seval, hE] | ((with_reducible show ACalls _ _ _ _ _); refine (hA _).eq ?_)
  exact ret_sl (R := ParI txt) (r1 := .tup [.agg ((smC sm0).map .p), intV .i64 e]) rfl (by simp [leT, leG, leC, leA, leM, sm0, intV, tokLt, smC, nilSl, exC, exL, enS, enR, emp, leaf, nilA, List.map_nil, List.map_cons]) rfl ⟨sm0, e, rfl, fun h => absurd h he3, bd0⟩
end Go.Proofs.YtcnkmandddfdmaaGreatDoor
namespace Go.Proofs.YtcnkmandddfdmaaGreatDoor
open Go.RowKit
def litX (v : Va) : Ex :=
 if v.1 = 1 then (if v.2.1 < 0 then kdE 3 [lfE 1 1 (-v.2.1) emp emp emp] else lfE 1 1 v.2.1 emp emp emp)
 else if v.1 = 2 then (if v.2.1 = 1 then lfE 1 2 1 emp emp emp else lfE 1 2 0 emp emp emp)
 else if v.1 = 3 then lfE 1 3 0 v.2.2 emp emp else lfE 1 0 0 emp emp emp
theorem pk_drop {ts : List Tok} {k : Nat} {t : Tok} {r : List Tok} (h : ts.drop k = t :: r) : pkF ts (k, false) = (t.1, t.2.1, IntKind.i64.wrap t.2.2) ∧ ts.drop (k + 1) = r ∧ k < ts.length := by
 have hlt : k < ts.length := by
  rcases Nat.lt_or_ge k ts.length with h1 | h1
  ·exact h1
  ·rw [List.drop_of_length_le h1] at h; simp at h
 rw [List.drop_eq_getElem_cons hlt] at h
 have h1 := List.cons.inj h
 refine ⟨?_, h1.2, hlt⟩
 rw [pkF_at ts k hlt, h1.1]
theorem pk_end {ts : List Tok} {k : Nat} (h : ts.drop k = []) : pkF ts (k, false) = zT := pkF_end ts k (by
 intro h1
 rw [List.drop_eq_getElem_cons h1] at h; simp at h; try omega)
def EndT (t : Tok) : Prop := t = tComma ∨ t = tShut
theorem bn_end {ts : List Tok} {k : Nat} {t : Tok} {r : List Tok} (h : ts.drop k = t :: r) (ht : EndT t) : bnF ts (k, false) = (0, 0) ∧ isF ts 1 wIS (k, false) = false := by
 obtain ⟨h1, _, _⟩ := pk_drop h
 rcases ht with rfl | rfl
 ·constructor
  ·unfold bnF; rw [h1]
   simp [opsGo, opsL, opM, tComma, sComma, ByteArray.toList_eq]
  ·unfold isF; rw [h1]; rfl
 ·constructor
  ·unfold bnF; rw [h1]
   simp [opsGo, opsL, opM, tShut, sShut, ByteArray.toList_eq]
  ·unfold isF; rw [h1]; rfl
theorem lop_end {ts : List Tok} {k : Nat} {t : Tok} {r : List Tok} (h : ts.drop k = t :: r) (ht : EndT t) (m : Nat) (n : Int) (x : Ex) (c : Bool) : pgF ts (m + 1) (.lop n x c (k, false)) = (x, (k, false)) := by
 obtain ⟨h1, h2⟩ := bn_end h ht
 show lopB ts (pgF ts m) n x c (k, false) = _
 unfold lopB
 rw [h1]
 simp [h2]
theorem isF_kd {ts : List Tok} {k : Nat} {kd : Int} {s : ByteArray} {t : Tok} {r : List Tok} (h : ts.drop k = t :: r) (hne : t.1 ≠ kd) : isF ts kd s (k, false) = false := by
 unfold isF
 rw [(pk_drop h).1]
 simp [hne]
theorem isF_tx {ts : List Tok} {k : Nat} {kd : Int} {s : ByteArray} {t : Tok} {r : List Tok} (h : ts.drop k = t :: r) (hne : t.2.1.toList ≠ s.toList) : isF ts kd s (k, false) = false := by
 unfold isF
 rw [(pk_drop h).1]
 simp [hne]
theorem isF_is {ts : List Tok} {k : Nat} {kd : Int} {s : ByteArray} {t : Tok} {r : List Tok} (h : ts.drop k = t :: r) (h1 : t.1 = kd) (h2 : t.2.1 = s) : isF ts kd s (k, false) = true := by
 unfold isF
 rw [(pk_drop h).1]
 simp [h1, h2]
theorem fac_one {ts : List Tok} {k : Nat} {t : Tok} {r : List Tok} (h : ts.drop k = t :: r) (m : Nat) :
 (t.1 = 3 → pgF ts (m + 1) (.fac (k, false)) = (lfE 1 1 (IntKind.i64.wrap t.2.2) emp emp emp, (k + 1, false))) ∧
 (t.1 = 4 → pgF ts (m + 1) (.fac (k, false)) = (lfE 1 3 0 t.2.1 emp emp, (k + 1, false))) ∧
 (t.1 = 1 → t.2.1 = wTRUE → pgF ts (m + 1) (.fac (k, false)) = (lfE 1 2 1 emp emp emp, (k + 1, false))) ∧
 (t.1 = 1 → t.2.1 = wFALSE → pgF ts (m + 1) (.fac (k, false)) = (lfE 1 2 0 emp emp emp, (k + 1, false))) ∧
 (t.1 = 1 → t.2.1 = wNULL → pgF ts (m + 1) (.fac (k, false)) = (lfE 1 0 0 emp emp emp, (k + 1, false))) := by
 obtain ⟨hp, _, _⟩ := pk_drop h
 refine ⟨fun h1 => ?_, fun h1 => ?_, fun h1 h2 => ?_, fun h1 h2 => ?_, fun h1 h2 => ?_⟩
 all_goals
  show facB ts (pgF ts m) (k, false) = _
  have hm : isF ts 5 sMinus (k, false) = false := isF_kd h (by rw [h1]; decide)
  unfold facB
  rw [hm, hp]
  simp only [h1]
 ·rfl
 ·rfl
 ·rw [h2]; simp [ByteArray.toList_eq, wTRUE, wFALSE, wNULL, Rs.next]
 ·rw [h2]; simp [ByteArray.toList_eq, wTRUE, wFALSE, wNULL, Rs.next]
 ·rw [h2]; simp [ByteArray.toList_eq, wTRUE, wFALSE, wNULL, Rs.next]
theorem okV_num {v : Va} (hok : okV v = true) (h2 : v.1 = 2) : v.2.1 = 0 ∨ v.2.1 = 1 := by
 simp only [okV, h2] at hok
 have hf : Int.fdiv v.2.1 2 = v.2.1 / 2 := Int.fdiv_eq_ediv_of_nonneg _ (by decide)
 rw [hf] at hok
 simp at hok
 omega
theorem ex_lit {ts : List Tok} {k : Nat} {v : Va} {t : Tok} {r : List Tok} (hok : okV v = true) (hn : v.1 = 1 → -9223372036854775807 ≤ v.2.1 ∧ v.2.1 ≤ 9223372036854775807) (h : ts.drop k = tokV v ++ t :: r) (ht : EndT t) : exF ts (k, false) = (litX v, (k + (tokV v).length, false)) := by
 have key : ∀ (t0 : Tok) (r0 : List Tok) (x : Ex) (k' : Nat), ts.drop k = t0 :: r0 → t0.2.1.toList ≠ wNOT.toList → ts.drop k' = t :: r → pgF ts 4999 (.fac (k, false)) = (x, (k', false)) → exF ts (k, false) = (x, (k', false)) := by
  intro t0 r0 x k' h0 hne hk' hx
  show expB ts (pgF ts 4999) 0 (k, false) = _
  unfold expB
  rw [isF_tx h0 hne]
  simp only [Bool.false_eq_true, and_false, if_false]
  rw [hx]
  exact lop_end hk' ht 4998 0 x false
 obtain ⟨vk, vn, vs⟩ := v
 unfold tokV at h ⊢
 unfold litX
 simp only at hn h ⊢
 by_cases h1 : vk = 1
 ·obtain ⟨a, b⟩ := hn h1
  rw [if_pos h1] at h ⊢
  rw [if_pos h1]
  by_cases hneg : vn < 0
  ·rw [if_pos hneg] at h ⊢
   rw [if_pos hneg]
   simp only [List.cons_append, List.nil_append] at h
   obtain ⟨hp, hd, hlt⟩ := pk_drop h
   obtain ⟨hp2, hd2, hlt2⟩ := pk_drop hd
   refine key _ _ _ (k + 2) h (by simp [sMinus, wNOT, ByteArray.toList_eq]) hd2 ?_
   show facB ts (pgF ts 4998) (k, false) = _
   unfold facB
   rw [isF_is h rfl rfl, if_pos rfl]
   have := (fac_one hd 4997).1 rfl
   show (kdE 3 [(pgF ts 4998 (.fac (k + 1, false))).1], (pgF ts 4998 (.fac (k + 1, false))).2) = _
   rw [this, wrap_i64 (by show -9223372036854775808 ≤ -vn; omega) (by show -vn ≤ 9223372036854775807; omega)]
  ·rw [if_neg hneg] at h ⊢
   rw [if_neg hneg]
   simp only [List.cons_append, List.nil_append] at h
   obtain ⟨hp, hd, hlt⟩ := pk_drop h
   refine key _ _ _ (k + 1) h (by simp [emp, wNOT, ByteArray.toList_eq]) hd ?_
   rw [(fac_one h 4998).1 rfl, wrap_i64 (by show -9223372036854775808 ≤ vn; omega) (by show vn ≤ 9223372036854775807; omega)]
 ·rw [if_neg h1] at h ⊢
  rw [if_neg h1]
  by_cases h2 : vk = 2
  ·rw [if_pos h2] at h ⊢
   rw [if_pos h2]
   by_cases hb : vn = 1
   ·rw [if_pos hb] at h ⊢
    rw [if_pos hb]
    simp only [List.cons_append, List.nil_append] at h
    exact key _ _ _ (k + 1) h (by simp [wTRUE, wNOT, ByteArray.toList_eq]) (pk_drop h).2.1 ((fac_one h 4998).2.2.1 rfl rfl)
   ·rw [if_neg hb] at h ⊢
    rw [if_neg hb]
    simp only [List.cons_append, List.nil_append] at h
    exact key _ _ _ (k + 1) h (by simp [wFALSE, wNOT, ByteArray.toList_eq]) (pk_drop h).2.1 ((fac_one h 4998).2.2.2.1 rfl rfl)
  ·rw [if_neg h2] at h ⊢
   rw [if_neg h2]
   by_cases h3 : vk = 3
   ·rw [if_pos h3] at h ⊢
    rw [if_pos h3]
    simp only [List.cons_append, List.nil_append] at h
    show expB ts (pgF ts 4999) 0 (k, false) = _
    unfold expB
    rw [isF_kd h (show (4 : Int) ≠ 1 by decide)]
    simp only [Bool.false_eq_true, and_false, if_false]
    rw [(fac_one h 4998).2.1 rfl]
    exact lop_end (pk_drop h).2.1 ht 4998 0 _ false
   ·rw [if_neg h3] at h ⊢
    rw [if_neg h3]
    simp only [List.cons_append, List.nil_append] at h
    exact key _ _ _ (k + 1) h (by simp [wNULL, wNOT, ByteArray.toList_eq]) (pk_drop h).2.1 ((fac_one h 4998).2.2.2.2 rfl rfl)
def LitOk (v : Va) : Prop := okV v = true ∧ (v.1 = 1 → -9223372036854775807 ≤ v.2.1 ∧ v.2.1 ≤ 9223372036854775807)
def toksV : List Va → List Tok
 | [] => []
 | [v] => tokV v
 | v :: w :: l => tokV v ++ tComma :: toksV (w :: l)
theorem li_lits {ts : List Tok} : ∀ (l : List Va) (k : Nat) (acc : List Ex) (g : Nat) (r : List Tok), l ≠ [] → (∀ v ∈ l, LitOk v) → l.length < g → ts.drop k = toksV l ++ tShut :: r → liG (exF ts) ts g acc true (k, false) = (acc ++ l.map litX, (k + (toksV l).length, false))
 | [], k, acc, g, r, hne, hok, hg, h => absurd rfl hne
 | [v], k, acc, g, r, hne, hok, hg, h => by
   obtain ⟨g, rfl⟩ : ∃ g0, g = g0 + 1 := ⟨g - 1, by simp at hg; omega⟩
   have hv := hok v (by simp)
   simp only [toksV] at h
   have he := ex_lit hv.1 hv.2 h (.inr rfl)
   have hd : ts.drop (k + (tokV v).length) = tShut :: r := by rw [← List.drop_drop, h, List.drop_left]
   rw [liG_go, he]
   have hc : isF ts 5 sComma (k + (tokV v).length, false) = false := isF_tx hd (by simp [tShut, sShut, sComma, ByteArray.toList_eq])
   simp only [hc, psF_neg hc]
   rw [liG_stop _ _ _ _ _ _ (.inl rfl)]
   rfl
 | v :: w :: l, k, acc, g, r, hne, hok, hg, h => by
   obtain ⟨g, rfl⟩ : ∃ g0, g = g0 + 1 := ⟨g - 1, by simp at hg; omega⟩
   have hv := hok v (by simp)
   simp only [toksV, List.append_assoc, List.cons_append] at h
   have he := ex_lit hv.1 hv.2 h (.inl rfl)
   have hd : ts.drop (k + (tokV v).length) = tComma :: (toksV (w :: l) ++ tShut :: r) := by rw [← List.drop_drop, h, List.drop_left]
   rw [liG_go, he]
   have hc : isF ts 5 sComma (k + (tokV v).length, false) = true := isF_is hd rfl rfl
   simp only [hc, psF_pos hc]
   have := li_lits (w :: l) (k + (tokV v).length + 1) (acc ++ [litX v]) g r (by simp) (fun u hu => hok u (List.mem_cons_of_mem _ hu)) (by simp at hg ⊢; omega) (pk_drop hd).2.1
   show liG (exF ts) ts g (acc ++ [litX v]) true (k + (tokV v).length + 1, false) = _
   rw [this]
   simp only [List.append_assoc, List.map_cons, List.cons_append, List.nil_append, toksV, List.length_append, List.length_cons]
   refine congrArg _ (congrArg (fun x => (x, false)) ?_)
   omega
theorem row_lits {ts : List Tok} {l : List Va} {k : Nat} {r : List Tok} (hne : l ≠ []) (hok : ∀ v ∈ l, LitOk v) (h16 : l.length ≤ 16) (h : ts.drop k = tOpen :: (toksV l ++ tShut :: r)) : rwF ts (k, false) = (l.map litX, (k + 1 + (toksV l).length + 1, false)) := by
 have ho : isF ts 5 sOpen (k, false) = true := isF_is h rfl rfl
 have hd := (pk_drop h).2.1
 have hl := li_lits l (k + 1) [] 3000 r hne hok (by omega) hd
 have hd2 : ts.drop (k + 1 + (toksV l).length) = tShut :: r := by rw [← List.drop_drop, hd, List.drop_left]
 have hs : isF ts 5 sShut (k + 1 + (toksV l).length, false) = true := isF_is hd2 rfl rfl
 have hx : xsF ts (k + 1, false) = (l.map litX, (k + 1 + (toksV l).length, false)) := by
  unfold xsF
  rw [hl]
  simp
  omega
 unfold rwF
 rw [wnF_pos ho]
 show ((xsF ts (k + 1, false)).1, wnF ts 5 sShut (xsF ts (k + 1, false)).2) = _
 rw [hx]
 simp only
 rw [wnF_pos hs]
 rfl
theorem ins_one {ts : List Tok} {l : List Va} (hne : l ≠ []) (hok : ∀ v ∈ l, LitOk v) (h16 : l.length ≤ 16) (h : ts = [(1, wINS, 0), (1, ⟨#[73, 78, 84, 79]⟩, 0), (2, nT, 0), tVal, tOpen] ++ (toksV l ++ [tShut])) : (insF ts (1, false)).1 = stmtI nT [] [l.map litX] := by
 have d1 : ts.drop 1 = (1, ⟨#[73, 78, 84, 79]⟩, 0) :: (2, nT, 0) :: tVal :: tOpen :: (toksV l ++ [tShut]) := by rw [h]; rfl
 obtain ⟨p1, d2, _⟩ := pk_drop d1
 obtain ⟨p2, d3, _⟩ := pk_drop d2
 obtain ⟨p3, d4, _⟩ := pk_drop d3
 have e1 : wnF ts 1 wINTO (1, false) = (2, false) := wnF_pos (isF_is d1 rfl rfl)
 have e2 : nmF ts (2, false) = (nT, (3, false)) := by
  unfold nmF anF
  rw [p2]; rfl
 have e3 : colsF ts (3, false) = ([], (3, false)) := by
  unfold colsF
  rw [isF_kd d3 (by decide)]; rfl
 have e4 : wnF ts 1 wVALUES (3, false) = (4, false) := wnF_pos (isF_is d3 rfl rfl)
 have e5 := row_lits hne hok h16 d4
 have dend : ts.drop (4 + 1 + (toksV l).length + 1) = [] := by
  refine List.drop_of_length_le ?_
  rw [h]; simp; omega
 have e6 : isF ts 5 sComma (4 + 1 + (toksV l).length + 1, false) = false := by
  unfold isF
  rw [pk_end dend]; rfl
 unfold insF
 simp only [e1, e2, e3, e4]
 rw [liG_go, e5]
 simp only [e6, psF_neg e6]
 rw [liG_stop _ _ _ _ _ _ (.inl rfl)]
 rfl
end Go.Proofs.YtcnkmandddfdmaaGreatDoor
namespace Go.Proofs.YtcnkmandddfdmaaGreatDoor
open Go.RowKit
def tBi := aa wX <| aa wbu <| aa T3 <| aa T9 <| aa T87 T137
abbrev Bc := ByteArray × ByteArray × Int
def bcC (c : Bc) : List PV := [.v (.string c.1), .v (.string c.2.1), .v (.int .i64 c.2.2)]
def enBc (l : List Bc) : List (List PV) := l.map bcC
theorem enBc_len (l : List Bc) : (enBc l).length = l.length := by simp [enBc]
theorem enBc_get (l : List Bc) (i : Nat) (h : i < l.length) : (enBc l)[i]? = some (bcC l[i]) := by simp [enBc, h]
def mBc (tb nm : ByteArray) (c : Bc) : Bool := c.2.1.toList == nm.toList && (tb.toList == emp.toList || c.1.toList == tb.toList)
def fStep (tb nm : ByteArray) (s : Nat × Int × Bool) (c : Bc) : Nat × Int × Bool := (s.1 + 1, if mBc tb nm c then (s.1 : Int) else s.2.1, s.2.2 || (mBc tb nm c && decide (0 ≤ s.2.1)))
def fGo (tb nm : ByteArray) (l : List Bc) : Nat × Int × Bool := l.foldl (fStep tb nm) (0, -1, false)
def findS (tb nm : ByteArray) (cols : List Bc) : Int × Int := if (fGo tb nm cols).2.2 = true ∨ (fGo tb nm cols).2.1 < 0 then (0, 32) else ((fGo tb nm cols).2.1, 0)
theorem fold_step {α β : Type} (f : β → α → β) (b : β) (l : List α) (i : Nat) (h : i < l.length) : (l.take (i + 1)).foldl f b = f ((l.take i).foldl f b) l[i] := by
 rw [List.take_succ_eq_append_getElem h, List.foldl_append]; rfl
theorem fGo_bad (tb nm : ByteArray) : ∀ (l : List Bc) (s : Nat × Int × Bool), s.2.2 = true → (l.foldl (fStep tb nm) s).2.2 = true
 | [], s, h => h
 | c :: l, s, h => fGo_bad tb nm l _ (by simp [fStep, h])
theorem fGo_take (tb nm : ByteArray) (l : List Bc) (i : Nat) (h : (fGo tb nm (l.take i)).2.2 = true) : (fGo tb nm l).2.2 = true := by
 have : l = l.take i ++ l.drop i := (List.take_append_drop i l).symm
 rw [fGo, this, List.foldl_append]
 exact fGo_bad tb nm _ _ h
theorem fGo_inv (tb nm : ByteArray) : ∀ (l : List Bc) (s : Nat × Int × Bool), -1 ≤ s.2.1 → s.2.1 < s.1 → (l.foldl (fStep tb nm) s).1 = s.1 + l.length ∧ -1 ≤ (l.foldl (fStep tb nm) s).2.1 ∧ (l.foldl (fStep tb nm) s).2.1 < (l.foldl (fStep tb nm) s).1
 | [], s, h1, h2 => ⟨by simp, h1, h2⟩
 | c :: l, s, h1, h2 => by
   have := fGo_inv tb nm l (fStep tb nm s c) (by simp only [fStep]; split <;> omega) (by simp only [fStep]; split <;> omega)
   simp only [List.foldl_cons, List.length_cons]
   refine ⟨?_, this.2.1, this.2.2⟩
   rw [this.1]; simp only [fStep]; omega
theorem findS_lt {tb nm : ByteArray} {cols : List Bc} (h : (findS tb nm cols).2 = 0) : 0 ≤ (findS tb nm cols).1 ∧ (findS tb nm cols).1.toNat < cols.length := by
 have := fGo_inv tb nm cols (0, -1, false) (by simp) (by simp)
 unfold findS fGo at *
 split
 ·rename_i hc; rw [if_pos hc] at h; simp at h
 ·rename_i hc; simp only [not_or] at hc; simp only; omega
theorem afind0 (tb nm : ByteArray) (cols : List Bc) (hc : cols.length ≤ 4398046511104) (σ : St) : ACalls Tryz.prog 89 [.p (.v (.string tb)), .p (.v (.string nm)), .p (.sl 3 (enBc cols))] σ fun r s => s = σ ∧ r = .tup [intV .i64 (findS tb nm cols).1, intV .i64 (findS tb nm cols).2] := by
 refine ACalls.pureF (R := fun r => r = .tup [intV .i64 (findS tb nm cols).1, intV .i64 (findS tb nm cols).2]) ?_ rfl σ
 refine acalls_of cx_ok dr_ok Tryz.func89 (by kernel_rfl) rfl (nt := 36) (rs := [.tmp 6, .tmp 7]) rfl rfl ?_
 simp only [↓wBA, tBi, convA, seval, enBc_len]
 refine awp_loopN (cols.length) (fun i => [(8, intV .i64 (fGo tb nm (cols.take i)).2.1), (13, intV .i64 (i : Nat)), (6, .any), (7, .any), (9, .any), (10, .any), (14, .any), (15, .any), (16, .any), (17, .any), (18, .any), (19, .any), (20, .any), (21, .any), (22, .any), (23, .any), (24, .any), (25, .any), (26, .any), (27, .any), (28, .any), (29, .any), (30, .any), (31, .any), (32, .any), (33, .any), (34, .any), (35, .any)]) (fun i => []) (fun i => (fGo tb nm (cols.take i)).2.2 = false) ?_ ?_ ?_
 ·rfl
 ·skip
  simp only [wR, Nat.reduceAdd, Nat.reduceLT, reduceIte]
  simp [wW, fGo]
 ·intro i hi hI
  simp only [wR, Nat.reduceAdd, Nat.reduceLT, reduceIte]
  by_cases hlt : i < cols.length
  ·have hdec := dT (i := i) (n := cols.length) (by omega)
   have hi0 := nnI i
   have hw := wI i (by omega)
   have hg := enBc_get cols i hlt
   have hst : fGo tb nm (cols.take (i + 1)) = fStep tb nm (fGo tb nm (cols.take i)) cols[i] := fold_step _ _ _ _ hlt
   have hbad := fGo_take tb nm cols (i + 1)
   have hinv := fGo_inv tb nm (cols.take i) (0, -1, false) (by simp) (by simp)
   change (fGo tb nm (cols.take i)).1 = _ ∧ _ at hinv
   have hidx : (fGo tb nm (cols.take i)).1 = i := by rw [hinv.1]; simp; omega
   have hfin : (fGo tb nm cols).2.2 = true → findS tb nm cols = (0, 32) := fun h => by unfold findS; rw [if_pos (.inl h)]
   rcases hc : cols[i] with ⟨c1, c2, c3⟩
   rw [hc] at hst hg
   simp only [bcC] at hg
   repeat' first | ((with_reducible first | refine cs ?_ ?_ | refine ws ?_ ?_) <;> intro h <;> try simp only [h]) | simp only [↓wBA, tBi, convA, seval, enBc_len, hdec, hi0, hg, hw, binStr]
   all_goals first
    | (refine ⟨⟨i + 1, by omega, ?_⟩, by show cols.length - (i + 1) < cols.length - i; omega, ?_⟩
       ·rw [hst]; simp_all [fStep, mBc, emp]
       ·simp only [setsF_cons, setsF_nil, setsO_cons, setsO_nil, List.set_cons_zero, List.set_cons_succ, St.put, hst]
        simp_all [WeakE, Weak, leL, leT, leM, leG, leA, leC, leS, leO, tokLt, tokLtL, intV, boolV, fStep, mBc, emp])
    | skip
   all_goals have hb : (fGo tb nm cols).2.2 = true := hbad (by rw [hst]; simp_all [fStep, mBc, emp])
   all_goals have hf := hfin hb
   all_goals simp only [hf]
   all_goals refine ret_is (a := _) ?_ rfl rfl
   all_goals simp only [↓wBA, tBi, convA, seval]
   all_goals simp_all [wS]
  ·have hdec := dF (i := i) (n := cols.length) (by omega)
   have ht : cols.take i = cols := List.take_of_length_le (by omega)
   rw [ht] at hI
   simp only [ht]
   repeat' first | ((with_reducible first | refine cs ?_ ?_ | refine ws ?_ ?_) <;> intro h <;> try simp only [h]) | simp only [↓wBA, tBi, convA, seval, enBc_len, hdec]
   all_goals refine ret_is (a := _) ?_ rfl rfl
   all_goals simp only [↓wBA, tBi, convA, seval]
   all_goals simp_all [wS, findS]
   all_goals grind
end Go.Proofs.YtcnkmandddfdmaaGreatDoor
