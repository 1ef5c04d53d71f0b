/- dml.hit, whose rows are the caller's own. dml.Update, whose writes' rows are the caller's own. -/
import Derived.Test.YtcnkmandddfdmaaM40
import Derived.Test.YtcnkmandddfdmaaM27
import Derived.Test.YtcnkmandddfdmaaM42
import Derived.Test.YtcnkmandddfdmaaM43
set_option linter.unusedSimpArgs false
set_option linter.unusedVariables false
set_option linter.defProp false
set_option maxRecDepth 100000
set_option maxHeartbeats 32000000
namespace Go.Proofs.Ytcnkmandddfdmaa
open Go.RowKit
def tHm := aa wX <| aa wbu <| aa T3 <| aa T24 <| aa T25 <| aa T33 <| aa T36 <| aa T40 <| aa T50 T86
theorem filS_fold {rows : List (List Va)} {x : Ex} (h : (filS rows x).2 = 0) : (rows.foldl (filStep x) ([], 0)).2 = 0 ∧ (rows.foldl (filStep x) ([], 0)).1.length ≤ 10000 ∧ (rows.foldl (filStep x) ([], 0)).1 = (filS rows x).1 := by
 have e : filS rows x = ansS (rows.foldl (filStep x) ([], 0)).2 (rows.foldl (filStep x) ([], 0)).1 := rfl
 rw [e] at h ⊢
 generalize rows.foldl (filStep x) ([], 0) = st at *
 obtain ⟨a, l⟩ := st
 unfold ansS at h ⊢
 by_cases hl : l = 0
 ·by_cases ha : a.length > 10000
  ·simp [hl, ha] at h
  ·simp [hl, ha]; omega
 ·simp [hl] at h
theorem afilterOk {rows : List (List Va)} {x : Ex} (hr : OkRowsL rows) (h : (filS rows x).2 = 0) (σ : St) : ACalls Try.prog 39 [.p (.sl 1 (enVV rows)), exA x] σ fun r s => r = .tup [outO (2 + σ.length) (filS rows x).1, intV .i64 0] ∧ s = σ ++ (none :: none :: tlF (2 + σ.length) (filS rows x).1) := by
 obtain ⟨h1, h2, h3⟩ := filS_fold h
 refine (afilterM rows x hr σ).mono ?_
 rintro _ _ ⟨rfl, rfl⟩
 rw [h1, h3]
 refine ⟨?_, rfl⟩
 unfold ansM
 rw [h3] at h2
 rw [if_neg (by simp), if_neg (by omega)]
theorem ahitM0 (s : Sm) (hwl : s.wh.length ≤ 1000000000000) (nm : ByteArray) (cols : List Tc) (hcl : cols.length ≤ 4398046511104) (rows : List (List Va)) (hr : OkRowsL rows) (h0 : (hitS s nm cols rows).2 = 0) : ∃ p : Nat, ACalls Try.prog 19 [.agg ((smC s).map .p), tbA nm cols, .p (.sl 1 (enVV rows))] [] fun r st => tokLt st.length r = true ∧ tokS st.length st ∧ r = .tup [outO (4 + p) (hitS s nm cols rows).1, intV .i64 0] ∧ st = List.replicate (4 + p) none ++ tlF (4 + p) (hitS s nm cols rows).1 := by
 have hW := adwhere s hwl nm cols hcl
 unfold hitS at h0 ⊢
 generalize hws : whereS s nm cols = ws at *
 obtain ⟨w, e⟩ := ws
 obtain ⟨kind, tb, sn, scols, names, srows, items, src, wh, group, order, limit, sets, hash⟩ := s
 simp only [tbA, smC, List.map_cons, List.map_nil] at hW
 clear hws hwl
 by_cases he : e = 0
 ·subst he
  simp only [ne_eq, not_true_eq_false, if_false] at h0 ⊢
  cases w with
  | nil =>
    refine ⟨1, ?_⟩
    have hF := fun σ => afilterOk (x := trueE) hr h0 σ
    simp only [List.headD_nil] at hF ⊢
    generalize (filS rows trueE).1 = olds at *
    simp only [exA, exC, exL, trueE, List.map_cons, List.map_nil] at hF
    have htl := tlF_len 5 olds
    have hto := tlF_ok 5 ((objF olds).length + 1 + 1 + 1 + 1 + 1) olds (by omega)
    have hot : tokLt ((objF olds).length + 1 + 1 + 1 + 1 + 1) (outO 5 olds) = true := by have := outO_tok olds (n := 5); rwa [show 5 + (objF olds).length = (objF olds).length + 1 + 1 + 1 + 1 + 1 by omega] at this
    refine acalls_of cx_ok dr_ok Try.func19 (by kernel_rfl) rfl (nt := 29) (rs := [.tmp 6, .tmp 7]) rfl rfl ?_
    simp only [tbA, smC, List.map_cons, List.map_nil]
    repeat' first | ((with_reducible first | refine cs ?_ ?_ | refine ws ?_ ?_) <;> intro h <;> try simp only [h]) | simp only [↓wBA, tHm, convA, seval, exL, List.length_nil, nc0, nc1, bne_self_eq_false, beq_self_eq_true] | ((with_reducible show ACalls _ _ _ _ _); first | refine (hW _).eq ?_ | (refine ACalls.aggW2 (m := [.p (.v (.int .i64 1)), .p (.v (.int .i64 2)), .p (.v (.int .i64 1)), .p (.v (.string emp)), .p (.v (.string emp)), .p (.v (.string emp)), .p (.v (.int .i64 0)), .p (.sl 8 [])]) (by simp [nleC, emp, leaf, nilA]) ((hF _).mono ?_); rintro _ _ ⟨rfl,rfl⟩))
    generalize outO 5 olds = ou at *
    generalize tlF 5 olds = tl at *
    refine ⟨.inl rfl, _, .tup [ou, intV .i64 0], none :: none :: none :: none :: none :: tl, rfl, .inr ⟨?_, ?_⟩, Nat.zero_le _, ?_, ?_, rfl, rfl⟩
    ·skip
     simp [wW, htl, hot]
    ·refine ⟨trivial, trivial, trivial, trivial, trivial, leS_self _ ?_⟩
     simp only [List.length_cons, htl, Nat.min_self]
     exact hto
    ·simp [tokLt, tokLtL, htl, hot, intV]
    ·refine okO_tokS ?_
     simp only [List.length_cons, htl]
     exact hto
  | cons x w =>
    refine ⟨0, ?_⟩
    have hF := fun σ => afilterOk (x := x) hr h0 σ
    simp only [List.headD_cons] at hF ⊢
    generalize (filS rows x).1 = olds at *
    have hx8 : ((exC x).map AV.p).length = 8 := by rw [List.length_map, exC_len]
    simp only [exA] at hF
    have hne : (((w.length + 1 : Nat) : Int) == 0) = false := by simp; omega
    have htl := tlF_len 4 olds
    have hto := tlF_ok 4 ((objF olds).length + 1 + 1 + 1 + 1) olds (by omega)
    have hot : tokLt ((objF olds).length + 1 + 1 + 1 + 1) (outO 4 olds) = true := by have := outO_tok olds (n := 4); rwa [show 4 + (objF olds).length = (objF olds).length + 1 + 1 + 1 + 1 by omega] at this
    refine acalls_of cx_ok dr_ok Try.func19 (by kernel_rfl) rfl (nt := 29) (rs := [.tmp 6, .tmp 7]) rfl rfl ?_
    simp only [tbA, smC, List.map_cons, List.map_nil]
    repeat' first | ((with_reducible first | refine cs ?_ ?_ | refine ws ?_ ?_) <;> intro h <;> try simp only [h]) | simp only [↓wBA, tHm, convA, seval, exL, exL_len, hne, exC_len, List.length_map] | ((with_reducible show ACalls _ _ _ _ _); first | refine (hW _).eq ?_ | (refine (hF _).mono ?_; rintro _ _ ⟨rfl,rfl⟩))
    generalize outO 4 olds = ou at *
    generalize tlF 4 olds = tl at *
    refine ⟨.inl rfl, _, .tup [ou, intV .i64 0], none :: none :: none :: none :: tl, rfl, .inr ⟨?_, ?_⟩, Nat.zero_le _, ?_, ?_, rfl, rfl⟩
    ·skip
     simp [wW, htl, hot]
    ·refine ⟨trivial, trivial, trivial, trivial, leS_self _ ?_⟩
     simp only [List.length_cons, htl, Nat.min_self]
     exact hto
    ·simp [tokLt, tokLtL, htl, hot, intV]
    ·refine okO_tokS ?_
     simp only [List.length_cons, htl]
     exact hto
 ·simp [he] at h0
theorem ahitM (s : Sm) (hwl : s.wh.length ≤ 1000000000000) (nm : ByteArray) (cols : List Tc) (hcl : cols.length ≤ 4398046511104) (rows : List (List Va)) (hr : OkRowsL rows) (h0 : (hitS s nm cols rows).2 = 0) : ∃ p : Nat, ∀ σ : St, ACalls Try.prog 19 [.agg ((smC s).map .p), tbA nm cols, .p (.sl 1 (enVV rows))] σ fun r st => r = .tup [outO (4 + p + σ.length) (hitS s nm cols rows).1, intV .i64 0] ∧ st = σ ++ (List.replicate (4 + p) none ++ tlF (4 + p + σ.length) (hitS s nm cols rows).1) := by
 obtain ⟨p, hp⟩ := ahitM0 s hwl nm cols hcl rows hr h0
 refine ⟨p, fun σ => (hp.fresh (by cases s; rfl) σ).mono ?_⟩
 rintro r st ⟨r0, s0, ⟨rfl, rfl⟩, rfl, rfl⟩
 constructor
 ·simp only [renA, renL, ren_outO _ _ _ (show 0 < 4 + p by omega)]; rfl
 ·simp only [List.map_append, List.map_replicate, Option.map_none, ren_tlF]
end Go.Proofs.Ytcnkmandddfdmaa
namespace Go.Proofs.Ytcnkmandddfdmaa
open Go.RowKit
def pl7_6Um : Plan := (.det 0 (.det 1 (.det 2 (.det 3 (.det 4 (.act 5 (.fin 6 (.det 7 (.det 8 (.det 9 (.det 10 (.det 11 .done))))))))))))
def tUm := aa wX <| aa wbu <| aa T3 <| aa T9 <| aa T24 <| aa T25 <| aa T29 <| aa T33 <| aa T36 <| aa T39 <| aa T40 <| aa T46 <| aa T48 <| aa T61 T66
theorem rd_rows {σ : St} {t i0 : Nat} {cells : List (List AV)} {rows : List (List Va)} (h1 : σ.at t (.row 1 cells)) (hl : i0 + rows.length ≤ cells.length) (hc : ∀ j (h : j < rows.length), ∃ a, cells[i0 + j]? = some [a] ∧ Rd σ 1 a (.sl 3 (enV rows[j]))) : Rd σ 2 (.ms t 1 i0 rows.length) (.sl 1 (enVV rows)) := by
 refine .inr ⟨t, 1, i0, rows.length, cells, enVV rows, rfl, rfl, h1, hl, enVV_len _, fun j c hj => ?_⟩
 have hlt : j < rows.length := by have := (List.getElem?_eq_some_iff.1 hj).1; rwa [enVV_len] at this
 rw [enVV_get rows j hlt] at hj
 simp only [Option.some.injEq] at hj; subst hj
 obtain ⟨a, h2, h3⟩ := hc j hlt
 refine ⟨[a], h2, rfl, fun q y hy => ?_⟩
 have hq : q = 0 := by have := (List.getElem?_eq_some_iff.1 hy).1; simpa using this
 subst hq
 simp only [List.getElem?_cons_zero, Option.some.injEq] at hy
 subst hy
 exact ⟨a, rfl, h3⟩
theorem asoundM {σ : St} {t : Nat} {cells : List (List AV)} (rows : List (List Va)) (nm : ByteArray) (cols : List Tc) (hrl : rows.length ≤ 4398046511104) (hcl : cols.length ≤ 4398046511104) (hr : ∀ r ∈ rows, r.length = cols.length) (h1 : σ.at t (.row 1 cells)) (hl : rows.length ≤ cells.length) (hc : ∀ j (h : j < rows.length), ∃ a, cells[j]? = some [a] ∧ Rd σ 1 a (.sl 3 (enV rows[j]))) : ACalls Try.prog 21 [.ms t 1 0 rows.length, tbA nm cols] σ fun r s => s = σ ∧ r = intV .i64 (soundS cols rows) :=
 ACalls.borrow 2 (args' := [.p (.sl 1 (enVV rows)), tbA nm cols]) (R := fun r => r = intV .i64 (soundS cols rows)) ((asound rows nm cols hrl hcl hr []).mono (by rintro r s ⟨_, rfl⟩; exact ⟨rfl, rfl⟩)) ⟨.inl ⟨_, rd_rows h1 (by omega) (fun j h => by rw [Nat.zero_add]; exact hc j h), rfl⟩, .inr ⟨[.v (.string nm), .sl 4 (enTc cols)], rfl, rfl⟩, trivial⟩
def cxU : Ctx := { cx with muts := [25 * 100000 + 71, 39 * 100000 + 79] }
theorem cxU_ok : cxU.ok Try.prog := cx_ok
theorem drU_ok : DrawOk Try.prog (aDraw Try.prog cxU) := aDraw_ok cxU_ok (by kernel_rfl)
theorem kindU (t : TypeId) : cxU.kind t = cx.kind t := nr rfl
theorem tyU (t : TypeId) : cxU.ty t = cx.ty t := nr rfl
theorem mutsU : cxU.muts = [25 * 100000 + 71, 39 * 100000 + 79] := nr rfl
theorem lenU {T : TypeId} {x : AV} : lenA cxU T x = lenA cx T x := nr rfl
def fo (p n i : Nat) : AV := if i = 0 then nilA else .ms (3 + p + 4 * n + 6 * i) 1 0 i
def lo (p n i : Nat) : AV := if i = 0 then nilA else .ms (5 + p + 4 * n + 6 * i) 3 0 i
theorem awp_loopI {P : Program} {C : Ctx} {fr : List AV} {σ : St} {Q : Exit → List AV → St → Prop} {c : Code} {I : Nat → St → Prop} (n : Nat) (D : Nat → List (Nat × AV)) (i0 : Nat) (h0 : I i0 σ) (hl : ∀ i s, I i s → σ.length ≤ s.length) (h2 : WeakE fr σ (setsF fr (D i0)) σ)
 (h3 : ∀ i s, (h : I i s) → AWp P C (aDraw P C) c (setsF fr (D i)) s (roundA (fun x : { q : Nat × St // I q.1 q.2 } => (setsF fr (D x.1.1), x.1.2)) (fun x => n - x.1.1) ⟨(i, s), h⟩ Q)) : AWp P C (aDraw P C) (.loop c) fr σ Q :=
 awp_loop' (X := { q : Nat × St // I q.1 q.2 }) (fun x => (setsF fr (D x.1.1), x.1.2)) (fun x => n - x.1.1) ⟨(i0, σ), h0⟩ (fun x => hl x.1.1 x.1.2 x.2) h2 fun ⟨(i, s), h⟩ => h3 i s h
theorem aupdM0 (s : Sm) (hk5 : s.kind = 5 → s.names.length = s.sets.length) (hnl : s.names.length ≤ 1000000000000) (hwl : s.wh.length ≤ 1000000000000) (nm : ByteArray) (cols : List Tc) (hcl : cols.length ≤ 4398046511104) (hc0 : 0 < cols.length) (rows : List (List Va)) (hrl : rows.length ≤ 10000) (hrc : ∀ r ∈ rows, r.length = cols.length) (h0 : (updS s nm cols rows).2 = 0) (hne : (updS s nm cols rows).1 ≠ []) : ∃ (p : Nat) (olds : List (List Va)) (wr : List Va → List Va), (updS s nm cols rows).1 = olds.map (fun r => ((r, some (wr r)) : Wr)) ∧ (∀ r ∈ olds, r.length = cols.length) ∧ (∀ r ∈ olds, (wr r).length = cols.length) ∧
 ACalls Try.prog 7 [.agg ((smC s).map .p), tbA nm cols, .p (.sl 1 (enVV rows))] [] fun r st => tokLt st.length r = true ∧ tokS st.length st ∧ r = .tup [.ms (5 + p + 10 * olds.length) 3 0 olds.length, intV .i64 0] ∧ UpI p nm cols.length olds wr olds.length st := by
 have hk : s.kind = 5 := by
  by_cases h : s.kind = 5
  ·exact h
  ·exfalso; unfold updS at h0; rw [if_pos h] at h0; simp at h0
 have ht : (tgtS s.names cols).2 = 0 := by
  by_cases h : (tgtS s.names cols).2 = 0
  ·exact h
  ·exfalso; unfold updS at h0; rw [if_neg (by simp [hk]), if_pos h] at h0; exact h h0
 have ha : (asgS (scopeS nm cols) cols s.sets (tgtS s.names cols).1).2 = 0 := by
  by_cases h : (asgS (scopeS nm cols) cols s.sets (tgtS s.names cols).1).2 = 0
  ·exact h
  ·exfalso; unfold updS at h0; rw [if_neg (by simp [hk]), if_neg (by simp [ht]), if_pos h] at h0; exact h h0
 have hh : (hitS s nm cols rows).2 = 0 := by
  by_cases h : (hitS s nm cols rows).2 = 0
  ·exact h
  ·exfalso; unfold updS at h0; rw [if_neg (by simp [hk]), if_neg (by simp [ht]), if_neg (by simp [ha]), if_pos h] at h0; exact h h0
 have hu : updS s nm cols rows = finU cols ((hitS s nm cols rows).1.foldl (uStep (asgS (scopeS nm cols) cols s.sets (tgtS s.names cols).1).1 (tgtS s.names cols).1) ([], 0)) := by
  unfold updS; rw [if_neg (by simp [hk]), if_neg (by simp [ht]), if_neg (by simp [ha]), if_neg (by simp [hh])]
 have hk5' := hk5 hk
 have hor : OkRowsL rows := ⟨by omega, fun r h => by rw [hrc r h]; exact hcl⟩
 obtain ⟨p, hH⟩ := ahitM s hwl nm cols hcl rows hor hh
 have hT := atargetsN s.names nm cols (by omega) (by omega)
 obtain ⟨hcs1, hks⟩ := tgtS_ok s.names cols ht
 have hsub := hitS_sub s nm cols rows
 have hA := aassigned s.sets (tgtS s.names cols).1 nm cols (scopeS nm cols) (by omega) (by omega) hks (by simp [scopeS]; omega)
 have hAl := asgS_len (scopeS nm cols) cols s.sets (tgtS s.names cols).1
 have hSc := ascope nm cols hcl
 have hSd := @asoundM
 rw [hu] at h0 hne ⊢
 clear hu
 generalize hitS s nm cols rows = hs at *
 generalize tgtS s.names cols = tg at *
 generalize asgS (scopeS nm cols) cols s.sets tg.1 = az at *
 generalize scopeS nm cols = sc at *
 obtain ⟨olds, eh⟩ := hs
 obtain ⟨ks, et⟩ := tg
 obtain ⟨xs, ea⟩ := az
 simp only at ht ha hh hT hA hAl hcs1 hks hH hsub h0 hne
 subst ht ha hh
 obtain ⟨u1, u2⟩ := uGo_form xs ks olds [] 0
 have hf2 : (olds.foldl (uStep xs ks) ([], 0)).2 = 0 := by
  by_cases h : (olds.foldl (uStep xs ks) ([], 0)).2 = 0
  ·exact h
  ·exfalso; unfold finU at h0; rw [if_pos h] at h0; exact h h0
 have hs0 : soundS cols ((olds.foldl (uStep xs ks) ([], 0)).1.map newR) = 0 := by
  by_cases h : soundS cols ((olds.foldl (uStep xs ks) ([], 0)).1.map newR) = 0
  ·exact h
  ·exfalso; unfold finU at h0; rw [if_neg (by simp [hf2]), if_pos h] at h0; exact h h0
 have hfin : finU cols (olds.foldl (uStep xs ks) ([], 0)) = ((olds.foldl (uStep xs ks) ([], 0)).1, 0) := by unfold finU; rw [if_neg (by simp [hf2]), if_neg (by simp [hs0])]
 have hw0 := (u2.1 hf2).2
 simp only [List.nil_append] at u1
 rw [hfin, u1] at hne ⊢
 rw [u1] at hs0
 have hon : olds ≠ [] := fun e => by subst e; simp at hne
 have horow : ∀ r ∈ olds, r.length = cols.length := fun r h => hrc r (hsub.2 r h)
 have hol : olds.length ≤ 10000 := by have := hsub.1; omega
 have hmap : (olds.map fun r => ((r, some (wrkS r xs ks 0).1) : Wr)).map newR = olds.map fun r => (wrkS r xs ks 0).1 := by rw [List.map_map]; rfl
 rw [hmap] at hs0
 have hwl2 : ∀ r ∈ olds, (wrkS r xs ks 0).1.length = cols.length := fun r h => by rw [wrkS_len]; exact horow r h
 have hWk : ∀ j (h : j < olds.length) (st : St), St.at st (7 + p + 4 * j) (.row 3 (muR olds[j])) → ACalls Try.prog 20 [.ms (7 + p + 4 * j) 3 0 cols.length, .p (.sl 8 (exL xs)), .p (.sl 1 (enI ks)), intV .i64 0] st fun r s' => r = .tup [.ms (1 + st.length) 3 0 cols.length, intV .i64 0] ∧ s' = st ++ [none, some (.row 3 (muR (wrkS olds[j] xs ks 0).1))] := fun j h st hat => by
  have hl := horow olds[j] (List.getElem_mem h)
  have hz := hw0 olds[j] (List.getElem_mem h)
  generalize olds[j] = r at *
  cases r with
  | nil => simp at hl; omega
  | cons v l =>
    have := aworkedM v l xs ks 0 (by omega) (fun q hq => by rw [hl]; exact hks q hq) (by omega) (by omega) hat
    rw [hz] at this
    rw [show cols.length = l.length + 1 from by rw [← hl]; rfl]
    exact this
 clear hw0 u2 hf2 hfin u1 hmap h0 hne hsub hk5 hcs1 hks hAl
 refine ⟨p, olds, fun r => (wrkS r xs ks 0).1, rfl, horow, hwl2, ?_⟩
 generalize hwr : (fun r => (wrkS r xs ks 0).1) = wr at *
 have hwr' : ∀ r, (wrkS r xs ks 0).1 = wr r := fun r => by rw [← hwr]
 simp only [hwr'] at hWk hwl2
 clear hwr' hwr
 obtain ⟨kind, tb, sn, scols, names, srows, items, src, wh, group, order, limit, sets, hash⟩ := s
 simp only at hk
 subst hk
 simp only [tbA, smC, List.map_cons, List.map_nil, ← enS_enN] at hH hT hA hSc hSd
 have hst := fun b0 b1 h0 h1 => UpI.start p (nm := nm) hc0 wr hon horow (b0 := b0) (b1 := b1) h0 h1
 have hou : outO (6 + p) olds = .ms (5 + p + 4 * olds.length) 1 0 olds.length := by
  obtain ⟨k, e1, _, _, _, e5, _⟩ := tlF_ne (n := 6 + p) hon
  have e2 := objF4 (acc := olds) fun r hr e => by have := horow r hr; rw [e] at this; simp at this; omega
  rw [e5, show 6 + p + k = 5 + p + 4 * olds.length by omega]
 have hH2 : ∀ b0 b1, ACalls Try.prog 19 _ [b0, b1] fun r st => r = .tup [.ms (5 + p + 4 * olds.length) 1 0 olds.length, intV .i64 0] ∧ st = b0 :: b1 :: (List.replicate (4 + p) none ++ tlF (6 + p) olds) := fun b0 b1 => (hH [b0, b1]).mono (by
  rintro _ _ ⟨rfl, rfl⟩
  rw [show 4 + p + [b0, b1].length = 6 + p by simp; omega, hou]
  exact ⟨rfl, rfl⟩)
 generalize List.replicate (4 + p) none ++ tlF (6 + p) olds = S0 at *
 clear hH
 refine acalls_of cxU_ok drU_ok Try.func7 (by kernel_rfl) rfl (nt := 87) (rs := [.tmp 6, .tmp 7]) rfl rfl ?_
 simp only [tbA, smC, List.map_cons, List.map_nil]
 repeat' first | ((with_reducible first | refine cs ?_ ?_ | refine ws ?_ ?_ | refine wd ?_ ?_ | refine wu ?_ ?_) <;> intro h <;> try simp only [h]) | simp only [↓wBA, tUm, convA, seval, pl7_6Um, kindU, tyU, mutsU, lenU, bne_self_eq_false, enVV_len] | ((with_reducible show ACalls _ _ _ _ _); first | refine (hT _).eq ?_ | refine (hSc _).eq ?_ | refine (hA _).eq ?_ | (refine (hH2 _ _).mono ?_; rintro _ _ ⟨rfl,rfl⟩)) | (with_reducible refine dP pl7_6Um 12 (some 32) (by decide) (by kernel_rfl) ?_)
 have hS0 : S0.length = 4 + p + 4 * olds.length := by have := (hst none none rfl rfl).len; simp only [List.length_cons] at this; omega
 refine awp_loopI (I := fun i s => UpI p nm cols.length olds wr i s ∧ i ≤ olds.length ∧ s[1]? = some (some (.row 2 [[.p (.v (.string nm)), .p (.sl 4 (enTc cols))]]))) (olds.length) (fun i => [(12, lo p olds.length i), (13, fo p olds.length i), (14, intV .i64 0), (56, intV .i64 (i : Nat)), (16, .any), (17, .any), (57, .any), (58, .any), (59, .any), (60, .any), (61, .any), (62, .any), (63, .any), (64, .any), (65, .any), (66, .any), (67, .any), (68, .any), (69, .any), (70, .any), (71, .any), (72, .any), (73, .any), (74, .any), (75, .any), (76, .any), (77, .any), (78, .any), (79, .any), (80, .any)]) (0) ?_ ?_ ?_ ?_
 ·exact ⟨hst _ _ rfl rfl, Nat.zero_le _, rfl⟩
 ·intro i s h
  have h1 := (hst none none rfl rfl).len
  have h2 := h.1.len
  simp only [List.length_cons] at h1 ⊢
  omega
 ·skip
  simp only [wR, Nat.reduceAdd, Nat.reduceLT, reduceIte]
  have hl0 : lo p olds.length 0 = nilA := rfl
  have hf0 : fo p olds.length 0 = nilA := rfl
  simp only [hl0, hf0]
  refine .inr ⟨?_, leS_self _ ?_⟩
  ·skip
   simp [wW, hS0]
   try omega
  ·rw [Nat.min_self]
   exact (hst _ _ rfl rfl).okl
 ·intro i st hI
  have hU := hI.1
  have hi := hI.2.1
  have hb1 := hI.2.2
  simp only [wR, Nat.reduceAdd, Nat.reduceLT, reduceIte]
  by_cases hlt : i < olds.length
  ·have hdec := dT (i := i) (n := olds.length) hlt
   have hi0 := nnI i
   have hic : ((i : Int) < (olds.length : Int)) = True := eq_true (by omega)
   have hw := wI i (by omega)
   have hcel := celF_at hc0 horow (n := 6 + p) hlt
   rw [show 6 + p + 4 * i + 1 = 7 + p + 4 * i by omega] at hcel
   have hW := hWk i hlt st (hU.old i hlt)
   have hlen := hU.len
   have hN := hU.next hlt
   have htop := hU.top
   have hcell := celF_len olds (6 + p)
   rw [fcU_succ, lcU_succ] at hN
   have hlim1 := tL (n := (i + 1) * 24) (by omega)
   have hlim2 := lM (n := i + 1) (by omega)
   have hlim3 := tL (n := (i + 1) * 64) (by omega)
   have hmx1 := lM (n := (1 : Nat)) (by omega)
   have hii : (i ≤ i) = True := eq_true (Nat.le_refl _)
   obtain ⟨K, hK⟩ : ∃ K, K = 6 + p + 4 * olds.length + 6 * i := ⟨_, rfl⟩
   rw [← hK] at hlen hN
   rw [hlen] at hW
   rw [Nat.add_comm K 1] at hN
   have hg0 : ∀ (s1 : St), s1.length = K → ∀ (j : Nat) (rest : St), (s1 ++ rest)[K + j]? = rest[j]? := fun s1 h j rest => by rw [List.getElem?_append_right (by omega), h]; congr 1; omega
   have hok : st.all (okO K) = true := by rw [hK]; exact hU.ok
   have hKi : 6 + p + 4 * olds.length + 6 * i ≤ K := by omega
   have hft9 : ∀ n, K + 2 ≤ n → (fcU (6 + p + 4 * olds.length) cols.length i ++ [[AV.ms (1 + K) 3 0 cols.length]]).all (tokLtL n) = true := fun n hn => by
    rw [List.all_append, fcU_tok (by omega)]
    simp [tokLtL, tokLt]; omega
   have hlt9 : ∀ n, K + 2 ≤ n → (lcU nm p (6 + p + 4 * olds.length) cols.length i ++ [[AV.p (.v (.string nm)), AV.ms (7 + p + 4 * i) 3 0 cols.length, AV.ms (1 + K) 3 0 cols.length]]).all (tokLtL n) = true := fun n hn => by
    rw [List.all_append, lcU_tok (by omega) (by omega)]
    simp [tokLtL, tokLt]; omega
   rcases Nat.eq_zero_or_pos i with h0 | h0
   ·have hl0 : lo p olds.length i = nilA := by rw [h0]; rfl
    have hf0 : fo p olds.length i = nilA := by rw [h0]; rfl
    have hl1 : lo p olds.length (i + 1) = .ms (K + 5) 3 0 1 := by unfold lo; rw [if_neg (by omega), h0]; congr 1; omega
    have hf1 : fo p olds.length (i + 1) = .ms (K + 3) 1 0 1 := by unfold fo; rw [if_neg (by omega), h0]; congr 1; omega
    have hfz : fcU (6 + p + 4 * olds.length) cols.length i = [] := by rw [h0]; rfl
    have hlz : lcU nm p (6 + p + 4 * olds.length) cols.length i = [] := by rw [h0]; rfl
    have hcut : cutU p olds.length i st = st := by unfold cutU; rw [if_pos h0]
    rw [hcut, hfz, hlz, List.nil_append, List.nil_append] at hN
    rw [hfz, List.nil_append] at hft9
    rw [hlz, List.nil_append] at hlt9
    simp only [hl0, hf0, nilA]
    have g1 := hg0 st hlen
    have gb : ∀ rest : St, (st ++ rest)[1]? = some (some (.row 2 [[.p (.v (.string nm)), .p (.sl 4 (enTc cols))]])) := fun rest => by rw [List.getElem?_append_left (List.getElem?_eq_some_iff.1 hb1).1]; exact hb1
    repeat' first | ((with_reducible first | refine cs ?_ ?_ | refine ws ?_ ?_ | refine wd ?_ ?_ | refine wu ?_ ?_) <;> intro h <;> try simp only [h]) | simp only [↓wBA, tUm, convA, seval, pl7_6Um, kindU, tyU, mutsU, lenU, hdec, hi0, hic, hw, htop, hcell, hcel, hlen, g1, gb, hlim1, hlim2, hlim3, hmx1, appendM, srcM, srcA, List.length_append, List.append_assoc] | ((with_reducible show ACalls _ _ _ _ _); refine hW.mono ?_; rintro _ _ ⟨rfl,rfl⟩) | (with_reducible refine dP pl7_6Um 12 (some 32) (by decide) (by kernel_rfl) ?_)
    refine ⟨⟨(i + 1, _), ⟨hN, hlt, gb _⟩⟩, by show olds.length - (i + 1) < olds.length - i; omega, ?_⟩
    simp only [wR, Nat.reduceAdd, Nat.reduceLT, reduceIte]
    simp only [hl1, hf1]
    refine .inr ⟨?_, leS_pre ?_ _ (allO_le ?_ hok)⟩
    ·skip
     simp [wW, hlen]
     try omega
    ·refine ⟨trivial, ⟨rfl, .inl ⟨rfl, muR_tok _ _⟩⟩, trivial, ⟨rfl, .inl ⟨rfl, hft9 _ ?_⟩⟩, trivial, ⟨rfl, .inl ⟨rfl, hlt9 _ ?_⟩⟩, trivial⟩
     ·simp only [List.length_append, hlen, List.length_cons, List.length_nil, Nat.min_self] <;> omega
     ·simp only [List.length_append, hlen, List.length_cons, List.length_nil, Nat.min_self] <;> omega
    ·simp only [List.length_append, hlen, List.length_cons, List.length_nil, Nat.min_self] <;> omega
   ·have hl0 : lo p olds.length i = .ms (5 + p + 4 * olds.length + 6 * i) 3 0 i := by unfold lo; rw [if_neg (by omega)]
    have hf0 : fo p olds.length i = .ms (3 + p + 4 * olds.length + 6 * i) 1 0 i := by unfold fo; rw [if_neg (by omega)]
    have hl1 : lo p olds.length (i + 1) = .ms (K + 5) 3 0 (i + 1) := by unfold lo; rw [if_neg (by omega)]; congr 1; omega
    have hf1 : fo p olds.length (i + 1) = .ms (K + 3) 1 0 (i + 1) := by unfold fo; rw [if_neg (by omega)]; congr 1; omega
    simp only [hl0, hf0]
    have hfr := hU.fr h0
    have hls := hU.ls h0
    have hfl := fcU_len (6 + p + 4 * olds.length) cols.length i
    have hll := lcU_len nm p (6 + p + 4 * olds.length) cols.length i
    have hft : (fcU (6 + p + 4 * olds.length) cols.length i).take i = fcU (6 + p + 4 * olds.length) cols.length i := List.take_of_length_le (by omega)
    have hlt2 : (lcU nm p (6 + p + 4 * olds.length) cols.length i).take i = lcU nm p (6 + p + 4 * olds.length) cols.length i := List.take_of_length_le (by omega)
    have hcut : cutU p olds.length i st = (st.set (3 + p + 4 * olds.length + 6 * i) none).set (5 + p + 4 * olds.length + 6 * i) none := by unfold cutU; rw [if_neg (by omega)]
    rw [hcut] at hN
    have hF1 : 3 + p + 4 * olds.length + 6 * i + 3 = K := by omega
    have hL1 : 5 + p + 4 * olds.length + 6 * i + 1 = K := by omega
    have hb1F : 3 + p + 4 * olds.length + 6 * i ≠ 1 := by omega
    have hb1L : 5 + p + 4 * olds.length + 6 * i ≠ 1 := by omega
    generalize 3 + p + 4 * olds.length + 6 * i = tF at *
    generalize 5 + p + 4 * olds.length + 6 * i = tL at *
    obtain ⟨s1, hs1⟩ : ∃ s1, s1 = st.set tF none := ⟨_, rfl⟩
    obtain ⟨s2, hs2⟩ : ∃ s2, s2 = s1.set tL none := ⟨_, rfl⟩
    have hlen1 : s1.length = K := by rw [hs1, List.length_set]; exact hlen
    have hlen2 : s2.length = K := by rw [hs2, List.length_set]; exact hlen1
    rw [← hs1, ← hs2] at hN
    have hsF : ∀ rest : St, (st ++ rest).set tF none = s1 ++ rest := fun rest => by rw [List.set_append, if_pos (by omega), hs1]
    have hsL : ∀ rest : St, (s1 ++ rest).set tL none = s2 ++ rest := fun rest => by rw [List.set_append, if_pos (by omega), hs2]
    have hgF : ∀ rest : St, (st ++ rest)[tF]? = some (some (.row 1 (fcU (6 + p + 4 * olds.length) cols.length i))) := fun rest => by rw [List.getElem?_append_left (List.getElem?_eq_some_iff.1 hfr).1]; exact hfr
    have hgL : ∀ rest : St, (s1 ++ rest)[tL]? = some (some (.row 3 (lcU nm p (6 + p + 4 * olds.length) cols.length i))) := fun rest => by rw [List.getElem?_append_left (by omega), hs1, List.getElem?_set_ne (by omega)]; exact hls
    have g0 := hg0 st hlen
    have g1 := hg0 s1 hlen1
    have g2 := hg0 s2 hlen2
    have gb : ∀ rest : St, (s1 ++ rest)[1]? = some (some (.row 2 [[.p (.v (.string nm)), .p (.sl 4 (enTc cols))]])) := fun rest => by rw [List.getElem?_append_left (by rw [hlen1, ← hlen]; exact (List.getElem?_eq_some_iff.1 hb1).1), hs1, List.getElem?_set_ne hb1F]; exact hb1
    repeat' first | ((with_reducible first | refine cs ?_ ?_ | refine ws ?_ ?_ | refine wd ?_ ?_ | refine wu ?_ ?_) <;> intro h <;> try simp only [h]) | simp only [↓wBA, tUm, convA, seval, pl7_6Um, kindU, tyU, mutsU, lenU, hdec, hi0, hic, hw, htop, hcell, hcel, hlen, hlen1, hlen2, g0, g1, g2, gb, hsF, hsL, hgF, hgL, hfl, hll, hft, hlt2, hii, hlim1, hlim2, hlim3, hmx1, appendM, srcM, srcA, List.length_append, List.append_assoc] | ((with_reducible show ACalls _ _ _ _ _); refine hW.mono ?_; rintro _ _ ⟨rfl,rfl⟩) | (with_reducible refine dP pl7_6Um 12 (some 32) (by decide) (by kernel_rfl) ?_)
    have hok2 : s2.all (okO K) = true := by rw [hs2, hs1]; exact allO_set (allO_set hok _) _
    have gb2 : ∀ rest : St, (s2 ++ rest)[1]? = some (some (.row 2 [[.p (.v (.string nm)), .p (.sl 4 (enTc cols))]])) := fun rest => by rw [List.getElem?_append_left (by rw [hlen2, ← hlen]; exact (List.getElem?_eq_some_iff.1 hb1).1), hs2, List.getElem?_set_ne hb1L, hs1, List.getElem?_set_ne hb1F]; exact hb1
    refine ⟨⟨(i + 1, _), ⟨hN, hlt, gb2 _⟩⟩, by show olds.length - (i + 1) < olds.length - i; omega, ?_⟩
    simp only [wR, Nat.reduceAdd, Nat.reduceLT, reduceIte]
    simp only [hl1, hf1]
    refine .inr ⟨?_, leS_pre ?_ _ (allO_le ?_ hok2)⟩
    ·skip
     simp [wW, hlen2]
     try omega
    ·refine ⟨trivial, ⟨rfl, .inl ⟨rfl, muR_tok _ _⟩⟩, trivial, ⟨rfl, .inl ⟨rfl, hft9 _ ?_⟩⟩, trivial, ⟨rfl, .inl ⟨rfl, hlt9 _ ?_⟩⟩, trivial⟩
     ·simp only [List.length_append, hlen2, List.length_cons, List.length_nil, Nat.min_self] <;> omega
     ·simp only [List.length_append, hlen2, List.length_cons, List.length_nil, Nat.min_self] <;> omega
    ·simp only [List.length_append, hlen2, List.length_cons, List.length_nil, Nat.min_self] <;> omega
  ·have hie : i = olds.length := by omega
   subst hie
   have hpos : 0 < olds.length := List.length_pos_iff.2 hon
   have hdec := dF (i := olds.length) (n := olds.length) (Nat.lt_irrefl _)
   have hl0 : lo p olds.length olds.length = .ms (5 + p + 10 * olds.length) 3 0 olds.length := by unfold lo; rw [if_neg (by omega)]; congr 1; omega
   have hf0 : fo p olds.length olds.length = .ms (3 + p + 4 * olds.length + 6 * olds.length) 1 0 olds.length := by unfold fo; rw [if_neg (by omega)]
   simp only [hl0, hf0]
   have hS := hSd (σ := st) (t := 3 + p + 4 * olds.length + 6 * olds.length) (cells := fcU (6 + p + 4 * olds.length) cols.length olds.length) (olds.map wr) nm cols (by rw [List.length_map]; omega) hcl (fun r hr => by
    obtain ⟨q, hq, rfl⟩ := List.mem_map.1 hr
    exact hwl2 q hq) (hU.fr hpos) (by rw [List.length_map, fcU_len]; exact Nat.le_refl _) (fun j hj => by
    rw [List.length_map] at hj
    refine ⟨_, fcU_get hj, ?_⟩
    have hn := hU.new j hj hj
    have hwj := hwl2 olds[j] (List.getElem_mem hj)
    rw [List.getElem_map]
    generalize wr olds[j] = r at *
    cases r with
    | nil => simp at hwj; omega
    | cons v l =>
      rw [show 6 + p + 4 * olds.length + 6 * j + 1 = 7 + p + 4 * olds.length + 6 * j by omega, ← hwj]
      exact rd_row hn)
   rw [List.length_map, hs0] at hS
   have hlen := hU.len
   have hokl := hU.okl
   repeat' first | ((with_reducible first | refine cs ?_ ?_ | refine ws ?_ ?_ | refine wd ?_ ?_ | refine wu ?_ ?_) <;> intro h <;> try simp only [h]) | simp only [↓wBA, tUm, convA, seval, pl7_6Um, kindU, tyU, mutsU, lenU, hdec, hb1, beq_self_eq_true, bne_self_eq_false] | ((with_reducible show ACalls _ _ _ _ _); refine hS.mono ?_; rintro _ _ ⟨rfl, rfl⟩) | (with_reducible refine dP pl7_6Um 12 (some 32) (by decide) (by kernel_rfl) ?_)
   refine ⟨.inl rfl, _, _, _, rfl, .inl ⟨rfl, rfl⟩, Nat.zero_le _, ?_, okO_tokS hokl, rfl, hU⟩
   simp [tokLt, tokLtL, hlen, intV]
   omega
end Go.Proofs.Ytcnkmandddfdmaa
