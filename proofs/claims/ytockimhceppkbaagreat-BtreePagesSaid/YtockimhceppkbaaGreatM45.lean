/- Trees: entries from a key on, inner pages; Range and All. Trees: Range, All, Make; what is refused. Trees, plain: what is told of a range. -/
import Derived.Test.YtockimhceppkbaaGreatM44
set_option linter.unusedSimpArgs false
set_option linter.unusedVariables false
set_option linter.defProp false
set_option maxRecDepth 100000
set_option maxHeartbeats 32000000
namespace Go.Proofs.YtockimhceppkbaaGreat
open Go.RowKit
def pl43_10Ym : Plan := (.det 0 (.det 1 (.det 2 (.det 3 (.det 5 (.det 6 (.det 7 (.act 4 (.det 8 (.fin 9 (.fin 10 (.det 11 .done))))))))))))
def tYm := aa wX <| aa wbu <| aa T3 <| aa T4 <| aa T25 <| aa T35 <| aa T37 <| aa T40 <| aa T48 <| aa T86 <| aa T90 <| aa T92 <| aa T97 T109
section
variable {σ : St} {b p dd l kh n h : Nat} {U : Nat → Prop} {P : PoolV} {v : Nat → List UInt8} {T : Nat → Bool}
theorem atFromNode {lo : List UInt8} {lox : PV} {my : List UInt8 → Bool} {g : FuncId} {caps : List AV} {kl : List (Nat × Ob)} {t : NL h} (hB : Bt σ b p dd l kh U P v) (hb : Bud P 1) (hTr : TrAt v (h + 1) n t) (hnd : (pgT (h + 1) n t).Nodup) (htk : ∀ q ∈ pgT (h + 1) n t, q < P.pages) (hlo : BX lox lo) (hkl : Kept kl σ) (hklU : ∀ q ∈ kl, ¬ U q.1)
 (hmy : ∀ (s : St) (k : List UInt8), Kept kl s → ACalls Tryz.prog g (.p (.sl 1 (encB k)) :: caps) s fun r s' => s' = s ∧ r = boolV (my k))
 (ih : ∀ {σ : St} {U : Nat → Prop} {P : PoolV} {n : Nat} {t : BTr h}, Bt σ b p dd l kh U P v → Bud P 1 → TrAt v h n t → (pgT h n t).Nodup → (∀ q ∈ pgT h n t, q < P.pages) → Kept kl σ → (∀ q ∈ kl, ¬ U q.1) →
  ACalls Tryz.prog 43 [.agg [.mp b 2 0 0], intV .i64 (n : Nat), .p lox, .fn g [] caps] σ fun r σ' => FromPost h t lo my σ b p dd l kh U P v r σ') :
 ACalls Tryz.prog 43 [.agg [.mp b 2 0 0], intV .i64 (n : Nat), .p lox, .fn g [] caps] σ fun r σ' => FromPost (h + 1) t lo my σ b p dd l kh U P v r σ' := by
 refine from_conv ?_
 have hlt := hB.lt
 have hbig := hB.big
 have hN : NodeP (v n) 3 (its1 t) := hTr.1
 have hl49 := hN.n
 have hil := its1_len t
 have hpl := len_le_of_lt P.pages _ hnd htk
 have hel : (t.flatMap fun x => entsT h x.2.2).length ≤ 49 * 3840 := by
  have h1 : (entsT (h + 1) t).length ≤ 49 * (pgT (h + 1) n t).length := ents_le hTr
  have h2 : (entsT (h + 1) t).length = (t.flatMap fun x => entsT h x.2.2).length := rfl
  omega
 have hacc : ∀ i, i ≤ t.length → ((List.range i).flatMap (stepC lo my (fromF lo my h) t)).length ≤ 49 * 3840 := fun i hi => Nat.le_trans (stepC_le lo my (fromF lo my h) (entsT h) (fromF_len lo my h) t i hi) hel
 refine acalls_of cx_ok dr_ok Tryz.func43 (by kernel_rfl) rfl (nt := 108) (rs := [.tmp 8, .tmp 9]) rfl rfl ?_
 repeat' first | ((with_reducible first | refine cs ?_ ?_ | refine ws ?_ ?_ | refine wd ?_ ?_ | refine wu ?_ ?_) <;> intro h <;> try simp only [h]) | simp only [↓wBA, tYm, convA, seval, pl43_10Ym, wH] | (with_reducible refine dP pl43_10Ym 12 (some 51) (by decide) (by kernel_rfl) ?_)
 have a1 := Ap.app σ [some (Ob.row 1 [[AV.mp b 2 0 0]])]
 refine (atRead (hB.ap a1) (htk n (pgT_root _ _ _)) hN hb).mono ?_
 rintro _ s1 ⟨U1, P1, a, rfl, f1, hB1, k1, ha, hta⟩
 have q1 := f1.len
 simp only [List.length_append, List.length_cons, List.length_nil] at q1
 have hlt1 := hB1.lt
 have b0' : s1[σ.length]? = some (some (Ob.row 1 [[AV.mp b 2 0 0]])) := by
  rw [f1.keep _ (by simp) fun e => by have := hlt _ e; omega]; simp
 have n0 : ¬ U1 σ.length := fun e => (f1.own _ e).elim (fun e => by have := hlt _ e; omega) fun e => by simp at e; omega
 have hlf := ha.x.leaf
 have hcc := ha.x.cells
 obtain ⟨S1, hS1⟩ : ∃ S1, S1 = s1 ++ [some (Ob.row 2 [[AV.p (.v (.int .i64 3)), a]])] := ⟨_, rfl⟩
 have aS : Ap s1 S1 := ⟨_, hS1⟩
 have hS1l : S1.length = s1.length + 1 := by rw [hS1]; simp
 have bN : S1[s1.length]? = some (some (Ob.row 2 [[AV.p (.v (.int .i64 3)), a]])) := by rw [hS1]; simp
 have yN := at_lt bN
 have b0 := aS.get b0'
 have haS : NdA S1 a (its1 t) := ha.same fun j hj => by rw [hS1, List.getElem?_append_left (ha.lt hj)]
 have hla : lenA cx 90 a = some t.length := by
  rcases ha with ⟨h0, rfl⟩ | ⟨_, tn, rfl, _⟩
  ·rw [← hil, h0]; rfl
  ·rw [hil]; exact km_90
 have fS : Fr σ S1 U U1 := (a1.fr.trans f1).trans aS.fr
 have hBS := hB1.ap aS
 have hkS : Kept kl S1 := hkl.fr fS hklU
 have hkU1 : ∀ q ∈ kl, ¬ U1 q.1 := fun q hq e => (fS.own q.1 e).elim (hklU q hq) fun e => by have := at_lt (hkl q hq); omega
 repeat' first | ((with_reducible first | refine cs ?_ ?_ | refine ws ?_ ?_ | refine wd ?_ ?_ | refine wu ?_ ?_) <;> intro h <;> try simp only [h]) | simp only [↓wBA, tYm, convA, seval, pl43_10Ym, wH, c3y, hlf, hcc, hS1.symm, bN, yN, hla] | (with_reducible refine dP pl43_10Ym 12 (some 51) (by decide) (by kernel_rfl) ?_)
 refine awp_loopS (X := { q : Nat × AV // q.1 ≤ t.length }) (fun q => t.length - q.1.1) (fun q => [(12, q.1.2), (30, intV .i64 (q.1.1 : Nat))]) [8, 9, 13, 14, 15, 16, 17, 31, 32, 33, 34, 35, 36, 37, 38, 39, 40, 41, 42, 43, 44, 45, 46, 47, 48, 49, 50, 51, 52, 53, 54, 55, 56, 57, 58, 59, 60, 61, 62, 63, 64, 65, 66, 67, 68, 69, 70, 71, 72, 73, 74, 75, 76, 77, 78, 79, 80, 81, 82, 83, 84, 85, 86, 87, 88, 89, 90, 91, 92, 93, 94, 95, 96, 97, 98, 99, 100, 101, 102, 103, 104, 105, 106, 107, 108, 109, 110] (fun q s => ∃ U' P', Fr S1 s U1 U' ∧ Bt s b p dd l kh U' P' v ∧ Kp P P' 0 ∧ OwnR s q.1.2 48 3 (((List.range q.1.1).flatMap (stepC lo my (fromF lo my h) t)).map entP) ∧ (∀ j, ownOf q.1.2 = some j → S1.length ≤ j ∧ ¬ U' j)) (⟨(0, .p (.v (.slice none 0 0))), by omega⟩) ?_ ?_ ?_ ?_
 ·simp only [wHl, wHf]
 ·exact ⟨U1, P1, Fr.refl _ _, hBS, k1, .inl ⟨rfl, by simp⟩, fun j hj => by cases hj⟩
 ·rintro _ _ ⟨_, _, h, _⟩; exact h.len
 ·intro y J s hI
  simp only [wHl]
  obtain ⟨⟨i, av⟩, hi⟩ := y
  obtain ⟨U2, P2, fs, hB2, k2, how, hown⟩ := hI
  dsimp only at *
  have ls := fs.len
  have hlt2 := hB2.lt
  have nN1 : ¬ U1 s1.length := fun e => by have := hlt1 _ e; omega
  have cN := fs.get bN nN1
  have zN := at_lt cN
  have c0 := fs.get b0 n0
  have z0 := at_lt c0
  have hi0 := nnI i
  have hkk := hkS.fr fs hkU1
  have hkU2 : ∀ q ∈ kl, ¬ U2 q.1 := fun q hq e => (fs.own q.1 e).elim (hkU1 q hq) fun e => by have := at_lt (hkS q hq); omega
  by_cases hlt3 : i < t.length
  ·have hdec := dT (i := i) (n := t.length) hlt3
   have hw := wI i (by omega)
   obtain ⟨x, hx⟩ : ∃ x, t[i]? = some x := ⟨t[i], by simp⟩
   have hxm := List.mem_of_getElem? hx
   have hgx : (its1 t)[i]? = some ⟨x.1, x.2.1⟩ := by simp [its1, hx]
   have hgc : ((its1 t).map itC)[i]? = some (itC ⟨x.1, x.2.1⟩) := by simp [hgx]
   rcases haS with ⟨h0, _⟩ | ⟨_, tn, rfl, htn⟩
   ·rw [h0] at hgx; simp at hgx
   have ctn := fs.get htn (hta tn rfl).2
   have ztn := at_lt ctn
   have hif : ((i : Int) < ((its1 t).length : Int)) = True := eq_true (by omega)
   obtain ⟨S2, hS2⟩ : ∃ S2, S2 = s ++ [some (Ob.row 4 [itC ⟨x.1, x.2.1⟩])] := ⟨_, rfl⟩
   have aS2 : Ap s S2 := ⟨_, hS2⟩
   have hS2l : S2.length = s.length + 1 := by rw [hS2]; simp
   have hkx : Kept kl S2 := fun q hq => aS2.get (hkk q hq)
   have hmx := hmy _ x.1.k hkx
   have hxn : ∀ q, q ∈ pgT h x.2.1 x.2.2 → q ∈ pgT (h + 1) n t := fun q hq => by
    rw [pgT_node]; exact List.mem_cons_of_mem _ (List.mem_flatMap.2 ⟨x, hxm, hq⟩)
   have hxs : (pgT h x.2.1 x.2.2).Nodup := by
    rw [pgT_node] at hnd
    obtain ⟨u1, u2, hu⟩ := List.append_of_mem hxm
    rw [hu, flP_app, flP_cons] at hnd
    exact (List.nodup_append.1 (List.nodup_append.1 (List.nodup_cons.1 hnd).2).2.1).1
   have hacc1 : (List.range (i + 1)).flatMap (stepC lo my (fromF lo my h) t) = (List.range i).flatMap (stepC lo my (fromF lo my h) t) ++ (if skipC lo my t i x.1 then [] else fromF lo my h x.2.2) := by
    rw [List.range_succ, List.flatMap_append]
    simp only [List.flatMap_cons, List.flatMap_nil, List.append_nil]
    congr 1
    unfold stepC; rw [hx]
   have hai := hacc i (by omega)
   have hai1 := hacc (i + 1) (by omega)
   have hih := ih (hB2.ap aS2) (hb.kp k2 (by omega)) (hTr.2 x hxm) hxs (fun q hq => by rw [k2.pages]; exact htk q (hxn q hq)) hkx hkU2
   have d0 := aS2.get c0
   have dN := aS2.get cN
   have dtn := aS2.get ctn
   have dx : S2[s.length]? = some (some (Ob.row 4 [itC ⟨x.1, x.2.1⟩])) := by rw [hS2]; simp
   have w0 := at_lt d0
   have wN := at_lt dN
   have wtn := at_lt dtn
   have wx := at_lt dx
   have hS2' : s ++ [some (Ob.row 4 [[AV.p (PV.sl 1 (encB x.1.k)), AV.p (PV.v (Value.int IntKind.i64 (x.1.p : Nat))), AV.p (PV.v (Value.int IntKind.i64 (x.1.s : Nat))), AV.p (PV.v (Value.int IntKind.i64 (x.2.1 : Nat)))]])] = S2 := hS2.symm
   have hbi : ∃ bi, decide ((i : Int) > 0) = bi ∧ decide (0 < i) = bi := ⟨decide (0 < i), by simp, rfl⟩
   obtain ⟨bi, hbi1, hbi2⟩ := hbi
   have hbi3 : decide ((0 : Int) < (i : Int)) = bi := by rw [← hbi2]; simp
   cases bi with
   | false =>
     by_cases hl2 : i + 1 < t.length
     ·obtain ⟨y, hy⟩ : ∃ y, t[i + 1]? = some y := ⟨t[i + 1], by simp⟩
      have hgy : ((its1 t).map itC)[i + 1]? = some (itC ⟨y.1, y.2.1⟩) := by simp [its1, hy]
      have hgd : ((its1 t).map itC)[i + 1]? = some (itC ⟨y.1, y.2.1⟩) := hgy
      have hif2 : (((i + 1 : Nat) : Int) < ((its1 t).length : Int)) = True := eq_true (by omega)
      have hlb : (((i + 1 : Nat) : Int) == (t.length : Int)) = false := by simp; omega
      have hlb2 : decide (((i + 1 : Nat) : Int) = (t.length : Int)) = false := by simp; omega
      have hw1 := wI (i + 1) (by omega)
      have hbc := fun s => abcmp (x := .sl 1 (encB y.1.k)) (.inl rfl) hlo s
      by_cases hc : Lib.compareBytes y.1.k lo < 0
      ·have hd : decide (Lib.compareBytes y.1.k lo < 0) = true := by simpa using hc
       have hd' : (Lib.compareBytes y.1.k lo < 0) = True := eq_true hc
       have HSK : skipC lo my t i x.1 = true := by unfold skipC; rw [hy]; simp [hc]
       repeat' first | ((with_reducible first | refine cs ?_ ?_ | refine ws ?_ ?_ | refine wd ?_ ?_ | refine wu ?_ ?_) <;> intro h <;> try simp only [h]) | simp only [↓wBA, tYm, convA, seval, pl43_10Ym, wH, wHl, hdec, hi0, hif, hif2, hlb, hlb2, hgd, hw, hw1, cN, zN, ctn, ztn, hgc, itC, hS2', d0, dN, dtn, dx, w0, wN, wtn, wx, hbi1, hbi3, c3y, hla, hd, hd', c2y] | ((with_reducible show ACalls _ _ _ _ _); refine (hbc _).eq ?_) | (with_reducible refine dP pl43_10Ym 12 (some 51) (by decide) (by kernel_rfl) ?_)
       rw [if_pos HSK, List.append_nil] at hacc1
       refine ⟨⟨(i + 1, av), by omega⟩, by show t.length - (i + 1) < t.length - i; omega, ⟨U2, P2, fs.trans aS2.fr, hB2.ap aS2, k2, ?_, hown⟩, by simp only [wHl, wHf]⟩
       dsimp only
       rw [hacc1]
       exact how.same fun j hj => by rw [hS2, List.getElem?_append_left (how.lt hj)]
      ·have hd : decide (Lib.compareBytes y.1.k lo < 0) = false := by simpa using hc
       have hd' : (Lib.compareBytes y.1.k lo < 0) = False := eq_false hc
       have HSK : ¬ skipC lo my t i x.1 = true := by unfold skipC; rw [hy, hbi2]; simp [hc]
       repeat' first | ((with_reducible first | refine cs ?_ ?_ | refine ws ?_ ?_ | refine wd ?_ ?_ | refine wu ?_ ?_) <;> intro h <;> try simp only [h]) | simp only [↓wBA, tYm, convA, seval, pl43_10Ym, wH, wHl, hdec, hi0, hif, hif2, hlb, hlb2, hgd, hw, hw1, cN, zN, ctn, ztn, hgc, itC, hS2', d0, dN, dtn, dx, w0, wN, wtn, wx, hbi1, hbi3, c3y, hla, hd, hd', c2y] | ((with_reducible show ACalls _ _ _ _ _); refine (hbc _).eq ?_) | (with_reducible refine dP pl43_10Ym 12 (some 51) (by decide) (by kernel_rfl) ?_)
       rw [if_neg HSK] at hacc1
       rw [hacc1, List.length_append] at hai1
       refine hih.mono ?_
       rintro _ s3 ⟨U3, P3, avl, rfl, f3, hB3, k3, hE⟩
       have l3 := f3.len
       have hlt3' := hB3.lt
       have how1 := how.same (q' := s3) fun j hj => by
        rw [f3.keep j (by have := how.lt hj; omega) (hown j hj).2, hS2, List.getElem?_append_left (how.lt hj)]
       rcases hE with ⟨hE1, rfl⟩ | ⟨hE1, rfl⟩
       ·have e1 := app_nil (tk := s3.length) ck_40 how1 (by simp only [List.length_map]; omega) (by simp only [List.length_map]; omega)
        rw [hE1, List.append_nil] at hacc1
        repeat' first | ((with_reducible first | refine cs ?_ ?_ | refine ws ?_ ?_ | refine wd ?_ ?_ | refine wu ?_ ?_) <;> intro h <;> try simp only [h]) | simp only [↓wBA, tYm, convA, seval, pl43_10Ym, wH, wHl, e1, hw] | (with_reducible refine dP pl43_10Ym 12 (some 51) (by decide) (by kernel_rfl) ?_)
        refine ⟨⟨(i + 1, av), by omega⟩, by show t.length - (i + 1) < t.length - i; omega, ⟨U3, P3, (fs.trans aS2.fr).trans f3, hB3, k2.trans k3, ?_, fun j hj => ⟨(hown j hj).1, fun e => (f3.own j e).elim (hown j hj).2 fun e => by have := how.lt hj; omega⟩⟩, by simp only [wHl, wHf]⟩
        dsimp only
        rw [hacc1]
        exact how1
       ·have hmne : (fromF lo my h x.2.2).map entP ≠ [] := fun e => hE1 (List.map_eq_nil_iff.1 e)
        obtain ⟨av2, s4, e1, e2, e3, e4, e5⟩ := app_own (y := .p (.sl 3 ((fromF lo my h x.2.2).map entP))) (m := (fromF lo my h x.2.2).map entP) ck_40 how1 (by simp [srcD, srcA]) hmne (by simp only [List.length_map]; omega) (by simp only [List.length_map]; omega)
        repeat' first | ((with_reducible first | refine cs ?_ ?_ | refine ws ?_ ?_ | refine wd ?_ ?_ | refine wu ?_ ?_) <;> intro h <;> try simp only [h]) | simp only [↓wBA, tYm, convA, seval, pl43_10Ym, wH, wHl, e1, hw] | (with_reducible refine dP pl43_10Ym 12 (some 51) (by decide) (by kernel_rfl) ?_)
        have f4 : Fr s3 s4 (fun j => ownOf av = some j) (fun _ => False) := ⟨e3, fun j hj hn => e4 j hj hn, fun j h => h.elim⟩
        have hnU : ∀ j, ownOf av = some j → ¬ U3 j := fun j hj e => (f3.own j e).elim (hown j hj).2 fun e => by have := how.lt hj; omega
        refine ⟨⟨(i + 1, av2), by omega⟩, by show t.length - (i + 1) < t.length - i; omega, ⟨U3, P3, ?_, hB3.frame f4 fun j hj he => hnU j he hj, k2.trans k3, ?_, fun j hj => ?_⟩, by simp only [wHl, wHf]⟩
        ·have f5 := (fs.trans aS2.fr).trans f3
         exact ⟨by have := f5.len; omega, fun j hj hn => by rw [e4 j (by have := f5.len; omega) fun e => by have := (hown j e).1; omega]; exact f5.keep j hj hn, f5.own⟩
        ·dsimp only
         rw [hacc1, List.map_append]; exact e2
        ·rcases e5 j hj with h | h
         ·exact ⟨(hown j h).1, hnU j h⟩
         ·exact ⟨by have := fs.len; omega, fun e => by have := hlt3' _ e; omega⟩
     ·obtain hl3 : i + 1 = t.length := by omega
      have hy : t[i + 1]? = none := by simp; omega
      have hgd : True := trivial
      have hif2 : True := trivial
      have hw1 : True := trivial
      have hd : True := trivial
      have hd' : True := trivial
      have hlb : (((i + 1 : Nat) : Int) == (t.length : Int)) = true := by simp; omega
      have hlb2 : decide (((i + 1 : Nat) : Int) = (t.length : Int)) = true := by simp; omega
      have HSK : ¬ skipC lo my t i x.1 = true := by unfold skipC; rw [hy, hbi2]; simp
      repeat' first | ((with_reducible first | refine cs ?_ ?_ | refine ws ?_ ?_ | refine wd ?_ ?_ | refine wu ?_ ?_) <;> intro h <;> try simp only [h]) | simp only [↓wBA, tYm, convA, seval, pl43_10Ym, wH, wHl, hdec, hi0, hif, hif2, hlb, hlb2, hgd, hw, hw1, cN, zN, ctn, ztn, hgc, itC, hS2', d0, dN, dtn, dx, w0, wN, wtn, wx, hbi1, hbi3, c3y, hla, hd, hd', c2y] | (with_reducible refine dP pl43_10Ym 12 (some 51) (by decide) (by kernel_rfl) ?_)
      rw [if_neg HSK] at hacc1
      rw [hacc1, List.length_append] at hai1
      refine hih.mono ?_
      rintro _ s3 ⟨U3, P3, avl, rfl, f3, hB3, k3, hE⟩
      have l3 := f3.len
      have hlt3' := hB3.lt
      have how1 := how.same (q' := s3) fun j hj => by
       rw [f3.keep j (by have := how.lt hj; omega) (hown j hj).2, hS2, List.getElem?_append_left (how.lt hj)]
      rcases hE with ⟨hE1, rfl⟩ | ⟨hE1, rfl⟩
      ·have e1 := app_nil (tk := s3.length) ck_40 how1 (by simp only [List.length_map]; omega) (by simp only [List.length_map]; omega)
       rw [hE1, List.append_nil] at hacc1
       repeat' first | ((with_reducible first | refine cs ?_ ?_ | refine ws ?_ ?_ | refine wd ?_ ?_ | refine wu ?_ ?_) <;> intro h <;> try simp only [h]) | simp only [↓wBA, tYm, convA, seval, pl43_10Ym, wH, wHl, e1, hw] | (with_reducible refine dP pl43_10Ym 12 (some 51) (by decide) (by kernel_rfl) ?_)
       refine ⟨⟨(i + 1, av), by omega⟩, by show t.length - (i + 1) < t.length - i; omega, ⟨U3, P3, (fs.trans aS2.fr).trans f3, hB3, k2.trans k3, ?_, fun j hj => ⟨(hown j hj).1, fun e => (f3.own j e).elim (hown j hj).2 fun e => by have := how.lt hj; omega⟩⟩, by simp only [wHl, wHf]⟩
       dsimp only
       rw [hacc1]
       exact how1
      ·have hmne : (fromF lo my h x.2.2).map entP ≠ [] := fun e => hE1 (List.map_eq_nil_iff.1 e)
       obtain ⟨av2, s4, e1, e2, e3, e4, e5⟩ := app_own (y := .p (.sl 3 ((fromF lo my h x.2.2).map entP))) (m := (fromF lo my h x.2.2).map entP) ck_40 how1 (by simp [srcD, srcA]) hmne (by simp only [List.length_map]; omega) (by simp only [List.length_map]; omega)
       repeat' first | ((with_reducible first | refine cs ?_ ?_ | refine ws ?_ ?_ | refine wd ?_ ?_ | refine wu ?_ ?_) <;> intro h <;> try simp only [h]) | simp only [↓wBA, tYm, convA, seval, pl43_10Ym, wH, wHl, e1, hw] | (with_reducible refine dP pl43_10Ym 12 (some 51) (by decide) (by kernel_rfl) ?_)
       have f4 : Fr s3 s4 (fun j => ownOf av = some j) (fun _ => False) := ⟨e3, fun j hj hn => e4 j hj hn, fun j h => h.elim⟩
       have hnU : ∀ j, ownOf av = some j → ¬ U3 j := fun j hj e => (f3.own j e).elim (hown j hj).2 fun e => by have := how.lt hj; omega
       refine ⟨⟨(i + 1, av2), by omega⟩, by show t.length - (i + 1) < t.length - i; omega, ⟨U3, P3, ?_, hB3.frame f4 fun j hj he => hnU j he hj, k2.trans k3, ?_, fun j hj => ?_⟩, by simp only [wHl, wHf]⟩
       ·have f5 := (fs.trans aS2.fr).trans f3
        exact ⟨by have := f5.len; omega, fun j hj hn => by rw [e4 j (by have := f5.len; omega) fun e => by have := (hown j e).1; omega]; exact f5.keep j hj hn, f5.own⟩
       ·dsimp only
        rw [hacc1, List.map_append]; exact e2
       ·rcases e5 j hj with h | h
        ·exact ⟨(hown j h).1, hnU j h⟩
        ·exact ⟨by have := fs.len; omega, fun e => by have := hlt3' _ e; omega⟩
   | true =>
     cases hm : my x.1.k with
     | true =>
       rw [hm] at hmx
       by_cases hl2 : i + 1 < t.length
       ·obtain ⟨y, hy⟩ : ∃ y, t[i + 1]? = some y := ⟨t[i + 1], by simp⟩
        have hgy : ((its1 t).map itC)[i + 1]? = some (itC ⟨y.1, y.2.1⟩) := by simp [its1, hy]
        have hgd : ((its1 t).map itC)[i + 1]? = some (itC ⟨y.1, y.2.1⟩) := hgy
        have hif2 : (((i + 1 : Nat) : Int) < ((its1 t).length : Int)) = True := eq_true (by omega)
        have hlb : (((i + 1 : Nat) : Int) == (t.length : Int)) = false := by simp; omega
        have hlb2 : decide (((i + 1 : Nat) : Int) = (t.length : Int)) = false := by simp; omega
        have hw1 := wI (i + 1) (by omega)
        have hbc := fun s => abcmp (x := .sl 1 (encB y.1.k)) (.inl rfl) hlo s
        by_cases hc : Lib.compareBytes y.1.k lo < 0
        ·have hd : decide (Lib.compareBytes y.1.k lo < 0) = true := by simpa using hc
         have hd' : (Lib.compareBytes y.1.k lo < 0) = True := eq_true hc
         have HSK : skipC lo my t i x.1 = true := by unfold skipC; rw [hy]; simp [hc]
         repeat' first | ((with_reducible first | refine cs ?_ ?_ | refine ws ?_ ?_ | refine wd ?_ ?_ | refine wu ?_ ?_) <;> intro h <;> try simp only [h]) | simp only [↓wBA, tYm, convA, seval, pl43_10Ym, wH, wHl, hdec, hi0, hif, hif2, hlb, hlb2, hgd, hw, hw1, cN, zN, ctn, ztn, hgc, itC, hS2', d0, dN, dtn, dx, w0, wN, wtn, wx, hbi1, hbi3, c3y, hla, hd, hd', c2y] | ((with_reducible show ACalls _ _ _ _ _); first | refine hmx.eq ?_ | refine (hbc _).eq ?_) | (with_reducible refine dP pl43_10Ym 12 (some 51) (by decide) (by kernel_rfl) ?_)
         rw [if_pos HSK, List.append_nil] at hacc1
         refine ⟨⟨(i + 1, av), by omega⟩, by show t.length - (i + 1) < t.length - i; omega, ⟨U2, P2, fs.trans aS2.fr, hB2.ap aS2, k2, ?_, hown⟩, by simp only [wHl, wHf]⟩
         dsimp only
         rw [hacc1]
         exact how.same fun j hj => by rw [hS2, List.getElem?_append_left (how.lt hj)]
        ·have hd : decide (Lib.compareBytes y.1.k lo < 0) = false := by simpa using hc
         have hd' : (Lib.compareBytes y.1.k lo < 0) = False := eq_false hc
         have HSK : ¬ skipC lo my t i x.1 = true := by unfold skipC; rw [hy, hbi2]; simp [hc, hm]
         repeat' first | ((with_reducible first | refine cs ?_ ?_ | refine ws ?_ ?_ | refine wd ?_ ?_ | refine wu ?_ ?_) <;> intro h <;> try simp only [h]) | simp only [↓wBA, tYm, convA, seval, pl43_10Ym, wH, wHl, hdec, hi0, hif, hif2, hlb, hlb2, hgd, hw, hw1, cN, zN, ctn, ztn, hgc, itC, hS2', d0, dN, dtn, dx, w0, wN, wtn, wx, hbi1, hbi3, c3y, hla, hd, hd', c2y] | ((with_reducible show ACalls _ _ _ _ _); first | refine hmx.eq ?_ | refine (hbc _).eq ?_) | (with_reducible refine dP pl43_10Ym 12 (some 51) (by decide) (by kernel_rfl) ?_)
         rw [if_neg HSK] at hacc1
         rw [hacc1, List.length_append] at hai1
         refine hih.mono ?_
         rintro _ s3 ⟨U3, P3, avl, rfl, f3, hB3, k3, hE⟩
         have l3 := f3.len
         have hlt3' := hB3.lt
         have how1 := how.same (q' := s3) fun j hj => by
          rw [f3.keep j (by have := how.lt hj; omega) (hown j hj).2, hS2, List.getElem?_append_left (how.lt hj)]
         rcases hE with ⟨hE1, rfl⟩ | ⟨hE1, rfl⟩
         ·have e1 := app_nil (tk := s3.length) ck_40 how1 (by simp only [List.length_map]; omega) (by simp only [List.length_map]; omega)
          rw [hE1, List.append_nil] at hacc1
          repeat' first | ((with_reducible first | refine cs ?_ ?_ | refine ws ?_ ?_ | refine wd ?_ ?_ | refine wu ?_ ?_) <;> intro h <;> try simp only [h]) | simp only [↓wBA, tYm, convA, seval, pl43_10Ym, wH, wHl, e1, hw] | (with_reducible refine dP pl43_10Ym 12 (some 51) (by decide) (by kernel_rfl) ?_)
          refine ⟨⟨(i + 1, av), by omega⟩, by show t.length - (i + 1) < t.length - i; omega, ⟨U3, P3, (fs.trans aS2.fr).trans f3, hB3, k2.trans k3, ?_, fun j hj => ⟨(hown j hj).1, fun e => (f3.own j e).elim (hown j hj).2 fun e => by have := how.lt hj; omega⟩⟩, by simp only [wHl, wHf]⟩
          dsimp only
          rw [hacc1]
          exact how1
         ·have hmne : (fromF lo my h x.2.2).map entP ≠ [] := fun e => hE1 (List.map_eq_nil_iff.1 e)
          obtain ⟨av2, s4, e1, e2, e3, e4, e5⟩ := app_own (y := .p (.sl 3 ((fromF lo my h x.2.2).map entP))) (m := (fromF lo my h x.2.2).map entP) ck_40 how1 (by simp [srcD, srcA]) hmne (by simp only [List.length_map]; omega) (by simp only [List.length_map]; omega)
          repeat' first | ((with_reducible first | refine cs ?_ ?_ | refine ws ?_ ?_ | refine wd ?_ ?_ | refine wu ?_ ?_) <;> intro h <;> try simp only [h]) | simp only [↓wBA, tYm, convA, seval, pl43_10Ym, wH, wHl, e1, hw] | (with_reducible refine dP pl43_10Ym 12 (some 51) (by decide) (by kernel_rfl) ?_)
          have f4 : Fr s3 s4 (fun j => ownOf av = some j) (fun _ => False) := ⟨e3, fun j hj hn => e4 j hj hn, fun j h => h.elim⟩
          have hnU : ∀ j, ownOf av = some j → ¬ U3 j := fun j hj e => (f3.own j e).elim (hown j hj).2 fun e => by have := how.lt hj; omega
          refine ⟨⟨(i + 1, av2), by omega⟩, by show t.length - (i + 1) < t.length - i; omega, ⟨U3, P3, ?_, hB3.frame f4 fun j hj he => hnU j he hj, k2.trans k3, ?_, fun j hj => ?_⟩, by simp only [wHl, wHf]⟩
          ·have f5 := (fs.trans aS2.fr).trans f3
           exact ⟨by have := f5.len; omega, fun j hj hn => by rw [e4 j (by have := f5.len; omega) fun e => by have := (hown j e).1; omega]; exact f5.keep j hj hn, f5.own⟩
          ·dsimp only
           rw [hacc1, List.map_append]; exact e2
          ·rcases e5 j hj with h | h
           ·exact ⟨(hown j h).1, hnU j h⟩
           ·exact ⟨by have := fs.len; omega, fun e => by have := hlt3' _ e; omega⟩
       ·obtain hl3 : i + 1 = t.length := by omega
        have hy : t[i + 1]? = none := by simp; omega
        have hgd : True := trivial
        have hif2 : True := trivial
        have hw1 : True := trivial
        have hd : True := trivial
        have hd' : True := trivial
        have hlb : (((i + 1 : Nat) : Int) == (t.length : Int)) = true := by simp; omega
        have hlb2 : decide (((i + 1 : Nat) : Int) = (t.length : Int)) = true := by simp; omega
        have HSK : ¬ skipC lo my t i x.1 = true := by unfold skipC; rw [hy, hbi2]; simp [hm]
        repeat' first | ((with_reducible first | refine cs ?_ ?_ | refine ws ?_ ?_ | refine wd ?_ ?_ | refine wu ?_ ?_) <;> intro h <;> try simp only [h]) | simp only [↓wBA, tYm, convA, seval, pl43_10Ym, wH, wHl, hdec, hi0, hif, hif2, hlb, hlb2, hgd, hw, hw1, cN, zN, ctn, ztn, hgc, itC, hS2', d0, dN, dtn, dx, w0, wN, wtn, wx, hbi1, hbi3, c3y, hla, hd, hd', c2y] | ((with_reducible show ACalls _ _ _ _ _); refine hmx.eq ?_) | (with_reducible refine dP pl43_10Ym 12 (some 51) (by decide) (by kernel_rfl) ?_)
        rw [if_neg HSK] at hacc1
        rw [hacc1, List.length_append] at hai1
        refine hih.mono ?_
        rintro _ s3 ⟨U3, P3, avl, rfl, f3, hB3, k3, hE⟩
        have l3 := f3.len
        have hlt3' := hB3.lt
        have how1 := how.same (q' := s3) fun j hj => by
         rw [f3.keep j (by have := how.lt hj; omega) (hown j hj).2, hS2, List.getElem?_append_left (how.lt hj)]
        rcases hE with ⟨hE1, rfl⟩ | ⟨hE1, rfl⟩
        ·have e1 := app_nil (tk := s3.length) ck_40 how1 (by simp only [List.length_map]; omega) (by simp only [List.length_map]; omega)
         rw [hE1, List.append_nil] at hacc1
         repeat' first | ((with_reducible first | refine cs ?_ ?_ | refine ws ?_ ?_ | refine wd ?_ ?_ | refine wu ?_ ?_) <;> intro h <;> try simp only [h]) | simp only [↓wBA, tYm, convA, seval, pl43_10Ym, wH, wHl, e1, hw] | (with_reducible refine dP pl43_10Ym 12 (some 51) (by decide) (by kernel_rfl) ?_)
         refine ⟨⟨(i + 1, av), by omega⟩, by show t.length - (i + 1) < t.length - i; omega, ⟨U3, P3, (fs.trans aS2.fr).trans f3, hB3, k2.trans k3, ?_, fun j hj => ⟨(hown j hj).1, fun e => (f3.own j e).elim (hown j hj).2 fun e => by have := how.lt hj; omega⟩⟩, by simp only [wHl, wHf]⟩
         dsimp only
         rw [hacc1]
         exact how1
        ·have hmne : (fromF lo my h x.2.2).map entP ≠ [] := fun e => hE1 (List.map_eq_nil_iff.1 e)
         obtain ⟨av2, s4, e1, e2, e3, e4, e5⟩ := app_own (y := .p (.sl 3 ((fromF lo my h x.2.2).map entP))) (m := (fromF lo my h x.2.2).map entP) ck_40 how1 (by simp [srcD, srcA]) hmne (by simp only [List.length_map]; omega) (by simp only [List.length_map]; omega)
         repeat' first | ((with_reducible first | refine cs ?_ ?_ | refine ws ?_ ?_ | refine wd ?_ ?_ | refine wu ?_ ?_) <;> intro h <;> try simp only [h]) | simp only [↓wBA, tYm, convA, seval, pl43_10Ym, wH, wHl, e1, hw] | (with_reducible refine dP pl43_10Ym 12 (some 51) (by decide) (by kernel_rfl) ?_)
         have f4 : Fr s3 s4 (fun j => ownOf av = some j) (fun _ => False) := ⟨e3, fun j hj hn => e4 j hj hn, fun j h => h.elim⟩
         have hnU : ∀ j, ownOf av = some j → ¬ U3 j := fun j hj e => (f3.own j e).elim (hown j hj).2 fun e => by have := how.lt hj; omega
         refine ⟨⟨(i + 1, av2), by omega⟩, by show t.length - (i + 1) < t.length - i; omega, ⟨U3, P3, ?_, hB3.frame f4 fun j hj he => hnU j he hj, k2.trans k3, ?_, fun j hj => ?_⟩, by simp only [wHl, wHf]⟩
         ·have f5 := (fs.trans aS2.fr).trans f3
          exact ⟨by have := f5.len; omega, fun j hj hn => by rw [e4 j (by have := f5.len; omega) fun e => by have := (hown j e).1; omega]; exact f5.keep j hj hn, f5.own⟩
         ·dsimp only
          rw [hacc1, List.map_append]; exact e2
         ·rcases e5 j hj with h | h
          ·exact ⟨(hown j h).1, hnU j h⟩
          ·exact ⟨by have := fs.len; omega, fun e => by have := hlt3' _ e; omega⟩
     | false =>
       rw [hm] at hmx
       have hgd : True := trivial
       have hif2 : True := trivial
       have hw1 : True := trivial
       have hd : True := trivial
       have hd' : True := trivial
       have HSK : skipC lo my t i x.1 = true := by unfold skipC; rw [hbi2, hm]; rfl
       cases hlb : (((i + 1 : Nat) : Int) == (t.length : Int)) with
       | true =>
         have hlb2 : decide (((i + 1 : Nat) : Int) = (t.length : Int)) = true := by simpa using hlb
         repeat' first | ((with_reducible first | refine cs ?_ ?_ | refine ws ?_ ?_ | refine wd ?_ ?_ | refine wu ?_ ?_) <;> intro h <;> try simp only [h]) | simp only [↓wBA, tYm, convA, seval, pl43_10Ym, wH, wHl, hdec, hi0, hif, hif2, hlb, hlb2, hgd, hw, hw1, cN, zN, ctn, ztn, hgc, itC, hS2', d0, dN, dtn, dx, w0, wN, wtn, wx, hbi1, hbi3, c3y, hla, hd, hd', c2y] | ((with_reducible show ACalls _ _ _ _ _); refine hmx.eq ?_) | (with_reducible refine dP pl43_10Ym 12 (some 51) (by decide) (by kernel_rfl) ?_)
         rw [if_pos HSK, List.append_nil] at hacc1
         refine ⟨⟨(i + 1, av), by omega⟩, by show t.length - (i + 1) < t.length - i; omega, ⟨U2, P2, fs.trans aS2.fr, hB2.ap aS2, k2, ?_, hown⟩, by simp only [wHl, wHf]⟩
         dsimp only
         rw [hacc1]
         exact how.same fun j hj => by rw [hS2, List.getElem?_append_left (how.lt hj)]
       | false =>
         have hlb2 : decide (((i + 1 : Nat) : Int) = (t.length : Int)) = false := by simpa using hlb
         repeat' first | ((with_reducible first | refine cs ?_ ?_ | refine ws ?_ ?_ | refine wd ?_ ?_ | refine wu ?_ ?_) <;> intro h <;> try simp only [h]) | simp only [↓wBA, tYm, convA, seval, pl43_10Ym, wH, wHl, hdec, hi0, hif, hif2, hlb, hlb2, hgd, hw, hw1, cN, zN, ctn, ztn, hgc, itC, hS2', d0, dN, dtn, dx, w0, wN, wtn, wx, hbi1, hbi3, c3y, hla, hd, hd', c2y] | ((with_reducible show ACalls _ _ _ _ _); refine hmx.eq ?_) | (with_reducible refine dP pl43_10Ym 12 (some 51) (by decide) (by kernel_rfl) ?_)
         rw [if_pos HSK, List.append_nil] at hacc1
         refine ⟨⟨(i + 1, av), by omega⟩, by show t.length - (i + 1) < t.length - i; omega, ⟨U2, P2, fs.trans aS2.fr, hB2.ap aS2, k2, ?_, hown⟩, by simp only [wHl, wHf]⟩
         dsimp only
         rw [hacc1]
         exact how.same fun j hj => by rw [hS2, List.getElem?_append_left (how.lt hj)]
  ·obtain rfl : i = t.length := by omega
   have hdec := dF (i := t.length) (n := t.length) hlt3
   rcases how with ⟨rfl, he⟩ | ⟨to, rfl, hne, hto⟩
   ·skip
    repeat' first | ((with_reducible first | refine cs ?_ ?_ | refine ws ?_ ?_ | refine wd ?_ ?_ | refine wu ?_ ?_) <;> intro h <;> try simp only [h]) | simp only [↓wBA, tYm, convA, seval, pl43_10Ym, wH, wHl, hdec] | (with_reducible refine dP pl43_10Ym 12 (some 51) (by decide) (by kernel_rfl) ?_)
    all_goals refine ret_st ?_ (by first | exact Nat.le_refl _ | (simp only [List.length_set, List.length_append]; omega) | omega)
    all_goals simp only [resA.eq_1, resL.eq_1, resL.eq_2, resV.eq_1, resV.eq_2, ↓wBA, tYm, convA, seval, wH]
    refine ⟨U2, P2, _, rfl, fS.trans fs, hB2, k2, .inl ⟨?_, rfl⟩⟩
    exact List.map_eq_nil_iff.1 he
   ·skip
    repeat' first | ((with_reducible first | refine cs ?_ ?_ | refine ws ?_ ?_ | refine wd ?_ ?_ | refine wu ?_ ?_) <;> intro h <;> try simp only [h]) | simp only [↓wBA, tYm, convA, seval, pl43_10Ym, wH, wHl, hdec] | (with_reducible refine dP pl43_10Ym 12 (some 51) (by decide) (by kernel_rfl) ?_)
    all_goals refine ret_st ?_ (by first | exact Nat.le_refl _ | (simp only [List.length_set, List.length_append]; omega) | omega)
    all_goals simp only [resA.eq_1, resL.eq_1, resL.eq_2, resV.eq_1, resV.eq_2, ↓wBA, tYm, convA, seval, wH]
    exact ⟨U2, P2, _, rfl, fS.trans fs, hB2, k2, .inr ⟨to, fun e => hne (by rw [show (List.range t.length).flatMap (stepC lo my (fromF lo my h) t) = fromF lo my (h + 1) t from rfl, e]; rfl), rfl⟩⟩
end
end Go.Proofs.YtockimhceppkbaaGreat
namespace Go.Proofs.YtockimhceppkbaaGreat
open Go.RowKit
def tYn := aa wX <| aa wbu <| aa T3 <| aa T30 <| aa T35 <| aa T86 T109
theorem atFrom {b p dd l kh : Nat} {v : Nat → List UInt8} {lo : List UInt8} {lox : PV} {my : List UInt8 → Bool} {g : FuncId} {caps : List AV} {kl : List (Nat × Ob)} (hlo : BX lox lo)
 (hmy : ∀ (s : St) (k : List UInt8), Kept kl s → ACalls Tryz.prog g (.p (.sl 1 (encB k)) :: caps) s fun r s' => s' = s ∧ r = boolV (my k)) : ∀ (h : Nat) {σ : St} {U : Nat → Prop} {P : PoolV} {n : Nat} {t : BTr h}, Bt σ b p dd l kh U P v → Bud P 1 → TrAt v h n t → (pgT h n t).Nodup → (∀ q ∈ pgT h n t, q < P.pages) → Kept kl σ → (∀ q ∈ kl, ¬ U q.1) →
  ACalls Tryz.prog 43 [.agg [.mp b 2 0 0], intV .i64 (n : Nat), .p lox, .fn g [] caps] σ fun r σ' => FromPost h t lo my σ b p dd l kh U P v r σ'
 | 0, σ, U, P, n, t, hB, hb, hTr, hnd, htk, hkl, hklU => atFromLeaf hB hb (htk n (pgT_root 0 n t)) hTr hlo hkl hklU hmy
 | h + 1, σ, U, P, n, t, hB, hb, hTr, hnd, htk, hkl, hklU => atFromNode hB hb hTr hnd htk hlo hkl hklU hmy fun a1 a2 a3 a4 a5 a6 a7 => atFrom hlo hmy h a1 a2 a3 a4 a5 a6 a7
theorem atAll1 (σ : St) (x : PV) : ACalls Tryz.prog 44 [.p x] σ fun r s => s = σ ∧ r = boolV true := by
 refine acalls_of cx_ok dr_ok Tryz.func44 (by kernel_rfl) rfl (nt := 2) (rs := [.tmp 2]) rfl rfl ?_
 repeat' first | ((with_reducible first | refine cs ?_ ?_ | refine ws ?_ ?_) <;> intro h <;> try simp only [h]) | simp only [↓wBA, tYn, convA, seval, wH]
 all_goals refine ret_st ?_ (by first | exact Nat.le_refl _ | (simp only [List.length_set, List.length_append]; omega) | omega)
 all_goals simp only [resA.eq_1, resL.eq_1, resL.eq_2, resV.eq_1, resV.eq_2, ↓wBA, tYn, convA, seval, wH]
section
variable {σ : St} {b p dd l kh n h : Nat} {U : Nat → Prop} {P : PoolV} {v : Nat → List UInt8} {T : Nat → Bool}
theorem atAll {t : BTr h} (hB : Bt σ b p dd l kh U P v) (hb : Bud P 1) (hR : RootOk v T P.pages n h t) :
 ACalls Tryz.prog 15 [.mp b 2 0 0, intV .i64 (n : Nat)] σ fun r σ' => FromPost h t [] (fun _ => true) σ b p dd l kh U P v r σ' := by
 refine acalls_of cx_ok dr_ok Tryz.func15 (by kernel_rfl) rfl (nt := 12) (rs := [.tmp 4, .tmp 5]) rfl rfl ?_
 repeat' first | ((with_reducible first | refine cs ?_ ?_ | refine ws ?_ ?_) <;> intro h <;> try simp only [h]) | simp only [↓wBA, tYn, convA, seval, wH]
 refine (atFrom (kl := []) (my := fun _ => true) (lo := []) (.inr ⟨rfl, rfl⟩) (fun s k hs => atAll1 s _) h hB hb hR.tr hR.nd (fun q hq => (hR.tk q hq).2.1) (fun q hq => by simp at hq) (fun q hq => by simp at hq)).mono ?_
 rintro _ s1 ⟨U1, P1, av, rfl, f1, hB1, k1, hE⟩
 have q1 := f1.len
 repeat' first | ((with_reducible first | refine cs ?_ ?_ | refine ws ?_ ?_) <;> intro h <;> try simp only [h]) | simp only [↓wBA, tYn, convA, seval, wH]
 all_goals refine ret_st ?_ (by first | exact Nat.le_refl _ | (simp only [List.length_set, List.length_append]; omega) | omega)
 all_goals simp only [resA.eq_1, resL.eq_1, resL.eq_2, resV.eq_1, resV.eq_2, ↓wBA, tYn, convA, seval, wH]
 exact ⟨U1, P1, av, rfl, f1, hB1, k1, hE⟩
theorem root_nil {v : Nat → List UInt8} {T : Nat → Bool} {np n : Nat} (hv : v n = newL 2) (h1 : 1 ≤ n) (h2 : n < np) (h3 : T n = true) : RootOk v T np n 0 ([] : List Ent) := by
 refine ⟨?_, by simp [pgT], fun q hq => ?_, ?_⟩
 ·have := (fit_yes (kd := 2) (l := []) (.inl rfl) (by simp) (by simp [szL])).2
  rw [show (fitF 2 []).1 = newL 2 from rfl, ← hv] at this
  exact this
 ·simp only [pgT, List.mem_singleton] at hq; subst hq; exact ⟨h1, h2, h3⟩
 ·exact ⟨List.Pairwise.nil, fun e he => by simp at he⟩
theorem atMake (hB : Bt σ b p dd l kh U P v) (hT : Tk (v 0) P.pages T) (hnp : P.pages ≤ 3200) (hnp1 : 1 ≤ P.pages) (hT0 : T 0 = true) (hb : Bud P 1) :
 ACalls Tryz.prog 11 [.mp b 2 0 0] σ fun r σ' => ∃ U' P' v', Fr σ σ' U U' ∧ Bt σ' b p dd l kh U' P' v' ∧ Kp P P' 0 ∧
  ((∃ n, T n = false ∧ r = .tup [intV .i64 (n : Nat), intV .i64 0] ∧ (∀ m, m ≠ n → m ≠ 0 → v' m = v m) ∧ Tk (v' 0) P.pages (updT T n true) ∧ updT T n true 0 = true ∧ RootOk v' (updT T n true) P.pages n 0 ([] : List Ent)) ∨ ((∀ n, n < P.pages → T n = true) ∧ r = .tup [intV .i64 0, intV .i64 20] ∧ v' = v)) := by
 refine acalls_of cx_ok dr_ok Tryz.func11 (by kernel_rfl) rfl (nt := 9) (rs := [.tmp 2, .tmp 3]) rfl rfl ?_
 repeat' first | ((with_reducible first | refine cs ?_ ?_ | refine ws ?_ ?_) <;> intro h <;> try simp only [h]) | simp only [↓wBA, tYn, convA, seval, wH]
 refine (abAlloc (kind := 2) hB hT hnp hnp1 hT0 hb).mono ?_
 rintro r s1 ⟨U1, P1, v1, f1, hB1, k1, h1⟩
 have q1 := f1.len
 rcases h1 with ⟨n, m1, m2, m3, rfl, m4, m5, m6⟩ | ⟨m1, rfl, m2⟩
 ·skip
  repeat' first | ((with_reducible first | refine cs ?_ ?_ | refine ws ?_ ?_) <;> intro h <;> try simp only [h]) | simp only [↓wBA, tYn, convA, seval, wH]
  all_goals refine ret_st ?_ (by first | exact Nat.le_refl _ | (simp only [List.length_set, List.length_append]; omega) | omega)
  all_goals simp only [resA.eq_1, resL.eq_1, resL.eq_2, resV.eq_1, resV.eq_2, ↓wBA, tYn, convA, seval, wH]
  exact ⟨U1, P1, v1, f1, hB1, k1, .inl ⟨n, m3, rfl, m5, m6, by unfold updT; split <;> simp_all, root_nil m4 m1 m2 (by simp [updT])⟩⟩
 ·skip
  repeat' first | ((with_reducible first | refine cs ?_ ?_ | refine ws ?_ ?_) <;> intro h <;> try simp only [h]) | simp only [↓wBA, tYn, convA, seval, wH]
  all_goals refine ret_st ?_ (by first | exact Nat.le_refl _ | (simp only [List.length_set, List.length_append]; omega) | omega)
  all_goals simp only [resA.eq_1, resL.eq_1, resL.eq_2, resV.eq_1, resV.eq_2, ↓wBA, tYn, convA, seval, wH]
  exact ⟨U1, P1, v1, f1, hB1, k1, .inr ⟨m1, m2⟩⟩
end
end Go.Proofs.YtockimhceppkbaaGreat
namespace Go.Proofs.YtockimhceppkbaaGreat
open Go.RowKit
section
variable {α : Type} {P : Ent → Option Ent → α → Prop} {F : α → List Ent}
end
end Go.Proofs.YtockimhceppkbaaGreat
