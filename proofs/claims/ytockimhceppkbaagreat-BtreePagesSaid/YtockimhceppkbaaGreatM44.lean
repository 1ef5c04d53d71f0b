/- Trees: entries from a key on. -/
import Derived.Test.YtockimhceppkbaaGreatM43
set_option linter.unusedSimpArgs false
set_option linter.unusedVariables false
set_option linter.defProp false
set_option maxRecDepth 100000
set_option maxHeartbeats 32000000
namespace Go.Proofs.YtockimhceppkbaaGreat
open Go.RowKit
def pl43_10Yl : Plan := (.det 0 (.det 1 (.det 2 (.det 3 (.det 5 (.det 6 (.det 7 (.act 4 (.det 8 (.fin 9 (.fin 10 (.det 11 .done))))))))))))
def tYl := aa wX <| aa wbu <| aa T3 <| aa T4 <| aa T25 <| aa T35 <| aa T37 <| aa T40 <| aa T48 <| aa T86 <| aa T90 <| aa T92 <| aa T97 T109
theorem atClone (k : List UInt8) (hk : k.length ≤ 1000000) (σ : St) : ACalls Tryz.prog 81 [.p (.sl 1 (encB k))] σ fun r s => s = σ ∧ r = .p (.sl 1 (encB k)) := by
 refine ACalls.pureF (R := fun r => r = .p (.sl 1 (encB k))) ?_ rfl σ
 cases k with
 | nil =>
   refine ACalls.nilSplit ?_ fun ad c => ?_
   ·have h : ACalls Tryz.prog 81 [.p (.v (.slice none 0 0))] [] fun r s => r = .p (.v (.slice none 0 0)) := by
     refine acalls_of cx_ok dr_ok Tryz.func81 (by kernel_rfl) rfl (nt := 7) (rs := [.tmp 2]) rfl rfl ?_
     repeat' first | ((with_reducible first | refine cs ?_ ?_ | refine ws ?_ ?_) <;> intro h <;> try simp only [h]) | simp only [↓wBA, tYl, convA, seval]
     all_goals refine ret_st ?_ (by first | exact Nat.le_refl _ | (simp only [List.length_set, List.length_append]; omega) | omega)
     all_goals simp only [resA.eq_1, resL.eq_1, resL.eq_2, resV.eq_1, resV.eq_2, ↓wBA, tYl, convA, seval, wH]
    refine ACalls.mono (R := fun r s => r = .p (.sl 1 [])) ?_ ?_
    ·exact ⟨h.1, fun M vs hM hv => (h.2 M vs hM hv).mono fun e w' ⟨v, r, s, M', a1, a2, a3, a4, a5, a6, a7⟩ => by
      subst a7
      have := (rep_v a5).2
      subst this
      exact ⟨_, .p (.sl 1 []), s, M', a1, a2, a3, a4, by simp only [ARep, PRep]; exact .inl ⟨trivial, none, 0, rfl, fun _ => rfl⟩, a6, rfl⟩⟩
    ·rintro r s rfl
     exact ⟨rfl, rfl⟩
   ·have hm0 := lM (n := 0) (by omega)
    refine acalls_of cx_ok dr_ok Tryz.func81 (by kernel_rfl) rfl (nt := 7) (rs := [.tmp 2]) rfl rfl ?_
    repeat' first | ((with_reducible first | refine cs ?_ ?_ | refine ws ?_ ?_) <;> intro h <;> try simp only [h]) | simp only [↓wBA, tYl, convA, seval, appendA, srcD, srcA, hm0]
    all_goals refine ret_is (a := _) ?_ rfl rfl
    all_goals simp only [↓wBA, tYl, convA, seval]
    all_goals simp_all [wS, encB]
 | cons b k =>
   have hl := encB_len' (b :: k)
   have hc : encB (b :: k) = [byteP b] :: encB k := rfl
   have hl1 := tL (n := k.length + 1) (by simp at hk; omega)
   have hl2 := lM (n := k.length + 1) (by simp at hk; omega)
   have hek := encB_len' k
   rw [hc]
   refine acalls_of cx_ok dr_ok Tryz.func81 (by kernel_rfl) rfl (nt := 7) (rs := [.tmp 2]) rfl rfl ?_
   repeat' first | ((with_reducible first | refine cs ?_ ?_ | refine ws ?_ ?_) <;> intro h <;> try simp only [h]) | simp only [↓wBA, tYl, convA, seval, appendA, srcD, srcA, Nat.mul_one, List.length_cons, List.length_nil, hl1, hl2, hek, Nat.zero_add]
   all_goals refine ret_is (a := _) ?_ rfl rfl
   all_goals simp only [↓wBA, tYl, convA, seval]
   all_goals simp_all [wS]
def tellE (lo : List UInt8) (my : List UInt8 → Bool) (e : Ent) : Bool := decide (0 ≤ Lib.compareBytes e.k lo) && my e.k
def skipC {α : Type} (lo : List UInt8) (my : List UInt8 → Bool) (l : List (Ent × Nat × α)) (i : Nat) (x : Ent) : Bool :=
 (decide (0 < i) && !my x.k) || (match l[i + 1]? with
  | some y => decide (Lib.compareBytes y.1.k lo < 0)
  | none => false)
def stepC {α : Type} (lo : List UInt8) (my : List UInt8 → Bool) (P : α → List Ent) (l : List (Ent × Nat × α)) (i : Nat) : List Ent := match l[i]? with
 | some x => if skipC lo my l i x.1 then [] else P x.2.2
 | none => []
def fromF (lo : List UInt8) (my : List UInt8 → Bool) : (h : Nat) → BTr h → List Ent
 | 0, t => (show List Ent from t).filter (tellE lo my)
 | h + 1, t => (List.range (show NL h from t).length).flatMap (stepC lo my (fromF lo my h) (show NL h from t))
def EntP (av : AV) (l : List Ent) : Prop := (l = [] ∧ av = .p (.v (.slice none 0 0))) ∨ (l ≠ [] ∧ av = .p (.sl 3 (l.map entP)))
theorem flatMap_len {α β : Type} (f g : α → List β) (h : ∀ x, (f x).length ≤ (g x).length) : ∀ l : List α, (l.flatMap f).length ≤ (l.flatMap g).length
 | [] => Nat.le_refl _
 | x :: l => by have := flatMap_len f g h l; have := h x; simp only [List.flatMap_cons, List.length_append]; omega
def optF {α β : Type} (f : α → List β) : Option α → List β
 | some x => f x
 | none => []
theorem range_flat {α β : Type} (f : α → List β) : ∀ l : List α, (List.range l.length).flatMap (fun i => optF f l[i]?) = l.flatMap f
 | [] => rfl
 | x :: l => by
   rw [List.length_cons, List.range_succ_eq_map, List.flatMap_cons, List.flatMap_map, List.flatMap_cons]
   simp only [List.getElem?_cons_zero, List.getElem?_cons_succ]
   rw [range_flat f l]
   rfl
theorem stepC_le {α : Type} (lo : List UInt8) (my : List UInt8 → Bool) (P Q : α → List Ent) (hPQ : ∀ x, (P x).length ≤ (Q x).length) (l : List (Ent × Nat × α)) (n : Nat) (hn : n ≤ l.length) : ((List.range n).flatMap (stepC lo my P l)).length ≤ (l.flatMap fun x => Q x.2.2).length := by
 have h1 : ((List.range n).flatMap (stepC lo my P l)).length ≤ ((List.range l.length).flatMap (stepC lo my P l)).length := by
  have : List.range l.length = List.range n ++ (List.range (l.length - n)).map (n + ·) := by
   rw [← List.range_add]; congr 1; omega
  rw [this, List.flatMap_append, List.length_append]; omega
 have h2 := flatMap_len (stepC lo my P l) (fun i => optF (fun x : Ent × Nat × α => Q x.2.2) l[i]?) (fun i => by
  unfold stepC
  cases l[i]? with
  | none => exact Nat.le_refl _
  | some x =>
    simp only [optF]
    split
    ·simp
    ·exact hPQ x.2.2) (List.range l.length)
 have h3 := range_flat (fun x : Ent × Nat × α => Q x.2.2) l
 have h4 := congrArg List.length h3
 exact Nat.le_trans h1 (Nat.le_trans h2 (Nat.le_of_eq h4))
theorem fromF_len (lo : List UInt8) (my : List UInt8 → Bool) : ∀ (h : Nat) (t : BTr h), (fromF lo my h t).length ≤ (entsT h t).length
 | 0, t => by simp only [fromF, entsT]; exact List.length_filter_le _ _
 | h + 1, t => stepC_le (α := BTr h) lo my (fromF lo my h) (entsT h) (fromF_len lo my h) (show NL h from t) _ (Nat.le_refl _)
theorem ents_le {v : Nat → List UInt8} : ∀ {h n : Nat} {t : BTr h}, TrAt v h n t → (entsT h t).length ≤ 49 * (pgT h n t).length
 | 0, n, t, ht => by
   have := ht.node.n
   have h1 : (its0 t).length = List.length (show List Ent from t) := by unfold its0; exact List.length_map _
   have h2 : (itsT 0 t).length = (its0 t).length := rfl
   have h3 : (entsT 0 t).length = List.length (show List Ent from t) := rfl
   simp only [pgT, List.length_cons, List.length_nil]
   omega
 | h + 1, n, t, ht => by
   have hch := ht.2
   have : ∀ l : NL h, (∀ x ∈ l, TrAt v h x.2.1 x.2.2) → (l.flatMap fun x => entsT h x.2.2).length ≤ 49 * (flP l).length := by
    intro l
    induction l with
    | nil => intro _; exact Nat.le_refl _
    | cons x l ih =>
      intro h1
      have a1 := ih fun y hy => h1 y (by simp [hy])
      have a2 := ents_le (h1 x (by simp))
      rw [flP_cons]
      simp only [List.flatMap_cons, List.length_append]
      omega
   have h2 := this _ hch
   have h3 : (pgT (h + 1) n t).length = (flP (show NL h from t)).length + 1 := rfl
   rw [h3]
   have h4 : (entsT (h + 1) t).length = ((show NL h from t).flatMap fun x => entsT h x.2.2).length := rfl
   rw [h4]
   omega
theorem app_nil {q : St} {av : AV} {E T : TypeId} {e eb : Nat} {ez : List Value} {ls : List (List PV)} {tk : Nat} (hk : cx.kind T = some (.slice E e eb ez)) (h : OwnR q av E e ls) (hb : ls.length * eb ≤ 140737488355328) (hb2 : ls.length ≤ 1000000) : appendA cx tk T av (.p (.v (.slice none 0 0))) q = some (av, q) := by
 have c2 : ls.length ≤ maxLen := by unfold maxLen; omega
 have c3 : 0 ≤ maxLen := Nat.zero_le _
 unfold appendA
 rw [hk]
 rcases h with ⟨rfl, rfl⟩ | ⟨t, rfl, hne, ht⟩
 ·simp [srcD, srcA, c3, nilA]
 ·simp [srcD, srcA, ht, c2, hb]
  exact set_back ht
section
variable {σ : St} {b p dd l kh n : Nat} {U : Nat → Prop} {P : PoolV} {v : Nat → List UInt8} {T : Nat → Bool}
def Kept (kl : List (Nat × Ob)) (s : St) : Prop := ∀ q ∈ kl, s[q.1]? = some (some q.2)
theorem Kept.fr {kl : List (Nat × Ob)} {s s' : St} (h : Kept kl s) {F F' : Nat → Prop} (hf : Fr s s' F F') (hF : ∀ q ∈ kl, ¬ F q.1) : Kept kl s' := fun q hq => hf.get (h q hq) (hF q hq)
theorem ACalls.ansY {P : Program} {f : FuncId} {args : List AV} {σ : St} {R R' : AV → St → Prop} (h : ACalls P f args σ R) (hk : ∀ r s, R r s → ∃ r', R' r' s ∧ ∀ (M : View) (v : Value), ARep M r v → ARep M r' v) : ACalls P f args σ R' :=
 ⟨h.1, fun M vs hM hv => (h.2 M vs hM hv).mono fun e w' ⟨v, r, s, M', h1, h2, h3, h4, h5, h6, h7⟩ => by
  obtain ⟨r', h8, h9⟩ := hk r s h7
  exact ⟨v, r', s, M', h1, h2, h3, h4, h9 _ _ h5, h6, h8⟩⟩
def EntO (av : AV) (l : List Ent) : Prop := (l = [] ∧ av = .p (.v (.slice none 0 0))) ∨ ∃ t, l ≠ [] ∧ av = .own t 3 (l.map entP)
def FromPost (h : Nat) (t : BTr h) (lo : List UInt8) (my : List UInt8 → Bool) (σ : St) (b p dd l kh : Nat) (U : Nat → Prop) (P : PoolV) (v : Nat → List UInt8) (r : AV) (σ' : St) : Prop :=
 ∃ U' P' av, r = .tup [av, intV .i64 0] ∧ Fr σ σ' U U' ∧ Bt σ' b p dd l kh U' P' v ∧ Kp P P' 0 ∧ EntP av (fromF lo my h t)
def FromPostO (h : Nat) (t : BTr h) (lo : List UInt8) (my : List UInt8 → Bool) (σ : St) (b p dd l kh : Nat) (U : Nat → Prop) (P : PoolV) (v : Nat → List UInt8) (r : AV) (σ' : St) : Prop :=
 ∃ U' P' av, r = .tup [av, intV .i64 0] ∧ Fr σ σ' U U' ∧ Bt σ' b p dd l kh U' P' v ∧ Kp P P' 0 ∧ EntO av (fromF lo my h t)
theorem from_conv {h : Nat} {t : BTr h} {lo : List UInt8} {my : List UInt8 → Bool} {f : FuncId} {args : List AV} (hc : ACalls Tryz.prog f args σ fun r σ' => FromPostO h t lo my σ b p dd l kh U P v r σ') : ACalls Tryz.prog f args σ fun r σ' => FromPost h t lo my σ b p dd l kh U P v r σ' := by
 refine hc.ansY ?_
 rintro r s ⟨U', P', av, rfl, h1, h2, h3, h4⟩
 rcases h4 with ⟨h5, rfl⟩ | ⟨to, h5, rfl⟩
 ·exact ⟨_, ⟨U', P', _, rfl, h1, h2, h3, .inl ⟨h5, rfl⟩⟩, fun M v h => h⟩
 ·refine ⟨_, ⟨U', P', _, rfl, h1, h2, h3, .inr ⟨h5, rfl⟩⟩, fun M v h => ?_⟩
  simp only [ARep, ARepL] at h ⊢
  obtain ⟨us, e1, u1, us1, e2, e3, e4⟩ := h
  refine ⟨us, e1, u1, us1, e2, ?_, e4⟩
  have := own_q (M := M) (t := to) (e := 3) (u := u1) (by simp only [ARep]; exact e3)
  simpa only [ARep] using this
theorem atFromLeaf {lo : List UInt8} {lox : PV} {my : List UInt8 → Bool} {g : FuncId} {caps : List AV} {kl : List (Nat × Ob)} {t : List Ent} (hB : Bt σ b p dd l kh U P v) (hb : Bud P 1) (hn : n < P.pages) (hN : NodeP (v n) 2 (its0 t)) (hlo : BX lox lo) (hkl : Kept kl σ) (hklU : ∀ q ∈ kl, ¬ U q.1)
 (hmy : ∀ (s : St) (k : List UInt8), Kept kl s → ACalls Tryz.prog g (.p (.sl 1 (encB k)) :: caps) s fun r s' => s' = s ∧ r = boolV (my k)) :
 ACalls Tryz.prog 43 [.agg [.mp b 2 0 0], intV .i64 (n : Nat), .p lox, .fn g [] caps] σ fun r σ' => FromPost 0 t lo my σ b p dd l kh U P v r σ' := by
 refine from_conv ?_
 have hlt := hB.lt
 have hl49 := hN.n
 have hil : (its0 t).length = t.length := by simp [its0]
 refine acalls_of cx_ok dr_ok Tryz.func43 (by kernel_rfl) rfl (nt := 108) (rs := [.tmp 8, .tmp 9]) rfl rfl ?_
 repeat' first | ((with_reducible first | refine cs ?_ ?_ | refine ws ?_ ?_ | refine wd ?_ ?_ | refine wu ?_ ?_) <;> intro h <;> try simp only [h]) | simp only [↓wBA, tYl, convA, seval, pl43_10Yl, wH] | (with_reducible refine dP pl43_10Yl 12 (some 51) (by decide) (by kernel_rfl) ?_)
 have a1 := Ap.app σ [some (Ob.row 1 [[AV.mp b 2 0 0]])]
 refine (atRead (hB.ap a1) hn hN hb).mono ?_
 rintro _ s1 ⟨U1, P1, a, rfl, f1, hB1, k1, ha, hta⟩
 have q1 := f1.len
 simp only [List.length_append, List.length_cons, List.length_nil] at q1
 have hlt1 := hB1.lt
 have hlf := ha.x.leaf
 have hcc := ha.x.cells
 obtain ⟨S1, hS1⟩ : ∃ S1, S1 = s1 ++ [some (Ob.row 2 [[AV.p (.v (.int .i64 2)), a]])] := ⟨_, rfl⟩
 have aS : Ap s1 S1 := ⟨_, hS1⟩
 have hS1l : S1.length = s1.length + 1 := by rw [hS1]; simp
 have bN : S1[s1.length]? = some (some (Ob.row 2 [[AV.p (.v (.int .i64 2)), a]])) := by rw [hS1]; simp
 have yN := at_lt bN
 have haS : NdA S1 a (its0 t) := ha.same fun j hj => by rw [hS1, List.getElem?_append_left (ha.lt hj)]
 have hla : lenA cx 90 a = some t.length := by
  rcases ha with ⟨h0, rfl⟩ | ⟨_, tn, rfl, _⟩
  ·rw [← hil, h0]; rfl
  ·rw [hil]; exact km_90
 have fS : Fr σ S1 U U1 := (a1.fr.trans f1).trans aS.fr
 have hBS := hB1.ap aS
 have hkS : Kept kl S1 := hkl.fr fS hklU
 have hkU1 : ∀ q ∈ kl, ¬ U1 q.1 := fun q hq e => (fS.own q.1 e).elim (hklU q hq) fun e => by have := at_lt (hkl q hq); omega
 repeat' first | ((with_reducible first | refine cs ?_ ?_ | refine ws ?_ ?_ | refine wd ?_ ?_ | refine wu ?_ ?_) <;> intro h <;> try simp only [h]) | simp only [↓wBA, tYl, convA, seval, pl43_10Yl, wH, c2y, hlf, hcc, hS1.symm, bN, yN, hla] | (with_reducible refine dP pl43_10Yl 12 (some 51) (by decide) (by kernel_rfl) ?_)
 refine awp_loopS (X := { q : Nat × AV // q.1 ≤ t.length }) (fun q => t.length - q.1.1) (fun q => [(12, q.1.2), (30, intV .i64 (q.1.1 : Nat))]) [8, 9, 13, 14, 15, 16, 17, 31, 32, 33, 34, 35, 36, 37, 38, 39, 40, 41, 42, 43, 44, 45, 46, 47, 48, 49, 50, 51, 52, 53, 54, 55, 56, 57, 58, 59, 60, 61, 62, 63, 64, 65, 66, 67, 68, 69, 70, 71, 72, 73, 74, 75, 76, 77, 78, 79, 80, 81, 82, 83, 84, 85, 86, 87, 88, 89, 90, 91, 92, 93, 94, 95, 96, 97, 98, 99, 100, 101, 102, 103, 104, 105, 106, 107, 108, 109, 110] (fun q s => Fr S1 s (fun _ => False) (fun _ => False) ∧ OwnR s q.1.2 48 3 (((t.take q.1.1).filter (tellE lo my)).map entP) ∧ (∀ j, ownOf q.1.2 = some j → S1.length ≤ j)) (⟨(0, .p (.v (.slice none 0 0))), by omega⟩) ?_ ?_ ?_ ?_
 ·simp only [wHl, wHf]
 ·exact ⟨Fr.refl _ _, .inl ⟨rfl, by simp⟩, fun j hj => by cases hj⟩
 ·rintro _ _ ⟨h, _⟩; exact h.len
 ·intro y J s hI
  simp only [wHl]
  obtain ⟨⟨i, av⟩, hi⟩ := y
  obtain ⟨fs, how, hown⟩ := hI
  dsimp only at *
  have ls := fs.len
  have cN := fs.get bN id
  have zN := at_lt cN
  have hi0 := nnI i
  have hkk := hkS.fr fs fun _ _ => id
  have hfl : ((t.take i).filter (tellE lo my)).length ≤ 49 := by
   have h1 := List.length_filter_le (tellE lo my) (t.take i)
   have h2 : (t.take i).length ≤ t.length := by rw [List.length_take]; omega
   omega
  by_cases hlt2 : i < t.length
  ·have hdec := dT (i := i) (n := t.length) hlt2
   have hw := wI i (by omega)
   obtain ⟨x, hx⟩ : ∃ x, t[i]? = some x := ⟨t[i], by simp⟩
   have hgx : (its0 t)[i]? = some ⟨x, 0⟩ := by simp [its0, hx]
   have hgc : ((its0 t).map itC)[i]? = some (itC ⟨x, 0⟩) := by simp [hgx]
   rcases haS with ⟨h0, _⟩ | ⟨_, tn, rfl, htn⟩
   ·rw [h0] at hgx; simp at hgx
   have ctn := fs.get htn id
   have ztn := at_lt ctn
   have hif : ((i : Int) < ((its0 t).length : Int)) = True := eq_true (by omega)
   have hxo : x.k.length ≤ 140 := (hN.ok _ (List.mem_of_getElem? hgx)).1.1
   have hkx : Kept kl (s ++ [some (Ob.row 4 [itC ⟨x, 0⟩])]) := fun q hq => by rw [List.getElem?_append_left (at_lt (hkk q hq))]; exact hkk q hq
   have hmx := hmy _ x.k hkx
   have hnx : (t.take (i + 1)).filter (tellE lo my) = (t.take i).filter (tellE lo my) ++ (if tellE lo my x then [x] else []) := by
    rw [List.take_add_one, hx]
    simp only [Option.toList, List.filter_append, List.filter_cons, List.filter_nil]
   have hbc := fun s => abcmp (x := .sl 1 (encB x.k)) (.inl rfl) hlo s
   by_cases hc : 0 ≤ Lib.compareBytes x.k lo
   ·have hd : decide (Lib.compareBytes x.k lo ≥ 0) = true := by simpa using hc
    have hd' : decide (0 ≤ Lib.compareBytes x.k lo) = true := by simpa using hc
    cases hm : my x.k with
    | true =>
      rw [hm] at hmx
      have ht1 : tellE lo my x = true := by unfold tellE; rw [hm]; simpa using hc
      rw [ht1] at hnx
      have hcl := fun s => atClone x.k (by omega) s
      repeat' first | ((with_reducible first | refine cs ?_ ?_ | refine ws ?_ ?_ | refine wd ?_ ?_ | refine wu ?_ ?_) <;> intro h <;> try simp only [h]) | simp only [↓wBA, tYl, convA, seval, pl43_10Yl, wH, wHl, hdec, hi0, hif, hw, ctn, ztn, hgc, itC, cN, zN, hd, hd'] | ((with_reducible show ACalls _ _ _ _ _); first | refine (hbc _).eq ?_ | refine hmx.eq ?_ | refine (hcl _).eq ?_) | (with_reducible refine dP pl43_10Yl 12 (some 51) (by decide) (by kernel_rfl) ?_)
      obtain ⟨q0, hq0⟩ : ∃ q0, q0 = s ++ [some (Ob.row 4 [itC ⟨x, 0⟩])] ++ [some (Ob.right 48 3)] := ⟨_, rfl⟩
      have hql : q0.length = s.length + 2 := by rw [hq0]; simp
      have how1 := how.same (q' := q0) fun j hj => by rw [hq0, List.append_assoc, List.getElem?_append_left (how.lt hj)]
      obtain ⟨av2, s2, e1, e2, e3, e4, e5⟩ := app_own (y := .own (s.length + 1) 3 [entP x]) (m := [entP x]) ck_40 how1 rfl (by simp) (by simp only [List.length_map, List.length_cons, List.length_nil]; omega) (by simp only [List.length_map, List.length_cons, List.length_nil]; omega)
      rw [hql, hq0] at e1
      simp only [itC, entP, c0y, intV] at e1
      repeat' first | ((with_reducible first | refine cs ?_ ?_ | refine ws ?_ ?_ | refine wd ?_ ?_ | refine wu ?_ ?_) <;> intro h <;> try simp only [h]) | simp only [↓wBA, tYl, convA, seval, pl43_10Yl, wH, wHl, e1, hw] | (with_reducible refine dP pl43_10Yl 12 (some 51) (by decide) (by kernel_rfl) ?_)
      rw [if_pos rfl] at hnx
      refine ⟨⟨(i + 1, av2), by omega⟩, by show t.length - (i + 1) < t.length - i; omega, ⟨?_, ?_, fun j hj => ?_⟩, by simp only [wHl, wHf]⟩
      ·refine ⟨by omega, fun j hj hn => ?_, fun j h => h.elim⟩
       have hjs : j < s.length := by omega
       rw [e4 j (by omega) fun e => by have := hown j e; omega, hq0, List.append_assoc, List.getElem?_append_left hjs]
       exact fs.keep j hj hn
      ·dsimp only
       rw [hnx, List.map_append]; exact e2
      ·rcases e5 j hj with h | h
       ·exact hown j h
       ·omega
    | false =>
      rw [hm] at hmx
      have ht1 : tellE lo my x = false := by unfold tellE; rw [hm]; simp
      rw [ht1] at hnx
      repeat' first | ((with_reducible first | refine cs ?_ ?_ | refine ws ?_ ?_ | refine wd ?_ ?_ | refine wu ?_ ?_) <;> intro h <;> try simp only [h]) | simp only [↓wBA, tYl, convA, seval, pl43_10Yl, wH, wHl, hdec, hi0, hif, hw, ctn, ztn, hgc, itC, cN, zN, hd, hd'] | ((with_reducible show ACalls _ _ _ _ _); first | refine (hbc _).eq ?_ | refine hmx.eq ?_) | (with_reducible refine dP pl43_10Yl 12 (some 51) (by decide) (by kernel_rfl) ?_)
      rw [if_neg (by simp), List.append_nil] at hnx
      refine ⟨⟨(i + 1, av), by omega⟩, by show t.length - (i + 1) < t.length - i; omega, ⟨fs.app _, ?_, hown⟩, by simp only [wHl, wHf]⟩
      dsimp only
      rw [hnx]
      exact how.same fun j hj => List.getElem?_append_left (how.lt hj)
   ·have hd : decide (Lib.compareBytes x.k lo ≥ 0) = false := by simpa using hc
    have hd' : decide (0 ≤ Lib.compareBytes x.k lo) = false := by simpa using hc
    have ht1 : tellE lo my x = false := by unfold tellE; rw [hd']; rfl
    rw [ht1] at hnx
    repeat' first | ((with_reducible first | refine cs ?_ ?_ | refine ws ?_ ?_ | refine wd ?_ ?_ | refine wu ?_ ?_) <;> intro h <;> try simp only [h]) | simp only [↓wBA, tYl, convA, seval, pl43_10Yl, wH, wHl, hdec, hi0, hif, hw, ctn, ztn, hgc, itC, cN, zN, hd, hd'] | ((with_reducible show ACalls _ _ _ _ _); refine (hbc _).eq ?_) | (with_reducible refine dP pl43_10Yl 12 (some 51) (by decide) (by kernel_rfl) ?_)
    rw [if_neg (by simp), List.append_nil] at hnx
    refine ⟨⟨(i + 1, av), by omega⟩, by show t.length - (i + 1) < t.length - i; omega, ⟨fs.app _, ?_, hown⟩, by simp only [wHl, wHf]⟩
    dsimp only
    rw [hnx]
    exact how.same fun j hj => List.getElem?_append_left (how.lt hj)
  ·obtain rfl : i = t.length := by omega
   have hdec := dF (i := t.length) (n := t.length) hlt2
   rw [List.take_length] at how
   rcases how with ⟨rfl, he⟩ | ⟨to, rfl, hne, hto⟩
   ·skip
    repeat' first | ((with_reducible first | refine cs ?_ ?_ | refine ws ?_ ?_ | refine wd ?_ ?_ | refine wu ?_ ?_) <;> intro h <;> try simp only [h]) | simp only [↓wBA, tYl, convA, seval, pl43_10Yl, wH, wHl, hdec] | (with_reducible refine dP pl43_10Yl 12 (some 51) (by decide) (by kernel_rfl) ?_)
    all_goals refine ret_st ?_ (by first | exact Nat.le_refl _ | (simp only [List.length_set, List.length_append]; omega) | omega)
    all_goals simp only [resA.eq_1, resL.eq_1, resL.eq_2, resV.eq_1, resV.eq_2, ↓wBA, tYl, convA, seval, wH]
    refine ⟨U1, P1, _, rfl, fS.trans fs.none, hBS.frame fs fun _ _ => id, k1, .inl ⟨?_, rfl⟩⟩
    show List.filter _ _ = []
    simpa using he
   ·skip
    repeat' first | ((with_reducible first | refine cs ?_ ?_ | refine ws ?_ ?_ | refine wd ?_ ?_ | refine wu ?_ ?_) <;> intro h <;> try simp only [h]) | simp only [↓wBA, tYl, convA, seval, pl43_10Yl, wH, wHl, hdec] | (with_reducible refine dP pl43_10Yl 12 (some 51) (by decide) (by kernel_rfl) ?_)
    all_goals refine ret_st ?_ (by first | exact Nat.le_refl _ | (simp only [List.length_set, List.length_append]; omega) | omega)
    all_goals simp only [resA.eq_1, resL.eq_1, resL.eq_2, resV.eq_1, resV.eq_2, ↓wBA, tYl, convA, seval, wH]
    exact ⟨U1, P1, _, rfl, fS.trans fs.none, hBS.frame fs fun _ _ => id, k1, .inr ⟨to, fun e => hne (by show List.map entP (fromF lo my 0 t) = []; rw [e]; rfl), rfl⟩⟩
end
end Go.Proofs.YtockimhceppkbaaGreat
