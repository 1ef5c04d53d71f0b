/- Plain laws: pages that are taken, counted. -/
import Derived.Test.YtpfdbjmojbhnmaaM44
set_option linter.unusedSimpArgs false
set_option linter.unusedVariables false
set_option linter.defProp false
set_option maxRecDepth 100000
set_option maxHeartbeats 32000000
namespace Go.Proofs.Ytpfdbjmojbhnmaa
open Go.RowKit
def cnt (T : Nat → Bool) : Nat → Nat
 | 0 => 0
 | n + 1 => cnt T n + if T n then 1 else 0
def updT (T : Nat → Bool) (k : Nat) (v : Bool) (m : Nat) : Bool := if m = k then v else T m
theorem cnt_congr {T T' : Nat → Bool} : ∀ n, (∀ m, m < n → T m = T' m) → cnt T n = cnt T' n
 | 0, _ => rfl
 | n + 1, h => by simp only [cnt]; rw [cnt_congr n fun m hm => h m (by omega), h n (by omega)]
theorem cnt_le (T : Nat → Bool) : ∀ n, cnt T n ≤ n
 | 0 => Nat.le_refl _
 | n + 1 => by have := cnt_le T n; simp only [cnt]; split <;> omega
theorem cnt_lt {T : Nat → Bool} {k : Nat} (hk : T k = false) : ∀ n, k < n → cnt T n < n
 | 0, h => by omega
 | n + 1, h => by
   have h1 := cnt_le T n
   simp only [cnt]
   by_cases e : k = n
   ·subst e; rw [hk]; simp; omega
   ·have := cnt_lt hk n (by omega)
    split <;> omega
theorem cnt_all {T : Nat → Bool} : ∀ n, (∀ m, m < n → T m = true) → cnt T n = n
 | 0, _ => rfl
 | n + 1, h => by simp only [cnt]; rw [cnt_all n fun m hm => h m (by omega), h n (by omega)]; rfl
theorem cnt_true {T : Nat → Bool} {k : Nat} (hk : T k = false) : ∀ n, k < n → cnt (updT T k true) n = cnt T n + 1
 | 0, h => by omega
 | n + 1, h => by
   simp only [cnt]
   by_cases e : k = n
   ·subst e
    rw [cnt_congr (T := updT T k true) (T' := T) k fun m hm => by unfold updT; rw [if_neg (by omega)]]
    simp [updT, hk]
   ·rw [cnt_true hk n (by omega)]
    have : updT T k true n = T n := by unfold updT; rw [if_neg (by omega)]
    rw [this]; omega
theorem cnt_one : ∀ n, 1 ≤ n → cnt (fun m => m == 0) n = 1
 | 0, h => by omega
 | 1, _ => rfl
 | n + 2, _ => by
   rw [cnt, cnt_one (n + 1) (by omega)]; simp
theorem updT_same {T : Nat → Bool} {k : Nat} {v : Bool} (h : T k = v) : updT T k v = T := funext fun m => by
 unfold updT; split
 ·rename_i e; subst e; exact h.symm
 ·rfl
theorem bview_set (v : Nat → List UInt8) (ch : List (Nat × List UInt8)) (n : Nat) (pg : List UInt8) (m : Nat) : bview v (setM ch n pg) m = if m = n then pg else bview v ch m := by
 unfold bview
 rw [lk_setM]
 split <;> rfl
theorem bview_congr {v v' : Nat → List UInt8} (h : ∀ n, v n = v' n) (ch : List (Nat × List UInt8)) (n : Nat) : bview v ch n = bview v' ch n := by unfold bview; rw [h]
theorem kbt_set (ch : List (Nat × List UInt8)) (n : Nat) (pg : List UInt8) (m : Nat) : kbt (setM ch n pg) m = if m = n then 0 else kbt ch m := by
 unfold kbt
 rw [lk_setM]
 split <;> rfl
theorem kbt_le (ch : List (Nat × List UInt8)) (n : Nat) : kbt ch n ≤ 1 := by unfold kbt; split <;> omega
theorem law_calls2 {P : Program} {f : FuncId} {args : List AV} (h : ACalls P f args [] fun u _ => u = boolV true) {W : World} {vs : List Value} (hv : ARepL (startV W) args vs) (hG : GlobW W := by intro x hx; simp [globTab] at hx) :
 Calls P f vs.toArray W fun e W' => e = .returned (.bool true) ∧ Below W.heap.size W W' :=
 (h.2 (startV W) vs (startV_match W hG) hv).mono fun e w' ⟨v, r, σ', M', h1, h2, h3, h4, h5, _, h6⟩ => by
  subst h1 h2 h6
  rw [(rep_v h5).2]
  exact ⟨rfl, h3.below fun t ob h => by simp [St.at] at h⟩
theorem bytes_sh2 {y : PV} (h : HasSh (.sl 1 [.int .u8]) y) : ∃ r : List UInt8, y = .sl 1 (encB r) ∧ r.length ≤ 140737488351232 := by
 simp only [HasSh] at h
 obtain ⟨ls, rfl, hl, hc⟩ := h
 let g : List PV → UInt8 := fun c => match c with
  | .v (.int _ n) :: _ => UInt8.ofNat n.toNat
  | _ => 0
 refine ⟨ls.map g, ?_, by simpa using hl⟩
 have : encB (ls.map g) = ls := by
  unfold encB
  rw [List.map_map]
  conv => rhs; rw [← List.map_id ls]
  refine List.map_congr_left fun c hm => ?_
  have := hc c hm
  simp only [HasShL, HasSh] at this
  obtain ⟨x, c', rfl, ⟨n, rfl, hw⟩, rfl⟩ := this
  have hb : 0 ≤ n ∧ n ≤ 255 := by
   simp [Lit.wf, IntKind.min, IntKind.max, IntKind.signed, IntKind.bits] at hw
   omega
  simp only [Function.comp, g, byteP, id]
  rw [UInt8.toNat_ofNat']
  congr 4
  omega
 rw [this]
 rfl
theorem bytes_sh {y : PV} (h : HasSh (.sl 1 [.int .u8]) y) : ∃ r : List UInt8, BX y r ∧ r.length ≤ 140737488351232 := by
 obtain ⟨r, h1, h2⟩ := bytes_sh2 h
 exact ⟨r, .inl h1, h2⟩
def RecsX (x : PV) (ys : List PV) : Prop := x = .sl 1 (ys.map fun y => [y]) ∧ ys.length ≤ 140737488351232 ∧ ∀ y ∈ ys, ∃ r : List UInt8, BX y r ∧ r.length ≤ 140737488351232
theorem recs_sh {x : PV} (h : HasSh (.sl 24 [.sl 1 [.int .u8]]) x) : ∃ ys, RecsX x ys := by
 rw [HasSh] at h
 obtain ⟨ls, rfl, hl, hc⟩ := h
 let g : List PV → PV := fun c => match c with
  | y :: _ => y
  | _ => .v undef
 have key : ∀ c ∈ ls, [g c] = c ∧ ∃ r : List UInt8, BX (g c) r ∧ r.length ≤ 140737488351232 := fun c hm => by
  have := hc c hm
  rw [HasShL, ] at this
  obtain ⟨x1, c', rfl, h1, h2⟩ := this
  rw [HasShL] at h2
  subst h2
  exact ⟨rfl, bytes_sh h1⟩
 refine ⟨ls.map g, ?_, by simp; omega, fun y hy => ?_⟩
 ·rw [List.map_map]
  have : ls.map ((fun y => [y]) ∘ g) = ls := by
   conv => rhs; rw [← List.map_id ls]
   exact List.map_congr_left fun c hm => (key c hm).1
  rw [this]; rfl
 ·obtain ⟨c, hm, rfl⟩ := List.mem_map.1 hy
  exact (key c hm).2
def ownOf : AV → Option Nat
 | .own t _ _ => some t
 | _ => none
def OwnR (q : St) (av : AV) (E : TypeId) (e : Nat) (ls : List (List PV)) : Prop := (av = .p (.v (.slice none 0 0)) ∧ ls = []) ∨ ∃ t, av = .own t e ls ∧ ls ≠ [] ∧ q[t]? = some (some (.right E (ls.length * e)))
theorem OwnR.same {q q' : St} {av : AV} {E : TypeId} {e : Nat} {ls : List (List PV)} (h : OwnR q av E e ls) (hs : ∀ t, ownOf av = some t → q'[t]? = q[t]?) : OwnR q' av E e ls := by
 rcases h with h | ⟨t, rfl, h1, h2⟩
 ·exact .inl h
 ·exact .inr ⟨t, rfl, h1, by rw [hs t rfl]; exact h2⟩
theorem OwnR.lt {q : St} {av : AV} {E : TypeId} {e : Nat} {ls : List (List PV)} (h : OwnR q av E e ls) {t : Nat} (ht : ownOf av = some t) : t < q.length := by
 rcases h with ⟨rfl, _⟩ | ⟨t', rfl, h1, h2⟩
 ·cases ht
 ·simp only [ownOf, Option.some.injEq] at ht; subst ht; exact at_lt h2
theorem app_own {q : St} {av y : AV} {E T : TypeId} {e eb : Nat} {ez : List Value} {ls m : List (List PV)} (hk : cx.kind T = some (.slice E e eb ez)) (h : OwnR q av E e ls) (hy : srcD q e y = some m) (hm : m ≠ []) (hb : (ls.length + m.length) * eb ≤ 140737488355328) (hb2 : ls.length + m.length ≤ 1000000) :
 ∃ av' q', appendA cx q.length T av y q = some (av', q') ∧ OwnR q' av' E e (ls ++ m) ∧ q.length ≤ q'.length ∧ (∀ t, t < q.length → ownOf av ≠ some t → q'[t]? = q[t]?) ∧ ∀ t, ownOf av' = some t → ownOf av = some t ∨ q.length ≤ t := by
 have c2 : ls.length + m.length ≤ maxLen := by unfold maxLen; omega
 rcases h with ⟨rfl, rfl⟩ | ⟨t, rfl, hl, ht⟩
 ·cases m with
  | nil => exact absurd rfl hm
  | cons c r =>
    refine ⟨.own q.length e (c :: r), q ++ [some (.right E ((c :: r).length * e))], ?_, .inr ⟨q.length, rfl, by simp, by simp⟩, by simp, fun t ht _ => List.getElem?_append_left ht, fun t ht => .inr ?_⟩
    ·unfold appendA
     rw [hk]
     simp only [hy]
     rw [if_pos ⟨by simpa using hb, by simpa using c2⟩]
     simp only [put_new rfl]
    ·simp only [ownOf, Option.some.injEq] at ht; omega
 ·have htl := at_lt ht
  refine ⟨.own t e (ls ++ m), q.set t (some (.right E ((ls ++ m).length * e))), ?_, .inr ⟨t, rfl, by simp [hl], by simp [htl]⟩, by simp, fun t' _ hn => List.getElem?_set_ne fun e => hn (by subst e; rfl), fun t' ht => .inl ht⟩
  unfold appendA
  rw [hk]
  simp only [hy]
  rw [if_pos ⟨trivial, hb, c2⟩, ht]
  simp
end Go.Proofs.Ytpfdbjmojbhnmaa
