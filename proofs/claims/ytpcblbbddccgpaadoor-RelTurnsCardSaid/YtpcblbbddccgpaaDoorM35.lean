/- The least row picked again and again: the rows in their order. RelTurns' plain law: a join with its sides exchanged. Values that are the same. cadastreref01.Compare. The reference's Ok is the program's. -/
import Derived.Test.YtpcblbbddccgpaaDoorM34
import Derived.Test.YtpcblbbddccgpaaDoorM31
import Derived.Test.YtpcblbbddccgpaaDoorM30
import Derived.Test.YtpcblbbddccgpaaDoorM21
set_option linter.unusedSimpArgs false
set_option linter.unusedVariables false
set_option linter.defProp false
set_option maxRecDepth 100000
set_option maxHeartbeats 32000000
namespace Go.Proofs.YtpcblbbddccgpaaDoor
open Go.RowKit
def cmpR : List Va → List Va → Int
 | [], [] => 0
 | [], _ :: _ => -1
 | _ :: _, [] => 1
 | x :: a, y :: b => if cmpV x y ≠ 0 then cmpV x y else cmpR a b
theorem cmpR_lt : ∀ a b : List Va, decide (cmpR a b < 0) = ltR a b
 | [], [] => rfl
 | [], _ :: _ => rfl
 | _ :: _, [] => rfl
 | x :: a, y :: b => by
   have hr : ltR (x :: a) (y :: b) = if x = y then ltR a b else ltV x y := rfl
   have hc : cmpR (x :: a) (y :: b) = if cmpV x y ≠ 0 then cmpV x y else cmpR a b := rfl
   rw [hr]
   by_cases h : x = y
   ·have := cmpV_z.2 h
    have h2 : cmpR (x :: a) (y :: b) = cmpR a b := by rw [hc, if_neg (by simpa using this)]
    rw [if_pos h, ← cmpR_lt a b]
    simp only [h2]
   ·have : cmpV x y ≠ 0 := fun e => h (cmpV_z.1 e)
    have h2 : cmpR (x :: a) (y :: b) = cmpV x y := by rw [hc, if_pos this]
    rw [if_neg h]
    simp only [h2, ltV]
section
variable {α : Type} {lt : α → α → Bool}
def unt : List α → List Bool → List α
 | x :: l, b :: t => if b = true then unt l t else x :: unt l t
 | _, _ => []
theorem unt_all : ∀ l : List α, unt l (List.replicate l.length false) = l
 | [] => rfl
 | x :: l => by simp [unt, List.replicate_succ, unt_all l]
theorem unt_set : ∀ (l : List α) (t : List Bool) (i : Nat) (x : α), l[i]? = some x → t[i]? = some false → (unt l t).Perm (x :: unt l (t.set i true))
 | [], _, i, x, h, _ => by simp at h
 | _ :: _, [], i, x, _, h => by simp at h
 | y :: l, b :: t, 0, x, h1, h2 => by
   simp at h1 h2; subst h1 h2
   simp [unt]
 | y :: l, b :: t, i + 1, x, h1, h2 => by
   have ih := unt_set l t i x (by simpa using h1) (by simpa using h2)
   simp only [List.set_cons_succ, unt]
   split
   ·exact ih
   ·exact (ih.cons y).trans (List.Perm.swap x y _)
theorem unt_mem : ∀ (l : List α) (t : List Bool) (x : α), x ∈ unt l t → ∃ i : Nat, l[i]? = some x ∧ t[i]? = some false
 | [], _, x, h => by simp [unt] at h
 | _ :: _, [], x, h => by simp [unt] at h
 | y :: l, b :: t, x, h => by
   simp only [unt] at h
   split at h
   ·obtain ⟨i, h1, h2⟩ := unt_mem l t x h
    exact ⟨i + 1, by simpa using h1, by simpa using h2⟩
   ·rename_i hb
    rcases List.mem_cons.1 h with rfl | h
    ·exact ⟨0, rfl, by simpa using hb⟩
    ·obtain ⟨i, h1, h2⟩ := unt_mem l t x h
     exact ⟨i + 1, by simpa using h1, by simpa using h2⟩
theorem mem_unt : ∀ (l : List α) (t : List Bool) (x : α) (i : Nat), l[i]? = some x → t[i]? = some false → x ∈ unt l t
 | [], _, x, i, h, _ => by simp at h
 | _ :: _, [], x, i, _, h => by simp at h
 | y :: l, b :: t, x, 0, h1, h2 => by
   simp at h1 h2; subst h1 h2
   simp [unt]
 | y :: l, b :: t, x, i + 1, h1, h2 => by
   have := mem_unt l t x i (by simpa using h1) (by simpa using h2)
   simp only [unt]
   split
   ·exact this
   ·exact List.mem_cons_of_mem _ this
def bestG (lt : α → α → Bool) (d : α) (rows : List α) (tk : List Bool) : Nat → Int
 | 0 => -1
 | i + 1 => if tk.getD i true = false ∧ (bestG lt d rows tk i < 0 ∨ lt (rows.getD i d) (rows.getD (bestG lt d rows tk i).toNat d) = true) then (i : Int) else bestG lt d rows tk i
theorem bestG_is (h : Sto lt) (d : α) (rows : List α) (tk : List Bool) : ∀ i, (bestG lt d rows tk i = -1 ∧ ∀ k, k < i → tk.getD k true = true) ∨ ∃ b : Nat, b < i ∧ bestG lt d rows tk i = b ∧ tk.getD b true = false ∧ ∀ k, k < i → tk.getD k true = false → lt (rows.getD k d) (rows.getD b d) = false
 | 0 => .inl ⟨rfl, fun k hk => by omega⟩
 | i + 1 => by
   simp only [bestG]
   rcases bestG_is h d rows tk i with ⟨h1, h2⟩ | ⟨b, h1, h2, h3, h4⟩
   ·rw [h1]
    cases ht : tk.getD i true with
    | true =>
      rw [if_neg (by simp)]
      refine .inl ⟨rfl, fun k hk => ?_⟩
      rcases Nat.lt_succ_iff_lt_or_eq.1 hk with hk | rfl
      ·exact h2 k hk
      ·exact ht
    | false =>
      rw [if_pos ⟨rfl, .inl (by decide)⟩]
      refine .inr ⟨i, by omega, rfl, ht, fun k hk hf => ?_⟩
      rcases Nat.lt_succ_iff_lt_or_eq.1 hk with hk | rfl
      ·rw [h2 k hk] at hf; cases hf
      ·exact h.irr _
   ·rw [h2]
    simp only [Int.toNat_natCast]
    by_cases hc : tk.getD i true = false ∧ ((b : Int) < 0 ∨ lt (rows.getD i d) (rows.getD b d) = true)
    ·rw [if_pos hc]
     have hl : lt (rows.getD i d) (rows.getD b d) = true := hc.2.resolve_left (by omega)
     refine .inr ⟨i, by omega, rfl, hc.1, fun k hk hf => ?_⟩
     rcases Nat.lt_succ_iff_lt_or_eq.1 hk with hk | rfl
     ·cases hx : lt (rows.getD k d) (rows.getD i d) with
      | false => rfl
      | true => have := h.trans _ _ _ hx hl; rw [h4 k hk hf] at this; cases this
     ·exact h.irr _
    ·rw [if_neg hc]
     refine .inr ⟨b, by omega, rfl, h3, fun k hk hf => ?_⟩
     rcases Nat.lt_succ_iff_lt_or_eq.1 hk with hk | rfl
     ·exact h4 k hk hf
     ·cases hx : lt (rows.getD k d) (rows.getD b d) with
      | false => rfl
      | true => exact (hc ⟨hf, .inr hx⟩).elim
def tkS (lt : α → α → Bool) (d : α) (rows : List α) : Nat → List Bool
 | 0 => List.replicate rows.length false
 | j + 1 => (tkS lt d rows j).set (bestG lt d rows (tkS lt d rows j) rows.length).toNat true
theorem tkS_len (d : α) (rows : List α) : ∀ j, (tkS lt d rows j).length = rows.length
 | 0 => by simp [tkS]
 | j + 1 => by simp [tkS, tkS_len d rows j]
theorem tkS_round (h : Sto lt) (d : α) (rows : List α) : ∀ j, j ≤ rows.length → (unt rows (tkS lt d rows j)).Perm ((inOrder lt rows).drop j) ∧ (j < rows.length → ∃ b : Nat, bestG lt d rows (tkS lt d rows j) rows.length = b ∧ b < rows.length ∧ rows[b]? = (inOrder lt rows)[j]?)
 | j, hj => by
   have hlen : (inOrder lt rows).length = rows.length := (inOrder_self rows).length_eq
   have hp : (unt rows (tkS lt d rows j)).Perm ((inOrder lt rows).drop j) := by
    cases j with
    | zero => simp only [tkS, unt_all, List.drop_zero]; exact (inOrder_self rows).symm
    | succ j =>
      obtain ⟨h1, h2⟩ := tkS_round h d rows j (by omega)
      obtain ⟨b, h3, h4, h5⟩ := h2 (by omega)
      have hjl : j < (inOrder lt rows).length := by omega
      rw [List.getElem?_eq_getElem hjl] at h5
      simp only [tkS, h3, Int.toNat_natCast]
      have hb := bestG_is h d rows (tkS lt d rows j) rows.length
      rw [h3] at hb
      rcases hb with ⟨hb, _⟩ | ⟨b', g1, g2, g3, g4⟩
      ·omega
      ·obtain rfl : b' = b := by omega
       have hf : (tkS lt d rows j)[b']? = some false := by
        have hl : b' < (tkS lt d rows j).length := by rw [tkS_len]; omega
        rw [List.getElem?_eq_getElem hl]
        rw [List.getD, List.getElem?_eq_getElem hl] at g3
        simpa using g3
       have k1 := unt_set rows (tkS lt d rows j) b' _ h5 hf
       have k2 : (inOrder lt rows).drop j = (inOrder lt rows)[j] :: (inOrder lt rows).drop (j + 1) := List.drop_eq_getElem_cons hjl
       rw [k2] at h1
       exact (k1.symm.trans h1).cons_inv
   refine ⟨hp, fun hlt => ?_⟩
   have hjl : j < (inOrder lt rows).length := by omega
   have k2 : (inOrder lt rows).drop j = (inOrder lt rows)[j] :: (inOrder lt rows).drop (j + 1) := List.drop_eq_getElem_cons hjl
   rcases bestG_is h d rows (tkS lt d rows j) rows.length with ⟨g1, g2⟩ | ⟨b, g1, g2, g3, g4⟩
   ·exfalso
    obtain ⟨i, h1, h2⟩ := unt_mem rows _ (inOrder lt rows)[j] (hp.mem_iff.2 (k2 ▸ List.mem_cons_self))
    have hi := (List.getElem?_eq_some_iff.1 h1).1
    have := g2 i hi
    rw [List.getD, h2] at this
    simp at this
   ·refine ⟨b, g2, g1, ?_⟩
    have hbl : b < (tkS lt d rows j).length := by rw [tkS_len]; exact g1
    have hf : (tkS lt d rows j)[b]? = some false := by
     rw [List.getElem?_eq_getElem hbl]
     rw [List.getD, List.getElem?_eq_getElem hbl] at g3
     simpa using g3
    have hx : rows[b]? = some rows[b] := List.getElem?_eq_getElem g1
    have hr := Rising.drop j (inOrder_rising h rows)
    rw [k2] at hr hp
    have := least_is h hr hp (mem_unt rows _ _ b hx hf) (fun z hz => by
     obtain ⟨i, h1, h2⟩ := unt_mem rows _ z hz
     have hi := (List.getElem?_eq_some_iff.1 h1).1
     have := g4 i hi (by rw [List.getD, h2]; rfl)
     rw [List.getD, List.getD, h1, hx] at this
     simpa using this)
    rw [hx, List.getElem?_eq_getElem hjl, this]
end
def topS (rows : List (List Va)) : List (List Va) × Int := if rows.all (fun r => r.all okV) = true then (inOrder ltR rows, 0) else ([], 1)
theorem topS_perm {l m : List (List Va)} (hp : l.Perm m) : topS l = topS m := by
 have h1 : l.all (fun r => r.all okV) = m.all (fun r => r.all okV) := hp.all_eq
 unfold topS
 rw [h1, inOrder_perm ltR_sto hp]
end Go.Proofs.YtpcblbbddccgpaaDoor
namespace Go.Proofs.YtpcblbbddccgpaaDoor
open Go.RowKit
def on03 : Ex := noX 10 [slX 0, slX 3]
def on12 : Ex := noX 10 [slX 1, slX 2]
theorem find_sl (row : List Va) (n : Nat) (e : Int) : findV row (slX n) e = if n < row.length ∧ okV (row.getD n va0) = true then (row.getD n va0, e) else failV 1 e := by
 simp only [slX, findV, kidsV, leafV]
 simp
theorem cmpV_comm (a b : Va) : (cmpV a b = 0) = (cmpV b a = 0) := by
 apply propext
 rw [cmpV_z, cmpV_z]
 exact eq_comm
theorem turn_holds (x0 x1 y0 y1 : Va) : holdsV [x0, x1, y0, y1] on03 = holdsV [y0, y1, x0, x1] on12 := by
 have h1 : ∀ e, findV [x0, x1, y0, y1] (slX 0) e = if okV x0 = true then (x0, e) else failV 1 e := fun e => by have := find_sl [x0, x1, y0, y1] 0 e; simpa using this
 have h2 : ∀ e, findV [x0, x1, y0, y1] (slX 3) e = if okV y1 = true then (y1, e) else failV 1 e := fun e => by have := find_sl [x0, x1, y0, y1] 3 e; simpa using this
 have h3 : ∀ e, findV [y0, y1, x0, x1] (slX 1) e = if okV y1 = true then (y1, e) else failV 1 e := fun e => by have := find_sl [y0, y1, x0, x1] 1 e; simpa using this
 have h4 : ∀ e, findV [y0, y1, x0, x1] (slX 2) e = if okV x0 = true then (x0, e) else failV 1 e := fun e => by have := find_sl [y0, y1, x0, x1] 2 e; simpa using this
 have hc := cmpV_comm x0 y1
 unfold holdsV evalV on03 on12 noX
 simp only [findV, kidsV, h1, h2, h3, h4]
 cases okV x0 <;> cases okV y1 <;> simp [failV, twoV, relV, hc]
 by_cases a1 : x0.1 = 0
 ·simp [a1]
 ·by_cases a2 : y1.1 = 0
  ·simp [a2]
  ·by_cases a3 : x0.1 = y1.1
   ·simp [a1, a2, a3]
   ·have a4 : ¬ y1.1 = x0.1 := fun e => a3 e.symm
    simp [a1, a2, a3, a4]
def swp (r : List Va) : List Va := r.drop 2 ++ r.take 2
theorem flat_cons {α β : Type} (g : α → β) (h : α → List β) : ∀ l : List α, (l.flatMap fun y => g y :: h y).Perm (l.map g ++ l.flatMap h)
 | [] => List.Perm.refl _
 | y :: l => by
   simp only [List.flatMap_cons, List.map_cons, List.cons_append]
   refine List.Perm.cons _ ?_
   refine ((flat_cons g h l).append_left (h y)).trans ?_
   rw [← List.append_assoc, ← List.append_assoc]
   exact List.Perm.append_right _ List.perm_append_comm
theorem flat_turn {α β γ : Type} (f : α → β → γ) (b : List β) : ∀ a : List α, (a.flatMap fun x => b.map fun y => f x y).Perm (b.flatMap fun y => a.map fun x => f x y)
 | [] => by simp
 | x :: a => by
   simp only [List.flatMap_cons, List.map_cons]
   exact ((flat_turn f b a).append_left _).trans (flat_cons (f x) (fun y => a.map fun x => f x y) b).symm
theorem len2 {r : List Va} (h : r.length = 2) : ∃ x y, r = [x, y] := by
 match r, h with
 | [x, y], _ => exact ⟨x, y, rfl⟩
theorem swp2 {x y : List Va} (hx : x.length = 2) (hy : y.length = 2) : swp (x ++ y) = y ++ x := by
 obtain ⟨x0, x1, rfl⟩ := len2 hx
 obtain ⟨y0, y1, rfl⟩ := len2 hy
 rfl
theorem pairs_turn {a b : List (List Va)} (ha : ∀ r ∈ a, r.length = 2) (hb : ∀ r ∈ b, r.length = 2) : ((pairsS a b).map swp).Perm (pairsS b a) := by
 have h1 : (pairsS a b).map swp = a.flatMap fun x => b.map fun y => y ++ x := by
  unfold pairsS
  rw [List.map_flatMap]
  refine congrArg List.flatten (List.map_congr_left fun x hx => ?_)
  rw [List.map_map]
  exact List.map_congr_left fun y hy => swp2 (ha x hx) (hb y hy)
 rw [h1]
 exact flat_turn (fun x y => y ++ x) b a
theorem pairs_four {a b : List (List Va)} (ha : ∀ r ∈ a, r.length = 2) (hb : ∀ r ∈ b, r.length = 2) {r : List Va} (h : r ∈ pairsS a b) : ∃ x0 x1 y0 y1, r = [x0, x1, y0, y1] := by
 unfold pairsS at h
 obtain ⟨x, hx, hr⟩ := List.mem_flatMap.1 h
 obtain ⟨y, hy, rfl⟩ := List.mem_map.1 hr
 obtain ⟨x0, x1, rfl⟩ := len2 (ha x hx)
 obtain ⟨y0, y1, rfl⟩ := len2 (hb y hy)
 exact ⟨_, _, _, _, rfl⟩
def errS (x : Ex) (rows : List (List Va)) : Int := rows.foldl (fun l r => leastI l (holdsV r x).2) 0
theorem fold_err (x : Ex) : ∀ (rows : List (List Va)) (s : List (List Va) × Int), (rows.foldl (filStep x) s).2 = rows.foldl (fun l r => leastI l (holdsV r x).2) s.2
 | [], s => rfl
 | q :: rows, s => by rw [List.foldl_cons, List.foldl_cons, fold_err x rows]; rfl
theorem leastI_comm (l d e : Int) : leastI (leastI l d) e = leastI (leastI l e) d := by
 unfold leastI
 grind
theorem errS_perm {x y : Ex} {l m : List (List Va)} (g : List Va → List Va) (h : (l.map g).Perm m) (he : ∀ r ∈ l, holdsV r x = holdsV (g r) y) : errS x l = errS y m := by
 have h1 : errS x l = errS y (l.map g) := by
  unfold errS
  rw [List.foldl_map]
  have : ∀ (l : List (List Va)) (s : Int), (∀ r ∈ l, holdsV r x = holdsV (g r) y) → l.foldl (fun l r => leastI l (holdsV r x).2) s = l.foldl (fun l r => leastI l (holdsV (g r) y).2) s := fun l => by
   induction l with
   | nil => intro s _; rfl
   | cons r l ih =>
     intro s hr
     simp only [List.foldl_cons]
     rw [hr r (by simp), ih _ fun r hr' => hr r (by simp [hr'])]
  exact this l 0 he
 rw [h1]
 unfold errS
 exact h.foldl_eq' (fun a _ b _ z => leastI_comm z _ _) 0
theorem filS_two (x : Ex) (rows : List (List Va)) : (filS rows x).2 = if errS x rows ≠ 0 then errS x rows else if (rows.filter fun r => (holdsV r x).1).length ≤ 10000 then 0 else 20 := by
 by_cases h : errS x rows = 0
 ·rw [if_neg (by simpa using h)]
  have h0 : (rows.foldl (filStep x) ([], 0)).2 = 0 := by rw [fold_err]; exact h
  obtain ⟨_, h2, _⟩ := fil_zero x rows ([], 0) h0
  exact (filS_cnt h2 rfl).1
 ·rw [if_pos h]
  have h0 : (rows.foldl (filStep x) ([], 0)).2 = errS x rows := fold_err x rows ([], 0)
  unfold filS ansS
  rw [h0, if_pos h]
theorem turn_fil {a b : List (List Va)} (ha : ∀ r ∈ a, r.length = 2) (hb : ∀ r ∈ b, r.length = 2) : (filS (pairsS a b) on03).2 = (filS (pairsS b a) on12).2 ∧ ((filS (pairsS a b) on03).2 = 0 → (filS (pairsS a b) on03).1.Perm ((filS (pairsS b a) on12).1.map swp)) := by
 have hp := pairs_turn ha hb
 have hh : ∀ r ∈ pairsS a b, holdsV r on03 = holdsV (swp r) on12 := fun r hr => by
  obtain ⟨x0, x1, y0, y1, rfl⟩ := pairs_four ha hb hr
  exact turn_holds x0 x1 y0 y1
 have he := errS_perm (x := on03) (y := on12) swp hp hh
 have hf : ((pairsS a b).filter fun r => (holdsV r on03).1) = (pairsS a b).filter fun r => (holdsV (swp r) on12).1 := List.filter_congr fun r hr => by rw [hh r hr]
 have hfp : (((pairsS a b).filter fun r => (holdsV r on03).1).map swp).Perm ((pairsS b a).filter fun r => (holdsV r on12).1) := by
  rw [hf]
  have h1 := hp.filter fun r => (holdsV r on12).1
  rw [List.filter_map] at h1
  exact h1
 have hlen : ((pairsS a b).filter fun r => (holdsV r on03).1).length = ((pairsS b a).filter fun r => (holdsV r on12).1).length := by
  have := hfp.length_eq
  rw [List.length_map] at this
  exact this
 have hE : (filS (pairsS a b) on03).2 = (filS (pairsS b a) on12).2 := by rw [filS_two, filS_two, he, hlen]
 refine ⟨hE, fun h0 => ?_⟩
 obtain ⟨h1, _, _⟩ := filS_ok h0
 obtain ⟨h2, _, _⟩ := filS_ok (hE ▸ h0)
 rw [h1, h2]
 have h3 := hfp.map swp
 rw [List.map_map] at h3
 have h4 : ((pairsS a b).filter fun r => (holdsV r on03).1).map (swp ∘ swp) = (pairsS a b).filter fun r => (holdsV r on03).1 := by
  refine (List.map_congr_left fun r hr => ?_).trans (List.map_id _)
  obtain ⟨x0, x1, y0, y1, rfl⟩ := pairs_four ha hb (List.mem_filter.1 hr).1
  rfl
 rw [h4] at h3
 exact h3
theorem kids03 : kidsOk on03 := by
 intro y hy
 rcases List.mem_cons.1 hy with rfl | hy
 ·decide
 ·rcases List.mem_cons.1 hy with rfl | hy
  ·decide
  ·cases hy
theorem kids12 : kidsOk on12 := by
 intro y hy
 rcases List.mem_cons.1 hy with rfl | hy
 ·decide
 ·rcases List.mem_cons.1 hy with rfl | hy
  ·decide
  ·cases hy
theorem turn_all {a b : List (List Va)} (ha : ∀ r ∈ a, r.length = 2) (hb : ∀ r ∈ b, r.length = 2) : (joinS a b on03).2 = (joinS b a on12).2 ∧ ((joinS a b on03).2 = 0 → topS (joinS a b on03).1 = topS ((joinS b a on12).1.map swp) ∧ (joinS a b on03).1.length = (joinS b a on12).1.length) ∧ (∀ r ∈ (joinS a b on03).1, r.length = 4) ∧ (∀ r ∈ (joinS b a on12).1, r.length = 4) ∧ (joinS a b on03).1.length ≤ 10000 ∧ (joinS b a on12).1.length ≤ 10000 := by
 rw [join_eq _ _ _ kids03, join_eq _ _ _ kids12]
 obtain ⟨h1, h2⟩ := turn_fil ha hb
 have key : ∀ (a b : List (List Va)) (x : Ex), (∀ r ∈ a, r.length = 2) → (∀ r ∈ b, r.length = 2) → (∀ r ∈ (filS (pairsS a b) x).1, r.length = 4) ∧ (filS (pairsS a b) x).1.length ≤ 10000 := fun a b x ha hb => by
  by_cases h : (filS (pairsS a b) x).2 = 0
  ·obtain ⟨g1, _, g3⟩ := filS_ok h
   refine ⟨fun r hr => ?_, g3⟩
   rw [g1] at hr
   obtain ⟨x0, x1, y0, y1, rfl⟩ := pairs_four ha hb (List.mem_filter.1 hr).1
   rfl
  ·rw [filS_err h]; simp
 refine ⟨h1, fun h0 => ⟨topS_perm (h2 h0), ?_⟩, (key a b on03 ha hb).1, (key b a on12 hb ha).1, (key a b on03 ha hb).2, (key b a on12 hb ha).2⟩
 have := (h2 h0).length_eq
 rwa [List.length_map] at this
end Go.Proofs.YtpcblbbddccgpaaDoor
namespace Go.Proofs.YtpcblbbddccgpaaDoor
open Go.RowKit
theorem eqV_eq {a b : Va} (h : eqV a b = true) : a = b := by
 obtain ⟨a1, a2, a3⟩ := a
 obtain ⟨b1, b2, b3⟩ := b
 simp only [eqV, decide_eq_true_eq] at h
 obtain ⟨h1, h2, h3⟩ := h
 rw [h1, h2, ba_ext h3]
theorem eqV_cells (a1 a2 b1 b2 : Int) (a3 b3 : ByteArray) : (a1 == b1 && ((a2 == b2) && ((a3.toList == b3.toList) && true))) = eqV (a1, a2, a3) (b1, b2, b3) := by
 rw [Bool.eq_iff_iff]; simp [eqV]
end Go.Proofs.YtpcblbbddccgpaaDoor
namespace Go.Proofs.YtpcblbbddccgpaaDoor
open Go.RowKit
def tEc := aa wX <| aa wbu <| aa T2 <| aa T3 <| aa T9 T24
theorem bytesLess_self : ∀ l : List UInt8, Op.bytesLess l l = false
 | [] => rfl
 | b :: l => by simp [Op.bytesLess, bytesLess_self l]
theorem acmpR (a b : Va) (σ : St) : ACalls Tryd.prog 34 [vaA a, vaA b] σ fun r s => s = σ ∧ r = intV .i64 (cmpV a b) := by
 refine ACalls.pureF (R := fun r => r = intV .i64 (cmpV a b)) ?_ rfl σ
 obtain ⟨a1, a2, a3⟩ := a
 obtain ⟨b1, b2, b3⟩ := b
 have ce := eqV_cells a1 a2 b1 b2 a3 b3
 refine acalls_of cx_ok dr_ok Tryd.func34 (by kernel_rfl) rfl (nt := 39) (rs := [.tmp 4]) rfl rfl ?_
 simp only [vaA, vaC, List.map_cons, List.map_nil]
 rcases (show eqV (a1, a2, a3) (b1, b2, b3) = false ∨ eqV (a1, a2, a3) (b1, b2, b3) = true by cases eqV (a1, a2, a3) (b1, b2, b3) <;> simp) with hq | hq
 ·rcases Int.lt_trichotomy a1 b1 with h1 | h1 | h1
  ·have d1 : decide (a1 < b1) = true := by simpa using h1
   have hc : cmpV (a1, a2, a3) (b1, b2, b3) = -1 := by simp [cmpV, cmpI, h1]
   rw [hc]
   repeat' first | ((with_reducible first | refine cs ?_ ?_ | refine ws ?_ ?_) <;> intro h <;> try simp only [h]) | simp only [↓wBA, tEc, convA, seval, ce, hq, d1]
   all_goals refine ret_is (a := _) ?_ rfl rfl
   all_goals simp only [↓wBA, tEc, convA, seval]
   all_goals simp_all [wS]
  ·subst h1
   have d1 : decide (a1 < a1) = false := by simp
   rcases Int.lt_trichotomy a2 b2 with h2 | h2 | h2
   ·have d2 : decide (a2 < b2) = true := by simpa using h2
    have hc : cmpV (a1, a2, a3) (a1, b2, b3) = -1 := by simp [cmpV, cmpI, h2]
    rw [hc]
    repeat' first | ((with_reducible first | refine cs ?_ ?_ | refine ws ?_ ?_) <;> intro h <;> try simp only [h]) | simp only [↓wBA, tEc, convA, seval, ce, hq, d1, d2, beq_self_eq_true]
    all_goals refine ret_is (a := _) ?_ rfl rfl
    all_goals simp only [↓wBA, tEc, convA, seval]
    all_goals simp_all [wS]
   ·subst h2
    have d2 : decide (a2 < a2) = false := by simp
    have hne : ¬ a3.toList = b3.toList := fun e => by simp [eqV, e] at hq
    rcases (show Op.bytesLess a3.toList b3.toList = false ∨ Op.bytesLess a3.toList b3.toList = true by cases Op.bytesLess a3.toList b3.toList <;> simp) with hb | hb
    ·have hc : cmpV (a1, a2, a3) (a1, a2, b3) = 1 := by simp [cmpV, cmpI, cmpS, hb, hne]
     rw [hc]
     repeat' first | ((with_reducible first | refine cs ?_ ?_ | refine ws ?_ ?_) <;> intro h <;> try simp only [h]) | simp only [↓wBA, tEc, convA, seval, ce, hq, d1, d2, beq_self_eq_true, binStr, hb]
     all_goals refine ret_is (a := _) ?_ rfl rfl
     all_goals simp only [↓wBA, tEc, convA, seval]
     all_goals simp_all [wS]
    ·have hc : cmpV (a1, a2, a3) (a1, a2, b3) = -1 := by simp [cmpV, cmpI, cmpS, hb]
     rw [hc]
     repeat' first | ((with_reducible first | refine cs ?_ ?_ | refine ws ?_ ?_) <;> intro h <;> try simp only [h]) | simp only [↓wBA, tEc, convA, seval, ce, hq, d1, d2, beq_self_eq_true, binStr, hb]
     all_goals refine ret_is (a := _) ?_ rfl rfl
     all_goals simp only [↓wBA, tEc, convA, seval]
     all_goals simp_all [wS]
   ·have d2 : decide (a2 < b2) = false := by simp; omega
    have e2 : (a2 == b2) = false := by simp; omega
    have hc : cmpV (a1, a2, a3) (a1, b2, b3) = 1 := by
     have g1 : ¬ a2 < b2 := by omega
     simp [cmpV, cmpI, g1, h2]
    rw [hc]
    repeat' first | ((with_reducible first | refine cs ?_ ?_ | refine ws ?_ ?_) <;> intro h <;> try simp only [h]) | simp only [↓wBA, tEc, convA, seval, ce, hq, d1, d2, e2, beq_self_eq_true]
    all_goals refine ret_is (a := _) ?_ rfl rfl
    all_goals simp only [↓wBA, tEc, convA, seval]
    all_goals simp_all [wS]
  ·have d1 : decide (a1 < b1) = false := by simp; omega
   have e1 : (a1 == b1) = false := by simp; omega
   have hc : cmpV (a1, a2, a3) (b1, b2, b3) = 1 := by
    have g1 : ¬ a1 < b1 := by omega
    simp [cmpV, cmpI, g1, h1]
   rw [hc]
   repeat' first | ((with_reducible first | refine cs ?_ ?_ | refine ws ?_ ?_) <;> intro h <;> try simp only [h]) | simp only [↓wBA, tEc, convA, seval, ce, hq, d1, e1]
   all_goals refine ret_is (a := _) ?_ rfl rfl
   all_goals simp only [↓wBA, tEc, convA, seval]
   all_goals simp_all [wS]
 ·have he := eqV_eq hq
  have hc : cmpV (a1, a2, a3) (b1, b2, b3) = 0 := by rw [← he]; simp [cmpV, cmpI, cmpS, bytesLess_self]
  rw [hc]
  repeat' first | ((with_reducible first | refine cs ?_ ?_ | refine ws ?_ ?_) <;> intro h <;> try simp only [h]) | simp only [↓wBA, tEc, convA, seval, ce, hq]
  all_goals refine ret_is (a := _) ?_ rfl rfl
  all_goals simp only [↓wBA, tEc, convA, seval]
  all_goals simp_all [wS]
end Go.Proofs.YtpcblbbddccgpaaDoor
namespace Go.Proofs.YtpcblbbddccgpaaDoor
open Go.RowKit
def tSo := aa wX <| aa wbu <| aa T2 <| aa T3 <| aa T9 T24
theorem fdiv2 (n : Int) : (n.fdiv 2 = 0) = (n = 0 ∨ n = 1) := by
 rw [Int.fdiv_eq_ediv_of_nonneg _ (by decide)]
 apply propext
 omega
theorem list_nil {s : ByteArray} : (s.toList = []) = (s.size = 0) := by
 rw [ba_list]
 apply propext
 constructor
 ·intro h; have := congrArg List.length h; simpa using this
 ·intro h; apply List.eq_nil_of_length_eq_zero; simpa using h
theorem aokR (v : Va) (σ : St) : ACalls Tryd.prog 33 [vaA v] σ fun r s => s = σ ∧ r = boolV (okV v) := by
 refine ACalls.pureF (R := fun r => r = boolV (okV v)) ?_ rfl σ
 obtain ⟨k, n, t⟩ := v
 refine acalls_of cx_ok dr_ok Tryd.func33 (by kernel_rfl) rfl (nt := 57) (rs := [.tmp 2]) rfl rfl ?_
 simp only [vaA, vaC, List.map_cons, List.map_nil]
 repeat' first | ((with_reducible first | refine cs ?_ ?_ | refine ws ?_ ?_) <;> intro h <;> try simp only [h]) | simp only [↓wBA, tSo, convA, seval, binStr]
 all_goals refine ret_is (a := _) ?_ rfl rfl
 all_goals simp only [↓wBA, tSo, convA, seval]
 all_goals simp_all [wS, okV, emp, fdiv2, list_nil]
 all_goals (try omega)
 all_goals grind
end Go.Proofs.YtpcblbbddccgpaaDoor
