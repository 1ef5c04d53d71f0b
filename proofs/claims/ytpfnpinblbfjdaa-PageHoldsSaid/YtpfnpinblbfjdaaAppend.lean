/- append onto a slice of the call's own, from whatever source: a slice that is nil or whose cells are known. -/
import Derived.Test.YtpfnpinblbfjdaaBase
import Derived.Laws.AppendOwnNone
set_option linter.unusedSimpArgs false
namespace Go.Proofs.Ytpfnpinblbfjdaa
open Go.RowKit

/-- What is appended: m elements, their cells. -/
def Src (w : World) (x : Value) (m : Nat) (news : List Value) : Prop :=
  ∃ ao c, x = .slice ao m c ∧ ((ao = none ∧ m = 0 ∧ c = 0) ∨ ∃ ad, ao = some ad ∧ ∀ j u, news[j]? = some u → w.cell? (ad.add j) = some u)

theorem World.grownBy_self (w : World) (row : Option Nat) : w.grownBy w row := ⟨rfl, rfl, rfl, Nat.le_refl _, fun _ _ _ => rfl⟩

theorem append_src {P : Program} {w : World} {ops : Array Oper} {rest : List Oper} {o : Oper} {a : Act} {Q : Exit → Act → World → Prop} (t e : TypeId) (z : Value) (size bytes : Nat)
    (ht : P.underlying t = some (.slice e)) (hinfo : (P.info? e).map (fun i => (i.zero, i.size, i.bytes)) = some (some z, size, bytes)) (hzs : z.cells.size = size) (hsz : 0 < size)
    (hgd : o.guard = none) (s x : Operand)
    (ho : o.op = .call { callee := .builtin .append, args := #[s, x], argTypes := #[t, t] })
    (base : Nat) (v : Value) (n : Nat) (xs : List Value) (hs : a.eval s = v) (hown : w.ownsRow base e size v n xs)
    (m : Nat) (news : List Value) (hx : Src w (a.eval x) m news) (hl : news.length = m * size) (h1 : ∀ u ∈ news, u.oneCell' = true)
    (h63 : n + m ≤ maxLen) (hbytes : (n + m) * bytes ≤ 140737488355328) (hbase : base ≤ w.heap.size)
    (h : ∀ v' w', w'.ownsRow base e size v' (n + m) (xs ++ news) → w.grownBy w' v.ownBlock → (v' = .slice none 0 0 ↔ v = .slice none 0 0 ∧ m = 0) → wpList P ops Q rest (a.put o.dst v') w') : wpList P ops Q (o :: rest) a w := by
  obtain ⟨i, hi, hz0, hz1, hz2⟩ := info_parts hinfo
  obtain ⟨ao, c, hx1, hx2⟩ := hx
  rcases hx2 with ⟨rfl, rfl, rfl⟩ | ⟨ad, rfl, hc⟩
  · have hn : news = [] := List.eq_nil_of_length_eq_zero (by simpa using hl)
    subst hn
    exact wpList_append_own_none hgd s x t ho base e i size ht hi v n xs hs hown hx1 (h v w (by simpa using hown) (World.grownBy_self _ _) (by simp))
  · exact wpList_append_own w hgd s x t ho base e i z size bytes ht hi hz0 hz1 hz2 hzs hsz v n xs hs hown ad m c news hx1 hl hc h1 h63 hbytes hbase h

/-- The same where something is appended, or the slice is not nil: the value is told. -/
theorem append_some {P : Program} {w : World} {ops : Array Oper} {rest : List Oper} {o : Oper} {a : Act} {Q : Exit → Act → World → Prop} (t e : TypeId) (z : Value) (size bytes : Nat)
    (ht : P.underlying t = some (.slice e)) (hinfo : (P.info? e).map (fun i => (i.zero, i.size, i.bytes)) = some (some z, size, bytes)) (hzs : z.cells.size = size) (hsz : 0 < size)
    (hgd : o.guard = none) (s x : Operand)
    (ho : o.op = .call { callee := .builtin .append, args := #[s, x], argTypes := #[t, t] })
    (base : Nat) (v : Value) (n : Nat) (xs : List Value) (hs : a.eval s = v) (hown : w.ownsRow base e size v n xs)
    (m : Nat) (news : List Value) (hx : Src w (a.eval x) m news) (hl : news.length = m * size) (h1 : ∀ u ∈ news, u.oneCell' = true)
    (h63 : n + m ≤ maxLen) (hbytes : (n + m) * bytes ≤ 140737488355328) (hbase : base ≤ w.heap.size) (hne : v ≠ .slice none 0 0 ∨ 0 < m)
    (h : ∀ g cap w', w'.ownsRow base e size (.slice (some ⟨g, 0, none⟩) (n + m) cap) (n + m) (xs ++ news) → w.grownBy w' v.ownBlock → wpList P ops Q rest (a.put o.dst (.slice (some ⟨g, 0, none⟩) (n + m) cap)) w') : wpList P ops Q (o :: rest) a w := by
  refine append_src t e z size bytes ht hinfo hzs hsz hgd s x ho base v n xs hs hown m news hx hl h1 h63 hbytes hbase fun v' w' ho' hg' hn' => ?_
  rcases ho'.2 with ⟨rfl, _⟩ | ⟨g, cap, cur, rfl, _⟩
  · obtain ⟨e1, e2⟩ := hn'.1 rfl
    rcases hne with hne | hne
    · exact absurd e1 hne
    · omega
  · exact h g cap w' ho' hg'

/-- One element that has just been laid in a block of its own. -/
theorem Src.one (w : World) (x : Value) (t : TypeId) : Src (w.alloc (.cells #[x] t)) (.slice (some ⟨w.heap.size, 0, none⟩) 1 1) 1 [x] :=
  ⟨_, _, rfl, .inr ⟨_, rfl, cell_one_new w x t⟩⟩
/-- Cells that lie in a row. -/
theorem Src.at {w : World} {b off m c : Nat} {news : List Value} (h : ∀ j u, news[j]? = some u → w.cell? ⟨b, off + j, none⟩ = some u) : Src w (.slice (some ⟨b, off, none⟩) m c) m news :=
  ⟨_, _, rfl, .inr ⟨_, rfl, fun j u hj => by
    have : (⟨b, off, none⟩ : Addr).add j = ⟨b, off + j, none⟩ := by unfold Addr.add; split <;> simp_all
    rw [this]; exact h j u hj⟩⟩
theorem Src.nil (w : World) : Src w (.slice none 0 0) 0 [] := ⟨_, _, rfl, .inl ⟨rfl, rfl, rfl⟩⟩

theorem info_byte : (Try.prog.info? 5).map (fun i => (i.zero, i.size, i.bytes)) = some (some (.int .u8 0), 1, 1) := by kernel_rfl
theorem info_bytes : (Try.prog.info? 24).map (fun i => (i.zero, i.size, i.bytes)) = some (some (.slice none 0 0), 1, 24) := by kernel_rfl
end Go.Proofs.Ytpfnpinblbfjdaa
