/- Arguments opened as data of the abstract machine, by their types. A law's walk, as the call that its row asks for. Arguments that are expressions, opened. Arguments that are rows; what a row's conditions say of the variables. A world that holds the listed tables: the witness of law 17's rows; and what the list tells of the powers of ten. -/
import Derived.Test.YtcnkmandddfdmaaGreatDoorM01
import Derived.ProofKit
import Derived.SizedLaws
import Derived.Deep.Slices
import Derived.Deep.MidRow
import Derived.Test.YtcnkmandddfdmaaGreatDoorM12
import Derived.Test.YtcnkmandddfdmaaGreatDoorM20
import Derived.Shelf.Vars
import Derived.Stop.LaidErr
import Derived.Lib.LaidTab
import Derived.Lib.ItoaNum
import Derived.Test.YtcnkmandddfdmaaGreatDoorM29
import Derived.Test.YtcnkmandddfdmaaGreatDoorRows
import Derived.Lib.LaidIn
import Derived.Lib.LaidCaseMet
import Derived.PinnedBridge
import Derived.Deep.DeepWitnessRowRef
set_option linter.unusedSimpArgs false
set_option linter.unusedVariables false
set_option linter.defProp false
set_option maxRecDepth 100000
set_option maxHeartbeats 32000000
namespace Go.Proofs.YtcnkmandddfdmaaGreatDoor
open Go.RowKit Go.Deep Go.ChangeShapes Go.WideShapes
inductive Sh where
 | int (k : IntKind)
 | bool
 | str
 | sl (eb : Nat) (l : List Sh)
 | pred (p : PV → Prop)
mutual
def HasSh : Sh → PV → Prop
 | .int k, x => ∃ n, x = .v (.int k n) ∧ (Lit.int k n).wf = true
 | .bool, x => ∃ b, x = .v (.bool b)
 | .str, x => ∃ s, x = .v (.string s) ∧ s.size ≤ 140737488351232
 | .sl eb l, x => ∃ ls, x = .sl l.length ls ∧ ls.length * eb ≤ 140737488351232 ∧ ∀ c ∈ ls, HasShL l c
 | .pred p, x => p x
def HasShL : List Sh → List PV → Prop
 | [], c => c = []
 | s :: l, c => ∃ x c', c = x :: c' ∧ HasSh s x ∧ HasShL l c'
end
theorem HasShL.len : ∀ {l : List Sh} {c : List PV}, HasShL l c → c.length = l.length
 | [], c, h => by simp only [HasShL] at h; rw [h]; rfl
 | s :: l, c, h => by
   simp only [HasShL] at h
   obtain ⟨x, c', rfl, _, h⟩ := h
   simp [h.len]
theorem HasShL.app : ∀ {l l' : List Sh} {c c' : List PV}, HasShL l c → HasShL l' c' → HasShL (l ++ l') (c ++ c')
 | [], l', c, c', h, h' => by simp only [HasShL] at h; subst h; exact h'
 | s :: l, l', c, c', h, h' => by
   simp only [HasShL] at h
   obtain ⟨x, c1, rfl, h1, h⟩ := h
   simp only [List.cons_append, HasShL]
   exact ⟨x, _, rfl, h1, h.app h'⟩
def shFs (P : Program) (sh : TypeId → Option (List Sh)) : Nat → List Field → Option (List Sh)
 | _, [] => some []
 | off, f :: fs => match sh f.type, shFs P sh (off + P.cellsOf f.type) fs with
   | some l, some l' => if f.offset = off ∧ l.length = P.cellsOf f.type then some (l ++ l') else none
   | _, _ => none
def shOfR (P : Program) (R : TypeId → Option (List Sh)) : Nat → TypeId → Option (List Sh)
 | 0, _ => none
 | n + 1, t => match R t with
   | some l => some l
   | none => match P.underlying t with
     | some .bool => some [.bool]
     | some (.int k) => some [.int k]
     | some .string => some [.str]
     | some (.slice e) => match shOfR P R n e with
       | some l => if l.length = P.cellsOf e ∧ 0 < P.bytesOf e ∧ 0 < P.cellsOf e then some [.sl (P.bytesOf e) l] else none
       | none => none
     | some (.struct fs) => match shFs P (fun t => shOfR P R n t) 0 fs.toList with
       | some l => if l.length = P.cellsOf t then some l else none
       | none => none
     | _ => none
def shOf (P : Program) (n : Nat) (t : TypeId) : Option (List Sh) := shOfR P (fun _ => none) n t
def FitsP {H : Type} (P : Program) (t : TypeId) (d : DataW H) : Prop := ∀ n ∈ d.weights P t, n ≤ 140737488351232
theorem fitsP_of {H : Type} {P : Program} {ts : List TypeId} {ds : List (DataW H)} (h : (DataW.weightsEach P ts ds).all (· ≤ reachBytes) = true) {j : Nat} {t : TypeId} {d : DataW H} (ht : ts[j]? = some t) (hd : ds[j]? = some d) : FitsP P t d := fun n hn => by
 have := List.all_eq_true.1 h n (DataW.weights_mem_each ht hd n hn)
 have h2 : n ≤ reachBytes := by simpa using this
 exact h2
theorem FitsP.elem {H : Type} {P : Program} {t e : TypeId} {elems spare : List (DataW H)} (h : FitsP P t (.slice elems spare)) (hu : P.underlying t = some (.slice e)) {d : DataW H} (hd : d ∈ elems) : FitsP P e d := fun n hn => by
 refine h n ?_
 rw [DataW.weights]
 simp only [hu]
 refine List.mem_cons_of_mem _ (List.mem_append_left _ ?_)
 clear h hu
 induction elems with
 | nil => cases hd
 | cons x r ih =>
   rw [DataW.weightsAll]
   rcases List.mem_cons.1 hd with rfl | hd
   ·exact List.mem_append_left _ hn
   ·exact List.mem_append_right _ (ih hd)
theorem FitsP.len {H : Type} {P : Program} {t e : TypeId} {elems spare : List (DataW H)} (h : FitsP P t (.slice elems spare)) (hu : P.underlying t = some (.slice e)) : (elems.length + spare.length) * P.bytesOf e ≤ 140737488351232 := by
 refine h _ ?_
 rw [DataW.weights]
 simp [hu]
theorem FitsP.field {H : Type} {P : Program} {t : TypeId} {fs : Array Field} {parts : List (DataW H)} (h : FitsP P t (.agg parts)) (hu : P.underlying t = some (.struct fs)) {i : Nat} {f : Field} {d : DataW H} (hf : fs[i]? = some f) (hd : parts[i]? = some d) : FitsP P f.type d := fun n hn => by
 refine h n ?_
 rw [DataW.weights]
 simp only [hu]
 exact DataW.weights_mem_each (j := i) (by simp [hf]) hd n hn
theorem FitsP.str {H : Type} {P : Program} {t : TypeId} {bs : List UInt8} (h : FitsP P t (.lit (.string bs) : DataW H)) : bs.length ≤ 140737488351232 := h _ (by simp [DataW.weights])
def inH (w : World) (b o : Nat) : Prop := b < w.heap.size
def RepL (w : World) (ps : List PV) (cs : List Value) : Prop := ps.length = cs.length ∧ ∀ (i : Nat) (x : PV) (u : Value), ps[i]? = some x → cs[i]? = some u → PRep w (inH w) x u
theorem RepL.one {w : World} {x : PV} {u : Value} (h : PRep w (inH w) x u) : RepL w [x] [u] := ⟨rfl, fun i x' u' hx hu => by
 cases i with
 | zero => simp at hx hu; subst hx hu; exact h
 | succ i => simp at hx⟩
theorem RepL.app {w : World} {ps ps' : List PV} {cs cs' : List Value} (h : RepL w ps cs) (h' : RepL w ps' cs') : RepL w (ps ++ ps') (cs ++ cs') := by
 refine ⟨by simp [h.1, h'.1], fun i x u hx hu => ?_⟩
 rw [List.getElem?_append] at hx hu
 by_cases hi : i < ps.length
 ·rw [if_pos hi] at hx; rw [if_pos (by rw [← h.1]; exact hi)] at hu
  exact h.2 i x u hx hu
 ·rw [if_neg hi] at hx; rw [if_neg (by rw [← h.1]; exact hi)] at hu
  rw [h.1] at hx
  exact h'.2 _ x u hx hu
theorem spotNone {w : World} {a : Addr} {v : Value} (h : w.cell? a = some v) : a = ⟨a.block, a.off, none⟩ := by
 obtain ⟨b, o, s⟩ := a
 cases s with
 | none => rfl
 | some q => simp [World.cell?] at h; split at h <;> simp at h
section
variable {H : Type} {enc : TypeId × Value → H} {P : Program} {w : World} {held : Bool}
theorem shFs_open {sh : TypeId → Option (List Sh)} {cs : List Value} : ∀ (fl : List Field) (off : Nat) (shs : List Sh), shFs P sh off fl = some shs →
 (∀ f ∈ fl, ∀ l, sh f.type = some l → ∃ ps, HasShL l ps ∧ RepL w ps ((cs.drop f.offset).take (P.cellsOf f.type))) → ∃ ps, HasShL shs ps ∧ RepL w ps ((cs.drop off).take shs.length)
 | [], off, shs, h, _ => by
   simp only [shFs, Option.some.injEq] at h; subst h
   exact ⟨[], by simp [HasShL], by simp [RepL]⟩
 | f :: fl, off, shs, h, hf => by
   simp only [shFs] at h
   split at h
   ·rename_i l l' h1 h2
    split at h
    ·rename_i hc
     simp only [Option.some.injEq] at h; subst h
     obtain ⟨ps1, g1, g2⟩ := hf f (by simp) l h1
     obtain ⟨ps2, g3, g4⟩ := shFs_open fl _ l' h2 fun f' hf' => hf f' (by simp [hf'])
     refine ⟨ps1 ++ ps2, g1.app g3, ?_⟩
     rw [hc.1, ← hc.2] at g2
     rw [← hc.2] at g4
     rw [List.length_append, List.take_add, List.drop_drop]
     exact g2.app g4
    ·simp at h
   ·simp at h
theorem open_shR {R : TypeId → Option (List Sh)} {N : Nat} (hR : ∀ t l, R t = some l → ∀ {fuel : Nat} {cs : List Value} {d : DataW H} {p : List MemPlace}, SizeOf.sizeOf d < N → DataW.trod enc P w 0 (fun _ => true) held fuel t cs = some (d, p) → FitsP P t d → ∃ ps, HasShL l ps ∧ RepL w ps cs) :
 ∀ (n : Nat) {fuel : Nat} {t : TypeId} {cs : List Value} {d : DataW H} {p : List MemPlace} {shs : List Sh}, (SizeOf.sizeOf d < N ∨ (SizeOf.sizeOf d ≤ N ∧ R t = none)) → shOfR P R n t = some shs → DataW.trod enc P w 0 (fun _ => true) held fuel t cs = some (d, p) → FitsP P t d →
 ∃ ps, HasShL shs ps ∧ RepL w ps cs
 | 0, fuel, t, cs, d, p, shs, _, hs, _, _ => by simp [shOfR] at hs
 | n + 1, fuel, t, cs, d, p, shs, hN, hs, h, hf => by
   simp only [shOfR] at hs
   have hNle : SizeOf.sizeOf d ≤ N := hN.elim Nat.le_of_lt (·.1)
   split at hs
   ·rename_i l hl
    simp only [Option.some.injEq] at hs; subst hs
    exact hR t l hl (hN.resolve_right fun h => by rw [h.2] at hl; simp at hl) h hf
   split at hs
   ·rename_i hu
    simp only [Option.some.injEq] at hs; subst hs
    obtain ⟨b, rfl, _⟩ := DataW.trod_bool hu h
    exact ⟨[.v (.bool b)], by simp only [HasShL, HasSh]; exact ⟨_, _, rfl, ⟨b, rfl⟩, rfl⟩, RepL.one (by simp only [PRep]; exact ⟨rfl, trivial⟩)⟩
   ·rename_i k hu
    simp only [Option.some.injEq] at hs; subst hs
    obtain ⟨m, rfl, _, hw⟩ := DataW.trod_int hu h
    exact ⟨[.v (.int k m)], by simp only [HasShL, HasSh]; exact ⟨_, _, rfl, ⟨m, rfl, hw⟩, rfl⟩, RepL.one (by simp only [PRep]; exact ⟨rfl, trivial⟩)⟩
   ·rename_i hu
    simp only [Option.some.injEq] at hs; subst hs
    obtain ⟨s, rfl, hx, _⟩ := DataW.trod_string hu h
    simp only [Prod.mk.injEq] at hx
    obtain ⟨rfl, rfl⟩ := hx
    have hl := hf.str
    rw [Array.length_toList] at hl
    exact ⟨[.v (.string s)], by simp only [HasShL, HasSh]; exact ⟨_, _, rfl, ⟨s, rfl, hl⟩, rfl⟩, RepL.one (by simp only [PRep]; exact ⟨rfl, trivial⟩)⟩
   ·rename_i e hu
    split at hs
    case h_2 => simp at hs
    rename_i l hl
    split at hs
    case isFalse => simp at hs
    rename_i hc
    simp only [Option.some.injEq] at hs; subst hs
    rcases open_slice hu h with ⟨rfl, _⟩ | ⟨a, len, cap, m, q, D, Pl, rfl, _, hlc, hcm, hm, hx, hel⟩
    ·exact ⟨[.sl l.length []], by simp only [HasShL, HasSh]; exact ⟨_, _, rfl, ⟨[], rfl, by simp, by simp⟩, rfl⟩, RepL.one (by simp only [PRep]; exact .inl ⟨trivial, none, 0, rfl, fun _ => rfl⟩)⟩
    ·simp only [if_true] at hm
     subst hm
     simp only [Prod.mk.injEq] at hx
     obtain ⟨rfl, rfl⟩ := hx
     have hle := hf.len hu
     simp only [List.length_map, List.length_range] at hle
     have hlen : len * P.bytesOf e ≤ 140737488351232 := Nat.le_trans (Nat.mul_le_mul_right _ (Nat.le_add_right _ _)) hle
     have each : ∀ i, ∃ ps : List PV, i < len → HasShL l ps ∧ ∀ (j : Nat) (x : PV), ps[j]? = some x → ∃ u, w.cell? (a.add (i * P.cellsOf e + j)) = some u ∧ PRep w (inH w) x u := fun i => by
      by_cases hi : i < len
      ·obtain ⟨cs', h1, h2⟩ := hel i (by omega)
       have hmem : D i ∈ (List.range len).map D := List.mem_map.2 ⟨i, List.mem_range.2 hi, rfl⟩
       have hsz : SizeOf.sizeOf (D i) < N := by
        have h1 := List.sizeOf_lt_of_mem hmem
        simp only [DataW.slice.sizeOf_spec] at hNle
        omega
       obtain ⟨ps, h3, h4⟩ := open_shR hR n (.inl hsz) hl h2 (hf.elem hu hmem)
       obtain ⟨_, h5, h6⟩ := World.cells?_some h1
       refine ⟨ps, fun _ => ⟨h3, fun j x hx => ?_⟩⟩
       have hj : j < ps.length := (List.getElem?_eq_some_iff.1 hx).1
       have hj' : j < cs'.length := by rw [← h4.1]; exact hj
       refine ⟨cs'[j], ?_, h4.2 j x _ hx (List.getElem?_eq_getElem hj')⟩
       have := h6 j (by omega)
       rw [add_add] at this
       rw [this]; exact List.getElem?_eq_getElem hj'
      ·exact ⟨[], fun h => absurd h hi⟩
     obtain ⟨R, hR⟩ := Classical.axiomOfChoice each
     refine ⟨[.sl l.length ((List.range len).map R)], ?_, RepL.one ?_⟩
     ·simp only [HasShL, HasSh]
      refine ⟨_, _, rfl, ⟨_, rfl, by simpa using hlen, fun c hc' => ?_⟩, rfl⟩
      obtain ⟨i, hi, rfl⟩ := List.mem_map.1 hc'
      exact (hR i (List.mem_range.1 hi)).1
     ·simp only [PRep, List.length_map, List.length_range]
      by_cases h0 : len = 0
      ·subst h0; exact .inl ⟨rfl, some a, m, rfl, by simp⟩
      ·right
       have hl0 := (hR 0 (by omega)).1.len
       have hR0 : (R 0)[0]? = some ((R 0)[0]'(by rw [hl0]; omega)) := List.getElem?_eq_getElem _
       obtain ⟨u0, hu0, _⟩ := (hR 0 (by omega)).2 0 _ hR0
       rw [show a.add (0 * P.cellsOf e + 0) = a by simp [Addr.add]] at hu0
       have ha := spotNone hu0
       refine ⟨a.block, a.off, m, by rw [← ha], hlc, PRepR.of_get fun i c hc' => ?_⟩
       have hi : i < len := by have := (List.getElem?_eq_some_iff.1 hc').1; simpa using this
       have hcR : c = R i := by simpa [hi] using hc'.symm
       subst hcR
       refine ⟨(hR i hi).1.len, PRepC.of_get fun j x hx => ?_⟩
       obtain ⟨u, g1, g2⟩ := (hR i hi).2 j x hx
       rw [ha, Addr.add_mid, ← hc.1, ← Nat.add_assoc] at g1
       have hb : a.block < w.heap.size := World.block_lt_of_cell? w ⟨a.block, _, none⟩ g1
       exact ⟨u, g1, hb, g2⟩
   ·rename_i fs hu
    split at hs
    case h_2 => simp at hs
    rename_i l hl
    split at hs
    case isFalse => simp at hs
    rename_i hc
    simp only [Option.some.injEq] at hs; subst hs
    obtain ⟨xs, q, rfl, hx, hcl, hxl, hg⟩ := DataW.trod_struct hu h
    simp only [Prod.mk.injEq] at hx
    obtain ⟨rfl, rfl⟩ := hx
    obtain ⟨ps, h1, h2⟩ := shFs_open (w := w) (cs := cs) _ _ _ hl fun f hfm l' hl' => by
     obtain ⟨i, hi⟩ := List.mem_iff_getElem?.1 hfm
     have hi' : fs[i]? = some f := by simpa using hi
     have hil : i < xs.length := by rw [hxl]; exact (Array.getElem?_eq_some_iff.1 hi').1
     have hgi := hg i f hi'
     rw [List.getElem?_eq_getElem hil] at hgi
     have hsz : SizeOf.sizeOf (xs[i]).1 < N := by
      have h1 := List.sizeOf_lt_of_mem (List.mem_map.2 ⟨xs[i], List.getElem_mem hil, rfl⟩ : (xs[i]).1 ∈ xs.map (·.1))
      simp only [DataW.agg.sizeOf_spec] at hNle
      omega
     exact open_shR hR n (.inl hsz) hl' hgi (hf.field hu hi' (by simp [hil]))
    refine ⟨ps, h1, ?_⟩
    rw [List.drop_zero, hc, ← hcl, List.take_length] at h2
    exact h2
   ·simp at hs
theorem open_sh (n : Nat) {fuel : Nat} {t : TypeId} {cs : List Value} {d : DataW H} {p : List MemPlace} {shs : List Sh} (hs : shOf P n t = some shs) (h : DataW.trod enc P w 0 (fun _ => true) held fuel t cs = some (d, p)) (hf : FitsP P t d) : ∃ ps, HasShL shs ps ∧ RepL w ps cs :=
 open_shR (R := fun _ => none) (N := SizeOf.sizeOf d) (fun t l h => by simp at h) n (.inr ⟨Nat.le_refl _, rfl⟩) hs h hf
end
end Go.Proofs.YtcnkmandddfdmaaGreatDoor
namespace Go.Proofs.YtcnkmandddfdmaaGreatDoor
open Go.RowKit
def startV (w : World) : View := ⟨w, inH w, fun _ => none, fun _ => none, fun _ => 0⟩
def GlobW (w : World) : Prop := ∀ x ∈ globTab, ∃ cs T, w.heap[x.1]? = some (.cells cs T (0, 0)) ∧ x.2 cs
theorem startV_match (w : World) (hG : GlobW w) : Match (startV w) [] :=
 ⟨fun t ob h => by simp [St.at] at h, fun t t' ob ob' b h => by simp [St.at] at h, fun t _ => ⟨rfl, rfl⟩, fun t b h => by simp [startV] at h, fun b o h => h, fun x hx => by
  obtain ⟨cs, T, h1, h2⟩ := hG x hx
  exact ⟨cs, T, h1, h2, fun t ob h => by simp [St.at] at h⟩⟩
theorem law_calls {P : Program} {f : FuncId} {args : List AV} (h : ∀ σ, ACalls P f args σ fun u σ' => σ' = σ ∧ u = boolV true) {W : World} {vs : List Value} (hv : ARepL (startV W) args vs) (hG : GlobW W := by intro x hx; simp [globTab] at hx) :
 Calls P f vs.toArray W fun e W' => e = .returned (.bool true) ∧ Below W.heap.size W W' :=
 ((h []).2 (startV W) vs (startV_match W hG) hv).mono fun e w' ⟨v, r, σ', M', h1, h2, h3, h4, h5, _, h6, h7⟩ => by
   subst h1 h2 h7
   rw [(rep_v h5).2]
   exact ⟨rfl, h3.below fun t ob h => by simp [St.at] at h⟩
theorem RepL.args {w : World} : ∀ {ps : List PV} {us : List Value}, RepL w ps us → ARepL (startV w) (ps.map .p) us
 | [], [], _ => by simp [ARepL]
 | x :: ps, u :: us, h => by
   simp only [List.map_cons, ARepL]
   exact ⟨u, us, rfl, by simp only [ARep]; exact h.2 0 x u rfl rfl, RepL.args ⟨by simpa using h.1, fun i y v hy hv => h.2 (i + 1) y v (by simpa using hy) (by simpa using hv)⟩⟩
 | [], _ :: _, h => by have := h.1; simp at this
 | _ :: _, [], h => by have := h.1; simp at this
theorem all_leafL : ∀ m : List PV, (m.map AV.p).all leaf = true
 | [] => rfl
 | x :: m => by simp [leaf]
theorem RepL.agg {w : World} {ps : List PV} {us : Array Value} (h : RepL w ps us.toList) : ARep (startV w) (.agg (ps.map .p)) (.agg us) := by
 simp only [ARep]
 exact ⟨all_leafL ps, us.toList, rfl, h.args⟩
end Go.Proofs.YtcnkmandddfdmaaGreatDoor
namespace Go.Proofs.YtcnkmandddfdmaaGreatDoor
open Go.RowKit Go.Deep Go.ChangeShapes Go.WideShapes
section
variable {H : Type} {enc : TypeId × Value → H} {w : World} {held : Bool}
end
end Go.Proofs.YtcnkmandddfdmaaGreatDoor
namespace Go.Proofs.YtcnkmandddfdmaaGreatDoor
open Go.RowKit
theorem gPow : Tryz.prog.globalNamed "internal/strconv.uint64pow10" = some 0 := by kernel_rfl
theorem globW_of {W : World} (hsh : W.ShapedOpen Tryz.prog) (ht : Lib.TabIs Tryz.prog W "internal/strconv.uint64pow10" .u64 Lib.pow10Tab) : GlobW W := by
 intro x hx
 rcases List.mem_append.1 hx with hx | hx
 ·rcases List.mem_append.1 hx with hx | hx
  ·cases hx
  ·simp only [List.mem_singleton] at hx
   subst hx
   obtain ⟨zero, t, h0⟩ : ∃ zero t, ((begin Tryz.prog (fun _ _ => 0) default).world.heap[0]?).bind Obj.row? = some (zero, t) := ⟨(List.replicate 20 (Value.int .u64 0)).toArray, 180, by kernel_rfl⟩
   obtain ⟨cs, hh, _⟩ := hsh.1 _ zero t (of_decide_eq_true (by kernel_rfl)) h0
   refine ⟨cs, t, hh, ?_⟩
   unfold Lib.TabIs World.var? at ht
   rw [gPow] at ht
   simp only [Option.bind_some, hh, Option.some.injEq] at ht
   exact ht
 ·simp only [List.mem_singleton] at hx
  subst hx
  obtain ⟨zero, t, h0, hz, hb, hc, hu⟩ : ∃ zero t, ((begin Tryz.prog (fun _ _ => 0) default).world.heap[2]?).bind Obj.row? = some (zero, t) ∧ zero.size = 1 ∧ Tryz.prog.buildable t = true ∧ Tryz.prog.cellTypes Tryz.prog.depth t = some [t] ∧ Tryz.prog.underlying t = some (.int .i64) := ⟨#[.int .i64 0], 3, by kernel_rfl, rfl, by kernel_rfl, by kernel_rfl, by kernel_rfl⟩
  obtain ⟨cs, hh, hs, _⟩ := hsh.1 _ zero t (of_decide_eq_true (by kernel_rfl)) h0
  obtain ⟨m, hm⟩ := cell_of_shapedOpen_int hsh (of_decide_eq_true (by kernel_rfl)) h0 hz hb hc hu
  refine ⟨cs, t, hh, m, ?_⟩
  rw [cell_of_row _ _ _ _ _ _ hh] at hm
  apply Array.ext_getElem?
  intro i
  rcases i with _ | i
  ·rw [hm]; rfl
  ·rw [Array.getElem?_eq_none (by omega)]; rfl
end Go.Proofs.YtcnkmandddfdmaaGreatDoor
namespace Go.Proofs.YtcnkmandddfdmaaGreatDoor
open Go.RowKit Go.Lib Go.Shelf
abbrev laidL : List (String × DataW Unit) := [("math/bits.deBruijn32tab", Rows.laid_math_bits_deBruijn32tab), ("math/bits.deBruijn64tab", Rows.laid_math_bits_deBruijn64tab), ("internal/strconv.uint64pow10", Rows.laid_internal_strconv_uint64pow10), ("unicode/utf8.acceptRanges", Rows.laid_unicode_utf8_acceptRanges), ("unicode.CaseRanges", Rows.laid_unicode_CaseRanges), ("unicode/utf8.first", Rows.laid_unicode_utf8_first)]
def litsOf : DataW Unit → List Value
 | .agg l => l.map fun | .lit x => x.value | _ => .bool false
 | _ => []
noncomputable def laidWorld (os : Os) : World :=
 let N := (World.settled Tryz.prog os).heap.size
 let w0 := World.holding Tryz.prog os ⟨#[.cells Lib.caseCells5 219], #[], []⟩
 let put (h : Array Obj) (g : Nat) (cs : Array Value) : Array Obj := h.modify g fun
  | .cells _ t frozen => .cells cs t frozen
  | o => o
 let h0 := put w0.heap 5 (litsOf Rows.laid_math_bits_deBruijn32tab).toArray
 let h1 := put h0 6 (litsOf Rows.laid_math_bits_deBruijn64tab).toArray
 let h2 := put h1 0 (Lib.pow10Tab.map fun z => Value.int .u64 z).toArray
 let h3 := put h2 4 ((List.range 16).flatMap fun i => [Value.int .u8 (Lib.accLo i), Value.int .u8 (Lib.accHi i)]).toArray
 let h4 := put h3 3 (Lib.firstTab.map fun z => Value.int .u8 z).toArray
 let h5 := put h4 1 #[.slice (some ⟨N, 0, none⟩) Lib.caseA.size Lib.caseA.size]
 { w0 with heap := h5 }
noncomputable abbrev N0 : Nat := (World.settled Tryz.prog default).heap.size
theorem pieceA (os : Os) (args : Array Value) : LaidIn Tryz.prog ((laidWorld os).forCall (fun _ _ => 0) ⟨#[], args, []⟩).memory [("math/bits.deBruijn32tab", Rows.laid_math_bits_deBruijn32tab), ("math/bits.deBruijn64tab", Rows.laid_math_bits_deBruijn64tab), ("internal/strconv.uint64pow10", Rows.laid_internal_strconv_uint64pow10), ("unicode/utf8.acceptRanges", Rows.laid_unicode_utf8_acceptRanges)] [5, 6, 0, 4] :=
 LaidIn.of_run _ 8 (by kernel_rfl) (by kernel_rfl) (by kernel_rfl) (by kernel_rfl)
theorem pieceB (os : Os) (args : Array Value) : LaidIn Tryz.prog ((laidWorld os).forCall (fun _ _ => 0) ⟨#[], args, []⟩).memory [("unicode/utf8.first", Lib.firstData)] [3] :=
 LaidIn.of_run _ 8 (by kernel_rfl) (by kernel_rfl) (by kernel_rfl) (by kernel_rfl)
theorem xCase : CaseExtra Tryz.prog Tryz.lays158_ren := ⟨by kernel_rfl, by kernel_rfl, by kernel_rfl, by kernel_rfl, by kernel_rfl, by kernel_rfl⟩
theorem heapV (os : Os) (args : Array Value) : ((laidWorld os).forCall (fun _ _ => 0) ⟨#[], args, []⟩).memory.heap[1]? = some (.cells #[.slice (some ⟨N0, 0, none⟩) Lib.caseA.size Lib.caseA.size] 190 (0, 0)) := by kernel_rfl
theorem heapR (os : Os) (args : Array Value) : ((laidWorld os).forCall (fun _ _ => 0) ⟨#[], args, []⟩).memory.heap[N0]? = some (.cells Lib.caseCells5 219 (0, 0)) := by kernel_rfl
theorem case_in {w : World} {R : Nat} (hgR : (1 : Nat) ≠ R) (hvar : w.heap[1]? = some (.cells #[.slice (some ⟨R, 0, none⟩) Lib.caseA.size Lib.caseA.size] 190 (0, 0))) (hblk : w.heap[R]? = some (.cells Lib.caseCells5 219 (0, 0))) : LaidIn Tryz.prog w [("unicode.CaseRanges", caseData)] [1, R] := by
 have hT := caseTab_of_block hblk
 have hread := case_slice_reads (ρ := Tryz.lays158_ren) { Tryz.lays158 with } Tryz.underlying217 xCase hT caseA_wf (by rw [caseA_size]; unfold maxLen; omega) 0
 rw [case_rows_data] at hread
 have hv : w.var? Tryz.prog "unicode.CaseRanges" = some #[.slice (some ⟨R, 0, none⟩) Lib.caseA.size Lib.caseA.size] := by simp only [World.var?, xCase.n13, Option.bind_some]; exact (by rw [show Tryz.lays158_ren.g 13 = 1 from rfl, hvar])
 refine LaidIn.one (fuel := 4) (p := MemPlace.row ⟨R, 0, none⟩ (Lib.caseA.size * 5)) _ xCase.n13 xCase.y13 hv hread ?_ ?_ ?_
 ·refine List.nodup_append.2 ⟨row_nodup _ _, row_nodup _ _, ?_⟩
  intro a ha b hb e
  obtain ⟨i, _, rfl⟩ := MemPlace.mem_row.1 ha
  obtain ⟨j, _, rfl⟩ := MemPlace.mem_row.1 hb
  simp at e
  exact hgR e.1
 ·intro b off hp
  rcases List.mem_append.1 hp with hp | hp
  ·obtain ⟨i, hi, e⟩ := MemPlace.mem_row.1 hp
   cases e
   refine ⟨⟨_, _, hvar⟩, fun u v hc => ?_⟩
   obtain rfl : i = 0 := by simp at hi; omega
   have hc' := (Lib.cell_of_heap hvar 0).symm.trans hc
   simp at hc'
  ·obtain ⟨i, hi, e⟩ := MemPlace.mem_row.1 hp
   cases e
   refine ⟨⟨_, _, hblk⟩, fun u v hc => ?_⟩
   have hlt : i / 5 < Lib.caseA.size := by rw [Nat.div_lt_iff_lt_mul (by decide)]; exact hi
   have h5 := hT (i / 5) hlt
   have c0 := h5.1
   have c1 := h5.2.1
   have c2 := h5.2.2.1
   have c3 := h5.2.2.2.1
   have c4 := h5.2.2.2.2
   clear h5 hT
   have hi5 : 0 + i = 0 + i / 5 * 5 + i % 5 := by omega
   simp only at hc
   rw [hi5] at hc
   have hm : i % 5 < 5 := Nat.mod_lt _ (by omega)
   match hk : i % 5, hm with
   | 0, _ => rw [hk, Nat.add_zero, c0] at hc; cases hc
   | 1, _ => rw [hk, c1] at hc; cases hc
   | 2, _ => rw [hk, c2] at hc; cases hc
   | 3, _ => rw [hk, c3] at hc; cases hc
   | 4, _ => rw [hk, c4] at hc; cases hc
 ·intro x hx
  rcases List.mem_append.1 hx with hx | hx
  ·obtain ⟨i, _, rfl⟩ := MemPlace.mem_row.1 hx
   exact List.mem_cons_self
  ·obtain ⟨i, _, rfl⟩ := MemPlace.mem_row.1 hx
   exact List.mem_cons_of_mem _ (List.mem_cons_self)
theorem pieceC (os : Os) (args : Array Value) : LaidIn Tryz.prog ((laidWorld os).forCall (fun _ _ => 0) ⟨#[], args, []⟩).memory [("unicode.CaseRanges", caseData)] [1, N0] :=
 case_in (of_decide_eq_true (by kernel_rfl)) (heapV os args) (heapR os args)
theorem laid_met (os : Os) (args : Array Value) : laidMet Tryz.prog laidL ((laidWorld os).forCall (fun _ _ => 0) ⟨#[], args, []⟩).memory := by
 have hB : LaidIn Tryz.prog ((laidWorld os).forCall (fun _ _ => 0) ⟨#[], args, []⟩).memory [("unicode/utf8.first", Rows.laid_unicode_utf8_first)] [3] := by
  unfold Rows.laid_unicode_utf8_first; rw [Pinned.utf8First_eq]; exact pieceB os args
 have hC : LaidIn Tryz.prog ((laidWorld os).forCall (fun _ _ => 0) ⟨#[], args, []⟩).memory [("unicode.CaseRanges", Rows.laid_unicode_CaseRanges)] [1, N0] := by
  unfold Rows.laid_unicode_CaseRanges; rw [Pinned.caseRanges_eq]; exact pieceC os args
 exact (((pieceA os args).append hC (by kernel_rfl)).append hB (by kernel_rfl)).met
theorem cellsPow : Tryz.prog.cellsOf 180 = 20 := by kernel_rfl
theorem cellsU64 : Tryz.prog.cellsOf 142 = 1 := by kernel_rfl
theorem typePow : (Tryz.prog.globals[0]?).map (·.type) = some 180 := by kernel_rfl
theorem powData : Rows.laid_internal_strconv_uint64pow10 (H := Unit) = Lib.tabData .u64 Lib.pow10Tab := by kernel_rfl
theorem pow_of {W : World} (h : laidMet Tryz.prog laidL W) : Lib.TabIs Tryz.prog W "internal/strconv.uint64pow10" .u64 Lib.pow10Tab := by
 have h2 := laidMet.tail (laidMet.tail h)
 rw [powData] at h2
 exact Lib.tabIs_of_head gPow typePow Tryz.underlying180 Tryz.underlying142 cellsU64 cellsPow h2
end Go.Proofs.YtcnkmandddfdmaaGreatDoor
