/- That a world that bears the abstract machine's state does what the abstract machine does: what only computes. That a world that bears the abstract machine's state does what the abstract machine does: comparisons and sums, indexes, lengths, slices of slices. -/
import Derived.Test.YtpcblbbddccgpaaDoorM02
import Derived.Laws.Tables
import Derived.Stop.BytesEq
import Derived.WalkSpells
set_option linter.unusedSimpArgs false
set_option linter.unusedVariables false
set_option linter.defProp false
set_option maxRecDepth 100000
set_option maxHeartbeats 32000000
namespace Go.Proofs.YtpcblbbddccgpaaDoor
open Go.RowKit
section
variable {P : Program} {C : Ctx} {o : Oper} {a : Act} {M : View} {σ σ' : St} {r : AV}
theorem fold_set (off : Nat) : ∀ (vs : List Value) (k : Nat) (cs : Array Value), ∃ cs', ((vs.zipIdx k).foldl (fun (cs : Array Value) (x : Value × Nat) => cs.setIfInBounds (off + x.2) x.1) cs) = cs' ∧ cs'.size = cs.size ∧
 ∀ q, cs'[q]? = if off + k ≤ q ∧ q < off + k + vs.length ∧ q < cs.size then vs[q - (off + k)]? else cs[q]?
 | [], k, cs => ⟨cs, rfl, rfl, fun q => by rw [if_neg (by simp; omega)]⟩
 | v :: vs, k, cs => by
   obtain ⟨cs', h1, h2, h3⟩ := fold_set off vs (k + 1) (cs.setIfInBounds (off + k) v)
   refine ⟨cs', by simpa [List.zipIdx_cons] using h1, by simpa using h2, fun q => ?_⟩
   rw [h3 q]
   simp only [Array.size_setIfInBounds, List.length_cons]
   by_cases hq : off + (k + 1) ≤ q ∧ q < off + (k + 1) + vs.length ∧ q < cs.size
   ·rw [if_pos hq, if_pos (by omega), show q - (off + k) = (q - (off + (k + 1))) + 1 by omega]; simp
   ·rw [if_neg hq, Array.getElem?_setIfInBounds]
    by_cases he : off + k = q
    ·subst he
     by_cases hs : off + k < cs.size
     ·rw [if_pos rfl, if_pos hs, if_pos (by omega)]; simp
     ·rw [if_pos rfl, if_neg hs, if_neg (by omega), Array.getElem?_eq_none (by omega)]
    ·rw [if_neg he, if_neg (by omega)]
theorem fold_splice (off : Nat) (vs us : List Value) (h : off + vs.length ≤ us.length) :
 vs.toArray.zipIdx.foldl (fun (cs : Array Value) (x : Value × Nat) => cs.setIfInBounds (off + x.2) x.1) us.toArray = (us.take off ++ vs ++ us.drop (off + vs.length)).toArray := by
 obtain ⟨cs', h1, h2, h3⟩ := fold_set off vs 0 us.toArray
 rw [← Array.foldl_toList, Array.toList_zipIdx]
 simp only [List.toList_toArray]
 rw [h1]
 apply Array.ext_getElem?
 intro q
 rw [h3 q]
 simp only [List.size_toArray, Nat.add_zero, List.getElem?_toArray, List.append_assoc]
 rw [List.getElem?_append, List.length_take]
 by_cases hq : q < off
 ·rw [if_neg (by omega), if_pos (by omega), List.getElem?_take, if_pos hq]
 ·rw [if_neg (c := q < min off us.length) (by omega), List.getElem?_append]
  by_cases h4 : q < off + vs.length
  ·rw [if_pos (by omega), if_pos (by omega), Nat.min_eq_left (by omega)]
  ·rw [if_neg (by omega), if_neg (by omega), List.getElem?_drop, Nat.min_eq_left (by omega)]
   congr 1; omega
theorem ARepL.splice {l m : List AV} {us vs : List Value} (h : ARepL M l us) (hm : ARepL M m vs) {off : Nat} (ho : off + m.length ≤ l.length) : ARepL M (spliceA l off m) (us.take off ++ vs ++ us.drop (off + vs.length)) := by
 rw [splice_eq ho, hm.len]
 exact ((h.take off).append hm).append (h.drop _)
theorem splice_leaf {l m : List AV} (hl : l.all leaf = true) (hm : m.all leaf = true) {off : Nat} (ho : off + m.length ≤ l.length) : (spliceA l off m).all leaf = true := by
 rw [splice_eq ho, List.all_append, List.all_append, hm, Bool.and_true, Bool.and_eq_true]
 exact ⟨List.all_eq_true.2 fun x hx => List.all_eq_true.1 hl x (List.mem_of_mem_take hx), List.all_eq_true.2 fun x hx => List.all_eq_true.1 hl x (List.mem_of_mem_drop hx)⟩
theorem fill_rep {fs : List (Nat × Nat × Bool)} {place : Nat → Option (Nat × Nat)} (hp : ∀ (k : Nat) (x : Nat × Nat × Bool), fs[k]? = some x → place k = some (x.1, x.2.1)) :
 ∀ (ps : List (Nat × AV)) (qs : List (Nat × Value)) (l : List AV) (us : List Value) (l' : List AV), ARepL M l us → l.all leaf = true → qs.map (·.1) = ps.map (·.1) → ARepL M (ps.map (·.2)) (qs.map (·.2)) → fillA fs l ps = some l' →
   ∃ us', Instr.fill place us.toArray qs = some us'.toArray ∧ ARepL M l' us' ∧ l'.all leaf = true
 | [], qs, l, us, l', h, hl, h1, h2, h3 => by
   simp at h1; subst h1
   simp [fillA] at h3; subst h3
   exact ⟨us, rfl, h, hl⟩
 | (k, x) :: ps, qs, l, us, l', h, hl, h1, h2, h3 => by
   cases qs with
   | nil => simp at h1
   | cons q qs =>
     obtain ⟨k', u⟩ := q
     simp at h1
     obtain ⟨rfl, h1⟩ := h1
     simp only [List.map_cons, ARepL] at h2
     obtain ⟨u', us1, e, hx, h2⟩ := h2
     simp only [List.cons.injEq] at e
     obtain ⟨rfl, rfl⟩ := e
     simp only [fillA] at h3
     split at h3
     ·rename_i off s rr m hf hm
      split at h3
      ·rename_i hc
       obtain ⟨hml, vs, hv1, hv2⟩ := cells_rep hm hx
       have hvl := hv2.len
       have hul := h.len
       obtain ⟨us', h4, h5, h6⟩ := fill_rep hp ps qs _ _ l' (h.splice hv2 hc.2) (splice_leaf hl hml hc.2) h1 h2 h3
       refine ⟨us', ?_, h5, h6⟩
       rw [Instr.fill, hp k' _ hf]
       simp only [hv1, List.size_toArray]
       rw [if_neg (by simp; omega), fold_splice off vs us (by omega)]
       exact h4
      ·simp at h3
     ·simp at h3
theorem does_build {T : TypeId} {ps : Array (Nat × Operand)} {ti : TI} {fs : List (Nat × Nat × Bool)} {fr l : List AV} (hop : o.op = .build T ps) (hF : FRep M a fr) (hC : TyOk P T ti) (hk : ti.kind = .struct fs)
 (h : fillA fs (zeroA ti.zero) (ps.toList.map fun q => (q.1, evA fr q.2)) = some l) : DoesS P o a M (.agg l) := by
 obtain ⟨i, d, z, hi, hs, hd, hrow, hz, hzc, hp, hlen, _, htk⟩ := hC
 rw [hk] at htk
 obtain ⟨fields, rfl, hmap, hfs⟩ := htk
 have hpl : ∀ (k : Nat) (x : Nat × Nat × Bool), fs[k]? = some x → (fs.map fun x => (x.1, x.2.1)).toArray[k]? = some (x.1, x.2.1) := fun k x hx => by simp [hx]
 obtain ⟨us', h1, h2, h3⟩ := fill_rep (place := fun k => (fs.map fun x => (x.1, x.2.1)).toArray[k]?) hpl _ (ps.toList.map fun q => (q.1, a.eval q.2)) _ ti.zero l (zero_rep (M := M) hp) (zero_leaf _) (by simp) (by
  refine ARepL_iff.2 ⟨by simp, fun j x u hx hu => ?_⟩
  simp only [List.map_map, List.getElem?_map, Option.map_eq_some_iff] at hx hu
  obtain ⟨q, hq, rfl⟩ := hx
  obtain ⟨q', hq', rfl⟩ := hu
  rw [hq] at hq'; simp at hq'; subst hq'
  exact hF.ev q.2) h
 refine does_still (v := .agg us'.toArray) ?_ (by simp only [ARep]; exact ⟨h3, us', rfl, h2⟩)
 have hb : P.built T (ps.map fun q => (q.1, a.eval q.2)).toList = some us'.toArray := by
  unfold Program.built
  simp only [hi, hd, hz, hmap]
  rw [← h1, Array.toList_map]
  congr 1
  rw [← hzc]
 have := fun w => run_build w T (ps.map fun q => (q.1, a.eval q.2)) us'.toArray hb
 intro w
 unfold execOp
 simp only [hop, Sem.run_bind, this, Result.andThen_ok]
 rfl
theorem does_array {T : TypeId} {ps : Array (Nat × Operand)} {ti : TI} {n es : Nat} {er : Bool} {fr l : List AV} (hop : o.op = .build T ps) (hF : FRep M a fr) (hC : TyOk P T ti) (hk : ti.kind = .arr n es er)
 (h : fillA (arrF n es er) (zeroA ti.zero) (ps.toList.map fun q => (q.1, evA fr q.2)) = some l) : DoesS P o a M (.agg l) := by
 obtain ⟨i, d, z, hi, hs, hd, hrow, hz, hzc, hp, hlen, _, htk⟩ := hC
 rw [hk] at htk
 obtain ⟨e, rfl, ⟨ie, de, hie, hes, _, _⟩, _, _⟩ := htk
 have hpl : ∀ (k : Nat) (x : Nat × Nat × Bool), (arrF n es er)[k]? = some x → (fun i => some (i * ie.size, ie.size)) k = some (x.1, x.2.1) := fun k x hx => by
  unfold arrF at hx
  rw [List.getElem?_map, Option.map_eq_some_iff] at hx
  obtain ⟨j, hj, rfl⟩ := hx
  rw [List.getElem?_range (by
   have := (List.getElem?_eq_some_iff.1 hj).1
   simpa using this)] at hj
  simp at hj; subst hj
  simp [hes]
 obtain ⟨us', h1, h2, h3⟩ := fill_rep (place := fun i => some (i * ie.size, ie.size)) hpl _ (ps.toList.map fun q => (q.1, a.eval q.2)) _ ti.zero l (zero_rep (M := M) hp) (zero_leaf _) (by simp) (by
  refine ARepL_iff.2 ⟨by simp, fun j x u hx hu => ?_⟩
  simp only [List.map_map, List.getElem?_map, Option.map_eq_some_iff] at hx hu
  obtain ⟨q, hq, rfl⟩ := hx
  obtain ⟨q', hq', rfl⟩ := hu
  rw [hq] at hq'; simp at hq'; subst hq'
  exact hF.ev q.2) h
 refine does_still (v := .agg us'.toArray) ?_ (by simp only [ARep]; exact ⟨h3, us', rfl, h2⟩)
 have hb : P.built T (ps.map fun q => (q.1, a.eval q.2)).toList = some us'.toArray := by
  unfold Program.built
  simp only [hi, hd, hz, hie]
  rw [← h1, Array.toList_map]
  congr 1
  rw [← hzc]
 have := fun w => run_build w T (ps.map fun q => (q.1, a.eval q.2)) us'.toArray hb
 intro w
 unfold execOp
 simp only [hop, Sem.run_bind, this, Result.andThen_ok]
 rfl
theorem does_zero {T : TypeId} {ps : Array (Nat × Operand)} {ti : TI} {n : Nat} (hop : o.op = .build T ps) (hC : TyOk P T ti) (hk : ti.kind = .barr n) (hp : ps.toList = []) : DoesS P o a M (.agg (zeroA ti.zero)) := by
 obtain ⟨i, d, z, hi, hs, hd, hrow, hz, hzc, hpl, hlen, _, htk⟩ := hC
 rw [hk] at htk
 obtain ⟨e, ie, rfl, he, hie, hs1, _⟩ := htk
 have hps : ps = #[] := by rw [← Array.toArray_toList (xs := ps), hp]
 subst hps
 refine does_still (v := .agg ti.zero.toArray) ?_ (by simp only [ARep]; exact ⟨zero_leaf _, ti.zero, rfl, zero_rep hpl⟩)
 have hb : P.built T (#[] : Array (Nat × Value)).toList = some ti.zero.toArray := by
  unfold Program.built
  simp only [hi, hd, hz, hie, Instr.fill]
  rw [← hzc]
 intro w
 have := run_build w T #[] ti.zero.toArray hb
 unfold execOp
 simp [hop, this]
theorem does_fieldAddr {T : TypeId} {x : Operand} {k off s : Nat} {rr : Bool} {fs : List (Nat × Nat × Bool)} {fr : List AV} (hop : o.op = .fieldAddr T x k) (hF : FRep M a fr) (hC : C.ok P) (hk : C.kind T = some (.struct fs))
 (hf : fs[k]? = some (off, s, rr)) (h : (∃ t e i o', evA fr x = .mp t e i o' ∧ r = .mp t e i (o' + off)) ∨ (∃ c o', evA fr x = .ip c o' ∧ r = .ip c (o' + off))) : DoesS P o a M r := by
 obtain ⟨d, hd, fields, rfl, _, hfs⟩ := kind_und hC hk
 obtain ⟨f, hf1, hf2, ⟨i, d', hi, hs, _, _⟩, hs0, _⟩ := hfs k off s rr hf
 have hx := hF.ev x
 have hadd : ∀ b q, (⟨b, q, none⟩ : Addr).add off = ⟨b, q + off, none⟩ := fun b q => Addr.add_mid b q off
 have key : ∀ b q, a.eval x = .pointer (some ⟨b, q, none⟩) → ∀ w, (execOp a.eval o).run P w = .ok (.value (.pointer (some ⟨b, q + off, none⟩))) w := fun b q hq w => by
  unfold execOp
  simp [hop, hq, Instr.fieldAt, run_underlying hd, hf1, Instr.sureAddr, fieldPlace, sizeOf, typeInfo, hi, hs, Nat.pos_iff_ne_zero.1 hs0, hf2, hadd]
 rcases h with ⟨t, e, i', o', he, rfl⟩ | ⟨c, o', he, rfl⟩
 ·rw [he] at hx
  simp only [ARep] at hx
  obtain ⟨b, hb, hbl, hx⟩ := hx
  refine does_still (key b _ hx) ?_
  simp only [ARep]
  exact ⟨b, hb, hbl, by rw [Nat.add_assoc]⟩
 ·rw [he] at hx
  simp only [ARep] at hx
  obtain ⟨b, q, hx, hc⟩ := hx
  refine does_still (key b _ hx) ?_
  simp only [ARep]
  exact ⟨b, q, by rw [Nat.add_assoc], hc⟩
theorem run_part {t : TypeId} {s off : Nat} {rr : Bool} {us : List Value} {u : Value} {w : World} (hT : TyRow P t s rr) (h : (rr = true ∧ off + s ≤ us.length ∧ u = .agg ((us.drop off).take s).toArray) ∨ (rr = false ∧ us[off]? = some u)) :
 (part t us.toArray off).run P w = .ok u w := by
 obtain ⟨i, d, hi, hs, hd, hr⟩ := hT
 have hagg : (isAgg t).run P w = .ok rr w := by
  unfold isAgg
  rw [Sem.run_bind, run_underlying hd w]
  subst hr
  cases d <;> simp [TypeDesc.isRow]
 rcases h with ⟨rfl, h1, rfl⟩ | ⟨rfl, h1⟩
 ·have : us.toArray.extract off (off + s) = ((us.drop off).take s).toArray := by
   simp [List.take_drop, List.extract_toArray, List.extract_eq_take_drop] <;> try (congr 1; omega)
  simp [part, hagg, sizeOf, typeInfo, hi, hs, this]
 ·simp [part, hagg, h1]
theorem does_field {T : TypeId} {x : Operand} {k off s : Nat} {rr : Bool} {fs : List (Nat × Nat × Bool)} {fr l : List AV} (hop : o.op = .field T x k) (hF : FRep M a fr) (hC : C.ok P) (hk : C.kind T = some (.struct fs))
 (hf : fs[k]? = some (off, s, rr)) (hx : evA fr x = .agg l) (h : partA rr s off l = some r) : DoesS P o a M r := by
 obtain ⟨d, hd, fields, rfl, _, hfs⟩ := kind_und hC hk
 obtain ⟨f, hf1, hf2, hT, hs0, _⟩ := hfs k off s rr hf
 have hv := hF.ev x
 rw [hx] at hv
 simp only [ARep] at hv
 obtain ⟨hl, us, hv, hus⟩ := hv
 obtain ⟨u, h1, h2⟩ := part_rep hl hus h
 refine does_still (v := u) ?_ h1
 intro w
 unfold execOp
 simp [hop, hv, Instr.field, run_underlying hd, hf1, asAgg, hf2, run_part hT h2]
theorem does_extract {x : Operand} {k : Nat} {fr l : List AV} (hop : o.op = .extract x k) (hF : FRep M a fr) (hx : evA fr x = .tup l) (h : l[k]? = some r) : DoesS P o a M r := by
 have hv := hF.ev x
 rw [hx] at hv
 simp only [ARep] at hv
 obtain ⟨us, hv, hus⟩ := hv
 obtain ⟨u, h1, h2⟩ := hus.get h
 refine does_still (v := u) ?_ h2
 intro w
 unfold execOp
 simp [hop, hv, Instr.extract, h1]
theorem does_nilCheck {x : Operand} {fr : List AV} (hop : o.op = .nilCheck x) (hF : FRep M a fr) (h : (∃ c o', evA fr x = .ip c o') ∨ (∃ t e i o', evA fr x = .mp t e i o')) : DoesS P o a M (evA fr x) := by
 have hx := hF.ev x
 refine does_still (v := a.eval x) ?_ hx
 have : ∃ ad, a.eval x = .pointer (some ad) := by
  rcases h with ⟨c, o', he⟩ | ⟨t, e, i, o', he⟩ <;> rw [he] at hx <;> simp only [ARep] at hx
  ·obtain ⟨b, q, hx, _⟩ := hx; exact ⟨_, hx⟩
  ·obtain ⟨b, _, _, hx⟩ := hx; exact ⟨_, hx⟩
 obtain ⟨ad, had⟩ := this
 intro w
 unfold execOp
 simp [hop, had]
theorem map_rep {fr : List AV} (hF : FRep M a fr) (l : List Operand) : ARepL M (l.map (evA fr)) (l.map a.eval) := by
 induction l with
 | nil => simp [ARepL]
 | cons x l ih => simp only [List.map_cons, ARepL]; exact ⟨_, _, rfl, hF.ev x, ih⟩
theorem does_makeFunc {f : FuncId} {first cap : Array Operand} {fr : List AV} (hop : o.op = .makeFunc (.func f) first cap) (hF : FRep M a fr) : DoesS P o a M (.fn f (first.toList.map (evA fr)) (cap.toList.map (evA fr))) := by
 refine does_still (v := .func (.func f) (first.map a.eval) (cap.map a.eval)) ?_ ?_
 ·intro w; unfold execOp; simp [hop, Instr.makeFunc]
 ·simp only [ARep]
  exact ⟨first.toList.map a.eval, cap.toList.map a.eval, by rw [← Array.toList_map, ← Array.toList_map, Array.toArray_toList, Array.toArray_toList], map_rep hF _, map_rep hF _⟩
theorem does_unOp {op : UnOp} {T : TypeId} {x : Operand} {fr : List AV} (hop : o.op = .unOp op T x) (hF : FRep M a fr) (h : unA op (evA fr x) = some r) : DoesS P o a M r := by
 have hx := hF.ev x
 unfold unA at h
 split at h
 ·rename_i k n he
  rw [he] at hx
  simp only [Option.some.injEq] at h; subst h
  refine does_still (v := .int k (k.wrap (0 - n))) ?_ (rep_mk rfl)
  intro w
  unfold execOp
  simp [hop, rep_int hx, Op.unary, Op.intArith]
 ·rename_i b he
  rw [he] at hx
  simp at h; subst h
  refine does_still (v := .bool !b) ?_ (rep_mk rfl)
  intro w
  unfold execOp
  simp [hop, (rep_v hx).2, Op.unary]
 ·simp at h
theorem does_convert {S T : TypeId} {x : Operand} {fr : List AV} (hop : o.op = .convert S T x) (hF : FRep M a fr) (hC : C.ok P) (h : convA C S T (evA fr x) = some r) : DoesS P o a M r := by
 have hx := hF.ev x
 unfold convA at h
 split at h
 ·rename_i ks k k' n hs ht he
  rw [he] at hx
  simp at h; subst h
  obtain ⟨d, hd, rfl⟩ := kind_und hC ht
  obtain ⟨d', hd', _⟩ := kind_und hC hs
  refine does_still (v := .int k (k.wrap n)) ?_ (rep_mk rfl)
  intro w
  unfold execOp
  simp [hop, rep_int hx, convert, run_underlying hd, run_underlying hd', Conv.intToInt]
 ·rename_i ks s hs ht he
  rw [he] at hx
  simp at h; subst h
  obtain ⟨d, hd, rfl⟩ := kind_und hC ht
  obtain ⟨d', hd', _⟩ := kind_und hC hs
  refine does_still (v := .string s) ?_ (rep_mk rfl)
  intro w
  unfold execOp
  simp [hop, (rep_v hx).2, convert, run_underlying hd, run_underlying hd']
 ·simp at h
end
end Go.Proofs.YtpcblbbddccgpaaDoor
namespace Go.Proofs.YtpcblbbddccgpaaDoor
open Go.RowKit
section
variable {P : Program} {C : Ctx} {o : Oper} {a : Act} {M : View} {σ σ' : St} {r : AV}
theorem binInt_run {op : BinOp} {k : IntKind} {x y : Int} {v : Value} {T : TypeId} {w : World} (h : binInt op k x y = some v) : plain v = true ∧ (binOp op T (.int k x) (.int k y)).run P w = .ok v w := by
 cases op <;> simp only [binInt] at h <;> try (simp at h; done)
 all_goals first
  | (split at h
     ·simp at h
     ·rename_i hy; simp only [Option.some.injEq] at h; subst h; exact ⟨rfl, by simp [binOp, Op.intDiv, hy]⟩)
  | (simp only [Option.some.injEq] at h; subst h; exact ⟨rfl, by simp [binOp, Op.intArith, Op.intBits, Op.intCmp]⟩)
theorem binStr_run {op : BinOp} {x y : ByteArray} {v : Value} {T : TypeId} {w : World} (h : binStr op x y = some v) : plain v = true ∧ (binOp op T (.string x) (.string y)).run P w = .ok v w := by
 cases op <;> simp only [binStr] at h <;> try (simp at h; done)
 all_goals first
  | (split at h
     ·simp at h
     ·rename_i hy; simp only [Option.some.injEq] at h; subst h; exact ⟨rfl, by simp only [binOp, Op.stringOp, if_neg hy]; rfl⟩)
  | (simp only [Option.some.injEq] at h; subst h; exact ⟨rfl, by simp [binOp, Op.stringOp]⟩)
theorem equal_bool {T : TypeId} {x y : Bool} {w : World} (hd : P.underlying T = some .bool) : (Op.equal T (.bool x) (.bool y)).run P w = .ok (x == y) w := by
 unfold Op.equal Op.maxDepth
 rw [Op.equalIn]
 simp only [Sem.run_bind, run_underlying hd, Result.andThen_ok]
 rfl
theorem equal_nil {T E : TypeId} {ad : Option Addr} {n c : Nat} {w : World} (hd : P.underlying T = some (.slice E)) : (Op.equal T (.slice ad n c) (.slice none 0 0)).run P w = .ok ad.isNone w := by
 unfold Op.equal Op.maxDepth
 rw [Op.equalIn]
 simp only [Sem.run_bind, run_underlying hd, Result.andThen_ok]
 cases ad <;> rfl
theorem isNil_rep {x : AV} {u : Value} {b : Bool} (h : isNilA x = some b) (hx : ARep M x u) : ∃ ad n c, u = .slice ad n c ∧ ad.isNone = b := by
 unfold isNilA at h
 split at h
 ·simp at h; subst h
  have := (rep_v hx).2; subst this
  exact ⟨none, 0, 0, rfl, rfl⟩
 ·simp at h; subst h
  have := (rep_v hx).2; subst this
  exact ⟨_, _, _, rfl, rfl⟩
 ·split at h
  ·simp at h
  rename_i hne
  simp at h; subst h
  simp only [ARep, PRep] at hx
  obtain ⟨rfl, _⟩ | ⟨b, off, cap, rfl, _⟩ := hx
  ·simp at hne
  ·exact ⟨_, _, _, rfl, rfl⟩
 ·simp at h; subst h
  simp only [ARep] at hx
  obtain ⟨b, cap, n, rfl, _⟩ := hx
  exact ⟨_, _, _, rfl, rfl⟩
 ·simp at h; subst h
  simp only [ARep] at hx
  obtain ⟨b, cap, _, _, rfl, _⟩ := hx
  exact ⟨_, _, _, rfl, rfl⟩
 ·simp at h; subst h
  simp only [ARep] at hx
  obtain ⟨n, _, _, ⟨rfl, rfl⟩ | ⟨h0, b, cap, rfl, _⟩⟩ := hx
  ·exact ⟨_, _, _, rfl, rfl⟩
  ·exact ⟨_, _, _, rfl, by cases ‹List (List PV)› <;> simp_all⟩
 ·simp at h
theorem byteOfV_eq {x : Value} {b : UInt8} (h : byteOfV x = some b) : x = .int .u8 b.toNat := by
 unfold byteOfV at h
 split at h
 ·rename_i n
  split at h
  ·rename_i hn
   simp at h; subst h
   have : (UInt8.ofNat n.toNat).toNat = n.toNat := by
    rw [UInt8.toNat_ofNat']; omega
   rw [this]
   congr 1; omega
  ·simp at h
 ·simp at h
theorem byteOfA_eq {x : AV} {b : UInt8} (h : byteOfA x = some b) : x = .p (.v (.int .u8 b.toNat)) := by
 unfold byteOfA at h
 split at h
 ·rw [byteOfV_eq h]
 ·simp at h
theorem bytesOfA_rep : ∀ {l : List AV} {bs : List UInt8} {us : List Value}, bytesOfA l = some bs → ARepL M l us → us = bs.map fun b => .int .u8 b.toNat
 | [], bs, us, h, hr => by
   simp [bytesOfA] at h; subst h
   simpa [ARepL] using hr
 | x :: l, bs, us, h, hr => by
   simp only [bytesOfA] at h
   split at h
   ·rename_i b bs' hb hbs
    simp at h; subst h
    simp only [ARepL] at hr
    obtain ⟨u, us', rfl, h1, h2⟩ := hr
    rw [byteOfA_eq hb] at h1
    rw [rep_int h1, bytesOfA_rep hbs h2]
    rfl
   ·simp at h
theorem eqGuard_bytes {op : BinOp} {T e : TypeId} {n : Nat} {x y : Operand} {us vs : Array Value} {w : World} (hd : P.underlying T = some (.array n e)) (he : P.underlying e = some (.int .u8)) (hdep : 2 ≤ P.depth) : (eqGuard op T x y (.agg us) (.agg vs)).run P w = .ok () w := by
 have h1 : P.eqGuardType P.depth T = false := by
  obtain ⟨d, hd'⟩ : ∃ d, P.depth = d + 2 := ⟨P.depth - 2, by omega⟩
  rw [hd', Program.eqGuardType, hd]
  simp only
  rw [Program.eqGuardType, he]
 cases op <;> simp [eqGuard, h1]
theorem eqCell_run {d : Nat} {k : EK} {t : TypeId} {x y : AV} {u v : Value} {r : Bool} {w : World} (hk : match k with
 | .int => ∃ ik, P.underlying t = some (.int ik)
 | .str => P.underlying t = some .string
 | .bool => P.underlying t = some .bool) (h : eqCell k x y = some r) (hx : ARep M x u) (hy : ARep M y v) : (Op.equalIn (d + 1) t u v).run P w = .ok r w := by
 unfold eqCell at h
 split at h
 ·split at h
  ·rename_i hkk; subst hkk
   simp at h; subst h
   rw [rep_int hx, rep_int hy]
   obtain ⟨ik, hk⟩ := hk
   exact run_equalIn_int w d t _ ik _ _ hk
  ·simp at h
 ·simp at h; subst h
  rw [(rep_v hx).2, (rep_v hy).2]
  exact run_equalIn_string w d t _ _ hk
 ·simp at h; subst h
  rw [(rep_v hx).2, (rep_v hy).2]
  exact run_equalIn_bool w d t _ _ hk
 ·simp at h
theorem eqF_run {d : Nat} : ∀ (ks : List EK) (n : Nat) (fs : List Field) (l m : List AV) (us vs : List Value) (b : Bool), EqF P ks n fs → eqCells ks l m = some b → ARepL M l (us.drop n) → ARepL M m (vs.drop n) →
 ∀ w : World, (Op.eqFields (d + 1) us.toArray vs.toArray fs).run P w = .ok b w
 | [], n, [], [], [], us, vs, b, hF, he, hx, hy => fun w => by
   simp [eqCells] at he; subst he
   simp [Op.eqFields]
 | k :: ks, n, f :: fs, x :: l, y :: m, us, vs, b, hF, he, hx, hy => fun w => by
   obtain ⟨hn, ho, hT, hk, hF⟩ := hF
   simp only [ARepL] at hx hy
   obtain ⟨u, us', eu, hx, hxs⟩ := hx
   obtain ⟨v, vs', ev, hy, hys⟩ := hy
   have gu : us[n]? = some u := by
    have := congrArg (fun l : List Value => l[0]?) eu
    simpa using this
   have gv : vs[n]? = some v := by
    have := congrArg (fun l : List Value => l[0]?) ev
    simpa using this
   have gu' : us' = us.drop (n + 1) := by rw [← List.tail_drop, eu]; rfl
   have gv' : vs' = vs.drop (n + 1) := by rw [← List.tail_drop, ev]; rfl
   subst gu' gv'
   simp only [eqCells] at he
   split at he
   ·rename_i r c hr hc
    simp at he; subst he
    have ih := eqF_run (d := d) ks (n + 1) fs l m us vs c hF hc hxs hys w
    have h1 := run_part (P := P) (w := w) (us := us) (off := f.offset) hT (.inr ⟨rfl, by rw [ho]; exact gu⟩)
    have h2 := run_part (P := P) (w := w) (us := vs) (off := f.offset) hT (.inr ⟨rfl, by rw [ho]; exact gv⟩)
    have h3 := eqCell_run (P := P) (M := M) (d := d) (w := w) hk hr hx hy
    simp only [Op.eqFields, if_pos hn, Sem.run_bind, h1, h2, h3, Result.andThen_ok]
    cases r
    ·simp
    ·simpa using ih
   ·simp at he
 | [], n, f :: fs, l, m, us, vs, b, hF, he, hx, hy => by simp [EqF] at hF
 | k :: ks, n, [], l, m, us, vs, b, hF, he, hx, hy => by simp [EqF] at hF
 | [], n, [], x :: l, m, us, vs, b, hF, he, hx, hy => by simp [eqCells] at he
 | [], n, [], [], y :: m, us, vs, b, hF, he, hx, hy => by simp [eqCells] at he
 | k :: ks, n, f :: fs, [], m, us, vs, b, hF, he, hx, hy => by simp [eqCells] at he
 | k :: ks, n, f :: fs, x :: l, [], us, vs, b, hF, he, hx, hy => by simp [eqCells] at he
theorem does_binOp {op : BinOp} {T T' : TypeId} {x y : Operand} {fr : List AV} (hop : o.op = .binOp op T x y T') (hF : FRep M a fr) (hC : C.ok P) (h : binA C op T (evA fr x) (evA fr y) = some r) : DoesS P o a M r := by
 have hx := hF.ev x
 have hy := hF.ev y
 have key : ∀ (u v z : Value), a.eval x = u → a.eval y = v → (∀ op w, (eqGuard op T x y u v).run P w = .ok () w) → (∀ w, (binOp op T u v).run P w = .ok z w) → ∀ w, (execOp a.eval o).run P w = .ok (.value z) w := fun u v z h1 h2 h3 h4 w => by
  unfold execOp
  simp [hop, h1, h2, h3, h4]
 unfold binA at h
 split at h
 ·rename_i k n k' m he he'
  rw [he] at hx; rw [he'] at hy
  have e1 := rep_int hx; have e2 := rep_int hy
  have hg : ∀ op w, (eqGuard op T x y (.int k n) (.int k' m)).run P w = .ok () w := fun op w => by cases op <;> simp [eqGuard]
  split at h
  ·split at h
   ·simp at h
   ·rename_i hm; simp only [Option.some.injEq] at h; subst h
    exact does_still (key _ _ _ e1 e2 hg (fun w => by simp [binOp, Op.shift, hm])) (rep_mk rfl)
  ·split at h
   ·simp at h
   ·rename_i hm; simp only [Option.some.injEq] at h; subst h
    exact does_still (key _ _ _ e1 e2 hg (fun w => by simp [binOp, Op.shift, hm])) (rep_mk rfl)
  ·split at h
   ·rename_i hkk; subst hkk
    cases hb : binInt op k n m with
    | none => simp [hb] at h
    | some v =>
      simp only [hb, Option.map_some, Option.some.injEq] at h; subst h
      have h1 := (binInt_run (P := P) (T := T) (w := M.w) hb).1
      have h2 := fun w => (binInt_run (P := P) (T := T) (w := w) hb).2
      exact does_still (key _ _ _ e1 e2 hg h2) (rep_mk h1)
   ·simp at h
 ·rename_i s s' he he'
  rw [he] at hx; rw [he'] at hy
  have e1 := (rep_v hx).2; have e2 := (rep_v hy).2
  have hg : ∀ op w, (eqGuard op T x y (.string s) (.string s')).run P w = .ok () w := fun op w => by cases op <;> simp [eqGuard]
  cases hb : binStr op s s' with
  | none => simp [hb] at h
  | some v =>
    simp only [hb, Option.map_some, Option.some.injEq] at h; subst h
    have h1 := (binStr_run (P := P) (T := T) (w := M.w) hb).1
    have h2 := fun w => (binStr_run (P := P) (T := T) (w := w) hb).2
    exact does_still (key _ _ _ e1 e2 hg h2) (rep_mk h1)
 ·rename_i s s' he he'
  rw [he] at hx; rw [he'] at hy
  have e1 := (rep_v hx).2; have e2 := (rep_v hy).2
  have hg : ∀ op w, (eqGuard op T x y (.bool s) (.bool s')).run P w = .ok () w := fun op w => by cases op <;> simp [eqGuard]
  split at h
  ·rename_i hk; simp only [Option.some.injEq] at h; subst h
   obtain ⟨d, hd, rfl⟩ := kind_und hC hk
   exact does_still (key _ _ _ e1 e2 hg (fun w => by simp [binOp, equal_bool hd])) (rep_mk rfl)
  ·rename_i hk; simp only [Option.some.injEq] at h; subst h
   obtain ⟨d, hd, rfl⟩ := kind_und hC hk
   exact does_still (key _ _ _ e1 e2 hg (fun w => by simp [binOp, equal_bool hd])) (rep_mk rfl)
  ·simp at h
 ·rename_i l m he he'
  rw [he] at hx; rw [he'] at hy
  split at h
  case h_2 =>
   unfold eqStruct at h
   split at h
   case h_2 => simp at h
   rename_i ks hks
   split at h
   case h_2 => simp at h
   rename_i b hb
   obtain ⟨fields, hd, hp, hg0, hF'⟩ := hC.2 T ks hks
   simp only [ARep] at hx hy
   obtain ⟨_, us, e1, h1⟩ := hx
   obtain ⟨_, vs, e2, h2⟩ := hy
   have hfo : P.fieldsOf T = fields := by unfold Program.fieldsOf; rw [hd]
   have hrun : ∀ w : World, (Op.equalIn 10000 T (.agg us.toArray) (.agg vs.toArray)).run P w = .ok b w := fun w => by
    rw [run_equalIn_struct w 9999 T us.toArray vs.toArray (by rw [hfo]; exact hd) hp, hfo]
    exact eqF_run (d := 9998) ks 0 fields.toList l m us vs b hF' hb (by simpa using h1) (by simpa using h2) w
   have hg : ∀ op w, (eqGuard op T x y (.agg us.toArray) (.agg vs.toArray)).run P w = .ok () w := fun op w => run_eqGuard_agg w op T x y us.toArray vs.toArray hg0
   split at h
   ·simp only [Option.some.injEq] at h; subst h
    refine does_still (key _ _ _ e1 e2 hg fun w => ?_) (rep_mk rfl)
    rw [run_eql_struct, hrun w]; rfl
   ·simp only [Option.some.injEq] at h; subst h
    refine does_still (key _ _ _ e1 e2 hg fun w => ?_) (rep_mk rfl)
    rw [run_neq_struct, hrun w]; rfl
   ·simp at h
  rename_i n hk
  obtain ⟨d, hd, e, ie, rfl, hu, hie, hs1, hdep⟩ := kind_und hC hk
  unfold eqBytes at h
  split at h
  case h_2 => simp at h
  rename_i bs cs hbs hcs
  split at h
  case isFalse => simp at h
  rename_i hlen
  simp only [ARep] at hx hy
  obtain ⟨_, us, e1, h1⟩ := hx
  obtain ⟨_, vs, e2, h2⟩ := hy
  rw [bytesOfA_rep hbs h1] at e1
  rw [bytesOfA_rep hcs h2] at e2
  have hg : ∀ op w, (eqGuard op T x y (.agg (bs.map fun b => Value.int .u8 b.toNat).toArray) (.agg (cs.map fun b => Value.int .u8 b.toNat).toArray)).run P w = .ok () w := fun op w => eqGuard_bytes hd hu hdep
  have hsz : ∀ w, (sizeOf e).run P w = .ok 1 w := fun w => by simp [sizeOf, typeInfo, hie, hs1]
  split at h
  ·simp only [Option.some.injEq] at h; subst h
   exact does_still (key _ _ _ e1 e2 hg fun w => run_eql_bytes w T e n hd hu hsz bs cs hlen.1 hlen.2) (rep_mk rfl)
  ·simp only [Option.some.injEq] at h; subst h
   refine does_still (key _ _ _ e1 e2 hg fun w => ?_) (rep_mk rfl)
   rw [run_neq_struct]
   have := run_equalIn_bytes (P := P) w 9998 T e n hd hu hsz bs cs hlen.1 hlen.2
   rw [show (Op.equalIn 10000 T (.agg (bs.map fun b => Value.int .u8 b.toNat).toArray) (.agg (cs.map fun b => Value.int .u8 b.toNat).toArray)).run P w = .ok (bs == cs) w from this]
   rfl
  ·simp at h
 ·rename_i he'
  rw [he'] at hy
  have e2 := (rep_v hy).2
  split at h
  all_goals try (simp at h; done)
  all_goals
   rename_i b hk hn
   simp only [Option.some.injEq] at h; subst h
   obtain ⟨ad, n, c, e1, hb⟩ := isNil_rep hn hx
   have hg : ∀ op w, (eqGuard op T x y (.slice ad n c) (.slice none 0 0)).run P w = .ok () w := fun op w => by cases op <;> simp [eqGuard]
   obtain ⟨d, hd, rfl, _⟩ := kind_und hC hk
   subst hb
   refine does_still (key _ _ _ e1 e2 hg ?_) (rep_mk rfl)
   intro w
   simp [binOp, equal_nil hd]
 ·simp at h
theorem elems_rep {x : AV} {u : Value} {e : Nat} {ls : List (List PV)} (h : elemsA x = some (e, ls)) (hx : ARep M x u) :
 (ls = [] ∧ ∃ ad cap, u = .slice ad 0 cap ∧ (ad = none → cap = 0)) ∨ ∃ b off cap, u = .slice (some ⟨b, off, none⟩) ls.length cap ∧ ls.length ≤ cap ∧ PRepR M.w M.I b off e ls := by
 unfold elemsA at h
 split at h
 ·simp at h; obtain ⟨rfl, rfl⟩ := h
  simp only [ARep, PRep] at hx
  exact hx
 ·simp at h; obtain ⟨rfl, rfl⟩ := h
  simp only [ARep] at hx
  obtain ⟨b, cap, n, h1, h2, _, h3, _⟩ := hx
  exact .inr ⟨b, 0, cap, h1, h2, h3⟩
 ·simp at h; obtain ⟨rfl, rfl⟩ := h
  simp only [ARep] at hx
  obtain ⟨n, _, _, ⟨rfl, h1⟩ | ⟨_, b, cap, h1, h2, _, h3, _⟩⟩ := hx
  ·exact .inl ⟨rfl, none, 0, h1, fun _ => rfl⟩
  ·exact .inr ⟨b, 0, cap, h1, h2, h3⟩
 ·simp at h
theorem does_indexSlice {T : TypeId} {x i : Operand} {fr : List AV} {E es eb e : Nat} {ez : List Value} {k : IntKind} {n : Int} {ls : List (List PV)} {c : List PV} (hop : o.op = .indexAddr T x i) (hF : FRep M a fr) (hC : C.ok P) (hk : C.kind T = some (.slice E es eb ez))
 (hi : intA (evA fr i) = some (k, n)) (hx : elemsA (evA fr x) = some (e, ls)) (he : e = es) (hn : 0 ≤ n) (hc : ls[n.toNat]? = some c) : DoesS P o a M (.ip c 0) := by
 subst he
 obtain ⟨d, hd, rfl, ii, z, hii, hs, _⟩ := kind_und hC hk
 have hv := hF.ev i
 rw [intA_eq hi] at hv
 have e1 := rep_int hv
 obtain ⟨rfl, _⟩ | ⟨b, off, cap, e2, hcap, hr⟩ := elems_rep hx (hF.ev x)
 ·simp at hc
 have hlt := (List.getElem?_eq_some_iff.1 hc).1
 obtain ⟨hcl, hcr⟩ := hr.get hc
 refine does_still (v := .pointer (some ⟨b, off + n.toNat * e, none⟩)) ?_ (by simp only [ARep]; exact ⟨b, _, by simp, hcr⟩)
 have hlt' : n < ls.length := by omega
 intro w
 unfold execOp
 simp [hop, e1, e2, Instr.indexAt, asIntOf, run_underlying hd, hn, hlt', sizeOf, typeInfo, hii, hs, Addr.add_mid]
theorem does_indexMs {T : TypeId} {x i : Operand} {fr : List AV} {E es eb t e j m : Nat} {ez : List Value} {k : IntKind} {n : Int} (hop : o.op = .indexAddr T x i) (hF : FRep M a fr) (hC : C.ok P) (hk : C.kind T = some (.slice E es eb ez))
 (hi : intA (evA fr i) = some (k, n)) (hx : evA fr x = .ms t e j m) (he : e = es) (hn : 0 ≤ n) (hm : n < m) : DoesS P o a M (.mp t e (j + n.toNat) 0) := by
 subst he
 obtain ⟨d, hd, rfl, ii, z, hii, hs, _⟩ := kind_und hC hk
 have hv := hF.ev i
 rw [intA_eq hi] at hv
 have e1 := rep_int hv
 have hx' := hF.ev x
 rw [hx] at hx'
 simp only [ARep] at hx'
 obtain ⟨b, cap, hb, hbl, e2, hcap⟩ := hx'
 refine does_still (v := .pointer (some ⟨b, j * e + n.toNat * e, none⟩)) ?_ (by simp only [ARep]; exact ⟨b, hb, hbl, by rw [Nat.add_mul]; rfl⟩)
 intro w
 unfold execOp
 simp [hop, e1, e2, Instr.indexAt, asIntOf, run_underlying hd, hn, hm, sizeOf, typeInfo, hii, hs, Addr.add_mid]
theorem does_indexB {T : TypeId} {x i : Operand} {fr : List AV} {m : Nat} {k : IntKind} {n : Int} (hop : o.op = .indexAddr T x i) (hF : FRep M a fr) (hC : C.ok P) (hk : C.kind T = some (.barr m))
 (hi : intA (evA fr i) = some (k, n)) (hn : 0 ≤ n) (hm : n < m) (h : (∃ t e j o', evA fr x = .mp t e j o' ∧ r = .mp t e j (o' + n.toNat)) ∨ (∃ c o', evA fr x = .ip c o' ∧ r = .ip c (o' + n.toNat))) : DoesS P o a M r := by
 obtain ⟨d, hd, E, ii, rfl, _, hii, hs, _⟩ := kind_und hC hk
 have hv := hF.ev i
 rw [intA_eq hi] at hv
 have e1 := rep_int hv
 have hx := hF.ev x
 have key : ∀ b q, a.eval x = .pointer (some ⟨b, q, none⟩) → ∀ w, (execOp a.eval o).run P w = .ok (.value (.pointer (some ⟨b, q + n.toNat, none⟩))) w := fun b q hq w => by
  unfold execOp
  simp [hop, hq, e1, Instr.indexAt, asIntOf, run_underlying hd, hn, hm, sizeOf, typeInfo, hii, hs, Addr.add_mid, Instr.sureAddr]
 rcases h with ⟨t, e, i', o', he, rfl⟩ | ⟨c, o', he, rfl⟩
 ·rw [he] at hx
  simp only [ARep] at hx
  obtain ⟨b, hb, hbl, hx⟩ := hx
  refine does_still (key b _ hx) ?_
  simp only [ARep]
  exact ⟨b, hb, hbl, by rw [Nat.add_assoc]⟩
 ·rw [he] at hx
  simp only [ARep] at hx
  obtain ⟨b, q, hx, hc⟩ := hx
  refine does_still (key b _ hx) ?_
  simp only [ARep]
  exact ⟨b, q, by rw [Nat.add_assoc], hc⟩
theorem bytesOfR_get : ∀ {ls : List (List PV)} {bs : List UInt8}, bytesOfR ls = some bs → ls = bs.map fun b => [.v (.int .u8 b.toNat)]
 | [], bs, h => by simp [bytesOfR] at h; subst h; rfl
 | c :: ls, bs, h => by
   unfold bytesOfR at h
   split at h
   ·rename_i heq; simp at heq
   ·rename_i x l heq
    simp at heq
    obtain ⟨rfl, rfl⟩ := heq
    split at h
    ·rename_i b bs' hb hbs
     simp at h; subst h
     rw [byteOfV_eq hb, bytesOfR_get hbs]; rfl
    ·simp at h
   ·simp at h
theorem push_fold : ∀ (bs : List UInt8) (acc : ByteArray), (bs.map fun b => (b.toNat : Int)).foldl (fun (r : ByteArray) n => r.push (UInt8.ofNat n.toNat)) acc = ⟨acc.data ++ bs.toArray⟩
 | [], acc => by simp
 | b :: bs, acc => by
   rw [List.map_cons, List.foldl_cons, push_fold bs]
   have : UInt8.ofNat (b.toNat : Int).toNat = b := by simp
   rw [this]
   simp [ByteArray.push]
theorem does_convB {S T : TypeId} {x : Operand} {fr : List AV} (hop : o.op = .convert S T x) (hM : Match M σ) (hF : FRep M a fr) (hC : C.ok P) (h : convB C S T (evA fr x) = some r) : Does P o a M σ r σ := by
 have hx := hF.ev x
 unfold convB at h
 split at h
 case h_2 => simp at h
 rename_i E es eb ez hks hkt
 split at h
 case h_2 => simp at h
 rename_i hke
 obtain ⟨d, hd, rfl, _⟩ := kind_und hC hks
 obtain ⟨d', hd', rfl⟩ := kind_und hC hkt
 obtain ⟨d'', hd'', rfl⟩ := kind_und hC hke
 have conv : ∀ v u, a.eval x = v → (convert S T v).run P M.w = .ok u M.w → (execOp a.eval o).run P M.w = .ok (.value u) M.w := fun v u h1 h2 => by
  unfold execOp
  simp [hop, h1, h2]
 split at h
 ·rename_i he
  simp only [Option.some.injEq] at h; subst h
  rw [he] at hx
  exact does_stay hM (conv _ _ (rep_v hx).2 (run_convert_bytes_nil M.w S E hd hd'' _ _ T hd')) (rep_mk rfl)
 ·split at h
  case h_2 => simp at h
  rename_i ls hel
  simp only [Option.map_eq_some_iff] at h
  obtain ⟨bs, hbs, rfl⟩ := h
  obtain ⟨rfl, ad, cap, e2, hnc⟩ | ⟨b, off, cap, e2, hcap, hr⟩ := elems_rep hel hx
  ·have hbs0 : bs = [] := by simpa [bytesOfR] using hbs.symm
   subst hbs0
   cases ad with
   | none =>
     obtain rfl := hnc rfl
     exact does_stay hM (conv _ _ e2 (run_convert_bytes_nil M.w S E hd hd'' _ _ T hd')) (rep_mk rfl)
   | some ad =>
   refine does_stay hM (conv _ (.string ⟨#[]⟩) e2 ?_) (rep_mk rfl)
   rw [run_convert_bytes_string M.w S T E _ _ cap hd hd'' hd']
   rw [run_bytesToString M.w ad _ cap [] (by simp [loadCells, loadCellsFrom])]
   rfl
  refine does_stay hM (conv _ (.string ⟨bs.toArray⟩) e2 ?_) (rep_mk rfl)
  have hls := bytesOfR_get hbs
  subst hls
  rw [run_convert_bytes_string M.w S T E _ _ cap hd hd'' hd']
  have hcells : (loadCells ⟨b, off, none⟩ (bs.map fun b => [PV.v (.int .u8 b.toNat)]).length).run P M.w = .ok (bs.map fun b => Value.int .u8 b.toNat).toArray M.w := by
   have := run_loadCells_list (P := P) M.w ⟨b, off, none⟩ (bs.map fun b => Value.int .u8 b.toNat) (fun j v hj => by
    rw [Addr.add_mid]
    have hj' := hj
    rw [List.getElem?_map] at hj'
    cases hb : bs[j]? with
    | none => rw [hb] at hj'; simp at hj'
    | some c =>
      rw [hb] at hj'; simp at hj'; subst hj'
      obtain ⟨_, h2⟩ := hr.get (i := j) (c := [.v (.int .u8 c.toNat)]) (by simp [hb])
      obtain ⟨u, h3, _, h4⟩ := h2.get (j := 0) rfl
      simp only [PRep] at h4
      rw [h4.2] at h3
      simpa using h3)
   simpa using this
  rw [run_bytesToString M.w ⟨b, off, none⟩ _ cap (bs.map fun b => (b.toNat : Int)) (by rw [hcells]; simp), push_fold]
  simp
theorem does_indexArr {T : TypeId} {x i : Operand} {fr : List AV} {m es : Nat} {er : Bool} {k : IntKind} {n : Int} (hop : o.op = .indexAddr T x i) (hF : FRep M a fr) (hC : C.ok P) (hk : C.kind T = some (.arr m es er))
 (hi : intA (evA fr i) = some (k, n)) (hn : 0 ≤ n) (hm : n < m) (h : (∃ t e j o', evA fr x = .mp t e j o' ∧ r = .mp t e j (o' + n.toNat * es)) ∨ (∃ c o', evA fr x = .ip c o' ∧ r = .ip c (o' + n.toNat * es))) : DoesS P o a M r := by
 obtain ⟨d, hd, E, rfl, ⟨ii, d', hii, hs, _⟩, _⟩ := kind_und hC hk
 have hv := hF.ev i
 rw [intA_eq hi] at hv
 have e1 := rep_int hv
 have hx := hF.ev x
 have key : ∀ b q, a.eval x = .pointer (some ⟨b, q, none⟩) → ∀ w, (execOp a.eval o).run P w = .ok (.value (.pointer (some ⟨b, q + n.toNat * es, none⟩))) w := fun b q hq w => by
  unfold execOp
  simp [hop, hq, e1, Instr.indexAt, asIntOf, run_underlying hd, hn, hm, sizeOf, typeInfo, hii, hs, Addr.add_mid, Instr.sureAddr]
 rcases h with ⟨t, e, i', o', he, rfl⟩ | ⟨c, o', he, rfl⟩
 ·rw [he] at hx
  simp only [ARep] at hx
  obtain ⟨b, hb, hbl, hx⟩ := hx
  refine does_still (key b _ hx) ?_
  simp only [ARep]
  exact ⟨b, hb, hbl, by rw [Nat.add_assoc]⟩
 ·rw [he] at hx
  simp only [ARep] at hx
  obtain ⟨b, q, hx, hc⟩ := hx
  refine does_still (key b _ hx) ?_
  simp only [ARep]
  exact ⟨b, q, by rw [Nat.add_assoc], hc⟩
theorem does_indexStr {T : TypeId} {x i : Operand} {fr : List AV} {k : IntKind} {n : Int} {s : ByteArray} {c : UInt8} (hop : o.op = .index T x i) (hF : FRep M a fr) (hC : C.ok P) (hk : C.kind T = some .str)
 (hx : evA fr x = .p (.v (.string s))) (hi : intA (evA fr i) = some (k, n)) (hn : 0 ≤ n) (hc : s[n.toNat]? = some c) : DoesS P o a M (intV .u8 c.toNat) := by
 obtain ⟨d, hd, rfl⟩ := kind_und hC hk
 have hv := hF.ev i
 rw [intA_eq hi] at hv
 have e1 := rep_int hv
 have hv2 := hF.ev x
 rw [hx] at hv2
 have e2 := (rep_v hv2).2
 refine does_still (v := .int .u8 c.toNat) ?_ (rep_mk rfl)
 intro w
 unfold execOp
 simp [hop, e1, e2, Instr.index, asIntOf, run_underlying hd, hn, hc]
theorem does_indexAgg {T : TypeId} {x i : Operand} {fr l : List AV} {k : IntKind} {m es : Nat} {er : Bool} {n : Int} (hop : o.op = .index T x i) (hF : FRep M a fr) (hC : C.ok P) (hk : C.kind T = some (.arr m es er))
 (hx : evA fr x = .agg l) (hi : intA (evA fr i) = some (k, n)) (hn : 0 ≤ n) (hm : n < m) (h : partA er es (n.toNat * es) l = some r) : DoesS P o a M r := by
 obtain ⟨d, hd, e, rfl, hT, _, _⟩ := kind_und hC hk
 have hv := hF.ev i
 rw [intA_eq hi] at hv
 have e1 := rep_int hv
 have hv2 := hF.ev x
 rw [hx] at hv2
 simp only [ARep] at hv2
 obtain ⟨hl, us, e2, hus⟩ := hv2
 obtain ⟨u, h1, h2⟩ := part_rep hl hus h
 have hT' := hT
 obtain ⟨ii, dd, hii, hss, _, _⟩ := hT'
 refine does_still (v := u) ?_ h1
 intro w
 unfold execOp
 simp [hop, e1, e2, Instr.index, asIntOf, run_underlying hd, hn, hm, sizeOf, typeInfo, hii, hss, run_part hT h2]
theorem does_len {T : TypeId} {x : Operand} {fr : List AV} {n : Nat} (hop : o.op = .call { callee := .builtin .len, args := #[x], argTypes := #[T] }) (hF : FRep M a fr) (hC : C.ok P)
 (h : (C.kind T = some .str ∧ ∃ s, evA fr x = .p (.v (.string s)) ∧ n = s.size) ∨ ((∃ E es eb ez, C.kind T = some (.slice E es eb ez)) ∧ ((∃ e ls, elemsA (evA fr x) = some (e, ls) ∧ n = ls.length) ∨ (evA fr x = nilA ∧ n = 0) ∨ ∃ t e i, evA fr x = .ms t e i n))) : DoesS P o a M (intV .i64 n) := by
 have hx := hF.ev x
 refine does_still (v := .int .i64 n) ?_ (rep_mk rfl)
 rcases h with ⟨hk, s, he, rfl⟩ | ⟨⟨E, es, eb, ez, hk⟩, h⟩
 ·obtain ⟨d, hd, rfl⟩ := kind_und hC hk
  rw [he] at hx
  intro w
  unfold execOp
  simp [hop, resolve, invoke, builtin, Builtin.len_, run_underlying hd, (rep_v hx).2, goInt]
 ·obtain ⟨d, hd, rfl, _⟩ := kind_und hC hk
  have : ∃ ad c, a.eval x = .slice ad n c := by
   rcases h with ⟨e, ls, he, rfl⟩ | ⟨he, rfl⟩ | ⟨t, e, i, he⟩
   ·obtain ⟨rfl, ad, cap, e2, _⟩ | ⟨b, off, cap, e2, _⟩ := elems_rep he hx
    ·exact ⟨_, _, e2⟩
    ·exact ⟨_, _, e2⟩
   ·rw [he] at hx; exact ⟨_, _, (rep_v hx).2⟩
   ·rw [he] at hx
    simp only [ARep] at hx
    obtain ⟨b, cap, _, _, e2, _⟩ := hx
    exact ⟨_, _, e2⟩
  obtain ⟨ad, c, e2⟩ := this
  intro w
  unfold execOp
  simp [hop, resolve, invoke, builtin, Builtin.len_, run_underlying hd, e2, goInt]
theorem PRepR.drop {w : World} {I : Nat → Nat → Prop} {b off e : Nat} {ls : List (List PV)} (h : PRepR w I b off e ls) (l : Nat) : PRepR w I b (off + l * e) e (ls.drop l) :=
 PRepR.of_get fun i c hc => by
  rw [List.getElem?_drop] at hc
  have := h.get hc
  rw [Nat.add_mul] at this
  rw [Nat.add_assoc]; exact this
theorem PRepR.take {w : World} {I : Nat → Nat → Prop} {b off e : Nat} {ls : List (List PV)} (h : PRepR w I b off e ls) (n : Nat) : PRepR w I b off e (ls.take n) :=
 PRepR.of_get fun i c hc => by
  rw [List.getElem?_take] at hc
  split at hc
  ·exact h.get hc
  ·simp at hc
theorem bound_rep {fr : List AV} (hF : FRep M a fr) {x : Option Operand} {d i : Int} (h : boundA (x.map (evA fr)) d = some i) : (x = none ∧ i = d) ∨ ∃ y k, x = some y ∧ a.eval y = .int k i := by
 unfold boundA at h
 cases x with
 | none => simp at h; exact .inl ⟨rfl, h.symm⟩
 | some y =>
   simp at h
   split at h
   ·rename_i k j hi
    simp at h; subst h
    have hv := hF.ev y
    rw [intA_eq hi] at hv
    exact .inr ⟨y, k, rfl, rep_int hv⟩
   ·simp at h
theorem does_slice {T : TypeId} {x : Operand} {lo hi : Option Operand} {fr : List AV} (hop : o.op = .slice T x lo hi none) (hF : FRep M a fr) (hC : C.ok P) (h : sliceA C T (evA fr x) (lo.map (evA fr)) (hi.map (evA fr)) = some r) : DoesS P o a M r := by
 have hx := hF.ev x
 unfold sliceA at h
 split at h
 ·rename_i E es eb ez hk
  obtain ⟨d, hd, rfl, ii, z, hii, hs, _⟩ := kind_und hC hk
  split at h
  ·rename_i e ls hel
   split at h
   ·rename_i l hh hl hh'
    split at h
    ·rename_i hc
     obtain ⟨rfl, h0, h1, h2⟩ := hc
     simp only [Option.some.injEq] at h; subst h
     obtain ⟨rfl, ad, cap, e2, hnc⟩ | ⟨b, off, cap, e2, hcap, hr⟩ := elems_rep hel hx
     ·simp only [List.length_nil] at h2 hh'
      obtain rfl : l = 0 := by omega
      obtain rfl : hh = 0 := by omega
      refine does_still (v := .slice ad 0 cap) ?_ (by simp only [ARep, PRep]; exact .inl ⟨by simp, ad, cap, rfl, hnc⟩)
      have hbd : ∀ w, (Instr.sliceBounds true 0 cap (lo.map a.eval) (hi.map a.eval) none).run P w = .ok (0, 0, cap) w := fun w => by
       rcases bound_rep hF hh' with ⟨rfl, _⟩ | ⟨y, k, rfl, h3⟩
       ·rcases bound_rep hF hl with ⟨rfl, _⟩ | ⟨y', k', rfl, h4⟩
        ·simp [Instr.sliceBounds]
        ·simp [Instr.sliceBounds, Instr.sliceBound, asIntOf, h4]
       ·rcases bound_rep hF hl with ⟨rfl, _⟩ | ⟨y', k', rfl, h4⟩
        ·simp [Instr.sliceBounds, Instr.sliceBound, asIntOf, h3]
        ·simp [Instr.sliceBounds, Instr.sliceBound, asIntOf, h3, h4]
      intro w
      cases ad with
      | none =>
        obtain rfl := hnc rfl
        unfold execOp
        simp [hop, e2, Instr.sliceAt, Instr.slice, run_underlying hd, hbd, sizeOf, typeInfo, hii]
      | some ad =>
        unfold execOp
        simp [hop, e2, Instr.sliceAt, Instr.slice, run_underlying hd, hbd, sizeOf, typeInfo, hii, hs, Addr.add]
     obtain ⟨l, rfl⟩ : ∃ n : Nat, l = n := ⟨l.toNat, by omega⟩
     obtain ⟨hh, rfl⟩ : ∃ n : Nat, hh = n := ⟨hh.toNat, by omega⟩
     refine does_still (v := .slice (if cap = l then some ⟨b, off, none⟩ else some ⟨b, off + l * e, none⟩) (hh - l) (cap - l)) ?_ ?_
     ·have hbd : ∀ w, (Instr.sliceBounds true ls.length cap (lo.map a.eval) (hi.map a.eval) none).run P w = .ok (l, hh, cap) w := fun w => by
       rcases bound_rep hF hh' with ⟨rfl, h3⟩ | ⟨y, k, rfl, h3⟩
       ·have : hh = ls.length := by omega
        subst this
        rcases bound_rep hF hl with ⟨rfl, h4⟩ | ⟨y', k', rfl, h4⟩
        ·have : l = 0 := by omega
         subst this
         simp [Instr.sliceBounds]
        ·simp [Instr.sliceBounds, Instr.sliceBound, asIntOf, h4, Int.ofNat_le.1 h1]
       ·rcases bound_rep hF hl with ⟨rfl, h4⟩ | ⟨y', k', rfl, h4⟩
        ·have : l = 0 := by omega
         subst this
         have : hh ≤ cap := by omega
         simp [Instr.sliceBounds, Instr.sliceBound, asIntOf, h3, this]
        ·have : hh ≤ cap := by omega
         have : l ≤ hh := by omega
         simp [Instr.sliceBounds, Instr.sliceBound, asIntOf, h3, h4, *]
      intro w
      unfold execOp
      simp [hop, e2, Instr.sliceAt, Instr.slice, run_underlying hd, hbd, sizeOf, typeInfo, hii, hs, Addr.add_mid]
     ·simp only [ARep, PRep, Int.toNat_natCast]
      have hlen : ((ls.take hh).drop l).length = hh - l := by simp; omega
      rw [hlen]
      by_cases hcl : cap = l
      ·have : hh - l = 0 := by omega
       have hnil : (ls.take hh).drop l = [] := List.eq_nil_of_length_eq_zero (by omega)
       exact .inr ⟨b, off, cap - l, by simp [hcl], by omega, by rw [hnil]; simp [PRepR]⟩
      ·exact .inr ⟨b, off + l * e, cap - l, by simp [hcl], by omega, (hr.take hh).drop l⟩
    ·simp at h
   ·simp at h
  ·split at h
   ·rename_i hel hnil hl hh
    rw [hnil] at hx
    have e2 := (rep_v hx).2
    simp only [Option.some.injEq] at h; subst h
    have hbd : ∀ w, (Instr.sliceBounds true 0 0 (lo.map a.eval) (hi.map a.eval) none).run P w = .ok (0, 0, 0) w := fun w => by
     rcases bound_rep hF hh with ⟨rfl, h3⟩ | ⟨y, k, rfl, h3⟩ <;> rcases bound_rep hF hl with ⟨rfl, h4⟩ | ⟨y', k', rfl, h4⟩ <;> simp [Instr.sliceBounds, Instr.sliceBound, asIntOf, *]
    refine does_still (v := .slice none 0 0) ?_ (rep_mk rfl)
    intro w
    unfold execOp
    simp [hop, e2, Instr.sliceAt, Instr.slice, run_underlying hd, hbd, sizeOf, typeInfo, hii, hs]
   ·rename_i t e k hms hl
    rw [hms] at hx
    simp only [ARep] at hx
    obtain ⟨b, cap, m, e2, hcap, hcm, g1, g2⟩ := hx
    split at h
    ·rename_i hh'
     split at h
     ·rename_i he
      subst he
      simp only [Option.some.injEq] at h; subst h
      have hbd : ∀ w, (Instr.sliceBounds true k cap (lo.map a.eval) (hi.map a.eval) none).run P w = .ok (0, 0, cap) w := fun w => by
       rcases bound_rep hF hh' with ⟨rfl, h3⟩ | ⟨y, q, rfl, h3⟩
       ·obtain rfl : k = 0 := by omega
        rcases bound_rep hF hl with ⟨rfl, h4⟩ | ⟨y', q', rfl, h4⟩
        ·simp [Instr.sliceBounds]
        ·simp [Instr.sliceBounds, Instr.sliceBound, asIntOf, h4]
       ·rcases bound_rep hF hl with ⟨rfl, h4⟩ | ⟨y', q', rfl, h4⟩
        ·simp [Instr.sliceBounds, Instr.sliceBound, asIntOf, h3]
        ·simp [Instr.sliceBounds, Instr.sliceBound, asIntOf, h3, h4]
      refine does_still (v := .slice (some ⟨b, 0, none⟩) 0 cap) ?_ (by simp only [ARep, List.length_nil, Nat.zero_mul]; exact ⟨b, cap, m, rfl, Nat.zero_le _, hcm, by simp [PRepR], g1, Nat.zero_le _, fun e => g2 e.symm⟩)
      intro w
      unfold execOp
      simp [hop, e2, Instr.sliceAt, Instr.slice, run_underlying hd, hbd, sizeOf, typeInfo, hii, hs, Addr.add]
     ·simp at h
    ·simp at h
   ·rename_i t e i n hms hl
    rw [hms] at hx
    simp only [ARep] at hx
    obtain ⟨b, cap, g1, g2, e2, hcap⟩ := hx
    split at h
    ·rename_i hh hh'
     split at h
     ·rename_i hc
      obtain ⟨rfl, h0, h1⟩ := hc
      simp only [Option.some.injEq] at h; subst h
      obtain ⟨hh, rfl⟩ : ∃ m : Nat, hh = m := ⟨hh.toNat, by omega⟩
      have hbd : ∀ w, (Instr.sliceBounds true n cap (lo.map a.eval) (hi.map a.eval) none).run P w = .ok (0, hh, cap) w := fun w => by
       have k1 : hh ≤ cap := by omega
       rcases bound_rep hF hh' with ⟨rfl, h3⟩ | ⟨y, k, rfl, h3⟩
       ·obtain rfl : hh = n := by omega
        rcases bound_rep hF hl with ⟨rfl, h4⟩ | ⟨y', k', rfl, h4⟩
        ·simp [Instr.sliceBounds]
        ·simp [Instr.sliceBounds, Instr.sliceBound, asIntOf, h4]
       ·rcases bound_rep hF hl with ⟨rfl, h4⟩ | ⟨y', k', rfl, h4⟩
        ·simp [Instr.sliceBounds, Instr.sliceBound, asIntOf, h3, k1]
        ·simp [Instr.sliceBounds, Instr.sliceBound, asIntOf, h3, h4, k1]
      refine does_still (v := .slice (some ⟨b, i * e, none⟩) hh cap) ?_ (by simp only [ARep, Int.toNat_natCast]; exact ⟨b, cap, g1, g2, rfl, by omega⟩)
      intro w
      unfold execOp
      simp [hop, e2, Instr.sliceAt, Instr.slice, run_underlying hd, hbd, sizeOf, typeInfo, hii, hs, Addr.add]
     ·simp at h
    ·simp at h
   ·simp at h
 ·rename_i hk
  obtain ⟨d, hd, rfl⟩ := kind_und hC hk
  split at h
  ·rename_i s he
   rw [he] at hx
   have e2 := (rep_v hx).2
   split at h
   ·rename_i l hh hl hh'
    split at h
    ·rename_i hc
     obtain ⟨h0, h1, h2⟩ := hc
     simp only [Option.some.injEq] at h; subst h
     obtain ⟨l, rfl⟩ : ∃ n : Nat, l = n := ⟨l.toNat, by omega⟩
     obtain ⟨hh, rfl⟩ : ∃ n : Nat, hh = n := ⟨hh.toNat, by omega⟩
     have h2' : hh ≤ s.size := by omega
     have h1' : l ≤ hh := by omega
     have hbd : ∀ w, (Instr.sliceBounds false s.size s.size (lo.map a.eval) (hi.map a.eval) none).run P w = .ok (l, hh, s.size) w := fun w => by
      rcases bound_rep hF hh' with ⟨rfl, h3⟩ | ⟨y, k, rfl, h3⟩
      ·have : hh = s.size := by omega
       subst this
       rcases bound_rep hF hl with ⟨rfl, h4⟩ | ⟨y', k', rfl, h4⟩
       ·have : l = 0 := by omega
        subst this
        simp [Instr.sliceBounds]
       ·simp [Instr.sliceBounds, Instr.sliceBound, asIntOf, h4, h1']
      ·rcases bound_rep hF hl with ⟨rfl, h4⟩ | ⟨y', k', rfl, h4⟩
       ·have : l = 0 := by omega
        subst this
        simp [Instr.sliceBounds, Instr.sliceBound, asIntOf, h3, h2']
       ·simp [Instr.sliceBounds, Instr.sliceBound, asIntOf, h3, h4, h1', h2']
     refine does_still (v := .string (s.extract l hh)) ?_ (rep_mk rfl)
     intro w
     unfold execOp
     simp [hop, e2, Instr.sliceAt, Instr.slice, run_underlying hd, hbd]
    ·simp at h
   ·simp at h
  ·simp at h
 ·simp at h
end
end Go.Proofs.YtpcblbbddccgpaaDoor
