/- That a world that bears the abstract machine's state does what the abstract machine does: each operation. -/
import Derived.Test.YtpfnpinblbfjdaaAvS
import Derived.WalkKit
set_option linter.unusedSimpArgs false
set_option linter.unusedVariables false
namespace Go.Proofs.Ytpfnpinblbfjdaa
open Go.RowKit
section
variable {P : Program} {C : Ctx} {o : Oper} {a : Act} {M : View} {σ σ' : St} {r : AV}

theorem does_stay {v : Value} (hM : Match M σ) (h : (execOp a.eval o).run P M.w = .ok (.value v) M.w) (hr : ARep M r v) : Does P o a M σ r σ := ⟨v, M, .inl h, Ext.refl M σ, hM, hr⟩

/-- What only computes does the same in every world. -/
def DoesS (P : Program) (o : Oper) (a : Act) (M : View) (r : AV) : Prop := ∃ v, (∀ w, (execOp a.eval o).run P w = .ok (.value v) w) ∧ ARep M r v
theorem does_still {v : Value} (h : ∀ w, (execOp a.eval o).run P w = .ok (.value v) w) (hr : ARep M r v) : DoesS P o a M r := ⟨v, h, hr⟩
theorem DoesS.does (h : DoesS P o a M r) (hM : Match M σ) : Does P o a M σ r σ := by
  obtain ⟨v, h1, h2⟩ := h
  exact does_stay hM (h1 M.w) h2

theorem rep_int {k : IntKind} {n : Int} {u : Value} (h : ARep M (.p (.v (.int k n))) u) : u = .int k n := by simp only [ARep, PRep] at h; exact h.2
theorem rep_v {x u : Value} (h : ARep M (.p (.v x)) u) : plain x = true ∧ u = x := by simpa only [ARep, PRep] using h
theorem rep_mk {x : Value} (h : plain x = true) : ARep M (.p (.v x)) x := by simp only [ARep, PRep]; exact ⟨h, trivial⟩
theorem intA_eq {x : AV} {k : IntKind} {n : Int} (h : intA x = some (k, n)) : x = .p (.v (.int k n)) := by
  unfold intA at h
  split at h
  · simp at h; obtain ⟨rfl, rfl⟩ := h; rfl
  · simp at h
theorem kind_ok (hC : C.ok P) {T : TypeId} {k : TK} (h : C.kind T = some k) : ∃ ti, C.ty T = some ti ∧ ti.kind = k ∧ TyOk P T ti := by
  unfold Ctx.kind at h
  split at h
  · rename_i ti hti; simp at h; exact ⟨ti, hti, h, hC T ti hti⟩
  · simp at h
theorem kind_und (hC : C.ok P) {T : TypeId} {k : TK} (h : C.kind T = some k) : ∃ d, P.underlying T = some d ∧ TKOk P d k := by
  obtain ⟨ti, _, rfl, _, d, _, _, _, hd, _, _, _, _, _, _, hk⟩ := kind_ok hC h
  exact ⟨d, hd, hk⟩

/-- The zero value of a type. -/
theorem zero_rep {z : List Value} (hp : z.all plain = true) : ARepL M (zeroA z) z := by
  refine ARepL_iff.2 ⟨by simp [zeroA], fun i b u hb hu => ?_⟩
  simp only [zeroA, List.getElem?_map, hu, Option.map_some, Option.some.injEq] at hb
  subst hb
  exact rep_mk (List.all_eq_true.1 hp _ (List.mem_of_getElem? hu))
theorem zero_leaf (z : List Value) : (zeroA z).all leaf = true := by simp [zeroA, leaf]

/-- A row that lies in a block from its beginning. -/
theorem row_of_list {l : List AV} {us : List Value} (h : ARepL M l us) (hl : l.all leaf = true) (e : Nat) (he : l.length = e) : RowRep M us.toArray e [l] := by
  intro i c hc
  cases i with
  | zero =>
    simp at hc; subst hc
    refine ⟨he, fun j x hx => ⟨List.all_eq_true.1 hl _ (List.mem_of_getElem? hx), ?_⟩⟩
    obtain ⟨u, h1, h2⟩ := h.get hx
    exact ⟨u, by simpa using h1, h2⟩
  | succ i => simp at hc

theorem does_new {T : TypeId} {l : List AV} {us : List Value} {e tk : Nat} (hM : Match M σ) (htk : tk = σ.length) (h : ARepL M l us) (hl : l.all leaf = true) (he : l.length = e)
    (hrun : (execOp a.eval o).run P M.w = .ok (.value (.pointer (some ⟨M.w.heap.size, 0, none⟩))) (M.w.alloc (.cells us.toArray T))) : Does P o a M σ (.mp tk e 0 0) (σ.put tk (.row e [l])) := by
  obtain ⟨M', h1, h2, h2', h3, h4⟩ := hM.row htk us T e [l] (row_of_list h hl e he)
  refine ⟨_, M', .inl (by rw [h1]; exact hrun), h3, h4, ?_⟩
  simp only [ARep]
  exact ⟨_, h2, h2', by simp⟩

theorem does_alloc {T : TypeId} {tk : Nat} {ti : TI} (hop : o.op = .alloc T) (hM : Match M σ) (htk : tk = σ.length) (hC : TyOk P T ti) : Does P o a M σ (.mp tk ti.size 0 0) (σ.put tk (.row ti.size [zeroA ti.zero])) := by
  obtain ⟨i, d, z, hi, hs, hd, hrow, hz, hzc, hp, hlen, _, _⟩ := hC
  refine does_new hM htk (zero_rep hp) (zero_leaf _) (by simp [zeroA, hlen]) (T := T) ?_
  unfold execOp
  simp [hop, Instr.alloc, zeroValue, typeInfo, hi, hz, newVar, newRow, ← hzc]

theorem does_box {T : TypeId} {x : Operand} {tk : Nat} {ti : TI} {fr : List AV} {l : List AV} (hop : o.op = .box T x) (hM : Match M σ) (hF : FRep M a fr) (htk : tk = σ.length) (hc : cellsA (evA fr x) = some l) (hl : l.length = ti.size) :
    Does P o a M σ (.mp tk ti.size 0 0) (σ.put tk (.row ti.size [l])) := by
  obtain ⟨h1, us, h2, h3⟩ := cells_rep hc (hF.ev x)
  refine does_new hM htk h3 h1 hl (T := T) ?_
  unfold execOp
  simp [hop, Instr.box, newVar, newRow, h2]

/-- A part of cells that are seen. -/
theorem part_rep {r : Bool} {s off : Nat} {l : List AV} {us : List Value} {x : AV} (hl : l.all leaf = true) (h : ARepL M l us) (hx : partA r s off l = some x) : ∃ u, ARep M x u ∧ ((r = true ∧ off + s ≤ us.length ∧ u = .agg ((us.drop off).take s).toArray) ∨ (r = false ∧ us[off]? = some u)) := by
  have hlen := h.len
  rcases part_cases hx with ⟨hr, h1, rfl⟩ | ⟨hr, h1⟩
  · refine ⟨_, ?_, .inl ⟨hr, by omega, rfl⟩⟩
    simp only [ARep]
    exact ⟨List.all_eq_true.2 fun y hy => List.all_eq_true.1 hl y (List.mem_of_mem_drop (List.mem_of_mem_take hy)), _, rfl, (h.drop off).take s⟩
  · obtain ⟨u, h2, h3⟩ := h.get h1
    exact ⟨u, h3, .inr ⟨hr, h2⟩⟩

theorem run_loadAt_one {w : World} {b off : Nat} {T : TypeId} {d : TypeDesc} {u : Value} (hd : P.underlying T = some d) (hrow : d.isRow = false) (hc : w.cell? ⟨b, off, none⟩ = some u) :
    (Instr.loadAt T (.pointer (some ⟨b, off, none⟩))).run P w = .ok u w := by
  have hagg : (isAgg T).run P w = .ok false w := by
    unfold isAgg
    rw [Sem.run_bind, run_underlying hd w]
    cases d <;> simp_all
  simp [Instr.loadAt, Instr.sureAddr, loadVar, hagg, load, Sem.run, hc]

/-- A load where the cells are seen. -/
theorem load_all {T : TypeId} {ti : TI} {o' : Nat} {l : List AV} {us : List Value} {x : AV} (hC : TyOk P T ti) (hl : l.all leaf = true) (h : ARepL M l us) (hx : partA ti.row ti.size o' l = some x) :
    ∃ u, ARep M x u ∧ ∀ (w : World) (b base : Nat), w.rangeAt b base us → (Instr.loadAt T (.pointer (some ⟨b, base + o', none⟩))).run P w = .ok u w := by
  obtain ⟨i, d, z, hi, hs, hd, hrow, hz, hzc, hp, hlen, h1, _⟩ := hC
  obtain ⟨u, h2, h3⟩ := part_rep hl h hx
  refine ⟨u, h2, fun w b base hr => ?_⟩
  rcases h3 with ⟨hr', h4, rfl⟩ | ⟨hr', h4⟩
  · refine run_loadAt_mid w b (base + o') T _ d (fun j v hj => ?_) hd (by rw [hrow, hr']) (by rw [hi]; simp [hs]; omega)
    rw [List.getElem?_take] at hj
    split at hj
    · rw [List.getElem?_drop] at hj
      rw [Nat.add_assoc]; exact hr _ v hj
    · simp at hj
  · exact run_loadAt_one hd (by rw [hrow, hr']) (hr o' u h4)
theorem load_at {T : TypeId} {ti : TI} {b base o' : Nat} {l : List AV} {us : List Value} {x : AV} {w : World} (hC : TyOk P T ti) (hl : l.all leaf = true) (h : ARepL M l us) (hx : partA ti.row ti.size o' l = some x) (hr : w.rangeAt b base us) :
    ∃ u, ARep M x u ∧ (Instr.loadAt T (.pointer (some ⟨b, base + o', none⟩))).run P w = .ok u w := by
  obtain ⟨u, h1, h2⟩ := load_all hC hl h hx
  exact ⟨u, h1, h2 w b base hr⟩

theorem rangeAt_row {w : World} {b : Nat} {cur : Array Value} {T : TypeId} {fr : Nat × Nat} (hh : w.heap[b]? = some (.cells cur T fr)) {e i : Nat} {ls : List (List AV)} {c : List AV} (hr : RowRep M cur e ls) (hc : ls[i]? = some c) :
    ∃ us, ARepL M c us ∧ c.all leaf = true ∧ w.rangeAt b (i * e) us := by
  obtain ⟨h1, h2⟩ := hr i c hc
  refine ⟨(cur.toList.drop (i * e)).take c.length, ARepL_iff.2 ⟨?_, fun j x u hx hu => ?_⟩, ?_, fun j v hv => ?_⟩
  · rw [List.length_take, List.length_drop, Nat.min_eq_left]
    cases hcl : c.length with
    | zero => omega
    | succ n =>
      obtain ⟨_, u, h3, _⟩ := h2 n c[n] (List.getElem?_eq_getElem (by omega))
      have := (Array.getElem?_eq_some_iff.1 h3).1
      simp; omega
  · obtain ⟨_, u', h3, h4⟩ := h2 j x hx
    rw [List.getElem?_take, if_pos (List.getElem?_eq_some_iff.1 hx).1, List.getElem?_drop, Array.getElem?_toList, h3] at hu
    simp at hu; subst hu; exact h4
  · refine List.all_eq_true.2 fun x hx => ?_
    obtain ⟨j, hj⟩ := List.mem_iff_getElem?.1 hx
    exact (h2 j x hj).1
  · rw [cell_of_row w b _ cur T fr hh]
    rw [List.getElem?_take] at hv
    split at hv
    · rw [List.getElem?_drop, Array.getElem?_toList] at hv; exact hv
    · simp at hv
theorem rangeAt_imm {c : List PV} {b off : Nat} (h : PRepC M.w M.I b off c) : ∃ us, ARepL M (c.map .p) us ∧ (c.map AV.p).all leaf = true ∧ M.w.rangeAt b off us := by
  have h1 : ∀ j : Nat, ∃ u, ∀ a, c[j]? = some a → M.w.cell? ⟨b, off + j, none⟩ = some u ∧ PRep M.w M.I a u := fun j => by
    cases hc : c[j]? with
    | none => exact ⟨undef, fun a ha => by simp at ha⟩
    | some a =>
      obtain ⟨u, h2, _, h3⟩ := h.get hc
      exact ⟨u, fun a' ha' => by simp at ha'; subst ha'; exact ⟨h2, h3⟩⟩
  obtain ⟨U, hU⟩ := Classical.axiomOfChoice h1
  refine ⟨(List.range c.length).map U, ARepL_iff.2 ⟨by simp, fun j x u hx hu => ?_⟩, by simp [leaf], fun j v hv => ?_⟩
  · rw [List.getElem?_map] at hx
    cases hc : c[j]? with
    | none => rw [hc] at hx; simp at hx
    | some y =>
      rw [hc] at hx; simp at hx; subst hx
      have hj := (List.getElem?_eq_some_iff.1 hc).1
      simp [hj] at hu; subst hu
      simp only [ARep]; exact (hU j y hc).2
  · by_cases hj : j < c.length
    · simp [hj] at hv; subst hv
      exact (hU j _ (List.getElem?_eq_getElem hj)).1
    · simp [hj] at hv

theorem does_load {T : TypeId} {x : Operand} {ti : TI} {fr : List AV} (hop : o.op = .load T x) (hM : Match M σ) (hF : FRep M a fr) (hC : TyOk P T ti) (h : loadA ti (evA fr x) σ = some r) : Does P o a M σ r σ := by
  have hx := hF.ev x
  have key : ∃ u, ARep M r u ∧ (Instr.loadAt T (a.eval x)).run P M.w = .ok u M.w := by
    unfold loadA at h
    split at h
    · rename_i t e i o' hev
      rw [hev] at hx
      simp only [ARep] at hx
      obtain ⟨b, hb, hbl, hx⟩ := hx
      split at h
      · rename_i e' ls hσ
        split at h
        · rename_i he; subst he
          split at h
          · rename_i c hc
            obtain ⟨_, b', cur, T', hb', hh, hI, hr⟩ := hM.obj t _ hσ
            have : b' = b := by rw [hb] at hb'; simpa using hb'.symm
            subst this
            obtain ⟨us, h1, h2, h3⟩ := rangeAt_row hh hr hc
            rw [hx]
            exact load_at hC h2 h1 h h3
          · simp at h
        · simp at h
      · simp at h
    · rename_i c o' hev
      rw [hev] at hx
      simp only [ARep] at hx
      obtain ⟨b, off, hx, hc⟩ := hx
      obtain ⟨us, h1, h2, h3⟩ := rangeAt_imm hc
      rw [hx]
      exact load_at hC h2 h1 h h3
    · simp at h
  obtain ⟨u, h1, h2⟩ := key
  refine does_stay hM (v := u) ?_ h1
  unfold execOp
  simp [hop, h2]

theorem does_store {T : TypeId} {x y : Operand} {ti : TI} {fr : List AV} (hop : o.op = .store T x y) (hM : Match M σ) (hF : FRep M a fr) (hC : TyOk P T ti) (h : storeA ti (evA fr x) (evA fr y) σ = some σ') : Does P o a M σ (.tup []) σ' := by
  have hx := hF.ev x
  have hy := hF.ev y
  obtain ⟨ii, d, z, hi, hs, hd, hrow, hz, hzc, hp, hlen, _, _⟩ := hC
  unfold storeA at h
  split at h
  · rename_i t e i o' m hev hm
    rw [hev] at hx
    simp only [ARep] at hx
    obtain ⟨b, hb, hbl, hx⟩ := hx
    obtain ⟨hml, us, hu1, hu2⟩ := cells_rep hm hy
    split at h
    · rename_i e' ls hσ
      split at h
      · rename_i he; obtain ⟨rfl, hms⟩ := he
        split at h
        · rename_i c hc
          split at h
          · rename_i ho
            simp at h; subst h
            obtain ⟨M', h1, h2, h3⟩ := hM.store hσ hb hc ho hu2 hml
            refine ⟨undef, M', .inr ⟨rfl, ?_⟩, h2, h3, by simp only [ARep, ARepL]; exact ⟨[], rfl, rfl⟩⟩
            have hul := hu2.len
            obtain ⟨_, b', cur, T', hb', hh, hI, hr⟩ := hM.obj t _ hσ
            have : b' = b := by rw [hb] at hb'; simpa using hb'.symm
            subst this
            have hth : M.w.there b' (i * e' + o') us.length := fun j hj => by
              obtain ⟨_, u, h5, _⟩ := (hr i c hc).2 (o' + j) c[o' + j] (List.getElem?_eq_getElem (by omega))
              rw [Nat.add_assoc, cell_of_row _ _ _ _ _ _ hh, h5]
              exact ⟨rfl, by simp [World.frozen?, hh]⟩
            have h6 := run_storeAt_mid (P := P) M.w b' (i * e' + o') T us.toArray (by simpa using hth) (by rw [hi]; simp [hs]; omega) (all_oneCell_toArray (hu2.ones hml))
            have h7 : (Instr.storeAt T (a.eval x) (a.eval y)).run P M.w = .ok () (M.w.setCells b' (i * e' + o') us) := by
              rw [hx]
              have : Instr.storeAt T (.pointer (some ⟨b', i * e' + o', none⟩)) (a.eval y) = Instr.storeAt T (.pointer (some ⟨b', i * e' + o', none⟩)) (.agg us.toArray) := by
                simp only [Instr.storeAt, storeVar, hu1]
                rfl
              rw [this]; exact h6
            unfold execOp
            simp [hop, h7, h1]
          · simp at h
        · simp at h
      · simp at h
    · simp at h
  · simp at h
end
end Go.Proofs.Ytpfnpinblbfjdaa
