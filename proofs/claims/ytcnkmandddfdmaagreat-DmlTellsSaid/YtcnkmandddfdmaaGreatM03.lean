/- That a world that bears the abstract machine's state does what the abstract machine does: comparisons and sums, indexes, lengths, slices of slices. That a world that bears the abstract machine's state does what the abstract machine does: slices that are made, and appends. -/
import Derived.Test.YtcnkmandddfdmaaGreatM02
import Derived.Stop.BytesEq
import Derived.WalkSpells
import Derived.Great.BuildSlice
set_option linter.unusedSimpArgs false
set_option linter.unusedVariables false
set_option linter.defProp false
set_option maxRecDepth 100000
set_option maxHeartbeats 32000000
namespace Go.Proofs.YtcnkmandddfdmaaGreat
open Go.RowKit
section
variable {P : Program} {C : Ctx} {o : Oper} {a : Act} {M : View} {σ σ' : St} {r : AV}
theorem binInt_run {op : BinOp} {k : IntKind} {x y : Int} {v : Value} {T : TypeId} {w : World} (h : binInt op k x y = some v) : plain v = true ∧ (binOp op T (.int k x) (.int k y)).run P w = .ok v w := by
 cases op <;> simp only [binInt] at h <;> try (simp at h; done)
 all_goals first
  | (split at h
     ·simp at h
     ·rename_i hy; simp only [Option.some.injEq] at h; subst h; exact ⟨rfl, by simp [binOp, Op.intDiv, hy]⟩)
  | (simp only [Option.some.injEq] at h; subst h; exact ⟨rfl, by simp [binOp, Op.intArith, Op.intBits, Op.intCmp]⟩)
theorem binStr_run {op : BinOp} {x y : ByteArray} {v : Value} {T : TypeId} {w : World} (h : binStr op x y = some v) : plain v = true ∧ (binOp op T (.string x) (.string y)).run P w = .ok v w := by
 cases op <;> simp only [binStr] at h <;> try (simp at h; done)
 all_goals first
  | (split at h
     ·simp at h
     ·rename_i hy; simp only [Option.some.injEq] at h; subst h; exact ⟨rfl, by simp only [binOp, Op.stringOp, if_neg hy]; rfl⟩)
  | (simp only [Option.some.injEq] at h; subst h; exact ⟨rfl, by simp [binOp, Op.stringOp]⟩)
theorem equal_bool {T : TypeId} {x y : Bool} {w : World} (hd : P.underlying T = some .bool) : (Op.equal T (.bool x) (.bool y)).run P w = .ok (x == y) w := by
 unfold Op.equal Op.maxDepth
 rw [Op.equalIn]
 simp only [Sem.run_bind, run_underlying hd, Result.andThen_ok]
 rfl
theorem equal_nil {T E : TypeId} {ad : Option Addr} {n c : Nat} {w : World} (hd : P.underlying T = some (.slice E)) : (Op.equal T (.slice ad n c) (.slice none 0 0)).run P w = .ok ad.isNone w := by
 unfold Op.equal Op.maxDepth
 rw [Op.equalIn]
 simp only [Sem.run_bind, run_underlying hd, Result.andThen_ok]
 cases ad <;> rfl
theorem isNil_rep {x : AV} {u : Value} {b : Bool} (h : isNilA x = some b) (hx : ARep M x u) : ∃ ad n c, u = .slice ad n c ∧ ad.isNone = b := by
 unfold isNilA at h
 split at h
 ·simp at h; subst h
  have := (rep_v hx).2; subst this
  exact ⟨none, 0, 0, rfl, rfl⟩
 ·simp at h; subst h
  have := (rep_v hx).2; subst this
  exact ⟨_, _, _, rfl, rfl⟩
 ·split at h
  ·simp at h
  rename_i hne
  simp at h; subst h
  simp only [ARep, PRep] at hx
  obtain ⟨rfl, _⟩ | ⟨b, off, cap, rfl, _⟩ := hx
  ·simp at hne
  ·exact ⟨_, _, _, rfl, rfl⟩
 ·simp at h; subst h
  simp only [ARep] at hx
  obtain ⟨b, cap, n, rfl, _⟩ := hx
  exact ⟨_, _, _, rfl, rfl⟩
 ·simp at h; subst h
  simp only [ARep] at hx
  obtain ⟨b, cap, _, _, rfl, _⟩ := hx
  exact ⟨_, _, _, rfl, rfl⟩
 ·simp at h; subst h
  simp only [ARep] at hx
  obtain ⟨n, _, _, ⟨rfl, rfl⟩ | ⟨h0, b, cap, rfl, _⟩⟩ := hx
  ·exact ⟨_, _, _, rfl, rfl⟩
  ·exact ⟨_, _, _, rfl, by cases ‹List (List PV)› <;> simp_all⟩
 ·simp at h
theorem byteOfV_eq {x : Value} {b : UInt8} (h : byteOfV x = some b) : x = .int .u8 b.toNat := by
 unfold byteOfV at h
 split at h
 ·rename_i n
  split at h
  ·rename_i hn
   simp at h; subst h
   have : (UInt8.ofNat n.toNat).toNat = n.toNat := by
    rw [UInt8.toNat_ofNat']; omega
   rw [this]
   congr 1; omega
  ·simp at h
 ·simp at h
theorem byteOfA_eq {x : AV} {b : UInt8} (h : byteOfA x = some b) : x = .p (.v (.int .u8 b.toNat)) := by
 unfold byteOfA at h
 split at h
 ·rw [byteOfV_eq h]
 ·simp at h
theorem bytesOfA_rep : ∀ {l : List AV} {bs : List UInt8} {us : List Value}, bytesOfA l = some bs → ARepL M l us → us = bs.map fun b => .int .u8 b.toNat
 | [], bs, us, h, hr => by
   simp [bytesOfA] at h; subst h
   simpa [ARepL] using hr
 | x :: l, bs, us, h, hr => by
   simp only [bytesOfA] at h
   split at h
   ·rename_i b bs' hb hbs
    simp at h; subst h
    simp only [ARepL] at hr
    obtain ⟨u, us', rfl, h1, h2⟩ := hr
    rw [byteOfA_eq hb] at h1
    rw [rep_int h1, bytesOfA_rep hbs h2]
    rfl
   ·simp at h
theorem eqGuard_bytes {op : BinOp} {T e : TypeId} {n : Nat} {x y : Operand} {us vs : Array Value} {w : World} (hd : P.underlying T = some (.array n e)) (he : P.underlying e = some (.int .u8)) (hdep : 2 ≤ P.depth) : (eqGuard op T x y (.agg us) (.agg vs)).run P w = .ok () w := by
 have h1 : P.eqGuardType P.depth T = false := by
  obtain ⟨d, hd'⟩ : ∃ d, P.depth = d + 2 := ⟨P.depth - 2, by omega⟩
  rw [hd', Program.eqGuardType, hd]
  simp only
  rw [Program.eqGuardType, he]
 cases op <;> simp [eqGuard, h1]
theorem eqCell_run {d : Nat} {k : EK} {t : TypeId} {x y : AV} {u v : Value} {r : Bool} {w : World} (hk : match k with
 | .int => ∃ ik, P.underlying t = some (.int ik)
 | .str => P.underlying t = some .string
 | .bool => P.underlying t = some .bool) (h : eqCell k x y = some r) (hx : ARep M x u) (hy : ARep M y v) : (Op.equalIn (d + 1) t u v).run P w = .ok r w := by
 unfold eqCell at h
 split at h
 ·split at h
  ·rename_i hkk; subst hkk
   simp at h; subst h
   rw [rep_int hx, rep_int hy]
   obtain ⟨ik, hk⟩ := hk
   exact run_equalIn_int w d t _ ik _ _ hk
  ·simp at h
 ·simp at h; subst h
  rw [(rep_v hx).2, (rep_v hy).2]
  exact run_equalIn_string w d t _ _ hk
 ·simp at h; subst h
  rw [(rep_v hx).2, (rep_v hy).2]
  exact run_equalIn_bool w d t _ _ hk
 ·simp at h
theorem eqF_run {d : Nat} : ∀ (ks : List EK) (n : Nat) (fs : List Field) (l m : List AV) (us vs : List Value) (b : Bool), EqF P ks n fs → eqCells ks l m = some b → ARepL M l (us.drop n) → ARepL M m (vs.drop n) →
 ∀ w : World, (Op.eqFields (d + 1) us.toArray vs.toArray fs).run P w = .ok b w
 | [], n, [], [], [], us, vs, b, hF, he, hx, hy => fun w => by
   simp [eqCells] at he; subst he
   simp [Op.eqFields]
 | k :: ks, n, f :: fs, x :: l, y :: m, us, vs, b, hF, he, hx, hy => fun w => by
   obtain ⟨hn, ho, hT, hk, hF⟩ := hF
   simp only [ARepL] at hx hy
   obtain ⟨u, us', eu, hx, hxs⟩ := hx
   obtain ⟨v, vs', ev, hy, hys⟩ := hy
   have gu : us[n]? = some u := by
    have := congrArg (fun l : List Value => l[0]?) eu
    simpa using this
   have gv : vs[n]? = some v := by
    have := congrArg (fun l : List Value => l[0]?) ev
    simpa using this
   have gu' : us' = us.drop (n + 1) := by rw [← List.tail_drop, eu]; rfl
   have gv' : vs' = vs.drop (n + 1) := by rw [← List.tail_drop, ev]; rfl
   subst gu' gv'
   simp only [eqCells] at he
   split at he
   ·rename_i r c hr hc
    simp at he; subst he
    have ih := eqF_run (d := d) ks (n + 1) fs l m us vs c hF hc hxs hys w
    have h1 := run_part (P := P) (w := w) (us := us) (off := f.offset) hT (.inr ⟨rfl, by rw [ho]; exact gu⟩)
    have h2 := run_part (P := P) (w := w) (us := vs) (off := f.offset) hT (.inr ⟨rfl, by rw [ho]; exact gv⟩)
    have h3 := eqCell_run (P := P) (M := M) (d := d) (w := w) hk hr hx hy
    simp only [Op.eqFields, if_pos hn, Sem.run_bind, h1, h2, h3, Result.andThen_ok]
    cases r
    ·simp
    ·simpa using ih
   ·simp at he
 | [], n, f :: fs, l, m, us, vs, b, hF, he, hx, hy => by simp [EqF] at hF
 | k :: ks, n, [], l, m, us, vs, b, hF, he, hx, hy => by simp [EqF] at hF
 | [], n, [], x :: l, m, us, vs, b, hF, he, hx, hy => by simp [eqCells] at he
 | [], n, [], [], y :: m, us, vs, b, hF, he, hx, hy => by simp [eqCells] at he
 | k :: ks, n, f :: fs, [], m, us, vs, b, hF, he, hx, hy => by simp [eqCells] at he
 | k :: ks, n, f :: fs, x :: l, [], us, vs, b, hF, he, hx, hy => by simp [eqCells] at he
theorem does_binOp {op : BinOp} {T T' : TypeId} {x y : Operand} {fr : List AV} (hop : o.op = .binOp op T x y T') (hF : FRep M a fr) (hC : C.ok P) (h : binA C op T (evA fr x) (evA fr y) = some r) : DoesS P o a M r := by
 have hx := hF.ev x
 have hy := hF.ev y
 have key : ∀ (u v z : Value), a.eval x = u → a.eval y = v → (∀ op w, (eqGuard op T x y u v).run P w = .ok () w) → (∀ w, (binOp op T u v).run P w = .ok z w) → ∀ w, (execOp a.eval o).run P w = .ok (.value z) w := fun u v z h1 h2 h3 h4 w => by
  unfold execOp
  simp [hop, h1, h2, h3, h4]
 unfold binA at h
 split at h
 ·rename_i k n k' m he he'
  rw [he] at hx; rw [he'] at hy
  have e1 := rep_int hx; have e2 := rep_int hy
  have hg : ∀ op w, (eqGuard op T x y (.int k n) (.int k' m)).run P w = .ok () w := fun op w => by cases op <;> simp [eqGuard]
  split at h
  ·split at h
   ·simp at h
   ·rename_i hm; simp only [Option.some.injEq] at h; subst h
    exact does_still (key _ _ _ e1 e2 hg (fun w => by simp [binOp, Op.shift, hm])) (rep_mk rfl)
  ·split at h
   ·simp at h
   ·rename_i hm; simp only [Option.some.injEq] at h; subst h
    exact does_still (key _ _ _ e1 e2 hg (fun w => by simp [binOp, Op.shift, hm])) (rep_mk rfl)
  ·split at h
   ·rename_i hkk; subst hkk
    cases hb : binInt op k n m with
    | none => simp [hb] at h
    | some v =>
      simp only [hb, Option.map_some, Option.some.injEq] at h; subst h
      have h1 := (binInt_run (P := P) (T := T) (w := M.w) hb).1
      have h2 := fun w => (binInt_run (P := P) (T := T) (w := w) hb).2
      exact does_still (key _ _ _ e1 e2 hg h2) (rep_mk h1)
   ·simp at h
 ·rename_i s s' he he'
  rw [he] at hx; rw [he'] at hy
  have e1 := (rep_v hx).2; have e2 := (rep_v hy).2
  have hg : ∀ op w, (eqGuard op T x y (.string s) (.string s')).run P w = .ok () w := fun op w => by cases op <;> simp [eqGuard]
  cases hb : binStr op s s' with
  | none => simp [hb] at h
  | some v =>
    simp only [hb, Option.map_some, Option.some.injEq] at h; subst h
    have h1 := (binStr_run (P := P) (T := T) (w := M.w) hb).1
    have h2 := fun w => (binStr_run (P := P) (T := T) (w := w) hb).2
    exact does_still (key _ _ _ e1 e2 hg h2) (rep_mk h1)
 ·rename_i s s' he he'
  rw [he] at hx; rw [he'] at hy
  have e1 := (rep_v hx).2; have e2 := (rep_v hy).2
  have hg : ∀ op w, (eqGuard op T x y (.bool s) (.bool s')).run P w = .ok () w := fun op w => by cases op <;> simp [eqGuard]
  split at h
  ·rename_i hk; simp only [Option.some.injEq] at h; subst h
   obtain ⟨d, hd, rfl⟩ := kind_und hC hk
   exact does_still (key _ _ _ e1 e2 hg (fun w => by simp [binOp, equal_bool hd])) (rep_mk rfl)
  ·rename_i hk; simp only [Option.some.injEq] at h; subst h
   obtain ⟨d, hd, rfl⟩ := kind_und hC hk
   exact does_still (key _ _ _ e1 e2 hg (fun w => by simp [binOp, equal_bool hd])) (rep_mk rfl)
  ·simp at h
 ·rename_i l m he he'
  rw [he] at hx; rw [he'] at hy
  split at h
  case h_2 =>
   unfold eqStruct at h
   split at h
   case h_2 => simp at h
   rename_i ks hks
   split at h
   case h_2 => simp at h
   rename_i b hb
   obtain ⟨fields, hd, hp, hg0, hF'⟩ := hC.2 T ks hks
   simp only [ARep] at hx hy
   obtain ⟨_, us, e1, h1⟩ := hx
   obtain ⟨_, vs, e2, h2⟩ := hy
   have hfo : P.fieldsOf T = fields := by unfold Program.fieldsOf; rw [hd]
   have hrun : ∀ w : World, (Op.equalIn 10000 T (.agg us.toArray) (.agg vs.toArray)).run P w = .ok b w := fun w => by
    rw [run_equalIn_struct w 9999 T us.toArray vs.toArray (by rw [hfo]; exact hd) hp, hfo]
    exact eqF_run (d := 9998) ks 0 fields.toList l m us vs b hF' hb (by simpa using h1) (by simpa using h2) w
   have hg : ∀ op w, (eqGuard op T x y (.agg us.toArray) (.agg vs.toArray)).run P w = .ok () w := fun op w => run_eqGuard_agg w op T x y us.toArray vs.toArray hg0
   split at h
   ·simp only [Option.some.injEq] at h; subst h
    refine does_still (key _ _ _ e1 e2 hg fun w => ?_) (rep_mk rfl)
    rw [run_eql_struct, hrun w]; rfl
   ·simp only [Option.some.injEq] at h; subst h
    refine does_still (key _ _ _ e1 e2 hg fun w => ?_) (rep_mk rfl)
    rw [run_neq_struct, hrun w]; rfl
   ·simp at h
  rename_i n hk
  obtain ⟨d, hd, e, ie, rfl, hu, hie, hs1, hdep⟩ := kind_und hC hk
  unfold eqBytes at h
  split at h
  case h_2 => simp at h
  rename_i bs cs hbs hcs
  split at h
  case isFalse => simp at h
  rename_i hlen
  simp only [ARep] at hx hy
  obtain ⟨_, us, e1, h1⟩ := hx
  obtain ⟨_, vs, e2, h2⟩ := hy
  rw [bytesOfA_rep hbs h1] at e1
  rw [bytesOfA_rep hcs h2] at e2
  have hg : ∀ op w, (eqGuard op T x y (.agg (bs.map fun b => Value.int .u8 b.toNat).toArray) (.agg (cs.map fun b => Value.int .u8 b.toNat).toArray)).run P w = .ok () w := fun op w => eqGuard_bytes hd hu hdep
  have hsz : ∀ w, (sizeOf e).run P w = .ok 1 w := fun w => by simp [sizeOf, typeInfo, hie, hs1]
  split at h
  ·simp only [Option.some.injEq] at h; subst h
   exact does_still (key _ _ _ e1 e2 hg fun w => run_eql_bytes w T e n hd hu hsz bs cs hlen.1 hlen.2) (rep_mk rfl)
  ·simp only [Option.some.injEq] at h; subst h
   refine does_still (key _ _ _ e1 e2 hg fun w => ?_) (rep_mk rfl)
   rw [run_neq_struct]
   have := run_equalIn_bytes (P := P) w 9998 T e n hd hu hsz bs cs hlen.1 hlen.2
   rw [show (Op.equalIn 10000 T (.agg (bs.map fun b => Value.int .u8 b.toNat).toArray) (.agg (cs.map fun b => Value.int .u8 b.toNat).toArray)).run P w = .ok (bs == cs) w from this]
   rfl
  ·simp at h
 ·rename_i he'
  rw [he'] at hy
  have e2 := (rep_v hy).2
  split at h
  all_goals try (simp at h; done)
  all_goals
   rename_i b hk hn
   simp only [Option.some.injEq] at h; subst h
   obtain ⟨ad, n, c, e1, hb⟩ := isNil_rep hn hx
   have hg : ∀ op w, (eqGuard op T x y (.slice ad n c) (.slice none 0 0)).run P w = .ok () w := fun op w => by cases op <;> simp [eqGuard]
   obtain ⟨d, hd, rfl, _⟩ := kind_und hC hk
   subst hb
   refine does_still (key _ _ _ e1 e2 hg ?_) (rep_mk rfl)
   intro w
   simp [binOp, equal_nil hd]
 ·simp at h
theorem elems_rep {x : AV} {u : Value} {e : Nat} {ls : List (List PV)} (h : elemsA x = some (e, ls)) (hx : ARep M x u) :
 (ls = [] ∧ ∃ ad cap, u = .slice ad 0 cap ∧ (ad = none → cap = 0)) ∨ ∃ b off cap, u = .slice (some ⟨b, off, none⟩) ls.length cap ∧ ls.length ≤ cap ∧ PRepR M.w M.I b off e ls := by
 unfold elemsA at h
 split at h
 ·simp at h; obtain ⟨rfl, rfl⟩ := h
  simp only [ARep, PRep] at hx
  exact hx
 ·simp at h; obtain ⟨rfl, rfl⟩ := h
  simp only [ARep] at hx
  obtain ⟨b, cap, n, h1, h2, _, h3, _⟩ := hx
  exact .inr ⟨b, 0, cap, h1, h2, h3⟩
 ·simp at h; obtain ⟨rfl, rfl⟩ := h
  simp only [ARep] at hx
  obtain ⟨n, _, _, ⟨rfl, h1⟩ | ⟨_, b, cap, h1, h2, _, h3, _⟩⟩ := hx
  ·exact .inl ⟨rfl, none, 0, h1, fun _ => rfl⟩
  ·exact .inr ⟨b, 0, cap, h1, h2, h3⟩
 ·simp at h
theorem does_indexSlice {T : TypeId} {x i : Operand} {fr : List AV} {E es eb e : Nat} {ez : List Value} {k : IntKind} {n : Int} {ls : List (List PV)} {c : List PV} (hop : o.op = .indexAddr T x i) (hF : FRep M a fr) (hC : C.ok P) (hk : C.kind T = some (.slice E es eb ez))
 (hi : intA (evA fr i) = some (k, n)) (hx : elemsA (evA fr x) = some (e, ls)) (he : e = es) (hn : 0 ≤ n) (hc : ls[n.toNat]? = some c) : DoesS P o a M (.ip c 0) := by
 subst he
 obtain ⟨d, hd, rfl, ii, z, hii, hs, _⟩ := kind_und hC hk
 have hv := hF.ev i
 rw [intA_eq hi] at hv
 have e1 := rep_int hv
 obtain ⟨rfl, _⟩ | ⟨b, off, cap, e2, hcap, hr⟩ := elems_rep hx (hF.ev x)
 ·simp at hc
 have hlt := (List.getElem?_eq_some_iff.1 hc).1
 obtain ⟨hcl, hcr⟩ := hr.get hc
 refine does_still (v := .pointer (some ⟨b, off + n.toNat * e, none⟩)) ?_ (by simp only [ARep]; exact ⟨b, _, by simp, hcr⟩)
 have hlt' : n < ls.length := by omega
 intro w
 unfold execOp
 simp [hop, e1, e2, Instr.indexAt, asIntOf, run_underlying hd, hn, hlt', sizeOf, typeInfo, hii, hs, Addr.add_mid]
theorem does_indexMs {T : TypeId} {x i : Operand} {fr : List AV} {E es eb t e j m : Nat} {ez : List Value} {k : IntKind} {n : Int} (hop : o.op = .indexAddr T x i) (hF : FRep M a fr) (hC : C.ok P) (hk : C.kind T = some (.slice E es eb ez))
 (hi : intA (evA fr i) = some (k, n)) (hx : evA fr x = .ms t e j m) (he : e = es) (hn : 0 ≤ n) (hm : n < m) : DoesS P o a M (.mp t e (j + n.toNat) 0) := by
 subst he
 obtain ⟨d, hd, rfl, ii, z, hii, hs, _⟩ := kind_und hC hk
 have hv := hF.ev i
 rw [intA_eq hi] at hv
 have e1 := rep_int hv
 have hx' := hF.ev x
 rw [hx] at hx'
 simp only [ARep] at hx'
 obtain ⟨b, cap, hb, hbl, e2, hcap⟩ := hx'
 refine does_still (v := .pointer (some ⟨b, j * e + n.toNat * e, none⟩)) ?_ (by simp only [ARep]; exact ⟨b, hb, hbl, by rw [Nat.add_mul]; rfl⟩)
 intro w
 unfold execOp
 simp [hop, e1, e2, Instr.indexAt, asIntOf, run_underlying hd, hn, hm, sizeOf, typeInfo, hii, hs, Addr.add_mid]
theorem does_indexB {T : TypeId} {x i : Operand} {fr : List AV} {m : Nat} {k : IntKind} {n : Int} (hop : o.op = .indexAddr T x i) (hF : FRep M a fr) (hC : C.ok P) (hk : C.kind T = some (.barr m))
 (hi : intA (evA fr i) = some (k, n)) (hn : 0 ≤ n) (hm : n < m) (h : (∃ t e j o', evA fr x = .mp t e j o' ∧ r = .mp t e j (o' + n.toNat)) ∨ (∃ c o', evA fr x = .ip c o' ∧ r = .ip c (o' + n.toNat))) : DoesS P o a M r := by
 obtain ⟨d, hd, E, ii, rfl, _, hii, hs, _⟩ := kind_und hC hk
 have hv := hF.ev i
 rw [intA_eq hi] at hv
 have e1 := rep_int hv
 have hx := hF.ev x
 have key : ∀ b q, a.eval x = .pointer (some ⟨b, q, none⟩) → ∀ w, (execOp a.eval o).run P w = .ok (.value (.pointer (some ⟨b, q + n.toNat, none⟩))) w := fun b q hq w => by
  unfold execOp
  simp [hop, hq, e1, Instr.indexAt, asIntOf, run_underlying hd, hn, hm, sizeOf, typeInfo, hii, hs, Addr.add_mid, Instr.sureAddr]
 rcases h with ⟨t, e, i', o', he, rfl⟩ | ⟨c, o', he, rfl⟩
 ·rw [he] at hx
  simp only [ARep] at hx
  obtain ⟨b, hb, hbl, hx⟩ := hx
  refine does_still (key b _ hx) ?_
  simp only [ARep]
  exact ⟨b, hb, hbl, by rw [Nat.add_assoc]⟩
 ·rw [he] at hx
  simp only [ARep] at hx
  obtain ⟨b, q, hx, hc⟩ := hx
  refine does_still (key b _ hx) ?_
  simp only [ARep]
  exact ⟨b, q, by rw [Nat.add_assoc], hc⟩
theorem bytesOfR_get : ∀ {ls : List (List PV)} {bs : List UInt8}, bytesOfR ls = some bs → ls = bs.map fun b => [.v (.int .u8 b.toNat)]
 | [], bs, h => by simp [bytesOfR] at h; subst h; rfl
 | c :: ls, bs, h => by
   unfold bytesOfR at h
   split at h
   ·rename_i heq; simp at heq
   ·rename_i x l heq
    simp at heq
    obtain ⟨rfl, rfl⟩ := heq
    split at h
    ·rename_i b bs' hb hbs
     simp at h; subst h
     rw [byteOfV_eq hb, bytesOfR_get hbs]; rfl
    ·simp at h
   ·simp at h
theorem push_fold : ∀ (bs : List UInt8) (acc : ByteArray), (bs.map fun b => (b.toNat : Int)).foldl (fun (r : ByteArray) n => r.push (UInt8.ofNat n.toNat)) acc = ⟨acc.data ++ bs.toArray⟩
 | [], acc => by simp
 | b :: bs, acc => by
   rw [List.map_cons, List.foldl_cons, push_fold bs]
   have : UInt8.ofNat (b.toNat : Int).toNat = b := by simp
   rw [this]
   simp [ByteArray.push]
theorem does_convB {S T : TypeId} {x : Operand} {fr : List AV} (hop : o.op = .convert S T x) (hM : Match M σ) (hF : FRep M a fr) (hC : C.ok P) (h : convB C S T (evA fr x) = some r) : Does P o a M σ r σ := by
 have hx := hF.ev x
 unfold convB at h
 split at h
 case h_2 => simp at h
 rename_i E es eb ez hks hkt
 split at h
 case h_2 => simp at h
 rename_i hke
 obtain ⟨d, hd, rfl, _⟩ := kind_und hC hks
 obtain ⟨d', hd', rfl⟩ := kind_und hC hkt
 obtain ⟨d'', hd'', rfl⟩ := kind_und hC hke
 have conv : ∀ v u, a.eval x = v → (convert S T v).run P M.w = .ok u M.w → (execOp a.eval o).run P M.w = .ok (.value u) M.w := fun v u h1 h2 => by
  unfold execOp
  simp [hop, h1, h2]
 split at h
 ·rename_i he
  simp only [Option.some.injEq] at h; subst h
  rw [he] at hx
  exact does_stay hM (conv _ _ (rep_v hx).2 (run_convert_bytes_nil M.w S E hd hd'' _ _ T hd')) (rep_mk rfl)
 ·split at h
  case h_2 => simp at h
  rename_i ls hel
  simp only [Option.map_eq_some_iff] at h
  obtain ⟨bs, hbs, rfl⟩ := h
  obtain ⟨rfl, ad, cap, e2, hnc⟩ | ⟨b, off, cap, e2, hcap, hr⟩ := elems_rep hel hx
  ·have hbs0 : bs = [] := by simpa [bytesOfR] using hbs.symm
   subst hbs0
   cases ad with
   | none =>
     obtain rfl := hnc rfl
     exact does_stay hM (conv _ _ e2 (run_convert_bytes_nil M.w S E hd hd'' _ _ T hd')) (rep_mk rfl)
   | some ad =>
   refine does_stay hM (conv _ (.string ⟨#[]⟩) e2 ?_) (rep_mk rfl)
   rw [run_convert_bytes_string M.w S T E _ _ cap hd hd'' hd']
   rw [run_bytesToString M.w ad _ cap [] (by simp [loadCells, loadCellsFrom])]
   rfl
  refine does_stay hM (conv _ (.string ⟨bs.toArray⟩) e2 ?_) (rep_mk rfl)
  have hls := bytesOfR_get hbs
  subst hls
  rw [run_convert_bytes_string M.w S T E _ _ cap hd hd'' hd']
  have hcells : (loadCells ⟨b, off, none⟩ (bs.map fun b => [PV.v (.int .u8 b.toNat)]).length).run P M.w = .ok (bs.map fun b => Value.int .u8 b.toNat).toArray M.w := by
   have := run_loadCells_list (P := P) M.w ⟨b, off, none⟩ (bs.map fun b => Value.int .u8 b.toNat) (fun j v hj => by
    rw [Addr.add_mid]
    have hj' := hj
    rw [List.getElem?_map] at hj'
    cases hb : bs[j]? with
    | none => rw [hb] at hj'; simp at hj'
    | some c =>
      rw [hb] at hj'; simp at hj'; subst hj'
      obtain ⟨_, h2⟩ := hr.get (i := j) (c := [.v (.int .u8 c.toNat)]) (by simp [hb])
      obtain ⟨u, h3, _, h4⟩ := h2.get (j := 0) rfl
      simp only [PRep] at h4
      rw [h4.2] at h3
      simpa using h3)
   simpa using this
  rw [run_bytesToString M.w ⟨b, off, none⟩ _ cap (bs.map fun b => (b.toNat : Int)) (by rw [hcells]; simp), push_fold]
  simp
theorem does_indexArr {T : TypeId} {x i : Operand} {fr : List AV} {m es : Nat} {er : Bool} {k : IntKind} {n : Int} (hop : o.op = .indexAddr T x i) (hF : FRep M a fr) (hC : C.ok P) (hk : C.kind T = some (.arr m es er))
 (hi : intA (evA fr i) = some (k, n)) (hn : 0 ≤ n) (hm : n < m) (h : (∃ t e j o', evA fr x = .mp t e j o' ∧ r = .mp t e j (o' + n.toNat * es)) ∨ (∃ c o', evA fr x = .ip c o' ∧ r = .ip c (o' + n.toNat * es))) : DoesS P o a M r := by
 obtain ⟨d, hd, E, rfl, ⟨ii, d', hii, hs, _⟩, _⟩ := kind_und hC hk
 have hv := hF.ev i
 rw [intA_eq hi] at hv
 have e1 := rep_int hv
 have hx := hF.ev x
 have key : ∀ b q, a.eval x = .pointer (some ⟨b, q, none⟩) → ∀ w, (execOp a.eval o).run P w = .ok (.value (.pointer (some ⟨b, q + n.toNat * es, none⟩))) w := fun b q hq w => by
  unfold execOp
  simp [hop, hq, e1, Instr.indexAt, asIntOf, run_underlying hd, hn, hm, sizeOf, typeInfo, hii, hs, Addr.add_mid, Instr.sureAddr]
 rcases h with ⟨t, e, i', o', he, rfl⟩ | ⟨c, o', he, rfl⟩
 ·rw [he] at hx
  simp only [ARep] at hx
  obtain ⟨b, hb, hbl, hx⟩ := hx
  refine does_still (key b _ hx) ?_
  simp only [ARep]
  exact ⟨b, hb, hbl, by rw [Nat.add_assoc]⟩
 ·rw [he] at hx
  simp only [ARep] at hx
  obtain ⟨b, q, hx, hc⟩ := hx
  refine does_still (key b _ hx) ?_
  simp only [ARep]
  exact ⟨b, q, by rw [Nat.add_assoc], hc⟩
theorem does_indexStr {T : TypeId} {x i : Operand} {fr : List AV} {k : IntKind} {n : Int} {s : ByteArray} {c : UInt8} (hop : o.op = .index T x i) (hF : FRep M a fr) (hC : C.ok P) (hk : C.kind T = some .str)
 (hx : evA fr x = .p (.v (.string s))) (hi : intA (evA fr i) = some (k, n)) (hn : 0 ≤ n) (hc : s[n.toNat]? = some c) : DoesS P o a M (intV .u8 c.toNat) := by
 obtain ⟨d, hd, rfl⟩ := kind_und hC hk
 have hv := hF.ev i
 rw [intA_eq hi] at hv
 have e1 := rep_int hv
 have hv2 := hF.ev x
 rw [hx] at hv2
 have e2 := (rep_v hv2).2
 refine does_still (v := .int .u8 c.toNat) ?_ (rep_mk rfl)
 intro w
 unfold execOp
 simp [hop, e1, e2, Instr.index, asIntOf, run_underlying hd, hn, hc]
theorem does_indexAgg {T : TypeId} {x i : Operand} {fr l : List AV} {k : IntKind} {m es : Nat} {er : Bool} {n : Int} (hop : o.op = .index T x i) (hF : FRep M a fr) (hC : C.ok P) (hk : C.kind T = some (.arr m es er))
 (hx : evA fr x = .agg l) (hi : intA (evA fr i) = some (k, n)) (hn : 0 ≤ n) (hm : n < m) (h : partA er es (n.toNat * es) l = some r) : DoesS P o a M r := by
 obtain ⟨d, hd, e, rfl, hT, _, _⟩ := kind_und hC hk
 have hv := hF.ev i
 rw [intA_eq hi] at hv
 have e1 := rep_int hv
 have hv2 := hF.ev x
 rw [hx] at hv2
 simp only [ARep] at hv2
 obtain ⟨hl, us, e2, hus⟩ := hv2
 obtain ⟨u, h1, h2⟩ := part_rep hl hus h
 have hT' := hT
 obtain ⟨ii, dd, hii, hss, _, _⟩ := hT'
 refine does_still (v := u) ?_ h1
 intro w
 unfold execOp
 simp [hop, e1, e2, Instr.index, asIntOf, run_underlying hd, hn, hm, sizeOf, typeInfo, hii, hss, run_part hT h2]
theorem does_len {T : TypeId} {x : Operand} {fr : List AV} {n : Nat} (hop : o.op = .call { callee := .builtin .len, args := #[x], argTypes := #[T] }) (hF : FRep M a fr) (hC : C.ok P)
 (h : (C.kind T = some .str ∧ ∃ s, evA fr x = .p (.v (.string s)) ∧ n = s.size) ∨ ((∃ E es eb ez, C.kind T = some (.slice E es eb ez)) ∧ ((∃ e ls, elemsA (evA fr x) = some (e, ls) ∧ n = ls.length) ∨ (evA fr x = nilA ∧ n = 0) ∨ ∃ t e i, evA fr x = .ms t e i n))) : DoesS P o a M (intV .i64 n) := by
 have hx := hF.ev x
 refine does_still (v := .int .i64 n) ?_ (rep_mk rfl)
 rcases h with ⟨hk, s, he, rfl⟩ | ⟨⟨E, es, eb, ez, hk⟩, h⟩
 ·obtain ⟨d, hd, rfl⟩ := kind_und hC hk
  rw [he] at hx
  intro w
  unfold execOp
  simp [hop, resolve, invoke, builtin, Builtin.len_, run_underlying hd, (rep_v hx).2, goInt]
 ·obtain ⟨d, hd, rfl, _⟩ := kind_und hC hk
  have : ∃ ad c, a.eval x = .slice ad n c := by
   rcases h with ⟨e, ls, he, rfl⟩ | ⟨he, rfl⟩ | ⟨t, e, i, he⟩
   ·obtain ⟨rfl, ad, cap, e2, _⟩ | ⟨b, off, cap, e2, _⟩ := elems_rep he hx
    ·exact ⟨_, _, e2⟩
    ·exact ⟨_, _, e2⟩
   ·rw [he] at hx; exact ⟨_, _, (rep_v hx).2⟩
   ·rw [he] at hx
    simp only [ARep] at hx
    obtain ⟨b, cap, _, _, e2, _⟩ := hx
    exact ⟨_, _, e2⟩
  obtain ⟨ad, c, e2⟩ := this
  intro w
  unfold execOp
  simp [hop, resolve, invoke, builtin, Builtin.len_, run_underlying hd, e2, goInt]
theorem PRepR.drop {w : World} {I : Nat → Nat → Prop} {b off e : Nat} {ls : List (List PV)} (h : PRepR w I b off e ls) (l : Nat) : PRepR w I b (off + l * e) e (ls.drop l) :=
 PRepR.of_get fun i c hc => by
  rw [List.getElem?_drop] at hc
  have := h.get hc
  rw [Nat.add_mul] at this
  rw [Nat.add_assoc]; exact this
theorem PRepR.take {w : World} {I : Nat → Nat → Prop} {b off e : Nat} {ls : List (List PV)} (h : PRepR w I b off e ls) (n : Nat) : PRepR w I b off e (ls.take n) :=
 PRepR.of_get fun i c hc => by
  rw [List.getElem?_take] at hc
  split at hc
  ·exact h.get hc
  ·simp at hc
theorem bound_rep {fr : List AV} (hF : FRep M a fr) {x : Option Operand} {d i : Int} (h : boundA (x.map (evA fr)) d = some i) : (x = none ∧ i = d) ∨ ∃ y k, x = some y ∧ a.eval y = .int k i := by
 unfold boundA at h
 cases x with
 | none => simp at h; exact .inl ⟨rfl, h.symm⟩
 | some y =>
   simp at h
   split at h
   ·rename_i k j hi
    simp at h; subst h
    have hv := hF.ev y
    rw [intA_eq hi] at hv
    exact .inr ⟨y, k, rfl, rep_int hv⟩
   ·simp at h
theorem does_slice {T : TypeId} {x : Operand} {lo hi : Option Operand} {fr : List AV} (hop : o.op = .slice T x lo hi none) (hF : FRep M a fr) (hC : C.ok P) (h : sliceA C T (evA fr x) (lo.map (evA fr)) (hi.map (evA fr)) = some r) : DoesS P o a M r := by
 have hx := hF.ev x
 unfold sliceA at h
 split at h
 ·rename_i E es eb ez hk
  obtain ⟨d, hd, rfl, ii, z, hii, hs, _⟩ := kind_und hC hk
  split at h
  ·rename_i e ls hel
   split at h
   ·rename_i l hh hl hh'
    split at h
    ·rename_i hc
     obtain ⟨rfl, h0, h1, h2⟩ := hc
     simp only [Option.some.injEq] at h; subst h
     obtain ⟨rfl, ad, cap, e2, hnc⟩ | ⟨b, off, cap, e2, hcap, hr⟩ := elems_rep hel hx
     ·simp only [List.length_nil] at h2 hh'
      obtain rfl : l = 0 := by omega
      obtain rfl : hh = 0 := by omega
      refine does_still (v := .slice ad 0 cap) ?_ (by simp only [ARep, PRep]; exact .inl ⟨by simp, ad, cap, rfl, hnc⟩)
      have hbd : ∀ w, (Instr.sliceBounds true 0 cap (lo.map a.eval) (hi.map a.eval) none).run P w = .ok (0, 0, cap) w := fun w => by
       rcases bound_rep hF hh' with ⟨rfl, _⟩ | ⟨y, k, rfl, h3⟩
       ·rcases bound_rep hF hl with ⟨rfl, _⟩ | ⟨y', k', rfl, h4⟩
        ·simp [Instr.sliceBounds]
        ·simp [Instr.sliceBounds, Instr.sliceBound, asIntOf, h4]
       ·rcases bound_rep hF hl with ⟨rfl, _⟩ | ⟨y', k', rfl, h4⟩
        ·simp [Instr.sliceBounds, Instr.sliceBound, asIntOf, h3]
        ·simp [Instr.sliceBounds, Instr.sliceBound, asIntOf, h3, h4]
      intro w
      cases ad with
      | none =>
        obtain rfl := hnc rfl
        unfold execOp
        simp [hop, e2, Instr.sliceAt, Instr.slice, run_underlying hd, hbd, sizeOf, typeInfo, hii]
      | some ad =>
        unfold execOp
        simp [hop, e2, Instr.sliceAt, Instr.slice, run_underlying hd, hbd, sizeOf, typeInfo, hii, hs, Addr.add]
     obtain ⟨l, rfl⟩ : ∃ n : Nat, l = n := ⟨l.toNat, by omega⟩
     obtain ⟨hh, rfl⟩ : ∃ n : Nat, hh = n := ⟨hh.toNat, by omega⟩
     refine does_still (v := .slice (if cap = l then some ⟨b, off, none⟩ else some ⟨b, off + l * e, none⟩) (hh - l) (cap - l)) ?_ ?_
     ·have hbd : ∀ w, (Instr.sliceBounds true ls.length cap (lo.map a.eval) (hi.map a.eval) none).run P w = .ok (l, hh, cap) w := fun w => by
       rcases bound_rep hF hh' with ⟨rfl, h3⟩ | ⟨y, k, rfl, h3⟩
       ·have : hh = ls.length := by omega
        subst this
        rcases bound_rep hF hl with ⟨rfl, h4⟩ | ⟨y', k', rfl, h4⟩
        ·have : l = 0 := by omega
         subst this
         simp [Instr.sliceBounds]
        ·simp [Instr.sliceBounds, Instr.sliceBound, asIntOf, h4, Int.ofNat_le.1 h1]
       ·rcases bound_rep hF hl with ⟨rfl, h4⟩ | ⟨y', k', rfl, h4⟩
        ·have : l = 0 := by omega
         subst this
         have : hh ≤ cap := by omega
         simp [Instr.sliceBounds, Instr.sliceBound, asIntOf, h3, this]
        ·have : hh ≤ cap := by omega
         have : l ≤ hh := by omega
         simp [Instr.sliceBounds, Instr.sliceBound, asIntOf, h3, h4, *]
      intro w
      unfold execOp
      simp [hop, e2, Instr.sliceAt, Instr.slice, run_underlying hd, hbd, sizeOf, typeInfo, hii, hs, Addr.add_mid]
     ·simp only [ARep, PRep, Int.toNat_natCast]
      have hlen : ((ls.take hh).drop l).length = hh - l := by simp; omega
      rw [hlen]
      by_cases hcl : cap = l
      ·have : hh - l = 0 := by omega
       have hnil : (ls.take hh).drop l = [] := List.eq_nil_of_length_eq_zero (by omega)
       exact .inr ⟨b, off, cap - l, by simp [hcl], by omega, by rw [hnil]; simp [PRepR]⟩
      ·exact .inr ⟨b, off + l * e, cap - l, by simp [hcl], by omega, (hr.take hh).drop l⟩
    ·simp at h
   ·simp at h
  ·split at h
   ·rename_i hel hnil hl hh
    rw [hnil] at hx
    have e2 := (rep_v hx).2
    simp only [Option.some.injEq] at h; subst h
    have hbd : ∀ w, (Instr.sliceBounds true 0 0 (lo.map a.eval) (hi.map a.eval) none).run P w = .ok (0, 0, 0) w := fun w => by
     rcases bound_rep hF hh with ⟨rfl, h3⟩ | ⟨y, k, rfl, h3⟩ <;> rcases bound_rep hF hl with ⟨rfl, h4⟩ | ⟨y', k', rfl, h4⟩ <;> simp [Instr.sliceBounds, Instr.sliceBound, asIntOf, *]
    refine does_still (v := .slice none 0 0) ?_ (rep_mk rfl)
    intro w
    unfold execOp
    simp [hop, e2, Instr.sliceAt, Instr.slice, run_underlying hd, hbd, sizeOf, typeInfo, hii, hs]
   ·simp at h
 ·rename_i hk
  obtain ⟨d, hd, rfl⟩ := kind_und hC hk
  split at h
  ·rename_i s he
   rw [he] at hx
   have e2 := (rep_v hx).2
   split at h
   ·rename_i l hh hl hh'
    split at h
    ·rename_i hc
     obtain ⟨h0, h1, h2⟩ := hc
     simp only [Option.some.injEq] at h; subst h
     obtain ⟨l, rfl⟩ : ∃ n : Nat, l = n := ⟨l.toNat, by omega⟩
     obtain ⟨hh, rfl⟩ : ∃ n : Nat, hh = n := ⟨hh.toNat, by omega⟩
     have h2' : hh ≤ s.size := by omega
     have h1' : l ≤ hh := by omega
     have hbd : ∀ w, (Instr.sliceBounds false s.size s.size (lo.map a.eval) (hi.map a.eval) none).run P w = .ok (l, hh, s.size) w := fun w => by
      rcases bound_rep hF hh' with ⟨rfl, h3⟩ | ⟨y, k, rfl, h3⟩
      ·have : hh = s.size := by omega
       subst this
       rcases bound_rep hF hl with ⟨rfl, h4⟩ | ⟨y', k', rfl, h4⟩
       ·have : l = 0 := by omega
        subst this
        simp [Instr.sliceBounds]
       ·simp [Instr.sliceBounds, Instr.sliceBound, asIntOf, h4, h1']
      ·rcases bound_rep hF hl with ⟨rfl, h4⟩ | ⟨y', k', rfl, h4⟩
       ·have : l = 0 := by omega
        subst this
        simp [Instr.sliceBounds, Instr.sliceBound, asIntOf, h3, h2']
       ·simp [Instr.sliceBounds, Instr.sliceBound, asIntOf, h3, h4, h1', h2']
     refine does_still (v := .string (s.extract l hh)) ?_ (rep_mk rfl)
     intro w
     unfold execOp
     simp [hop, e2, Instr.sliceAt, Instr.slice, run_underlying hd, hbd]
    ·simp at h
   ·simp at h
  ·simp at h
 ·simp at h
end
end Go.Proofs.YtcnkmandddfdmaaGreat
namespace Go.Proofs.YtcnkmandddfdmaaGreat
open Go.RowKit
section
variable {P : Program} {C : Ctx} {o : Oper} {a : Act} {M : View} {σ σ' : St} {r : AV}
theorem div_mod_lt {j n e : Nat} (h : j < n * e) : j / e < n ∧ j % e < e ∧ j / e * e + j % e = j := by
 have he : 0 < e := by
  rcases Nat.eq_zero_or_pos e with h0 | h0
  ·subst h0; simp at h
  ·exact h0
 refine ⟨(Nat.div_lt_iff_lt_mul he).2 h, Nat.mod_lt _ he, ?_⟩
 rw [Nat.mul_comm]; exact Nat.div_add_mod j e
theorem PRepR.flat {w : World} {I : Nat → Nat → Prop} {b off e : Nat} {ls : List (List PV)} (h : PRepR w I b off e ls) :
 ∃ us : List Value, us.length = ls.length * e ∧ (∀ (j : Nat) (u : Value), us[j]? = some u → w.cell? ⟨b, off + j, none⟩ = some u) ∧ (∀ u ∈ us, u.oneCell' = true) ∧
   ∀ (i q : Nat) (c : List PV) (x : PV), ls[i]? = some c → c[q]? = some x → ∃ u, us[i * e + q]? = some u ∧ PRep w I x u := by
 have hget : ∀ j, j < ls.length * e → ∃ c x u, ls[j / e]? = some c ∧ c[j % e]? = some x ∧ w.cell? ⟨b, off + j, none⟩ = some u ∧ PRep w I x u := fun j hj => by
  obtain ⟨h1, h2, h3⟩ := div_mod_lt hj
  have hc : ls[j / e]? = some ls[j / e] := List.getElem?_eq_getElem h1
  obtain ⟨h4, h5⟩ := h.get hc
  have hx : ls[j / e][j % e]? = some (ls[j / e][j % e]'(by omega)) := List.getElem?_eq_getElem _
  obtain ⟨u, h6, _, h7⟩ := h5.get hx
  exact ⟨_, _, u, hc, hx, by rw [Nat.add_assoc, h3] at h6; exact h6, h7⟩
 refine ⟨(List.range (ls.length * e)).map fun j => (w.cell? ⟨b, off + j, none⟩).getD undef, by simp, fun j u hu => ?_, fun u hu => ?_, fun i q c x hc hx => ?_⟩
 ·have hj : j < ls.length * e := by simpa using (List.getElem?_eq_some_iff.1 hu).1
  obtain ⟨c, x, u', _, _, h1, _⟩ := hget j hj
  simp [hj, h1] at hu; subst hu; exact h1
 ·obtain ⟨j, hj, rfl⟩ := List.mem_map.1 hu
  obtain ⟨c, x, u', _, _, h1, h2⟩ := hget j (by simpa using hj)
  simp [h1]; exact h2.one
 ·have hi := (List.getElem?_eq_some_iff.1 hc).1
  obtain ⟨h1, h2⟩ := h.get hc
  have hq : q < e := by rw [← h1]; exact (List.getElem?_eq_some_iff.1 hx).1
  have hj : i * e + q < ls.length * e := by
   have : (i + 1) * e ≤ ls.length * e := Nat.mul_le_mul_right _ hi
   rw [Nat.succ_mul] at this; omega
  obtain ⟨u, h3, _, h4⟩ := h2.get hx
  refine ⟨u, ?_, h4⟩
  rw [Nat.add_assoc] at h3
  simp [hj, h3]
theorem PRepR.of_block {w : World} {I : Nat → Nat → Prop} {b e : Nat} {cur : Array Value} {E : TypeId} {fr : Nat × Nat} {ls : List (List PV)} (hh : w.heap[b]? = some (.cells cur E fr)) (hI : ∀ o, o < ls.length * e → I b o)
 (h : ∀ (i : Nat) (c : List PV), ls[i]? = some c → c.length = e ∧ ∀ (q : Nat) (x : PV), c[q]? = some x → ∃ u, cur[i * e + q]? = some u ∧ PRep w I x u) : PRepR w I b 0 e ls :=
 PRepR.of_get fun i c hc => ⟨(h i c hc).1, PRepC.of_get fun q x hx => by
  obtain ⟨u, h1, h2⟩ := (h i c hc).2 q x hx
  have hi := (List.getElem?_eq_some_iff.1 hc).1
  have hq : q < e := by rw [← (h i c hc).1]; exact (List.getElem?_eq_some_iff.1 hx).1
  have hj : i * e + q < ls.length * e := by
   have : (i + 1) * e ≤ ls.length * e := Nat.mul_le_mul_right _ hi
   rw [Nat.succ_mul] at this; omega
  rw [Nat.zero_add]
  exact ⟨u, by rw [cell_of_row _ _ _ _ _ _ hh]; exact h1, hI _ hj, h2⟩⟩
theorem toP_rep {x : AV} {p : PV} {u : Value} (h : toP x = some p) (hx : ARep M x u) : PRep M.w M.I p u := by
 unfold toP at h
 split at h
 ·simp at h; subst h; simpa only [ARep] using hx
 ·simp at h; subst h
  simp only [ARep] at hx
  obtain ⟨b, cap, n, h1, h2, _, h3, _⟩ := hx
  simp only [PRep]
  exact .inr ⟨b, 0, cap, h1, h2, h3⟩
 ·simp at h; subst h
  simp only [ARep] at hx
  obtain ⟨n, _, _, ⟨rfl, rfl⟩ | ⟨h0, b, cap, h1, h2, _, h3, _⟩⟩ := hx
  ·simp only [nilSl, List.isEmpty_nil, if_true, PRep]; exact ⟨rfl, trivial⟩
  ·have : (‹List (List PV)›).isEmpty = false := by cases ‹List (List PV)› <;> simp_all
   simp only [nilSl, this, Bool.false_eq_true, if_false, PRep]
   exact .inr ⟨b, 0, cap, h1, h2, h3⟩
 ·simp at h
theorem toPs_get : ∀ {l : List AV} {ps : List PV}, toPs l = some ps → ps.length = l.length ∧ ∀ (i : Nat) (x : PV), ps[i]? = some x → ∃ y, l[i]? = some y ∧ toP y = some x
 | [], ps, h => by simp [toPs] at h; subst h; simp
 | y :: l, ps, h => by
   simp only [toPs] at h
   split at h
   ·rename_i x xs hx hxs
    simp at h; subst h
    obtain ⟨h1, h2⟩ := toPs_get hxs
    refine ⟨by simp [h1], fun i z hz => ?_⟩
    cases i with
    | zero => simp at hz; subst hz; exact ⟨y, rfl, hx⟩
    | succ i => simpa using h2 i z (by simpa using hz)
   ·simp at h
theorem toPss_get : ∀ {l : List (List AV)} {ps : List (List PV)}, toPss l = some ps → ps.length = l.length ∧ ∀ (i : Nat) (x : List PV), ps[i]? = some x → ∃ y, l[i]? = some y ∧ toPs y = some x
 | [], ps, h => by simp [toPss] at h; subst h; simp
 | y :: l, ps, h => by
   simp only [toPss] at h
   split at h
   ·rename_i x xs hx hxs
    simp at h; subst h
    obtain ⟨h1, h2⟩ := toPss_get hxs
    refine ⟨by simp [h1], fun i z hz => ?_⟩
    cases i with
    | zero => simp at hz; subst hz; exact ⟨y, rfl, hx⟩
    | succ i => simpa using h2 i z (by simpa using hz)
   ·simp at h
theorem flatten_set : ∀ (rows : List (List AV)) (k es : Nat) (m : List AV), (∀ c ∈ rows, c.length = es) → m.length = es → k < rows.length → (rows.set k m).flatten = rows.flatten.take (k * es) ++ m ++ rows.flatten.drop (k * es + m.length)
 | [], k, es, m, h, hm, hk => by simp at hk
 | c :: rows, 0, es, m, h, hm, hk => by
   have hc := h c (by simp)
   simp [hm, ← hc]
 | c :: rows, k + 1, es, m, h, hm, hk => by
   have hc := h c (by simp)
   have ih := flatten_set rows k es m (fun x hx => h x (by simp [hx])) hm (by simpa using hk)
   simp only [List.set_cons_succ, List.flatten_cons, ih]
   rw [show (k + 1) * es = c.length + k * es by rw [Nat.succ_mul, hc]; omega, List.take_length_add_append, Nat.add_assoc, List.drop_length_add_append]
   simp
theorem flatten_len : ∀ (rows : List (List AV)) (es : Nat), (∀ c ∈ rows, c.length = es) → rows.flatten.length = rows.length * es
 | [], es, h => by simp
 | c :: rows, es, h => by
   simp only [List.flatten_cons, List.length_append, flatten_len rows es (fun x hx => h x (by simp [hx])), h c (by simp), List.length_cons, Nat.succ_mul]; omega
theorem flatten_get : ∀ (rows : List (List AV)) (es : Nat), (∀ c ∈ rows, c.length = es) → ∀ (i q : Nat) (c : List AV) (x : AV), rows[i]? = some c → c[q]? = some x → rows.flatten[i * es + q]? = some x
 | [], es, h, i, q, c, x, hc, hx => by simp at hc
 | d :: rows, es, h, i, q, c, x, hc, hx => by
   have hd := h d (by simp)
   cases i with
   | zero =>
     simp at hc; subst hc
     have := (List.getElem?_eq_some_iff.1 hx).1
     simp only [List.flatten_cons, Nat.zero_mul, Nat.zero_add]
     rw [List.getElem?_append_left this]; exact hx
   | succ i =>
     simp at hc
     have ih := flatten_get rows es (fun x hx => h x (by simp [hx])) i q c x hc hx
     simp only [List.flatten_cons]
     rw [List.getElem?_append_right (by rw [Nat.succ_mul, hd]; omega), show (i + 1) * es + q - d.length = i * es + q by rw [Nat.succ_mul, hd]; omega]
     exact ih
theorem fillS_rep {es : Nat} : ∀ (ps : List (Nat × AV)) (qs : List (Nat × Value)) (rows : List (List AV)) (us : List Value) (rows' : List (List AV)), (∀ c ∈ rows, c.length = es) → ARepL M rows.flatten us → rows.flatten.all leaf = true → qs.map (·.1) = ps.map (·.1) → ARepL M (ps.map (·.2)) (qs.map (·.2)) → fillS es rows ps = some rows' →
 ∃ us', Instr.fill (fun i => some (i * es, es)) us.toArray qs = some us'.toArray ∧ (∀ c ∈ rows', c.length = es) ∧ rows'.length = rows.length ∧ ARepL M rows'.flatten us' ∧ rows'.flatten.all leaf = true
 | [], qs, rows, us, rows', he, h, hl, h1, h2, h3 => by
   simp at h1; subst h1
   simp [fillS] at h3; subst h3
   exact ⟨us, rfl, he, rfl, h, hl⟩
 | (k, x) :: ps, qs, rows, us, rows', he, h, hl, h1, h2, h3 => by
   cases qs with
   | nil => simp at h1
   | cons q qs =>
     obtain ⟨k', u⟩ := q
     simp at h1
     obtain ⟨rfl, h1⟩ := h1
     simp only [List.map_cons, ARepL] at h2
     obtain ⟨u', us1, e, hx, h2⟩ := h2
     simp only [List.cons.injEq] at e
     obtain ⟨rfl, rfl⟩ := e
     simp only [fillS] at h3
     split at h3
     ·rename_i m hm
      split at h3
      ·rename_i hc
       obtain ⟨hml, vs, hv1, hv2⟩ := cells_rep hm hx
       have hvl := hv2.len
       have hul := h.len
       have hfl := flatten_len rows es he
       have hb : k' * es + m.length ≤ rows.flatten.length := by
        have : (k' + 1) * es ≤ rows.length * es := Nat.mul_le_mul_right _ hc.2
        rw [Nat.succ_mul] at this; omega
       have hset := flatten_set rows k' es m he hc.1 hc.2
       rw [← splice_eq hb] at hset
       obtain ⟨us', h4, h5, h5', h6, h7⟩ := fillS_rep ps qs (rows.set k' m) _ rows' (fun c hc' => by
        rcases List.mem_or_eq_of_mem_set hc' with hc' | rfl
        ·exact he c hc'
        ·exact hc.1) (by rw [hset]; exact h.splice hv2 hb) (by rw [hset]; exact splice_leaf hl hml hb) h1 h2 h3
       refine ⟨us', ?_, h5, by simpa using h5', h6, h7⟩
       rw [Instr.fill]
       simp only [hv1, List.size_toArray]
       rw [if_neg (by simp; omega), fold_splice (k' * es) vs us (by omega)]
       exact h4
      ·simp at h3
     ·simp at h3
theorem replicate_zero {ez : List Value} (hp : ez.all plain = true) (n : Nat) (hz : 0 < ez.length) : ARepL M (List.replicate n (zeroA ez)).flatten ((Array.range (n * ez.length)).map (ez.toArray[· % ez.length]!)).toList := by
 have hlen : ∀ c ∈ List.replicate n (zeroA ez), c.length = ez.length := fun c hc => by rw [List.eq_of_mem_replicate hc]; simp [zeroA]
 refine ARepL_iff.2 ⟨by rw [flatten_len _ _ hlen]; simp, fun j x u hx hu => ?_⟩
 have hj : j < n * ez.length := by simpa using (List.getElem?_eq_some_iff.1 hu).1
 obtain ⟨h1, h2, h3⟩ := div_mod_lt hj
 have hg := flatten_get _ _ hlen (j / ez.length) (j % ez.length) (zeroA ez) (.p (.v (ez[j % ez.length]'h2))) (by simp [h1]) (by simp [zeroA, h2])
 rw [h3, hx] at hg
 simp only [Option.some.injEq] at hg; subst hg
 simp [hj, h2] at hu; subst hu
 exact rep_mk (List.all_eq_true.1 hp _ (List.getElem_mem _))
theorem replicate_leaf (ez : List Value) (n : Nat) : (List.replicate n (zeroA ez)).flatten.all leaf = true := by
 refine List.all_eq_true.2 fun x hx => ?_
 obtain ⟨c, hc, hx⟩ := List.mem_flatten.1 hx
 rw [List.eq_of_mem_replicate hc] at hx
 exact List.all_eq_true.1 (zero_leaf ez) x hx
theorem maxLen_big : 2 ^ 24 ≤ maxLen := by unfold maxLen; omega
theorem does_buildSlice {T : TypeId} {n : Nat} {ps : Array (Nat × Operand)} {fr : List AV} {E es eb tk : Nat} {ez : List Value} {ls : List (List AV)} (hop : o.op = .buildSlice T n ps) (hM : Match M σ) (hF : FRep M a fr) (hC : C.ok P) (hk : C.kind T = some (.slice E es eb ez)) (htk : tk = σ.length)
 (hn : n * es ≤ 2 ^ 24) (h : fillS es (List.replicate n (zeroA ez)) (ps.toList.map fun q => (q.1, evA fr q.2)) = some ls) :
 (∀ pls, toPss ls = some pls → Does P o a M σ (.own tk es pls) (σ.put tk (.right E (n * es)))) ∧ Does P o a M σ (.ms tk es 0 n) (σ.put tk (.row es ls)) := by
 obtain ⟨d, hd, rfl, ii, z, hii, hs, hb, hz, hzc, hp, hel, he0⟩ := kind_und hC hk
 have hrep := replicate_zero (M := M) hp n (by omega)
 rw [hel] at hrep
 obtain ⟨us', h1, h2, h2', h3, h4⟩ := fillS_rep (M := M) _ (ps.toList.map fun q => (q.1, a.eval q.2)) _ _ ls (fun c hc => by rw [List.eq_of_mem_replicate hc]; simp [zeroA, hel]) hrep (replicate_leaf ez n) (by simp) (by
  refine ARepL_iff.2 ⟨by simp, fun j x u hx hu => ?_⟩
  simp only [List.map_map, List.getElem?_map, Option.map_eq_some_iff] at hx hu
  obtain ⟨q, hq, rfl⟩ := hx
  obtain ⟨q', hq', rfl⟩ := hu
  rw [hq] at hq'; simp at hq'; subst hq'
  exact hF.ev q.2) h
 simp only [List.length_replicate] at h2'
 have hzz : z.cells = ez.toArray := by simp [← hzc]
 have hr0 : Array.range 0 = #[] := rfl
 have hrun : (execOp a.eval o).run P M.w = .ok (.value (.slice (some ⟨M.w.heap.size, 0, none⟩) n n)) (M.w.alloc (.cells us'.toArray E)) := by
  have : (Instr.buildSlice T n (ps.map fun q => (q.1, a.eval q.2))).run P M.w = .ok (.slice (some ⟨M.w.heap.size, 0, none⟩) n n) (M.w.alloc (.cells us'.toArray E)) := by
   by_cases h0 : n * es = 0
   ·have hn0 : n = 0 := by rcases Nat.mul_eq_zero.1 h0 with h | h <;> omega
    subst hn0
    have hf : Instr.fill (fun i => some (i * ii.size, ii.size)) #[] (ps.map fun q => (q.1, a.eval q.2)).toList = some us'.toArray := by
     rw [← h1, Array.toList_map, hs]; simp
    rw [Array.toList_map] at hf
    simp [Instr.buildSlice, run_underlying hd, sizeOf, typeInfo, zeroValue, hii, hz, hf, newRow, hr0]
   ·refine run_buildSlice M.w T E n _ us'.toArray ii z hd hii hz (by rw [hs]; omega) (by rw [hs]; exact h0) ?_
    rw [← h1, Array.toList_map, hs, hzz, Array.toArray_toList]
    simp only [List.size_toArray, hel]
  unfold execOp
  simp only [hop, Sem.run_bind, this, Result.andThen_ok]
  rfl
 have hfl := flatten_len ls es h2
 rw [h2'] at hfl
 have hul := h3.len
 have hrow : RowRep M us'.toArray es ls := fun i c hc => ⟨h2 c (List.mem_of_getElem? hc), fun q x hx => by
  have hg := flatten_get ls es h2 i q c x hc hx
  obtain ⟨u, h5, h6⟩ := h3.get hg
  exact ⟨List.all_eq_true.1 h4 x (List.mem_of_getElem? hg), u, by simpa using h5, h6⟩⟩
 constructor
 ·intro pls hpls
  obtain ⟨M', h5, h6, h6', h7, h8, h9, h10⟩ := hM.right us'.toArray E (n * es) (.right E (n * es)) (.inl rfl) (σ.put tk (.right E (n * es))) (.inl ⟨htk, rfl⟩)
  obtain ⟨hpl, hpg⟩ := toPss_get hpls
  refine ⟨_, M', .inl (by rw [h5]; exact hrun), h9, h10, ?_⟩
  simp only [ARep]
  refine ⟨_, n, _, by rw [hpl, h2'], by omega, ?_, PRepR.of_block (by rw [h5]; exact heap_alloc_new _ _) (fun o ho => (h8 o).2 (by rw [hpl, h2'] at ho; exact ho)) (fun i c hc => ?_), h6', by rw [hpl, h2']; exact Nat.le_refl _, fun _ => ⟨h6, by rw [h7]; simp; omega⟩⟩
  ·have h11 := maxLen_big
   have : n * 1 ≤ n * es := Nat.mul_le_mul_left _ he0
   omega
  ·obtain ⟨y, hy, hyc⟩ := hpg i c hc
   obtain ⟨hcl, hcg⟩ := toPs_get hyc
   refine ⟨by rw [hcl]; exact h2 y (List.mem_of_getElem? hy), fun q x hx => ?_⟩
   obtain ⟨y', hy', hx'⟩ := hcg q x hx
   obtain ⟨_, u, h12, h13⟩ := (hrow i y hy).2 q y' hy'
   exact ⟨u, h12, PRep.later h9.imm h9.cell _ _ (toP_rep hx' h13)⟩
 ·obtain ⟨M', h5, h6, h6', h7, h8⟩ := hM.row htk us' E es ls hrow
  refine ⟨_, M', .inl (by rw [h5]; exact hrun), h7, h8, ?_⟩
  simp only [ARep]
  exact ⟨_, n, h6, h6', by simp, Nat.le_refl _⟩
theorem growB_mul {b eb n : Nat} (h : GrowB b eb) (hn : eb * n ≤ 140737488355328) : b * n ≤ 281474976710656 := by
 rcases h with rfl | ⟨h, _⟩
 ·omega
 ·have h1 : 2 * b * n ≤ 3 * eb * n := Nat.mul_le_mul_right _ h
  rw [Nat.mul_assoc, Nat.mul_assoc] at h1
  omega
theorem does_makeSlice {T : TypeId} {l c : Operand} {fr : List AV} {E es eb tk : Nat} {ez : List Value} {k k' : IntKind} {n m : Int} (hop : o.op = .makeSlice T l c) (hM : Match M σ) (hF : FRep M a fr) (hC : C.ok P) (hk : C.kind T = some (.slice E es eb ez)) (htk : tk = σ.length)
 (hl : intA (evA fr l) = some (k, n)) (hc : intA (evA fr c) = some (k', m)) (hnm : n = m) (hn : 0 ≤ n) (hb : eb * n ≤ 140737488355328) (hx : n ≤ maxLen) :
 Does P o a M σ (.own tk es (List.replicate n.toNat (ez.map .v))) (σ.put tk (.right E (n.toNat * es))) := by
 subst hnm
 obtain ⟨d, hd, rfl, ii, z, hii, hs, hbb, hz, hzc, hp, hel, he0⟩ := kind_und hC hk
 obtain ⟨n, rfl⟩ : ∃ q : Nat, n = q := ⟨n.toNat, by omega⟩
 have hv := hF.ev l
 rw [intA_eq hl] at hv
 have e1 := rep_int hv
 have hv := hF.ev c
 rw [intA_eq hc] at hv
 have e2 := rep_int hv
 have hzz : z.cells = ez.toArray := by simp [← hzc]
 have hr0 : Array.range 0 = #[] := rfl
 have hw : IntKind.i64.wrap (n : Int) = n := by
  have : (n : Int) ≤ maxLen := hx
  unfold maxLen at this
  exact IntWalk.i64_in _ (by omega)
 let cur : Array Value := (Array.range (n * es)).map (ez.toArray[· % es]!)
 have hrun : (execOp a.eval o).run P M.w = .ok (.value (.slice (some ⟨M.w.heap.size, 0, none⟩) n n)) (M.w.alloc (.cells cur E)) := by
  have hbig : ¬ ((ii.bytes : Int) * (n : Int) > 2 ^ 48) := by
   have h2 := growB_mul hbb (show eb * n ≤ 140737488355328 by omega)
   omega
  have h0 : ¬ ((n : Int) < 0) := by omega
  have : (Instr.makeSlice T (.int k n) (.int k' n)).run P M.w = .ok (.slice (some ⟨M.w.heap.size, 0, none⟩) n n) (M.w.alloc (.cells cur E)) := by
   simp [Instr.makeSlice, run_underlying hd, asInt, asIntOf, typeInfo, hii, hw, sizeOf, hs, zeroValue, hz, newRow, hzz, hel]
   by_cases h1 : n * es = 0
   ·rw [if_neg (by omega)]
    simp [h1, cur, hr0]
   ·rw [if_neg (by omega)]
    simp [h1, cur]
  unfold execOp
  simp only [hop, e1, e2, Sem.run_bind, this, Result.andThen_ok]
  rfl
 obtain ⟨M', h5, h6, h6', h7, h8, h9, h10⟩ := hM.right (t := tk) cur E (n * es) (.right E (n * es)) (.inl rfl) (σ.put tk (.right E (n * es))) (.inl ⟨htk, rfl⟩)
 refine ⟨_, M', .inl (by rw [h5]; exact hrun), h9, h10, ?_⟩
 simp only [ARep, List.length_replicate, Int.toNat_natCast]
 refine ⟨_, n, _, rfl, Nat.le_refl _, by omega, PRepR.of_block (by rw [h5]; exact heap_alloc_new _ _) (fun o ho => (h8 o).2 (by simpa using ho)) (fun i c hc => ?_), h6', Nat.le_refl _, fun _ => ⟨h6, by rw [h7]; simp [cur]⟩⟩
 have hi : i < n := by simpa using (List.getElem?_eq_some_iff.1 hc).1
 simp [hi] at hc; subst hc
 refine ⟨by simp [hel], fun q x hx => ?_⟩
 have hq : q < ez.length := by simpa using (List.getElem?_eq_some_iff.1 hx).1
 simp [hq] at hx; subst hx
 have hj : i * es + q < n * es := by
  have : (i + 1) * es ≤ n * es := Nat.mul_le_mul_right _ hi
  rw [Nat.succ_mul] at this; omega
 refine ⟨ez[q], ?_, by simp only [PRep]; exact ⟨List.all_eq_true.1 hp _ (List.getElem_mem _), trivial⟩⟩
 have hmod : (i * es + q) % es = q := by rw [Nat.mul_comm, Nat.mul_add_mod, Nat.mod_eq_of_lt (by omega)]
 simp [cur, hj, hmod, hq]
end
end Go.Proofs.YtcnkmandddfdmaaGreat
