/- Maps, as a world bears them. -/
import Derived.Test.YtockimhceppkbaaGreatM06
import Derived.MapKept
set_option linter.unusedSimpArgs false
set_option linter.unusedVariables false
set_option linter.defProp false
set_option maxRecDepth 100000
set_option maxHeartbeats 32000000
namespace Go.Proofs.YtockimhceppkbaaGreat
open Go.RowKit Go.MapKept
section
variable {P : Program} {C : Ctx} {o : Oper} {a : Act} {M : View} {σ σ' : St} {r : AV}
theorem keyOk_is {kd : TypeDesc} {k : Value} (h : keyOk kd k = true) : IsKey kd k := by
 unfold keyOk at h
 split at h
 ·simp [IsKey]
 ·simp only [decide_eq_true_eq] at h; subst h; simp [IsKey]
 ·simp at h
theorem findMK_now {kd : TypeDesc} {k : Value} {M : View} : ∀ (es : List (Value × AV)) (cur : List MapEntry) (i : Nat) (f : Option (Nat × AV)), cur.length = es.length → (∀ (j : Nat) (q : Value × AV), es[j]? = some q → ∃ e, cur[j]? = some e ∧ e.key = q.1 ∧ ARep M q.2 e.val) → findMK kd k es i = some f →
    match f with
    | none => Instr.findNow kd k cur i = some none
    | some (j, x) => ∃ e, i ≤ j ∧ cur[j - i]? = some e ∧ Instr.findNow kd k cur i = some (some (j, e.val)) ∧ Instr.sameNow kd k e.key = some true ∧ ARep M x e.val
  | [], cur, i, f, hl, _, h => by
    have : cur = [] := List.length_eq_zero_iff.1 (by simpa using hl)
    subst this
    simp only [findMK, Option.some.injEq] at h
    subst h
    rfl
  | q :: es, cur, i, f, hl, hr, h => by
    match cur, hl with
    | e :: cur, hl =>
      obtain ⟨e', h1, h2, h3⟩ := hr 0 q rfl
      simp only [List.getElem?_cons_zero, Option.some.injEq] at h1
      subst h1
      simp only [findMK, ← h2] at h
      simp only [Instr.findNow]
      split at h
      · rename_i hs
        simp only [Option.some.injEq] at h
        subst h
        exact ⟨e, Nat.le_refl _, by simp, by rw [hs], hs, h3⟩
      · rename_i hs
        have ih := findMK_now es cur (i + 1) f (by simpa using hl) (fun j q' hj => by have := hr (j + 1) q' (by simpa using hj); simpa using this) h
        rw [hs]
        match f, ih with
        | none, ih => exact ih
        | some (j, x), ⟨e2, g1, g2, g3, g4, g5⟩ =>
          refine ⟨e2, by omega, ?_, g3, g4, g5⟩
          have : j - i = (j - (i + 1)) + 1 := by omega
          rw [this, List.getElem?_cons_succ]; exact g2
      · simp at h
theorem zAV_rep {z : Value} {x : AV} (h : zAV z = some x) : ARep M x z := by
 unfold zAV at h
 split at h
 ·rename_i us
  split at h
  ·rename_i hp
   simp only [Option.some.injEq] at h
   subst h
   simp only [ARep]
   exact ⟨zero_leaf _, us.toList, by simp, zero_rep hp⟩
  ·simp at h
 ·split at h
  ·rename_i hp
   simp only [Option.some.injEq] at h
   subst h
   exact rep_mk hp
  ·simp at h
theorem run_zero {E : TypeId} {i : TypeInfo} {z : Value} {w : World} (hi : P.info? E = some i) (hz : i.zero = some z) : (zeroValue E).run P w = .ok z w := by
 simp [zeroValue, typeInfo, hi, hz, Result.andThen]
theorem run_look {T K E : TypeId} {kd : TypeDesc} {i : TypeInfo} {z k x : Value} {w : World} {ok : Bool} {es : List (Value × AV)} {cur : Array MapEntry} {r : AV} (hd : P.underlying T = some (.map K E)) (hK : P.underlying K = some kd) (hi : P.info? E = some i) (hz : i.zero = some z)
 (hx : (x = .map none ∧ cur = #[]) ∨ ∃ b clock, x = .map (some b) ∧ w.heap[b]? = some (.map cur clock)) (hr : MapRep M cur es) (h : lookA kd z k ok es = some r) :
 ∃ v, (Instr.lookup T x k ok).run P w = .ok v w ∧ ARep M r v := by
 unfold lookA at h
 split at h
 case isFalse => simp at h
 rename_i hk
 have hkey := keyOk_is hk
 have hfun : ∀ (a : Option (Nat × Value)), Instr.findNow kd k cur.toList 0 = some a → (Instr.lookup T x k ok).run P w = .ok (match a with
  | some (_, v) => if ok = true then .tuple #[v, .bool true] else v
  | none => if ok = true then .tuple #[z, .bool false] else z) w := fun a ha => by
  have h1 := run_checkKey (P := P) (w := w) hK hkey cur.isEmpty 9999
  have h2 := run_findKey (P := P) (w := w) hK ha
  have h3 := run_zero (P := P) (w := w) hi hz
  rcases hx with ⟨rfl, rfl⟩ | ⟨b, clock, rfl, hb⟩
  ·simp only [Instr.lookup, Sem.run_bind, run_underlying hd, Result.andThen, Sem.run_pure, h1, h2]
   cases a with
   | none => cases ok <;> simp [h3, Result.andThen]
   | some q => cases ok <;> simp [Result.andThen]
  ·have h0 := Go.MapKept.run_getObj_map (P := P) hb
   simp only [Instr.lookup, Sem.run_bind, run_underlying hd, Result.andThen, Sem.run_pure, h0, h1, h2]
   cases a with
   | none => cases ok <;> simp [h3, Result.andThen]
   | some q => cases ok <;> simp [Result.andThen]
 split at h
 ·rename_i j x' hf
  simp only [Option.some.injEq] at h
  have := findMK_now (M := M) es cur.toList 0 _ (by simpa using hr.1) (fun j q hj => by obtain ⟨e, g1, g2⟩ := hr.2 j q hj; exact ⟨e, by simpa using g1, g2⟩) hf
  obtain ⟨e, _, _, g3, _, g5⟩ := this
  refine ⟨_, hfun _ g3, ?_⟩
  subst h
  cases ok
  ·simpa using g5
  ·simp only [if_true, ARep, ARepL]
   exact ⟨_, rfl, _, _, rfl, g5, _, _, rfl, by simp [boolV, ARep, PRep, plain], rfl⟩
 ·rename_i hf
  simp only [Option.map_eq_some_iff] at h
  obtain ⟨a0, hz0, rfl⟩ := h
  have := findMK_now (M := M) es cur.toList 0 _ (by simpa using hr.1) (fun j q hj => by obtain ⟨e, g1, g2⟩ := hr.2 j q hj; exact ⟨e, by simpa using g1, g2⟩) hf
  refine ⟨_, hfun _ this, ?_⟩
  have hza := zAV_rep (M := M) hz0
  cases ok
  ·simpa using hza
  ·simp only [if_true, ARep, ARepL]
   exact ⟨_, rfl, _, _, rfl, hza, _, _, rfl, by simp [boolV, ARep, PRep, plain], rfl⟩
 ·simp at h
theorem sameNow_eq {kd : TypeDesc} {k q : Value} (hk : IsKey kd k) (h : Instr.sameNow kd k q = some true) : q = k := by
 cases kd <;> cases k <;> cases q <;> simp_all [IsKey, Instr.sameNow, bytes_beq]
theorem does_makeMap {T : TypeId} {tk : Nat} (hop : o.op = .makeMap T none) (hM : Match M σ) (htk : tk = σ.length) : Does P o a M σ (.mmap tk) (σ.put tk (.map [])) := by
 obtain ⟨M', h1, h2, h3, h4, h5⟩ := hM.mapNew htk
 have hrun : (execOp a.eval o).run P M.w = .ok (.value (.map (some M.w.heap.size))) (M.w.alloc (.map #[] 0)) := by
  unfold execOp
  simp [hop, Instr.makeMap]
 refine ⟨_, M', .inl (by rw [h1]; exact hrun), h4, h5, ?_⟩
 simp only [ARep]
 exact ⟨_, h2, h3, rfl⟩
theorem does_lookup {T : TypeId} {x ix : Operand} {ok : Bool} {kd : TypeDesc} {z kv : Value} {fr : List AV} (hop : o.op = .lookup T x ix ok) (hM : Match M σ) (hF : FRep M a fr) (hC : C.ok P) (hk : C.kind T = some (.map kd z)) (hi : evA fr ix = .p (.v kv))
 (hx : (∃ t es, evA fr x = .mmap t ∧ σ[t]? = some (some (.map es)) ∧ lookA kd z kv ok es = some r) ∨ (evA fr x = .p (.v (.map none)) ∧ lookA kd z kv ok [] = some r)) : Does P o a M σ r σ := by
 obtain ⟨d, hd, K, E, i, rfl, hK, hE, hz⟩ := kind_und hC hk
 have hv := hF.ev ix
 rw [hi] at hv
 have e1 := (rep_v hv).2
 have hv2 := hF.ev x
 have key : ∃ v, (Instr.lookup T (a.eval x) kv ok).run P M.w = .ok v M.w ∧ ARep M r v := by
  rcases hx with ⟨t, es, hx, ht, h⟩ | ⟨hx, h⟩
  ·rw [hx] at hv2
   simp only [ARep] at hv2
   obtain ⟨b, hb, _, e2⟩ := hv2
   obtain ⟨_, b', cur, clock, hb', hh, _, hr⟩ := hM.obj t _ ht
   have : b' = b := by rw [hb] at hb'; simpa using hb'.symm
   subst this
   rw [e2]
   exact run_look hd hK hE hz (.inr ⟨_, clock, rfl, hh⟩) hr h
  ·rw [hx] at hv2
   have e2 := (rep_v hv2).2
   rw [e2]
   exact run_look hd hK hE hz (.inl ⟨rfl, rfl⟩) ⟨rfl, fun i q hq => by simp at hq⟩ h
 obtain ⟨v, h1, h2⟩ := key
 refine does_stay hM (v := v) ?_ h2
 unfold execOp
 simp [hop, e1, h1]
theorem does_mapUpdate {T : TypeId} {m k x : Operand} {kd : TypeDesc} {z kv : Value} {fr : List AV} {t : Nat} {es es' : List (Value × AV)} (hop : o.op = .mapUpdate T m k x) (hM : Match M σ) (hF : FRep M a fr) (hC : C.ok P) (hk : C.kind T = some (.map kd z)) (hi : evA fr k = .p (.v kv))
 (hm : evA fr m = .mmap t) (ht : σ[t]? = some (some (.map es))) (h : updK kd kv (evA fr x) es = some es') : Does P o a M σ (.tup []) (σ.set t (some (.map es'))) := by
 obtain ⟨d, hd, K, E, i, rfl, hK, hE, hz⟩ := kind_und hC hk
 have hv := hF.ev k
 rw [hi] at hv
 have e1 := (rep_v hv).2
 have hv2 := hF.ev m
 rw [hm] at hv2
 simp only [ARep] at hv2
 obtain ⟨b, hb, _, e2⟩ := hv2
 have hvx := hF.ev x
 obtain ⟨_, b', cur, clock, hb', hh, _, hr⟩ := hM.obj t _ ht
 have : b' = b := by rw [hb] at hb'; simpa using hb'.symm
 subst this
 unfold updK at h
 split at h
 case isFalse => simp at h
 rename_i hkk
 have hkey := keyOk_is hkk
 have hnow := fun f hf => findMK_now (M := M) (kd := kd) (k := kv) es cur.toList 0 f (by simpa using hr.1) (fun j q hj => by obtain ⟨e, g1, g2⟩ := hr.2 j q hj; exact ⟨e, by simpa using g1, g2⟩) hf
 have h1 := fun e => run_checkKey (P := P) (w := M.w) hK hkey e 9999
 have hfin : ∀ (cur' : Array MapEntry) (clock' : Nat), (Instr.mapUpdate T (a.eval m) kv (a.eval x)).run P M.w = .ok () { M.w with heap := M.w.heap.setIfInBounds b' (.map cur' clock') } → MapRep M cur' es' → Does P o a M σ (.tup []) (σ.set t (some (.map es'))) := fun cur' clock' hrun hr' => by
  have hs := Go.MapKept.heap_set (o' := .map cur' clock') hh
  obtain ⟨M', g1, g2, g3⟩ := hM.mapSet (w' := { M.w with heap := M.w.heap.setIfInBounds b' (.map cur' clock') }) (es' := es') ht hb hs.1 hs.2 (by simp) rfl rfl rfl hr'
  refine ⟨undef, M', .inr ⟨rfl, ?_⟩, g2, g3, by simp only [ARep, ARepL]; exact ⟨[], rfl, rfl⟩⟩
  rw [g1]
  unfold execOp
  simp [hop, e1, hrun]
 split at h
 ·rename_i j x' hf
  simp only [Option.some.injEq] at h
  obtain ⟨e, _, q2, q3, q4, _⟩ := hnow _ hf
  have hke := sameNow_eq hkey q4
  have hj : cur[j]? = some e := by simpa using q2
  refine hfin (cur.modify j fun e => { e with key := kv, val := a.eval x }) clock ?_ ?_
  ·have h2 := run_findKey (P := P) (w := M.w) hK q3
   simp [e2, Instr.mapUpdate, run_underlying hd, Go.MapKept.run_getObj_map hh, h1, h2, hj, hke, run_keyThatStays hkey, Go.MapKept.run_setObj_map _ hh, Result.andThen]
  ·subst h
   refine ⟨by simpa using hr.1, fun i q hq => ?_⟩
   rw [List.getElem?_set] at hq
   rw [Array.getElem?_modify]
   split at hq
   ·rename_i hij
    subst hij
    split at hq
    ·simp only [Option.some.injEq] at hq
     subst hq
     exact ⟨_, by rw [if_pos rfl, hj]; rfl, rfl, hvx⟩
    ·simp at hq
   ·rename_i hij
    rw [if_neg hij]
    exact hr.2 i q hq
 ·rename_i hf
  simp only [Option.some.injEq] at h
  have q3 := hnow _ hf
  refine hfin (cur.push { key := kv, val := a.eval x, born := clock }) (clock + 1) ?_ ?_
  ·have h2 := run_findKey (P := P) (w := M.w) hK q3
   simp [e2, Instr.mapUpdate, run_underlying hd, Go.MapKept.run_getObj_map hh, h1, h2, Go.MapKept.run_setObj_map _ hh, Result.andThen]
  ·subst h
   have hl := hr.1
   refine ⟨by simpa using hr.1, fun i q hq => ?_⟩
   by_cases hi : i < es.length
   ·rw [List.getElem?_append_left hi] at hq
    obtain ⟨e, g1, g2⟩ := hr.2 i q hq
    exact ⟨e, by rw [Array.getElem?_push, if_neg (by omega)]; exact g1, g2⟩
   ·rw [List.getElem?_append_right (by omega)] at hq
    have : i = es.length := by
     by_cases h0 : i - es.length = 0
     ·omega
     ·rw [List.getElem?_eq_none (by simp; omega)] at hq; simp at hq
    subst this
    simp at hq
    subst hq
    exact ⟨_, by rw [Array.getElem?_push, if_pos hl.symm], rfl, hvx⟩
 ·simp at h
end
end Go.Proofs.YtockimhceppkbaaGreat
