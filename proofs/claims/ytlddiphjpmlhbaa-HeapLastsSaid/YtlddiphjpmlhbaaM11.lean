/- What a piece of code comes to on the abstract machine, and that the world does the same. -/
import Derived.Test.YtlddiphjpmlhbaaM10
set_option linter.unusedSimpArgs false
set_option linter.unusedVariables false
set_option linter.defProp false
set_option maxRecDepth 100000
set_option maxHeartbeats 32000000
namespace Go.Proofs.Ytlddiphjpmlhbaa
open Go.RowKit
section
variable {P : Program} {C : Ctx} {o : Oper} {a : Act} {M : View} {σ σ' : St} {r : AV}
def stillOp (C : Ctx) : Op → Bool
 | .move _ | .assign _ | .pick .. | .build .. | .binOp .. | .unOp .. | .fieldAddr .. | .field .. | .indexAddr .. | .index .. | .extract .. | .nilCheck _ | .makeFunc .. | .slice .. => true
 | .convert S T _ => match C.kind S, C.kind T with
   | some (.slice ..), _ => false
   | _, some (.slice ..) => false
   | _, _ => true
 | .call c => match c.callee with
   | .builtin .len | .builtin .min | .builtin .max | .builtin .cap => true
   | _ => false
 | _ => false
theorem aop_still {fr : List AV} {tk : Nat} (hC : C.ok P) (hF : FRep M a fr) (hs : stillOp C o.op = true) (h : aop C tk o.op (evA fr) σ = some (r, σ')) : σ' = σ ∧ DoesS P o a M r := by
 cases hop : o.op
 case move x =>
  simp only [hop, aop, Option.some.injEq, Prod.mk.injEq] at h
  obtain ⟨rfl, rfl⟩ := h
  exact ⟨rfl, does_still (v := a.eval x) (fun w => by unfold execOp; simp [hop]) (hF.ev x)⟩
 case assign x =>
  simp only [hop, aop, Option.some.injEq, Prod.mk.injEq] at h
  obtain ⟨rfl, rfl⟩ := h
  exact ⟨rfl, does_still (v := a.eval x) (fun w => by unfold execOp; simp [hop]) (hF.ev x)⟩
 case pick c x y =>
  simp only [hop, aop] at h
  split at h
  ·rename_i t he
   simp only [Option.some.injEq, Prod.mk.injEq] at h
   obtain ⟨rfl, rfl⟩ := h
   have hv := hF.ev c
   rw [he] at hv
   refine ⟨rfl, does_still (v := if t then a.eval x else a.eval y) ?_ ?_⟩
   ·intro w; unfold execOp; cases t <;> simp [hop, (rep_v hv).2, asBool]
   ·cases t
    ·exact hF.ev y
    ·exact hF.ev x
  ·simp at h
 case build T ps =>
  simp only [hop, aop] at h
  split at h
  ·rename_i ti hti
   split at h
   ·rename_i fs hk
    simp only [Option.map_eq_some_iff, Prod.mk.injEq] at h
    obtain ⟨l, hl, rfl, rfl⟩ := h
    exact ⟨rfl, does_build hop hF (hC.1 T ti hti) hk hl⟩
   ·rename_i n es er hk
    simp only [Option.map_eq_some_iff, Prod.mk.injEq] at h
    obtain ⟨l, hl, rfl, rfl⟩ := h
    exact ⟨rfl, does_array hop hF (hC.1 T ti hti) hk hl⟩
   ·rename_i n hk
    split at h
    ·rename_i hps
     simp only [Option.some.injEq, Prod.mk.injEq] at h
     obtain ⟨rfl, rfl⟩ := h
     exact ⟨rfl, does_zero hop (hC.1 T ti hti) hk hps⟩
    ·simp at h
   ·simp at h
  ·simp at h
 case nilCheck x =>
  simp only [hop, aop] at h
  split at h
  ·rename_i c o' he
   simp only [Option.some.injEq, Prod.mk.injEq] at h
   obtain ⟨rfl, rfl⟩ := h
   rw [← he]; exact ⟨rfl, does_nilCheck hop hF (.inl ⟨_, _, he⟩)⟩
  ·rename_i t e i o' he
   simp only [Option.some.injEq, Prod.mk.injEq] at h
   obtain ⟨rfl, rfl⟩ := h
   rw [← he]; exact ⟨rfl, does_nilCheck hop hF (.inr ⟨_, _, _, _, he⟩)⟩
  ·simp at h
 case binOp op T x y T' =>
  simp only [hop, aop, Option.map_eq_some_iff, Prod.mk.injEq] at h
  obtain ⟨z, hz, rfl, rfl⟩ := h
  exact ⟨rfl, does_binOp hop hF hC hz⟩
 case unOp op T x =>
  simp only [hop, aop, Option.map_eq_some_iff, Prod.mk.injEq] at h
  obtain ⟨z, hz, rfl, rfl⟩ := h
  exact ⟨rfl, does_unOp hop hF hz⟩
 case convert S T x =>
  simp only [hop, aop] at h
  split at h
  ·rename_i z hz
   simp only [Option.some.injEq, Prod.mk.injEq] at h
   obtain ⟨rfl, rfl⟩ := h
   exact ⟨rfl, does_convert hop hF hC hz⟩
  ·split at h
   ·rename_i z hz
    exfalso
    unfold convB at hz
    split at hz
    ·rename_i hks hkt
     simp [hop, stillOp, hks] at hs
    ·simp at hz
   ·exfalso
    unfold convC at h
    cases hk : C.kind S with
    | none => rw [hk] at h; simp at h
    | some kd =>
      rw [hk] at h
      cases kd <;> first | (simp at h; done) | (simp [hop, stillOp, hk] at hs; done)
 case makeFunc f first cap =>
  cases f <;> simp only [hop, aop] at h <;> try (simp at h; done)
  simp only [Option.some.injEq, Prod.mk.injEq] at h
  obtain ⟨rfl, rfl⟩ := h
  exact ⟨rfl, does_makeFunc hop hF⟩
 case slice T x lo hi mx =>
  cases mx <;> simp only [hop, aop] at h <;> try (simp at h; done)
  simp only [Option.map_eq_some_iff, Prod.mk.injEq] at h
  obtain ⟨z, hz, rfl, rfl⟩ := h
  exact ⟨rfl, does_slice hop hF hC hz⟩
 case fieldAddr T x k =>
  simp only [hop, aop] at h
  split at h
  ·rename_i fs hk
   split at h
   ·rename_i off s rr t e i o' hf he
    simp only [Option.some.injEq, Prod.mk.injEq] at h
    obtain ⟨rfl, rfl⟩ := h
    exact ⟨rfl, does_fieldAddr hop hF hC hk hf (.inl ⟨_, _, _, _, he, rfl⟩)⟩
   ·rename_i off s rr c o' hf he
    simp only [Option.some.injEq, Prod.mk.injEq] at h
    obtain ⟨rfl, rfl⟩ := h
    exact ⟨rfl, does_fieldAddr hop hF hC hk hf (.inr ⟨_, _, he, rfl⟩)⟩
   ·simp at h
  ·simp at h
 case field T x k =>
  simp only [hop, aop] at h
  split at h
  ·rename_i fs l hk he
   split at h
   ·rename_i off s rr hf
    simp only [Option.map_eq_some_iff, Prod.mk.injEq] at h
    obtain ⟨z, hz, rfl, rfl⟩ := h
    exact ⟨rfl, does_field hop hF hC hk hf he hz⟩
   ·simp at h
  ·simp at h
 case indexAddr T x i =>
  simp only [hop, aop] at h
  split at h
  ·rename_i E es eb ez k n hk hi
   split at h
   ·rename_i t e j m he
    split at h
    ·rename_i hh
     simp only [Option.some.injEq, Prod.mk.injEq] at h
     obtain ⟨rfl, rfl⟩ := h
     exact ⟨rfl, does_indexMs hop hF hC hk hi he hh.1 hh.2.1 hh.2.2⟩
    ·simp at h
   ·rename_i t e j q m he
    split at h
    ·rename_i hh
     simp only [Option.some.injEq, Prod.mk.injEq] at h
     obtain ⟨rfl, rfl⟩ := h
     exact ⟨rfl, does_indexBs hop hF hC hk hi he hh.1 hh.2.1 hh.2.2⟩
    ·simp at h
   ·split at h
    ·rename_i e ls hel
     split at h
     ·rename_i hh
      split at h
      ·rename_i c hc
       simp only [Option.some.injEq, Prod.mk.injEq] at h
       obtain ⟨rfl, rfl⟩ := h
       exact ⟨rfl, does_indexSlice hop hF hC hk hi hel hh.1 hh.2 hc⟩
      ·simp at h
     ·simp at h
    ·simp at h
  ·rename_i m k n hk hi
   split at h
   ·rename_i hh
    split at h
    ·rename_i t e j o' he
     simp only [Option.some.injEq, Prod.mk.injEq] at h
     obtain ⟨rfl, rfl⟩ := h
     exact ⟨rfl, does_indexB hop hF hC hk hi hh.1 hh.2 (.inl ⟨_, _, _, _, he, rfl⟩)⟩
    ·rename_i c o' he
     simp only [Option.some.injEq, Prod.mk.injEq] at h
     obtain ⟨rfl, rfl⟩ := h
     exact ⟨rfl, does_indexB hop hF hC hk hi hh.1 hh.2 (.inr ⟨_, _, he, rfl⟩)⟩
    ·simp at h
   ·simp at h
  ·rename_i m es er k n hk hi
   split at h
   ·rename_i hh
    split at h
    ·rename_i t e j o' he
     simp only [Option.some.injEq, Prod.mk.injEq] at h
     obtain ⟨rfl, rfl⟩ := h
     exact ⟨rfl, does_indexArr hop hF hC hk hi hh.1 hh.2 (.inl ⟨_, _, _, _, he, rfl⟩)⟩
    ·rename_i c o' he
     simp only [Option.some.injEq, Prod.mk.injEq] at h
     obtain ⟨rfl, rfl⟩ := h
     exact ⟨rfl, does_indexArr hop hF hC hk hi hh.1 hh.2 (.inr ⟨_, _, he, rfl⟩)⟩
    ·simp at h
   ·simp at h
  ·simp at h
 case index T x i =>
  simp only [hop, aop] at h
  split at h
  ·rename_i s k n hk he hi
   split at h
   ·rename_i hn
    split at h
    ·rename_i c hc
     simp only [Option.some.injEq, Prod.mk.injEq] at h
     obtain ⟨rfl, rfl⟩ := h
     exact ⟨rfl, does_indexStr hop hF hC hk he hi hn hc⟩
    ·simp at h
   ·simp at h
  ·rename_i m es er l k n hk he hi
   split at h
   ·rename_i hh
    simp only [Option.map_eq_some_iff, Prod.mk.injEq] at h
    obtain ⟨z, hz, rfl, rfl⟩ := h
    exact ⟨rfl, does_indexAgg hop hF hC hk he hi hh.1 hh.2 hz⟩
   ·simp at h
  ·simp at h
 case extract x k =>
  simp only [hop, aop] at h
  split at h
  ·rename_i l he
   split at h
   ·rename_i z hz
    simp only [Option.some.injEq, Prod.mk.injEq] at h
    obtain ⟨rfl, rfl⟩ := h
    exact ⟨rfl, does_extract hop hF he hz⟩
   ·simp at h
  ·simp at h
 case call c =>
  simp only [hop, aop] at h
  split at h
  ·rename_i b hb
   obtain ⟨callee, args, argTypes⟩ := c
   simp only at hb h
   subst hb
   unfold builtinA at h
   split at h
   ·rename_i T T' x y hts hxs
    split at h
    ·rename_i e; subst e
     obtain ⟨x', y', hargs, rfl, rfl⟩ : ∃ x' y', args.toList = [x', y'] ∧ evA fr x' = x ∧ evA fr y' = y := by
      match hl : args.toList, hxs with
      | [x', y'], hxs => simp at hxs; exact ⟨x', y', rfl, hxs.1, hxs.2⟩
     have h1 : args = #[x', y'] := by rw [← Array.toArray_toList (xs := args), hargs]
     have h2 : argTypes = #[T, T] := by rw [← Array.toArray_toList (xs := argTypes), hts]
     subst h1 h2
     rw [hop] at hs; simp [stillOp] at hs
    ·rw [hop] at hs; simp [stillOp] at hs
   ·rename_i T x hts hxs
    obtain ⟨x', hargs, rfl⟩ : ∃ x', args.toList = [x'] ∧ evA fr x' = x := by
     match hl : args.toList, hxs with
     | [x'], hxs => simp at hxs; exact ⟨x', rfl, hxs⟩
    have h1 : args = #[x'] := by rw [← Array.toArray_toList (xs := args), hargs]
    have h2 : argTypes = #[T] := by rw [← Array.toArray_toList (xs := argTypes), hts]
    subst h1 h2
    simp only [Option.map_eq_some_iff, Prod.mk.injEq] at h
    obtain ⟨n, hn, rfl, rfl⟩ := h
    unfold lenA at hn
    split at hn
    ·rename_i s hk he
     try simp only [Option.some.injEq] at hn
     exact ⟨rfl, does_len hop hF hC (.inl ⟨hk, _, he, hn.symm⟩)⟩
    ·rename_i _ _ E es eb ez hk
     split at hn
     ·rename_i e ls hel
      try simp only [Option.some.injEq] at hn
      exact ⟨rfl, does_len hop hF hC (.inr ⟨⟨_, _, _, _, hk⟩, .inl ⟨_, _, hel, hn.symm⟩⟩)⟩
     ·split at hn
      ·rename_i he2
       try simp only [Option.some.injEq] at hn
       exact ⟨rfl, does_len hop hF hC (.inr ⟨⟨_, _, _, _, hk⟩, .inr (.inl ⟨he2, hn.symm⟩)⟩)⟩
      ·rename_i t e i n' he2
       try simp only [Option.some.injEq] at hn
       subst hn
       exact ⟨rfl, does_len hop hF hC (.inr ⟨⟨_, _, _, _, hk⟩, .inr (.inr (.inl ⟨_, _, _, he2⟩))⟩)⟩
      ·rename_i t e i q n' he2
       try simp only [Option.some.injEq] at hn
       subst hn
       exact ⟨rfl, does_len hop hF hC (.inr ⟨⟨_, _, _, _, hk⟩, .inr (.inr (.inr ⟨_, _, _, _, he2⟩))⟩)⟩
      ·simp at hn
    ·simp at hn
   ·rename_i T x hts hxs
    obtain ⟨x', hargs, rfl⟩ : ∃ x', args.toList = [x'] ∧ evA fr x' = x := by
     match hl : args.toList, hxs with
     | [x'], hxs => simp at hxs; exact ⟨x', rfl, hxs⟩
    have h1 : args = #[x'] := by rw [← Array.toArray_toList (xs := args), hargs]
    have h2 : argTypes = #[T] := by rw [← Array.toArray_toList (xs := argTypes), hts]
    subst h1 h2
    split at h
    ·rename_i hk he
     simp only [Option.some.injEq, Prod.mk.injEq] at h
     obtain ⟨rfl, rfl⟩ := h
     obtain ⟨d, hd, rfl, _⟩ := kind_und hC hk
     have e1 := hF.ev x'
     rw [he] at e1
     refine ⟨rfl, does_still (v := .int .i64 0) ?_ (rep_mk rfl)⟩
     intro w
     unfold execOp
     simp [hop, resolve, invoke, builtin, Builtin.cap_, run_underlying hd, (rep_v e1).2, goInt]
    ·simp at h
   all_goals try (simp at h; done)
   all_goals
    rename_i x y hxs
    obtain ⟨x', y', hargs, rfl, rfl⟩ : ∃ x' y', args.toList = [x', y'] ∧ evA fr x' = x ∧ evA fr y' = y := by
     match hl : args.toList, hxs with
     | [x', y'], hxs => simp at hxs; exact ⟨x', y', rfl, hxs.1, hxs.2⟩
    have h1 : args = #[x', y'] := by rw [← Array.toArray_toList (xs := args), hargs]
    subst h1
    split at h
    ·rename_i k n k' m hx hy
     simp only [Option.some.injEq, Prod.mk.injEq] at h
     obtain ⟨rfl, rfl⟩ := h
     have e1 := hF.ev x'
     rw [intA_eq hx] at e1
     have e2 := hF.ev y'
     rw [intA_eq hy] at e2
     refine ⟨rfl, does_still ?_ (rep_mk rfl)⟩
     intro w
     unfold execOp
     simp [hop, resolve, invoke, builtin, Builtin.min_, Builtin.max_, Builtin.min2, Builtin.max2, rep_int e1, rep_int e2]
    ·simp at h
  ·simp at h
 all_goals (rw [hop] at hs; simp [stillOp] at hs)
theorem aop_does {fr : List AV} {tk : Nat} (hC : C.ok P) (hM : Match M σ) (hF : FRep M a fr) (htk : tk = σ.length) (h : aop C tk o.op (evA fr) σ = some (r, σ')) : Does P o a M σ r σ' := by
 by_cases hs : stillOp C o.op = true
 ·obtain ⟨rfl, h1⟩ := aop_still hC hF hs h
  exact h1.does hM
 cases hop : o.op
 case alloc T =>
  simp only [hop, aop, Option.map_eq_some_iff, Prod.mk.injEq] at h
  obtain ⟨ti, hti, rfl, rfl⟩ := h
  exact does_alloc hop hM htk (hC.1 T ti hti)
 case box T x =>
  simp only [hop, aop] at h
  split at h
  ·rename_i ti l hti hl
   split at h
   ·rename_i hs
    simp only [Option.some.injEq, Prod.mk.injEq] at h
    obtain ⟨rfl, rfl⟩ := h
    exact does_box hop hM hF htk hl hs
   ·simp at h
  ·simp at h
 case buildSlice T n ps =>
  simp only [hop, aop] at h
  split at h
  ·rename_i E es eb ez hk
   split at h
   ·rename_i hn
    split at h
    ·rename_i ls hls
     have := does_buildSlice hop hM hF hC hk htk hn hls
     split at h
     ·rename_i pls hpls
      simp only [Option.some.injEq, Prod.mk.injEq] at h
      obtain ⟨rfl, rfl⟩ := h
      exact this.1 pls hpls
     ·simp only [Option.some.injEq, Prod.mk.injEq] at h
      obtain ⟨rfl, rfl⟩ := h
      exact this.2
    ·simp at h
   ·simp at h
  ·simp at h
 case load T x =>
  simp only [hop, aop] at h
  split at h
  ·rename_i ti hti
   simp only [Option.map_eq_some_iff, Prod.mk.injEq] at h
   obtain ⟨y, hy, rfl, rfl⟩ := h
   exact does_load hop hM hF (hC.1 T ti hti) hy
  ·simp at h
 case store T x y =>
  simp only [hop, aop] at h
  split at h
  ·rename_i ti hti
   simp only [Option.map_eq_some_iff, Prod.mk.injEq] at h
   obtain ⟨s, hs, rfl, rfl⟩ := h
   exact does_store hop hM hF (hC.1 T ti hti) hs
  ·simp at h
 case makeSlice T l c =>
  simp only [hop, aop] at h
  split at h
  ·rename_i E es eb ez k n k' m hk hl hc
   split at h
   ·rename_i hh
    simp only [Option.some.injEq, Prod.mk.injEq] at h
    obtain ⟨rfl, rfl⟩ := h
    exact does_makeSlice hop hM hF hC hk htk hl hc hh.1 hh.2.1 hh.2.2.1 hh.2.2.2
   ·simp at h
  ·simp at h
 case makeMap T rv =>
  cases rv with
  | some y => simp [hop, aop] at h
  | none =>
    simp only [hop, aop] at h
    split at h
    ·simp only [Option.some.injEq, Prod.mk.injEq] at h
     obtain ⟨rfl, rfl⟩ := h
     exact does_makeMap hop hM htk
    ·simp at h
 case lookup T x ix ok =>
  simp only [hop, aop] at h
  split at h
  ·rename_i kd z kv t hk hi hx
   split at h
   ·rename_i es ht
    simp only [Option.map_eq_some_iff, Prod.mk.injEq] at h
    obtain ⟨y, hy, rfl, rfl⟩ := h
    exact does_lookup hop hM hF hC hk hi (.inl ⟨t, es, hx, ht, hy⟩)
   ·simp at h
  ·rename_i kd z kv hk hi hx
   simp only [Option.map_eq_some_iff, Prod.mk.injEq] at h
   obtain ⟨y, hy, rfl, rfl⟩ := h
   exact does_lookup hop hM hF hC hk hi (.inr ⟨hx, hy⟩)
  ·simp at h
 case mapUpdate T m k x =>
  simp only [hop, aop] at h
  split at h
  ·rename_i kd z kv t hk hi hx
   split at h
   ·rename_i es ht
    simp only [Option.map_eq_some_iff, Prod.mk.injEq] at h
    obtain ⟨y, hy, rfl, rfl⟩ := h
    exact does_mapUpdate hop hM hF hC hk hi hx ht hy
   ·simp at h
  ·simp at h
 case call c =>
  simp only [hop, aop] at h
  split at h
  ·rename_i b hb
   obtain ⟨callee, args, argTypes⟩ := c
   simp only at hb h
   subst hb
   unfold builtinA at h
   split at h
   ·rename_i T T' x y hts hxs
    split at h
    ·rename_i e; subst e
     obtain ⟨x', y', hargs, rfl, rfl⟩ : ∃ x' y', args.toList = [x', y'] ∧ evA fr x' = x ∧ evA fr y' = y := by
      match hl : args.toList, hxs with
      | [x', y'], hxs => simp at hxs; exact ⟨x', y', rfl, hxs.1, hxs.2⟩
     have h1 : args = #[x', y'] := by rw [← Array.toArray_toList (xs := args), hargs]
     have h2 : argTypes = #[T, T] := by rw [← Array.toArray_toList (xs := argTypes), hts]
     subst h1 h2
     exact does_append hop hM hF hC htk h
    ·obtain ⟨x', y', hargs, rfl, rfl⟩ : ∃ x' y', args.toList = [x', y'] ∧ evA fr x' = x ∧ evA fr y' = y := by
      match hl : args.toList, hxs with
      | [x', y'], hxs => simp at hxs; exact ⟨x', y', rfl, hxs.1, hxs.2⟩
     have h1 : args = #[x', y'] := by rw [← Array.toArray_toList (xs := args), hargs]
     have h2 : argTypes = #[T, T'] := by rw [← Array.toArray_toList (xs := argTypes), hts]
     subst h1 h2
     exact does_appendS hop hM hF hC htk h
   all_goals first | (simp at h; done) | (simp [hop, stillOp] at hs; done)
  ·simp at h
 case convert S T x =>
  simp only [hop, aop] at h
  split at h
  ·rename_i z hz
   simp only [Option.some.injEq, Prod.mk.injEq] at h
   obtain ⟨rfl, rfl⟩ := h
   exact (does_convert hop hF hC hz).does hM
  ·split at h
   ·rename_i z hz
    simp only [Option.some.injEq, Prod.mk.injEq] at h
    obtain ⟨rfl, rfl⟩ := h
    exact does_convB hop hM hF hC hz
   ·exact does_convC hop hM hF hC h
 all_goals first | (rw [hop] at hs; simp [stillOp] at hs; done) | (rw [hop] at h; simp [aop] at h; done)
end
end Go.Proofs.Ytlddiphjpmlhbaa
