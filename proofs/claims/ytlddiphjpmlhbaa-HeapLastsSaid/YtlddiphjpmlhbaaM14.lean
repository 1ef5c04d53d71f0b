/- That the world does what the abstract machine does: code, functions, calls of functions that touch nothing. -/
import Derived.Test.YtlddiphjpmlhbaaM13
set_option linter.unusedSimpArgs false
set_option linter.unusedVariables false
set_option linter.defProp false
set_option maxRecDepth 100000
set_option maxHeartbeats 32000000
namespace Go.Proofs.Ytlddiphjpmlhbaa
open Go.RowKit
theorem wp_loop_of {P : Program} {Q : Exit → Act → World → Prop} {c : Code} {X : Type} (m : X → Nat) (I : X → Act → World → Prop) {x0 : X} {a : Act} {w : World} (h0 : I x0 a w)
 (round : ∀ x a w, I x a w → c.wp P (Exit.then (fun a' w' => ∃ x', m x' < m x ∧ I x' a' w') Q) a w) : (Code.loop c).wp P Q a w := by
 intro b k cs
 have key : ∀ n x a w, m x = n → I x a w → ∃ e a' w', Q e a' w' ∧ Arrives P (lone (b.at a (.code c :: .inLoop c :: k)) cs w) b k cs e a' w' := by
  intro n
  induction n using Nat.strongRecOn with
  | _ n ih =>
    intro x a w hn hI
    obtain ⟨e, a1, w1, hq, harr⟩ := round x a w hI b (.inLoop c :: k) cs
    cases e with
    | normal =>
      obtain ⟨x', hlt, hI'⟩ := hq
      obtain ⟨e2, a2, w2, hq2, harr2⟩ := ih (m x') (hn ▸ hlt) x' a1 w1 rfl hI'
      exact ⟨e2, a2, w2, hq2, .of_steps (Steps.trans harr (.one step_inLoop)) harr2⟩
    | exit id => exact ⟨_, a1, w1, hq, .pass (x := .inLoop c) rfl (fun _ _ => .inl (by simp)) harr⟩
    | goto l => exact ⟨_, a1, w1, hq, .pass (x := .inLoop c) rfl (fun _ _ => .inl (by simp)) harr⟩
    | ret => exact ⟨_, a1, w1, hq, .pass (x := .inLoop c) rfl (fun _ _ => .inl (by simp)) harr⟩
    | panic ch => exact ⟨_, a1, w1, hq, .pass (x := .inLoop c) rfl (fun _ _ => .inl (by simp)) harr⟩
    | outgrown => exact ⟨_, a1, w1, hq, .pass (x := .inLoop c) rfl (fun _ _ => .inl (by simp)) harr⟩
 obtain ⟨e, a', w', hq, harr⟩ := key _ x0 a w rfl h0
 exact ⟨e, a', w', hq, .of_steps (.one step_loop) harr⟩
def DrawOk (P : Program) (draw : Array Oper → List AV → St → (List AV → St → Prop) → Prop) : Prop :=
 ∀ (id : Nat) (ops : Array Oper) (fr : List AV) (σ : St) (K : List AV → St → Prop) (M : View) (a : Act) (Q : Exit → Act → World → Prop), draw ops fr σ K → Match M σ → FRep M a fr →
   (∀ M' a' fr' σ', Ext M σ M' σ' → Match M' σ' → FRep M' a' fr' → σ.length ≤ σ'.length → K fr' σ' → Q .normal a' M'.w) → (Code.region id ops true).wp P Q a M.w
theorem AWp_sound {P : Program} {C : Ctx} {draw : Array Oper → List AV → St → (List AV → St → Prop) → Prop} (hC : C.ok P) (hD : DrawOk P draw) : ∀ (c : Code) (a : Act) (fr : List AV) (M : View) (σ : St) (Q : Exit → Act → World → Prop) (QA : Exit → List AV → St → Prop),
 Match M σ → FRep M a fr → AWp P C draw c fr σ QA → (∀ e M' a' fr' σ', Ext M σ M' σ' → Match M' σ' → FRep M' a' fr' → σ.length ≤ σ'.length → QA e fr' σ' → Q e a' M'.w) → c.wp P Q a M.w
 | .skip, a, fr, M, σ, Q, QA, hM, hF, h, hQ => wp_skip (hQ _ M a fr σ (Ext.refl M σ) hM hF (Nat.le_refl _) h)
 | .exit id, a, fr, M, σ, Q, QA, hM, hF, h, hQ => wp_exit (hQ _ M a fr σ (Ext.refl M σ) hM hF (Nat.le_refl _) h)
 | .ret, a, fr, M, σ, Q, QA, hM, hF, h, hQ => wp_ret (hQ _ M a fr σ (Ext.refl M σ) hM hF (Nat.le_refl _) h)
 | .region id ops false, a, fr, M, σ, Q, QA, hM, hF, h, hQ => wp_region (aOps_sound hC _ a fr M σ hM hF (by rw [List.range_eq_range']; exact aOps_of_list ops.size 0 fr σ (by omega) (by simpa [AWp] using h)) fun M' a' fr' σ' h1 h2 h3 h4 h5 => hQ _ M' a' fr' σ' h1 h2 h3 h4 h5)
 | .region id ops true, a, fr, M, σ, Q, QA, hM, hF, h, hQ => hD id ops fr σ _ M a Q h hM hF fun M' a' fr' σ' h1 h2 h3 h4 h5 => hQ _ M' a' fr' σ' h1 h2 h3 h4 h5
 | .seq x y, a, fr, M, σ, Q, QA, hM, hF, h, hQ => wp_seq (AWp_sound hC hD x a fr M σ _ _ hM hF h fun e M' a' fr' σ' h1 h2 h3 h4 h5 => by
  cases e with
  | normal => exact AWp_sound hC hD y a' fr' M' σ' _ _ h2 h3 h5 fun e M'' a'' fr'' σ'' k1 k2 k3 k4 k5 => hQ e M'' a'' fr'' σ'' (h1.trans k1) k2 k3 (Nat.le_trans h4 k4) k5
  | _ => exact hQ _ M' a' fr' σ' h1 h2 h3 h4 h5)
 | .cond c x y, a, fr, M, σ, Q, QA, hM, hF, h, hQ => by
  simp only [AWp] at h
  split at h
  ·rename_i b hb
   have hv := hF.ev c
   rw [hb] at hv
   exact wp_cond_split (t := b) (rep_v hv).2 (fun e => AWp_sound hC hD x a fr M σ Q QA hM hF (h.1 e) hQ) (fun e => AWp_sound hC hD y a fr M σ Q QA hM hF (h.2 e) hQ)
  ·exact h.elim
 | .block id c, a, fr, M, σ, Q, QA, hM, hF, h, hQ => wp_block (AWp_sound hC hD c a fr M σ _ _ hM hF h fun e M' a' fr' σ' h1 h2 h3 h4 h5 => by
  cases e with
  | exit id' =>
    simp only [Exit.inBlock]
    by_cases hid : id' = id
    ·rw [if_pos hid]; simp only [hid, if_true] at h5; exact hQ _ M' a' fr' σ' h1 h2 h3 h4 h5
    ·rw [if_neg hid]; simp only [hid, if_false] at h5; exact hQ _ M' a' fr' σ' h1 h2 h3 h4 h5
  | _ => exact hQ _ M' a' fr' σ' h1 h2 h3 h4 h5)
 | .loop c, a, fr, M, σ, Q, QA, hM, hF, h, hQ => by
  obtain ⟨X, J, m, x0, Y, KY, hlen, hw, hY, hround⟩ := h
  obtain ⟨M0, e0, h1, h2, h3⟩ := weakE_sound hM (Ext.refl M σ) hM hF hw (Nat.le_refl _) (hlen x0)
  refine wp_loop_of m (fun x a' w' => ∃ M', M'.w = w' ∧ Ext M σ M' (J x).2 ∧ Match M' (J x).2 ∧ FRep M' a' (J x).1) (x0 := x0) ⟨M0, e0, h1, h2, h3⟩ ?_
  rintro x a' w' ⟨M', rfl, k1, k2, k3⟩
  refine AWp_sound hC hD c a' (J x).1 M' (J x).2 _ _ k2 k3 (hround x) fun e M'' a'' fr'' σ'' q1 q2 q3 q4 q5 => ?_
  have hl := Nat.le_trans (hlen x) q4
  cases e with
  | normal =>
    obtain ⟨x', hlt, hw'⟩ := q5
    obtain ⟨M3, e3, g1, g2, g3⟩ := weakE_sound hM (k1.trans q1) q2 q3 hw' hl (hlen x')
    exact ⟨x', hlt, M3, e3, g1, g2, g3⟩
  | _ =>
    obtain ⟨y, hye, hyw, hyl⟩ := q5
    have hl2 : σ.length ≤ (KY y).2.2.length := hyl.elim (Nat.le_trans hl) id
    obtain ⟨M3, e3, g1, g2, g3⟩ := weakE_sound hM (k1.trans q1) q2 q3 hyw hl hl2
    rw [← e3]
    have hqy := hY y
    rw [hye] at hqy
    exact hQ _ M3 a'' _ _ g1 g2 g3 hl2 hqy
 | .rangeFunc _ _ _ _, a, fr, M, σ, Q, QA, hM, hF, h, hQ => by simp [AWp] at h
 | .scope _, a, fr, M, σ, Q, QA, hM, hF, h, hQ => by simp [AWp] at h
 | .label _, a, fr, M, σ, Q, QA, hM, hF, h, hQ => by simp [AWp] at h
 | .goto _, a, fr, M, σ, Q, QA, hM, hF, h, hQ => by simp [AWp] at h
 | .refuse _, a, fr, M, σ, Q, QA, hM, hF, h, hQ => by simp [AWp] at h
def resV (C : Ctx) (fr : List AV) (σ : St) : ResultVar → Option AV
 | .tmp t => some (fr.getD t (.tup []))
 | .cell t T => match C.ty T with
   | some ti => loadA ti (fr.getD t (.tup [])) σ
   | none => none
def resL (C : Ctx) (fr : List AV) (σ : St) : List ResultVar → Option (List AV)
 | [] => some []
 | r :: rs => match resV C fr σ r, resL C fr σ rs with
   | some x, some xs => some (x :: xs)
   | _, _ => none
def resA (C : Ctx) (rs : List ResultVar) (fr : List AV) (σ : St) : Option AV := match resL C fr σ rs with
 | some [x] => some x
 | some l => some (.tup l)
 | none => none
section
variable {P : Program} {C : Ctx} {M : View} {σ : St} {a : Act} {fr : List AV}
theorem resV_run {rv : ResultVar} {r : AV} (hC : C.ok P) (hM : Match M σ) (hF : FRep M a fr) (h : resV C fr σ rv = some r) :
 ∃ v, (match rv with | .tmp t => pure (a.tmps.getD t undef) | .cell x t => do loadVar t (← asAddr (a.tmps.getD x undef)) : Sem Value).run P M.w = .ok v M.w ∧ ARep M r v := by
 cases rv with
 | tmp t =>
   simp only [resV, Option.some.injEq] at h; subst h
   exact ⟨_, rfl, hF.ev (.tmp t)⟩
 | cell x T =>
   simp only [resV] at h
   split at h
   ·rename_i ti hti
    obtain ⟨v, ad, h1, h2, h3⟩ := loadA_run (hC.1 T ti hti) hM (hF.ev (.tmp x)) h
    refine ⟨v, ?_, h3⟩
    have h1' : a.tmps.getD x undef = .pointer (some ad) := h1
    simp only [h1', asAddr, Sem.run_bind, Sem.run_pure, Result.andThen_ok, h2]
   ·simp at h
theorem resL_run (hC : C.ok P) (hM : Match M σ) (hF : FRep M a fr) : ∀ {rs : List ResultVar} {l : List AV}, resL C fr σ rs = some l →
 ∃ vs, (rs.mapM fun | .tmp t => pure (a.tmps.getD t undef) | .cell x t => do loadVar t (← asAddr (a.tmps.getD x undef)) : Sem (List Value)).run P M.w = .ok vs M.w ∧ ARepL M l vs
 | [], l, h => by
   simp only [resL, Option.some.injEq] at h; subst h
   exact ⟨[], rfl, by simp [ARepL]⟩
 | rv :: rs, l, h => by
   simp only [resL] at h
   split at h
   ·rename_i x xs hx hxs
    simp only [Option.some.injEq] at h; subst h
    obtain ⟨v, h1, h2⟩ := resV_run hC hM hF hx
    obtain ⟨vs, h3, h4⟩ := resL_run hC hM hF hxs
    refine ⟨v :: vs, ?_, by simp only [ARepL]; exact ⟨v, vs, rfl, h2, h4⟩⟩
    rw [List.mapM_cons, Sem.run_bind, h1, Result.andThen_ok, Sem.run_bind, h3]
    rfl
   ·simp at h
theorem resA_run {fn : Func} {r : AV} (hC : C.ok P) (hM : Match M σ) (hF : FRep M a fr) (h : resA C fn.results.toList fr σ = some r) : ∃ v, (results fn a.tmps).run P M.w = .ok v M.w ∧ ARep M r v := by
 unfold resA at h
 have key : ∀ vs : List Value, (fn.results.toList.mapM fun | .tmp t => pure (a.tmps.getD t undef) | .cell x t => do loadVar t (← asAddr (a.tmps.getD x undef)) : Sem (List Value)).run P M.w = .ok vs M.w →
  (results fn a.tmps).run P M.w = .ok (if h : vs.toArray.size = 1 then vs.toArray[0] else .tuple vs.toArray) M.w := fun vs hvs => by
  unfold results
  rw [Sem.run_bind, Array.mapM_eq_mapM_toList, Sem.run_map]
  exact congrArg (fun z : Result (List Value) => (z.andThen fun a w' => Result.ok a.toArray w').andThen fun (a : Array Value) w' => Sem.run P (pure (if h : a.size = 1 then a[0] else Value.tuple a)) w') hvs
 split at h
 ·rename_i x hl
  simp only [Option.some.injEq] at h; subst h
  obtain ⟨vs, h1, h2⟩ := resL_run hC hM hF hl
  simp only [ARepL] at h2
  obtain ⟨u, us', rfl, h3, rfl⟩ := h2
  exact ⟨u, by rw [key _ h1]; simp, h3⟩
 ·rename_i l hne hl
  simp only [Option.some.injEq] at h; subst h
  obtain ⟨vs, h1, h2⟩ := resL_run hC hM hF hl
  have hlen := h2.len
  have : ¬ vs.toArray.size = 1 := fun e => by
   simp at e
   have : l.length = 1 := by omega
   obtain ⟨x, rfl⟩ := List.length_eq_one_iff.1 this
   exact hne x rfl
  exact ⟨.tuple vs.toArray, by rw [key _ h1, dif_neg this], by simp only [ARep]; exact ⟨vs, rfl, h2⟩⟩
 ·simp at h
theorem ACalls_of {draw : Array Oper → List AV → St → (List AV → St → Prop) → Prop} {f : FuncId} {fn : Func} {c : Code} {args : List AV} {R : AV → St → Prop} {nt : Nat} (hC : C.ok P) (hD : DrawOk P draw) (hf : P.funcs[f]? = some fn) (hname : (fn.name == "runtime.NumGoroutine") = false) (hb : fn.body = some c) (hnt : fn.ntmps - args.length = nt)
 (h : AWp P C draw c (args ++ List.replicate nt (.tup [])) σ fun e fr' σ' => (e = .ret ∨ e = .normal) ∧ ∃ r0 r σ'', resA C fn.results.toList fr' σ' = some r0 ∧ WeakE [r0] σ' [r] σ'' ∧ σ.length ≤ σ''.length ∧ R r σ'') : ACalls P f args σ R := by
 subst hnt
 refine ⟨⟨fn, hf, hname, by simp [hb]⟩, fun M vs hM hv => calls_of_wp hf hb ?_⟩
 have hlen := hv.len
 refine AWp_sound hC hD c _ _ M σ _ _ hM ?_ h fun e M' a' fr' σ' h1 h2 h3 h4 h5 => ?_
 ·refine ⟨?_, rfl⟩
  have : (vs.toArray ++ Array.replicate (fn.ntmps - vs.toArray.size) undef).toList = vs ++ List.replicate (fn.ntmps - args.length) undef := by simp [hlen]
  rw [this]
  refine hv.append (ARepL_iff.2 ⟨by simp, fun i x u hx hu => ?_⟩)
  rw [List.getElem?_replicate] at hx hu
  split at hx
  ·simp at hx; subst hx
   rename_i hi
   rw [if_pos hi] at hu; simp at hu; subst hu
   exact undef_rep
  ·simp at hx
 ·obtain ⟨he, r0, r, σ'', g1, g2, g3, g4⟩ := h5
  obtain ⟨v, k1, k2⟩ := resA_run hC h2 h3 g1
  obtain ⟨M'', e2, q1, q2, q3⟩ := weakE_sound hM h1 h2 (a := ⟨#[v], []⟩) ⟨by simp only [ARepL]; exact ⟨v, [], rfl, k2, rfl⟩, rfl⟩ g2 h4 g3
  have hr : ARep M'' r v := by
   have := q3.tmps
   simp only [ARepL] at this
   obtain ⟨u, us', e, hr, _⟩ := this
   simp at e
   rw [e.1]; exact hr
  have : bodyPost P fn (fun e w' => ∃ v r σ' M', e = .returned v ∧ M'.w = w' ∧ Ext M σ M' σ' ∧ Match M' σ' ∧ ARep M' r v ∧ σ.length ≤ σ'.length ∧ R r σ') .ret a' M'.w :=
   ⟨h3.defers, v, k1, v, r, σ'', M'', rfl, e2, q1, q2, hr, g3, g4⟩
  rcases he with rfl | rfl
  ·exact this
  ·exact this
theorem ACalls.pure {f : FuncId} {args : List AV} {R : AV → Prop} (h : ACalls P f args [] fun r σ' => tokLt 0 r = true ∧ R r) (ha : tokLtL 0 args = true) (σ : St) : ACalls P f args σ fun r σ' => σ' = σ ∧ R r := by
 refine ⟨h.1, fun M vs hM hv => ?_⟩
 let M0 : View := { M with mu := fun _ => none, len := fun _ => none }
 have hA : Alike 0 M M0 := ⟨rfl, rfl, fun t ht => by omega, fun t ht => by omega, fun t ht => by omega⟩
 have hM0 : Match M0 [] := ⟨fun t ob ht => by simp [St.at] at ht, fun t t' ob ob' b ht => by simp [St.at] at ht, fun t _ => ⟨rfl, rfl⟩, fun t b hb => by simp [M0] at hb, hM.imm, fun x hx => by
  obtain ⟨cs, T, g1, g2, _⟩ := hM.glob x hx
  exact ⟨cs, T, g1, g2, fun t ob ht => by simp [St.at] at ht⟩⟩
 refine (h.2 M0 vs hM0 (ARepL.alike hA _ _ ha hv)).mono ?_
 rintro e w' ⟨v, r, σ', M1, rfl, rfl, h1, h2, h3, h4, h5, h6⟩
 let M' : View := { w := M1.w, I := M1.I, mu := M.mu, len := M.len, cap := M.cap }
 have hL : Later M M' := ⟨fun _ _ h h' => ⟨h, h', rfl⟩, own_same (fun _ => rfl) (fun _ => rfl) (fun _ => rfl), h1.imm, h1.cell⟩
 have hk : ∀ b, b < M.w.heap.size → M1.w.heap[b]? = M.w.heap[b]? ∧ ∀ o, M1.I b o → M.I b o := fun b hb => h1.keep b hb fun t ob ht => by simp [St.at] at ht
 have hE' : Ext M σ M' σ := ⟨hL.mu, hL.own, hL.imm, hL.cell, fun b hb _ => hk b hb, fun t ob b h7 h8 => .inr ⟨t, ob, h7, h8⟩, h1.size, h1.os, h1.tape, h1.output⟩
 refine ⟨v, r, σ, M', rfl, rfl, hE', ?_, ?_, Nat.le_refl _, rfl, h6⟩
 ·exact ⟨fun t ob ht => (hM.obj t ob ht).later hL rfl rfl rfl fun b hb => hk b (hM.lt t b hb), hM.inj, hM.fresh, fun t b hb => Nat.lt_of_lt_of_le (hM.lt t b hb) h1.size, h2.imm, hM.glob.ext hE'⟩
 ·exact ARep.alike (⟨rfl, rfl, fun t ht => by omega, fun t ht => by omega, fun t ht => by omega⟩ : Alike 0 M1 M') _ _ h5 h3
end
end Go.Proofs.Ytlddiphjpmlhbaa
