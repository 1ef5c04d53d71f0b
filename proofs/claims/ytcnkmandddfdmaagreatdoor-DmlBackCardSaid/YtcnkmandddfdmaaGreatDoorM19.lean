/- Values without objects under other numbers. Objects that name no others: contracts of their methods at any state. -/
import Derived.Test.YtcnkmandddfdmaaGreatDoorM18
import Derived.Test.YtcnkmandddfdmaaGreatDoorM15
import Derived.Test.YtcnkmandddfdmaaGreatDoorM17
set_option linter.unusedSimpArgs false
set_option linter.unusedVariables false
set_option linter.defProp false
set_option maxRecDepth 100000
set_option maxHeartbeats 32000000
namespace Go.Proofs.YtcnkmandddfdmaaGreatDoor
open Go.RowKit
theorem bu_len {C : Ctx} {tk : Nat} {T : TypeId} {x : AV} {σ : St} : builtinA C tk .len [T] [x] σ = (lenA C T x).map fun (n : Nat) => (intV .i64 (n : Int), σ) := nr rfl
mutual
theorem renA_free (g : Nat → Nat) : ∀ (a : AV), tokLt 0 a = true → renA g a = a
 | .any, h => by rfl
 | .p x, h => by rfl
 | .ip c o, h => by rfl
 | .own t e ls, h => by simp [tokLt] at h
 | .nown t e ls, h => by simp [tokLt] at h
 | .mp t e i o, h => by simp [tokLt] at h
 | .ms t e i n, h => by simp [tokLt] at h
 | .mmap t, h => by simp [tokLt] at h
 | .raw t e k, h => by simp [tokLt] at h
 | .fn f us vs, h => by
   simp only [tokLt, Bool.and_eq_true] at h
   simp only [renA, renL_free g us h.1, renL_free g vs h.2]
 | .agg l, h => by
   simp only [tokLt] at h
   simp only [renA, renL_free g l h]
 | .tup l, h => by
   simp only [tokLt] at h
   simp only [renA, renL_free g l h]
theorem renL_free (g : Nat → Nat) : ∀ (l : List AV), tokLtL 0 l = true → renL g l = l
 | [], h => by rfl
 | a :: l, h => by
   simp only [tokLtL, Bool.and_eq_true] at h
   simp only [renL, renA_free g a h.1, renL_free g l h.2]
end
mutual
theorem tokLt_mono (n : Nat) : ∀ (a : AV), tokLt 0 a = true → tokLt n a = true
 | .any, h => by rfl
 | .p x, h => by rfl
 | .ip c o, h => by rfl
 | .own t e ls, h => by simp [tokLt] at h
 | .nown t e ls, h => by simp [tokLt] at h
 | .mp t e i o, h => by simp [tokLt] at h
 | .ms t e i m, h => by simp [tokLt] at h
 | .mmap t, h => by simp [tokLt] at h
 | .raw t e k, h => by simp [tokLt] at h
 | .fn f us vs, h => by
   simp only [tokLt, Bool.and_eq_true] at h ⊢
   exact ⟨tokLtL_mono n us h.1, tokLtL_mono n vs h.2⟩
 | .agg l, h => by
   simp only [tokLt] at h ⊢
   exact tokLtL_mono n l h
 | .tup l, h => by
   simp only [tokLt] at h ⊢
   exact tokLtL_mono n l h
theorem tokLtL_mono (n : Nat) : ∀ (l : List AV), tokLtL 0 l = true → tokLtL n l = true
 | [], h => by rfl
 | a :: l, h => by
   simp only [tokLtL, Bool.and_eq_true] at h ⊢
   exact ⟨tokLt_mono n a h.1, tokLtL_mono n l h.2⟩
end
end Go.Proofs.YtcnkmandddfdmaaGreatDoor
namespace Go.Proofs.YtcnkmandddfdmaaGreatDoor
open Go.RowKit
structure PlainOb (ob : Ob) : Prop where
 ren : ∀ g, renOb g ob = ob
 tok : ∀ n, tokOb n ob = true
 row : ∃ e ls, ob = .row e ls
def OCalls {S : Type} (obj : S → Ob) (f : FuncId) (args : Nat → List AV) (s : S) (R : AV → S → Prop) : Prop :=
 ∀ (σ : St) (t : Nat), σ[t]? = some (some (obj s)) → ACalls Tryz.prog f (args t) σ fun r σ' => ∃ s', R r s' ∧ σ' = σ.set t (some (obj s'))
def OPost {S : Type} (obj : S → Ob) (R : AV → S → Prop) (r : AV) (σ' : St) : Prop := ∃ s', tokLt 0 r = true ∧ R r s' ∧ σ'[0]? = some (some (obj s'))
theorem OCalls.mono {S : Type} {obj : S → Ob} {f : FuncId} {args : Nat → List AV} {s : S} {R R' : AV → S → Prop} (h : OCalls obj f args s R) (hR : ∀ r s, R r s → R' r s) : OCalls obj f args s R' := fun σ t ht =>
 (h σ t ht).mono fun r σ' ⟨s', h1, h2⟩ => ⟨s', hR _ _ h1, h2⟩
theorem OCalls.of {S : Type} {obj : S → Ob} {f : FuncId} {args : Nat → List AV} {s : S} {R : AV → S → Prop} (hp : ∀ s, PlainOb (obj s)) (hr : ∀ t, renL (fun t' => [t].getD t' 0) (args 0) = args t) (ha : tokLtL 1 (args 0) = true)
    (h : ACalls Tryz.prog f (args 0) [some (obj s)] fun r σ' => OPost obj R (frzA r) σ') : OCalls obj f args s R := by
  intro σ t ht
  have h1 := ACalls.frz (R := OPost obj R) h
  have h2 := ACalls.at h1 [t] σ (by simp) rfl (fun t' u hs => by
    cases t' with
    | zero =>
      simp at hs; subst hs
      exact ⟨obj s, rfl, (hp s).tok _, by rw [(hp s).ren]; exact ht⟩
    | succ t' => simp at hs) ha (fun r u ⟨s', h1, h2, h3⟩ => ⟨tokLt_mono _ _ h1, fun t' ob ht' ho => by
        have : t' = 0 := by simp at ht'; omega
        subst this
        unfold St.at at ho
        rw [h3] at ho
        simp at ho; subst ho
        exact (hp s').tok _⟩)
  rw [hr] at h2
  refine h2.mono ?_
  rintro r σ' ⟨r0, σ0, ⟨s', h3, h4, h5⟩, rfl, rfl⟩
  refine ⟨s', by rw [renA_free _ _ h3]; exact h4, ?_⟩
  cases σ0 with
  | nil => simp at h5
  | cons o σ0 =>
    simp at h5; subst h5
    simp [setsS, (hp s').ren]
theorem ret_ob {S : Type} {obj : S → Ob} {C : Ctx} {fr : List AV} (s' : S) {rest : St} {rs : List ResultVar} {R : AV → S → Prop} {r0 : AV} {e : Exit} (r1 : AV) {ob : Ob} (hp : PlainOb (obj s')) (hs : ob = obj s') (h1 : resA C rs fr (some ob :: rest) = some r0) (h2 : leT (some ob :: rest) 1 [some ob] r0 r1) (h3 : tokLt 0 r1 = true) (h4 : frzA r1 = r1) (h5 : R r1 s') (he : e = .ret ∨ e = .normal := by first | exact .inl rfl | exact .inr rfl) :
 retA C rs 1 (fun r σ' => OPost obj R (frzA r) σ') e fr (some ob :: rest) := by
 subst hs
 refine ⟨he, r0, r1, [some (obj s')], h1, .inr ⟨?_, ?_⟩, by simp, s', by rw [h4]; exact h3, by rw [h4]; exact h5, rfl⟩
 ·have : min (some (obj s') :: rest).length [some (obj s')].length = 1 := by simp
  rw [this]; exact ⟨h2, trivial⟩
 ·obtain ⟨e, ls, hr⟩ := hp.row
  have ht := hp.tok 1
  simp only [leS]
  refine ⟨?_, trivial⟩
  rw [hr] at ht ⊢
  simp only [leO]
  refine ⟨trivial, .inl ⟨trivial, ?_⟩⟩
  have : min (some (Ob.row e ls) :: rest).length [some (Ob.row e ls)].length = 1 := by simp
  rw [this]
  exact ht
theorem ret_obI {S : Type} {obj : S → Ob} {C : Ctx} {fr : List AV} {a : AV} {b : S} {rest : St} {rs : List ResultVar} {e : Exit} {ob : Ob} (hp : PlainOb (obj b)) (h : match resA C rs fr (some ob :: rest) with | some r0 => ob = obj b ∧ leT (some ob :: rest) 1 [some ob] r0 a | none => False) (h3 : tokLt 0 a = true) (h4 : frzA a = a) (he : e = .ret ∨ e = .normal := by first | exact .inl rfl | exact .inr rfl) :
 retA C rs 1 (fun r σ' => OPost obj (fun r s' => r = a ∧ s' = b) (frzA r) σ') e fr (some ob :: rest) := by
 split at h
 ·rename_i r0 h1
  exact ret_ob b a hp h.1 h1 h.2 h3 h4 ⟨rfl, rfl⟩ he
 ·exact h.elim
theorem ACalls.nilSplit {P : Program} {f : FuncId} {rest : List AV} {σ : St} {R : AV → St → Prop} {e : Nat} (h1 : ACalls P f (.p (.v (.slice none 0 0)) :: rest) σ R) (h2 : ∀ ad c, ACalls P f (.p (.v (.slice (some ad) 0 c)) :: rest) σ R) : ACalls P f (.p (.sl e []) :: rest) σ R :=
 ⟨h1.1, fun M vs hM hv => by
  simp only [ARepL, ARep, PRep] at hv
  obtain ⟨u, us, rfl, hu, hr⟩ := hv
  have key : u = .slice none 0 0 ∨ ∃ ad c, u = .slice (some ad) 0 c := by
   rcases hu with ⟨_, ad, c, rfl, h⟩ | ⟨b, off, c, rfl, _⟩
   ·cases ad with
    | none => rw [h rfl]; exact .inl rfl
    | some ad => exact .inr ⟨ad, c, rfl⟩
   ·exact .inr ⟨_, c, rfl⟩
  rcases key with rfl | ⟨ad, c, rfl⟩
  ·exact h1.2 M _ hM (by simp only [ARepL, ARep, PRep]; exact ⟨_, _, rfl, ⟨rfl, rfl⟩, hr⟩)
  ·exact (h2 ad c).2 M _ hM (by simp only [ARepL, ARep, PRep]; exact ⟨_, _, rfl, ⟨rfl, rfl⟩, hr⟩)⟩
theorem bu_min {C : Ctx} {tk : Nat} {ts : List TypeId} {k k' : IntKind} {n m : Int} {σ : St} : builtinA C tk .min ts [.p (.v (.int k n)), .p (.v (.int k' m))] σ = some (intV k (if m < n then m else n), σ) := nr rfl
theorem bu_max {C : Ctx} {tk : Nat} {ts : List TypeId} {k k' : IntKind} {n m : Int} {σ : St} : builtinA C tk .max ts [.p (.v (.int k n)), .p (.v (.int k' m))] σ = some (intV k (if m > n then m else n), σ) := nr rfl
theorem wantD_split {P : Program} {C : Ctx} {ops : Array Oper} {b want : Bool} {o : Oper} {p : Plan} {L : List Nat} {fr : List AV} {σ : St} {K : List AV → St → Prop} (h1 : b = want → detO P C ops o p L fr σ K) (h2 : b = !want → aPl P C ops p L (setA fr o.dst (.tup [])) σ K) : wantD P C ops (some (some b)) want o p L fr σ K := ⟨h1, h2⟩
theorem wantU_split {P : Program} {C : Ctx} {ops : Array Oper} {b want : Bool} {o : Oper} {p : Plan} {L : List Nat} {fr : List AV} {σ : St} {K : List AV → St → Prop} (h1 : b = want → aStep P C o fr (maskS L σ) (kontU P C ops p L o.dst fr σ K)) (h2 : b = !want → aPl P C ops p L (setA fr o.dst (.tup [])) σ K) : wantU P C ops (some (some b)) want o p L fr σ K := ⟨h1, h2⟩
theorem ret_is {C : Ctx} {fr : List AV} {σ : St} {rs : List ResultVar} {a : AV} {e : Exit} (h2 : match resA C rs fr σ with | some r0 => leT σ 0 [] r0 a | none => False) (h3 : tokLt 0 a = true) (h4 : frzA a = a) (he : e = .ret ∨ e = .normal := by first | exact .inl rfl | exact .inr rfl) :
 retA C rs 0 (fun r _ => tokLt 0 (frzA r) = true ∧ frzA r = a) e fr σ := by
 split at h2
 ·rename_i r0 h1
  refine ⟨he, r0, a, [], h1, .inr ⟨?_, by simp [leS]⟩, Nat.zero_le _, by rw [h4]; exact h3, h4⟩
  have : min σ.length ([] : St).length = 0 := by simp
  rw [this]; exact ⟨h2, trivial⟩
 ·exact h2.elim
theorem wbu : type_of% @bu_len ∧ type_of% @bu_max ∧ type_of% @bu_min := ⟨@bu_len, @bu_max, @bu_min⟩
theorem wW : type_of% @WeakE.eq_1 ∧ type_of% @Weak.eq_1 ∧ type_of% @setsF.eq_1 ∧ type_of% @setsF.eq_2 ∧ type_of% @setsO.eq_1 ∧ type_of% @setsO.eq_2 ∧ type_of% @St.put.eq_1 ∧ type_of% @leL.eq_1 ∧ type_of% @leL.eq_2 ∧ type_of% @leL.eq_3 ∧ type_of% @leT.eq_1 ∧ type_of% @leM.eq_1 ∧ type_of% @leM.eq_2 ∧ type_of% @leM.eq_3 ∧ type_of% @leG.eq_1 ∧ type_of% @leA.eq_1 ∧ type_of% @leC.eq_1 ∧ type_of% @leC.eq_2 ∧ type_of% @leC.eq_3 ∧ type_of% @leR.eq_1 ∧ type_of% @leR.eq_2 ∧ type_of% @leR.eq_3 ∧ type_of% @leS.eq_1 ∧ type_of% @leS.eq_2 ∧ type_of% @leS.eq_3 ∧ type_of% @leS.eq_4 ∧ type_of% @leS.eq_5 ∧ type_of% @leO.eq_1 ∧ type_of% @leO.eq_2 ∧ type_of% @leO.eq_3 ∧ type_of% @leO.eq_4 ∧ type_of% @leO.eq_5 ∧ type_of% @tokLt.eq_1 ∧ type_of% @tokLt.eq_2 ∧ type_of% @tokLt.eq_3 ∧ type_of% @tokLt.eq_4 ∧ type_of% @tokLt.eq_5 ∧ type_of% @tokLt.eq_6 ∧ type_of% @tokLt.eq_7 ∧ type_of% @tokLt.eq_8 ∧ type_of% @tokLt.eq_9 ∧ type_of% @tokLt.eq_10 ∧ type_of% @tokLtL.eq_1 ∧ type_of% @tokLtL.eq_2 ∧ type_of% @intV.eq_1 ∧ type_of% @boolV.eq_1 ∧ type_of% @leaf.eq_1 ∧ type_of% @leaf.eq_2 ∧ type_of% @leaf.eq_3 ∧ type_of% @leaf.eq_4 ∧ type_of% @leaf.eq_5 ∧ type_of% @leaf.eq_6 ∧ type_of% @leaf.eq_7 ∧ type_of% @leaf.eq_8 ∧ type_of% @nilA.eq_1 ∧ type_of% @nilSl.eq_1 := ⟨@WeakE.eq_1, @Weak.eq_1, @setsF.eq_1, @setsF.eq_2, @setsO.eq_1, @setsO.eq_2, @St.put.eq_1, @leL.eq_1, @leL.eq_2, @leL.eq_3, @leT.eq_1, @leM.eq_1, @leM.eq_2, @leM.eq_3, @leG.eq_1, @leA.eq_1, @leC.eq_1, @leC.eq_2, @leC.eq_3, @leR.eq_1, @leR.eq_2, @leR.eq_3, @leS.eq_1, @leS.eq_2, @leS.eq_3, @leS.eq_4, @leS.eq_5, @leO.eq_1, @leO.eq_2, @leO.eq_3, @leO.eq_4, @leO.eq_5, @tokLt.eq_1, @tokLt.eq_2, @tokLt.eq_3, @tokLt.eq_4, @tokLt.eq_5, @tokLt.eq_6, @tokLt.eq_7, @tokLt.eq_8, @tokLt.eq_9, @tokLt.eq_10, @tokLtL.eq_1, @tokLtL.eq_2, @intV.eq_1, @boolV.eq_1, @leaf.eq_1, @leaf.eq_2, @leaf.eq_3, @leaf.eq_4, @leaf.eq_5, @leaf.eq_6, @leaf.eq_7, @leaf.eq_8, @nilA.eq_1, @nilSl.eq_1⟩
theorem wS : type_of% @resA.eq_1 ∧ type_of% @resL.eq_1 ∧ type_of% @resL.eq_2 ∧ type_of% @resV.eq_1 ∧ type_of% @resV.eq_2 ∧ type_of% @leT.eq_1 ∧ type_of% @leG.eq_1 ∧ type_of% @leA.eq_1 ∧ type_of% @leC.eq_1 ∧ type_of% @leC.eq_2 ∧ type_of% @leC.eq_3 ∧ type_of% @leM.eq_1 ∧ type_of% @leM.eq_2 ∧ type_of% @leM.eq_3 ∧ type_of% @leaf.eq_1 ∧ type_of% @leaf.eq_2 ∧ type_of% @leaf.eq_3 ∧ type_of% @leaf.eq_4 ∧ type_of% @leaf.eq_5 ∧ type_of% @leaf.eq_6 ∧ type_of% @leaf.eq_7 ∧ type_of% @leaf.eq_8 ∧ type_of% @tokLt.eq_1 ∧ type_of% @tokLt.eq_2 ∧ type_of% @tokLt.eq_3 ∧ type_of% @tokLt.eq_4 ∧ type_of% @tokLt.eq_5 ∧ type_of% @tokLt.eq_6 ∧ type_of% @tokLt.eq_7 ∧ type_of% @tokLt.eq_8 ∧ type_of% @tokLt.eq_9 ∧ type_of% @tokLt.eq_10 ∧ type_of% @tokLtL.eq_1 ∧ type_of% @tokLtL.eq_2 ∧ type_of% @intV.eq_1 ∧ type_of% @boolV.eq_1 ∧ type_of% @nilA.eq_1 ∧ type_of% @nilSl.eq_1 := ⟨@resA.eq_1, @resL.eq_1, @resL.eq_2, @resV.eq_1, @resV.eq_2, @leT.eq_1, @leG.eq_1, @leA.eq_1, @leC.eq_1, @leC.eq_2, @leC.eq_3, @leM.eq_1, @leM.eq_2, @leM.eq_3, @leaf.eq_1, @leaf.eq_2, @leaf.eq_3, @leaf.eq_4, @leaf.eq_5, @leaf.eq_6, @leaf.eq_7, @leaf.eq_8, @tokLt.eq_1, @tokLt.eq_2, @tokLt.eq_3, @tokLt.eq_4, @tokLt.eq_5, @tokLt.eq_6, @tokLt.eq_7, @tokLt.eq_8, @tokLt.eq_9, @tokLt.eq_10, @tokLtL.eq_1, @tokLtL.eq_2, @intV.eq_1, @boolV.eq_1, @nilA.eq_1, @nilSl.eq_1⟩
theorem wR : type_of% @setsF_cons ∧ type_of% @setsF_nil ∧ type_of% @setsO_cons ∧ type_of% @setsO_nil ∧ type_of% @List.set_cons_zero.{0} ∧ type_of% @List.set_cons_succ.{0} ∧ type_of% @List.length_cons.{0} ∧ type_of% @List.length_nil.{0} ∧ type_of% @St.put.eq_1 ∧ type_of% @Nat.zero_add ∧ type_of% @Nat.lt_irrefl ∧ type_of% @List.cons_append.{0} ∧ type_of% @List.nil_append.{0} := ⟨@setsF_cons, @setsF_nil, @setsO_cons, @setsO_nil, @List.set_cons_zero.{0}, @List.set_cons_succ.{0}, @List.length_cons.{0}, @List.length_nil.{0}, @St.put.eq_1, @Nat.zero_add, @Nat.lt_irrefl, @List.cons_append.{0}, @List.nil_append.{0}⟩
theorem cs : type_of% @cond_split := @cond_split
theorem ws : type_of% @want_split := @want_split
theorem wd : type_of% @wantD_split := @wantD_split
theorem wu : type_of% @wantU_split := @wantU_split
theorem dP {P : Program} {C : Ctx} {ops : Array Oper} {fr : List AV} {σ : St} {K : List AV → St → Prop} (pl : Plan) (n : Nat) (t : Option Tmp) (h0 : ops.size = n ∧ (ops[0]?.bind fun o => o.dst) = t) (h1 : (decide (planLen pl ≤ ops.size) && Region.noSelect ops && planOk C ops pl (Array.replicate ops.size false)) = true) (h4 : aPl P C ops pl [] fr σ K) : aDraw P C ops fr σ K := by
 simp only [Bool.and_eq_true, decide_eq_true_eq] at h1
 exact ⟨pl, h1.1.1, h1.1.2, h1.2, h4⟩
end Go.Proofs.YtcnkmandddfdmaaGreatDoor
