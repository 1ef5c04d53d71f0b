/- Values, rows, and what expressions come to over a row, as the program reckons it. Loops over the frame as it stands: only the slots that a round sets are named. Objects that name no others: contracts of their methods at any state. Small functions of values and of expressions. Names found, types of bound expressions. Types of bound expressions. -/
import Derived.Test.YtcnkmandddfdmaaM09
import Derived.Test.YtcnkmandddfdmaaM12
import Derived.Test.YtcnkmandddfdmaaM10
set_option linter.unusedSimpArgs false
set_option linter.unusedVariables false
namespace Go.Proofs.Ytcnkmandddfdmaa
open Go.RowKit

/-- A value: a kind, a number, a text. -/
abbrev Va := Int × Int × ByteArray
def vaC (v : Va) : List PV := [.v (.int .i64 v.1), .v (.int .i64 v.2.1), .v (.string v.2.2)]
def vaA (v : Va) : AV := .agg ((vaC v).map .p)
def va0 : Va := (0, 0, emp)
/-- A row. -/
def enV (l : List Va) : List (List PV) := l.map vaC
theorem enV_len (l : List Va) : (enV l).length = l.length := by simp [enV]
theorem enV_get (l : List Va) (i : Nat) (h : i < l.length) : (enV l)[i]? = some (vaC l[i]) := by simp [enV, h]
theorem vaC_len (v : Va) : (vaC v).length = 3 := rfl
theorem enV_app (l m : List Va) : enV (l ++ m) = enV l ++ enV m := by simp [enV]
/-- Rows. -/
def enVV (l : List (List Va)) : List (List PV) := l.map fun r => [.sl 3 (enV r)]
theorem enVV_len (l : List (List Va)) : (enVV l).length = l.length := by simp [enVV]
theorem enVV_get (l : List (List Va)) (i : Nat) (h : i < l.length) : (enVV l)[i]? = some [.sl 3 (enV l[i])] := by simp [enVV, h]
theorem enVV_app (l m : List (List Va)) : enVV (l ++ m) = enVV l ++ enVV m := by simp [enVV]

/-- May a value be? -/
def okV (v : Va) : Bool :=
  if v.1 = 0 then decide (v.2.1 = 0) && (v.2.2.toList == emp.toList)
  else if v.1 = 1 then v.2.2.toList == emp.toList
  else if v.1 = 2 then (v.2.1.fdiv 2 == 0) && (v.2.2.toList == emp.toList)
  else (v.1 == 3) && (v.2.1 == 0) && decide ((v.2.2.size : Int) ≤ 64)
def trV (b : Bool) : Va := (2, if b then 1 else 0, emp)
/-- An error is told, if there was none. -/
def failV (c : Int) (e : Int) : Va × Int := (va0, if e = 0 then c else e)
/-- How many kids an expression of a kind has. -/
def kidsV (k : Int) : Int := if k = 1 ∨ k = 24 ∨ k = 2 then 0 else if k = 3 ∨ k = 4 ∨ k = 18 ∨ k = 19 then 1 else if 5 ≤ k ∧ k ≤ 17 then 2 else -1
def cmpI (a b : Int) : Int := if a < b then -1 else if a > b then 1 else 0
def cmpS (a b : ByteArray) : Int := if Op.bytesLess a.toList b.toList then -1 else if a.toList == b.toList then 0 else 1
def cmpV (a b : Va) : Int := if cmpI a.1 b.1 ≠ 0 then cmpI a.1 b.1 else if cmpI a.2.1 b.2.1 ≠ 0 then cmpI a.2.1 b.2.1 else cmpS a.2.2 b.2.2
/-- Sums and the like, as the program reckons them. -/
def numV (k a b : Int) (e : Int) : Va × Int :=
  let w := IntKind.i64.wrap
  let fin := fun (n : Int) (ok : Bool) => if ok then (((1, n, emp) : Va), e) else failV 35 e
  if k = 5 then fin (w (a + b)) (decide (w (a + b) > a) == decide (b > 0))
  else if k = 6 then fin (w (a - b)) (decide (w (a - b) < a) == decide (b > 0))
  else if k = 7 then fin (w (a * b)) (decide (a = 0) || (w ((w (a * b)).tdiv a) == b && !(decide (a = -1) && decide (b = -9223372036854775808))))
  else if b = 0 then failV 36 e
  else if b = -1 then (if k = 9 then fin 0 true else fin (w (0 - a)) (decide (a ≠ -9223372036854775808)))
  else if k = 9 then fin (a.tmod b) true
  else fin (w (a.tdiv b)) true
def leafV (row : List Va) (k : Int) (v : Va) (s : Int) (e : Int) : Va × Int :=
  if k = 2 then failV 32 e
  else if k = 1 ∧ okV v = true then (v, e)
  else if k = 24 ∧ 0 ≤ s ∧ s < row.length ∧ okV (row.getD s.toNat va0) = true then (row.getD s.toNat va0, e)
  else failV 1 e
def oneV (k : Int) (v : Va) (e : Int) : Va × Int :=
  if k = 18 then (trV (v.1 = 0), e)
  else if k = 19 then (trV (v.1 ≠ 0), e)
  else if v.1 = 0 then (v, e)
  else if k = 4 ∧ v.1 = 2 then (trV (v.2.1 = 0), e)
  else if k = 4 ∨ v.1 ≠ 1 then failV 33 e
  else if v.2.1 = -9223372036854775808 then failV 35 e
  else ((1, IntKind.i64.wrap (0 - v.2.1), emp), e)
def relV (k : Int) (c : Int) : Bool := if k = 10 then c = 0 else if k = 11 then c ≠ 0 else if k = 12 then c < 0 else if k = 13 then c ≤ 0 else if k = 14 then c > 0 else c ≥ 0
def twoV (k : Int) (a b : Va) (e : Int) : Va × Int :=
  if e ≠ 0 then (va0, e)
  else if k ≤ 9 then
    if a.1 > 1 ∨ b.1 > 1 then failV 33 e
    else if a.1 = 0 ∨ b.1 = 0 then (va0, e)
    else numV k a.2.1 b.2.1 e
  else if a.1 = 0 ∨ b.1 = 0 then (va0, e)
  else if a.1 ≠ b.1 then failV 33 e
  else (trV (relV k (cmpV a b)), e)
def someV (v : Va) : Bool := v.1 ≠ 0 ∧ v.1 ≠ 2
def eqV (a b : Va) : Bool := a.1 = b.1 ∧ a.2.1 = b.2.1 ∧ a.2.2.toList = b.2.2.toList
/-- AND and OR, the first kid's value ahead: the answer, or that the second one is asked. -/
def logA (k : Int) (a : Va) (e : Int) : Option (Va × Int) :=
  if e = 0 ∧ someV a = true then some (failV 33 e)
  else if e ≠ 0 ∨ eqV a (trV (k = 17)) = true then some (a, e)
  else none
def logB (k : Int) (a b : Va) (e : Int) : Va × Int :=
  if e = 0 ∧ someV b = true then failV 33 e
  else if eqV b (trV (k = 17)) = true then (b, e)
  else if a.1 = 0 then (a, e)
  else (b, e)
/-- What an expression comes to; the first error stays. -/
def findV (row : List Va) : Ex → Int → Va × Int
  | .mk k vk vn vs tb nm s [], e => if kidsV k ≠ 0 then failV 1 e else leafV row k (vk, vn, vs) s e
  | .mk k vk vn vs tb nm s [x], e => if kidsV k ≠ 1 then failV 1 e else oneV k (findV row x e).1 (findV row x e).2
  | .mk k vk vn vs tb nm s [x, y], e =>
    if kidsV k ≠ 2 then failV 1 e
    else if 16 ≤ k then (match logA k (findV row x e).1 (findV row x e).2 with
      | some r => r
      | none => logB k (findV row x e).1 (findV row y (findV row x e).2).1 (findV row y (findV row x e).2).2)
    else twoV k (findV row x e).1 (findV row y (findV row x e).2).1 (findV row y (findV row x e).2).2
  | .mk k vk vn vs tb nm s (_ :: _ :: _ :: _), e => failV 1 e
def evalV (row : List Va) (x : Ex) : Va × Int := if (findV row x 0).2 ≠ 0 then (va0, (findV row x 0).2) else ((findV row x 0).1, 0)
/-- Is that TRUE? -/
def holdsV (row : List Va) (x : Ex) : Bool × Int :=
  let r := evalV row x
  let e := if r.2 = 0 ∧ r.1.1 ≠ 0 ∧ r.1.1 ≠ 2 then 33 else r.2
  (decide (e = 0) && decide (r.1.1 = 2) && decide (r.1.2.1 = 1), e)
end Go.Proofs.Ytcnkmandddfdmaa
namespace Go.Proofs.Ytcnkmandddfdmaa
open Go.RowKit

/-- Slots set. -/
def setsF (fr : List AV) : List (Nat × AV) → List AV
  | [] => fr
  | (i, a) :: D => setsF (fr.set i a) D
/-- Objects set. -/
def setsO (σ : St) : List (Nat × Ob) → St
  | [] => σ
  | (t, ob) :: S => setsO (σ.put t ob) S
theorem setsF_nil {fr : List AV} : setsF fr [] = fr := nr rfl
theorem setsF_cons {fr : List AV} {i : Nat} {a : AV} {D : List (Nat × AV)} : setsF fr ((i, a) :: D) = setsF (fr.set i a) D := nr rfl
theorem setsO_nil {σ : St} : setsO σ [] = σ := nr rfl
theorem setsO_cons {σ : St} {t : Nat} {ob : Ob} {S : List (Nat × Ob)} : setsO σ ((t, ob) :: S) = setsO (σ.put t ob) S := nr rfl
theorem put_le (σ : St) (t : Nat) (ob : Ob) : σ.length ≤ (σ.put t ob).length := by unfold St.put; split <;> simp
theorem setsO_len : ∀ (S : List (Nat × Ob)) (σ : St), σ.length ≤ (setsO σ S).length
  | [], σ => Nat.le_refl _
  | (t, ob) :: S, σ => by rw [setsO_cons]; exact Nat.le_trans (put_le σ t ob) (setsO_len S _)
/-- A loop: what its rounds set. -/
theorem awp_loopD {P : Program} {C : Ctx} {fr : List AV} {σ : St} {Q : Exit → List AV → St → Prop} {c : Code} {X : Type} (D : X → List (Nat × AV)) (S : X → List (Nat × Ob)) (m : X → Nat) (x0 : X) (h2 : WeakE fr σ (setsF fr (D x0)) (setsO σ (S x0)))
    (h3 : ∀ x, AWp P C (aDraw P C) c (setsF fr (D x)) (setsO σ (S x)) (roundA (fun x => (setsF fr (D x), setsO σ (S x))) m x Q)) : AWp P C (aDraw P C) (.loop c) fr σ Q :=
  awp_loop' (fun x => (setsF fr (D x), setsO σ (S x))) m x0 (fun x => setsO_len _ _) h2 h3
/-- .. that may be left before a round is whole. -/
theorem awp_loopN {P : Program} {C : Ctx} {fr : List AV} {σ : St} {Q : Exit → List AV → St → Prop} {c : Code} (n : Nat) (D : Nat → List (Nat × AV)) (S : Nat → List (Nat × Ob)) (I : Nat → Prop) (h0 : I 0) (h2 : WeakE fr σ (setsF fr (D 0)) (setsO σ (S 0)))
    (h3 : ∀ i, (hi : i ≤ n) → (hI : I i) → AWp P C (aDraw P C) c (setsF fr (D i)) (setsO σ (S i)) (roundA (fun x : { i : Nat // i ≤ n ∧ I i } => (setsF fr (D x.1), setsO σ (S x.1))) (fun x => n - x.1) ⟨i, hi, hI⟩ Q)) : AWp P C (aDraw P C) (.loop c) fr σ Q :=
  awp_loopD (X := { i : Nat // i ≤ n ∧ I i }) (fun x => D x.1) (fun x => S x.1) (fun x => n - x.1) ⟨0, by omega, h0⟩ h2 fun ⟨i, hi, hI⟩ => h3 i hi hI
/-- A round goes on. -/
theorem round_next {fr : List AV} {σ : St} {Q : Exit → List AV → St → Prop} {n i : Nat} {J : Nat → List AV × St} {I : Nat → Prop} {hi : i ≤ n ∧ I i} {fr' : List AV} {σ' : St} (h1 : i < n) (h2 : I (i + 1)) (h3 : WeakE fr' σ' (J (i + 1)).1 (J (i + 1)).2) :
    roundA (fun x : { i : Nat // i ≤ n ∧ I i } => J x.1) (fun x => n - x.1) ⟨i, hi⟩ Q .normal fr' σ' :=
  ⟨⟨i + 1, by omega, h2⟩, by show n - (i + 1) < n - i; omega, h3⟩
end Go.Proofs.Ytcnkmandddfdmaa
namespace Go.Proofs.Ytcnkmandddfdmaa
open Go.RowKit

/-- An object that names no others. -/
structure PlainOb (ob : Ob) : Prop where
  ren : ∀ g, renOb g ob = ob
  tok : ∀ n, tokOb n ob = true
  row : ∃ e ls, ob = .row e ls
/-- What a call that is given an object comes to, whatever else there is (args: the arguments, by the object's number). -/
def OCalls {S : Type} (obj : S → Ob) (f : FuncId) (args : Nat → List AV) (s : S) (R : AV → S → Prop) : Prop :=
  ∀ (σ : St) (t : Nat), σ[t]? = some (some (obj s)) → ACalls Try.prog f (args t) σ fun r σ' => ∃ s', R r s' ∧ σ' = σ.set t (some (obj s'))
/-- What a walk of a method shows, at the object alone. -/
def OPost {S : Type} (obj : S → Ob) (R : AV → S → Prop) (r : AV) (σ' : St) : Prop := ∃ s', tokLt 0 r = true ∧ R r s' ∧ σ'[0]? = some (some (obj s'))
theorem OCalls.mono {S : Type} {obj : S → Ob} {f : FuncId} {args : Nat → List AV} {s : S} {R R' : AV → S → Prop} (h : OCalls obj f args s R) (hR : ∀ r s, R r s → R' r s) : OCalls obj f args s R' := fun σ t ht =>
  (h σ t ht).mono fun r σ' ⟨s', h1, h2⟩ => ⟨s', hR _ _ h1, h2⟩
/-- From a walk at the object alone. -/
theorem OCalls.of {S : Type} {obj : S → Ob} {f : FuncId} {args : Nat → List AV} {s : S} {R : AV → S → Prop} (hp : ∀ s, PlainOb (obj s)) (hr : ∀ t, renL (fun t' => [t].getD t' 0) (args 0) = args t) (ha : tokLtL 1 (args 0) = true)
    (h : ACalls Try.prog f (args 0) [some (obj s)] fun r σ' => OPost obj R (frzA r) σ') : OCalls obj f args s R := by
  intro σ t ht
  have h1 := ACalls.frz (R := OPost obj R) h
  have h2 := ACalls.at h1 [t] σ (by simp) rfl (fun t' u hs => by
    cases t' with
    | zero =>
      simp at hs; subst hs
      exact ⟨obj s, rfl, (hp s).tok _, by rw [(hp s).ren]; exact ht⟩
    | succ t' => simp at hs) ha (fun r u ⟨s', h1, h2, h3⟩ => ⟨tokLt_mono _ _ h1, fun t' ob ht' ho => by
        have : t' = 0 := by simp at ht'; omega
        subst this
        unfold St.at at ho
        rw [h3] at ho
        simp at ho; subst ho
        exact (hp s').tok _⟩)
  rw [hr] at h2
  refine h2.mono ?_
  rintro r σ' ⟨r0, σ0, ⟨s', h3, h4, h5⟩, rfl, rfl⟩
  refine ⟨s', by rw [renA_free _ _ h3]; exact h4, ?_⟩
  cases σ0 with
  | nil => simp at h5
  | cons o σ0 =>
    simp at h5; subst h5
    simp [setsS, (hp s').ren]
/-- The end of a method, with less known of its answer. -/
theorem ret_ob {S : Type} {obj : S → Ob} {C : Ctx} {fr : List AV} (s' : S) {rest : St} {rs : List ResultVar} {R : AV → S → Prop} {r0 : AV} {e : Exit} (r1 : AV) {ob : Ob} (hp : PlainOb (obj s')) (hs : ob = obj s') (h1 : resA C rs fr (some ob :: rest) = some r0) (h2 : leT (some ob :: rest) 1 [some ob] r0 r1) (h3 : tokLt 0 r1 = true) (h4 : frzA r1 = r1) (h5 : R r1 s') (he : e = .ret ∨ e = .normal := by first | exact .inl rfl | exact .inr rfl) :
    retA C rs 1 (fun r σ' => OPost obj R (frzA r) σ') e fr (some ob :: rest) := by
  subst hs
  refine ⟨he, r0, r1, [some (obj s')], h1, .inr ⟨?_, ?_⟩, by simp, s', by rw [h4]; exact h3, by rw [h4]; exact h5, rfl⟩
  · have : min (some (obj s') :: rest).length [some (obj s')].length = 1 := by simp
    rw [this]; exact ⟨h2, trivial⟩
  · obtain ⟨e, ls, hr⟩ := hp.row
    have ht := hp.tok 1
    simp only [leS]
    refine ⟨?_, trivial⟩
    rw [hr] at ht ⊢
    simp only [leO]
    refine ⟨trivial, .inl ⟨trivial, ?_⟩⟩
    have : min (some (Ob.row e ls) :: rest).length [some (Ob.row e ls)].length = 1 := by simp
    rw [this]
    exact ht
/-- .. whose answer is known. -/
theorem ret_obI {S : Type} {obj : S → Ob} {C : Ctx} {fr : List AV} {a : AV} {b : S} {rest : St} {rs : List ResultVar} {e : Exit} {ob : Ob} (hp : PlainOb (obj b)) (h : match resA C rs fr (some ob :: rest) with | some r0 => ob = obj b ∧ leT (some ob :: rest) 1 [some ob] r0 a | none => False) (h3 : tokLt 0 a = true) (h4 : frzA a = a) (he : e = .ret ∨ e = .normal := by first | exact .inl rfl | exact .inr rfl) :
    retA C rs 1 (fun r σ' => OPost obj (fun r s' => r = a ∧ s' = b) (frzA r) σ') e fr (some ob :: rest) := by
  split at h
  · rename_i r0 h1
    exact ret_ob b a hp h.1 h1 h.2 h3 h4 ⟨rfl, rfl⟩ he
  · exact h.elim
/-- A slice of no elements is nil, or it is not. -/
theorem ACalls.nilSplit {P : Program} {f : FuncId} {rest : List AV} {σ : St} {R : AV → St → Prop} {e : Nat} (h1 : ACalls P f (.p (.v (.slice none 0 0)) :: rest) σ R) (h2 : ∀ ad c, ACalls P f (.p (.v (.slice (some ad) 0 c)) :: rest) σ R) : ACalls P f (.p (.sl e []) :: rest) σ R :=
  ⟨h1.1, fun M vs hM hv => by
    simp only [ARepL, ARep, PRep] at hv
    obtain ⟨u, us, rfl, hu, hr⟩ := hv
    have key : u = .slice none 0 0 ∨ ∃ ad c, u = .slice (some ad) 0 c := by
      rcases hu with ⟨_, ad, c, rfl, h⟩ | ⟨b, off, c, rfl, _⟩
      · cases ad with
        | none => rw [h rfl]; exact .inl rfl
        | some ad => exact .inr ⟨ad, c, rfl⟩
      · exact .inr ⟨_, c, rfl⟩
    rcases key with rfl | ⟨ad, c, rfl⟩
    · exact h1.2 M _ hM (by simp only [ARepL, ARep, PRep]; exact ⟨_, _, rfl, ⟨rfl, rfl⟩, hr⟩)
    · exact (h2 ad c).2 M _ hM (by simp only [ARepL, ARep, PRep]; exact ⟨_, _, rfl, ⟨rfl, rfl⟩, hr⟩)⟩
theorem bu_min {C : Ctx} {tk : Nat} {ts : List TypeId} {k k' : IntKind} {n m : Int} {σ : St} : builtinA C tk .min ts [.p (.v (.int k n)), .p (.v (.int k' m))] σ = some (intV k (if m < n then m else n), σ) := nr rfl
theorem bu_max {C : Ctx} {tk : Nat} {ts : List TypeId} {k k' : IntKind} {n m : Int} {σ : St} : builtinA C tk .max ts [.p (.v (.int k n)), .p (.v (.int k' m))] σ = some (intV k (if m > n then m else n), σ) := nr rfl
theorem wantD_split {P : Program} {C : Ctx} {ops : Array Oper} {b want : Bool} {o : Oper} {p : Plan} {L : List Nat} {fr : List AV} {σ : St} {K : List AV → St → Prop} (h1 : b = want → detO P C ops o p L fr σ K) (h2 : b = !want → aPl P C ops p L (setA fr o.dst (.tup [])) σ K) : wantD P C ops (some (some b)) want o p L fr σ K := ⟨h1, h2⟩
theorem wantU_split {P : Program} {C : Ctx} {ops : Array Oper} {b want : Bool} {o : Oper} {p : Plan} {L : List Nat} {fr : List AV} {σ : St} {K : List AV → St → Prop} (h1 : b = want → aStep P C o fr (maskS L σ) (kontU P C ops p L o.dst fr σ K)) (h2 : b = !want → aPl P C ops p L (setA fr o.dst (.tup [])) σ K) : wantU P C ops (some (some b)) want o p L fr σ K := ⟨h1, h2⟩
theorem draw_plan {P : Program} {C : Ctx} {ops : Array Oper} {fr : List AV} {σ : St} {K : List AV → St → Prop} (pl : Plan) (n : Nat) (t : Option Tmp) (h0 : ops.size = n ∧ (ops[0]?.bind fun o => o.dst) = t) (h1 : planLen pl ≤ ops.size) (h2 : Region.noSelect ops = true) (h3 : planOk C ops pl (Array.replicate ops.size false) = true) (h4 : aPl P C ops pl [] fr σ K) : aDraw P C ops fr σ K := ⟨pl, h1, h2, h3, h4⟩
/-- The end of a function whose answer is known. -/
theorem ret_is {C : Ctx} {fr : List AV} {σ : St} {rs : List ResultVar} {a : AV} {e : Exit} (h2 : match resA C rs fr σ with | some r0 => leT σ 0 [] r0 a | none => False) (h3 : tokLt 0 a = true) (h4 : frzA a = a) (he : e = .ret ∨ e = .normal := by first | exact .inl rfl | exact .inr rfl) :
    retA C rs 0 (fun r _ => tokLt 0 (frzA r) = true ∧ frzA r = a) e fr σ := by
  split at h2
  · rename_i r0 h1
    refine ⟨he, r0, a, [], h1, .inr ⟨?_, by simp [leS]⟩, Nat.zero_le _, by rw [h4]; exact h3, h4⟩
    have : min σ.length ([] : St).length = 0 := by simp
    rw [this]; exact ⟨h2, trivial⟩
  · exact h2.elim
end Go.Proofs.Ytcnkmandddfdmaa
namespace Go.Proofs.Ytcnkmandddfdmaa
open Go.RowKit
open Nat (reducePow reduceAdd reduceSub reduceMul reduceEqDiff reduceLeDiff)
theorem ty59_XVo : (type_of% ck_2) ∧ (type_of% cx_2) ∧ (type_of% ck_3) ∧ (type_of% cx_3) ∧ (type_of% ck_9) ∧ (type_of% cx_9) ∧ (type_of% ck_50) ∧ (type_of% cx_50) ∧ (type_of% ce_50) := ⟨ck_2, cx_2, ck_3, cx_3, ck_9, cx_9, ck_50, cx_50, ce_50⟩
theorem ty58_XVo : (type_of% ck_3) ∧ (type_of% cx_3) := ⟨ck_3, cx_3⟩
theorem ty75_XVo : (type_of% ck_3) ∧ (type_of% cx_3) := ⟨ck_3, cx_3⟩
theorem ty57_XVo : (type_of% ck_3) ∧ (type_of% cx_3) := ⟨ck_3, cx_3⟩
theorem ty82_XVo : (type_of% ck_50) ∧ (type_of% cx_50) ∧ (type_of% ce_50) := ⟨ck_50, cx_50, ce_50⟩
theorem sh1 : (2 : Int) ^ (min 1 IntKind.i64.bits) = 2 := nr (by decide)
set_option maxRecDepth 100000 in
set_option maxHeartbeats 4000000 in
theorem aokV (v : Va) (σ : St) : ACalls Try.prog 59 [vaA v] σ fun r s => s = σ ∧ r = boolV (okV v) := by
  refine ACalls.pureF (R := fun r => r = boolV (okV v)) ?_ rfl σ
  obtain ⟨k, n, t⟩ := v
  refine acalls_of cx_ok dr_ok Try.func59 (by kernel_rfl) rfl (nt := 44) (rs := [.tmp 2]) rfl rfl ?_
  simp only [vaA, vaC, List.map_cons, List.map_nil]
  repeat' first | ((with_reducible first | refine cond_split (fun h => ?_) (fun h => ?_) | refine want_split (fun h => ?_) (fun h => ?_)) <;> (try simp only [h])) | (simp only [↓wBA, wBB, wBC, cx_muts, cx_arr, wBD, convA, Nat.reduceBEq, reduceIte, reduceCtorEq, reducePow, reduceAdd, reduceSub, reduceMul, reduceEqDiff, reduceLeDiff, Nat.reduceLT, Int.reduceLT, Int.reduceLE, Int.reduceToNat, ty59_XVo, bu_len, bu_max, bu_min, binStr, sh1])
  all_goals refine ret_is (a := _) ?_ rfl rfl
  all_goals simp only [↓wBA, wBB, wBC, cx_muts, cx_arr, wBD, convA, Nat.reduceBEq, reduceIte, reduceCtorEq, reducePow, reduceAdd, reduceSub, reduceMul, reduceEqDiff, reduceLeDiff, Nat.reduceLT, Int.reduceLT, Int.reduceLE, Int.reduceToNat, ty59_XVo]
  all_goals simp_all [resA, resL, resV, leT, leG, leA, leC, leM, leaf, tokLt, tokLtL, intV, boolV, nilA, nilSl, okV, emp]
/-- How many kids a kind that is bound has. -/
def kidsB (k : Int) : Int := if k = 1 ∨ k = 2 then 0 else if k = 3 ∨ k = 4 ∨ k = 18 ∨ k = 19 then 1 else if 5 ≤ k ∧ k ≤ 17 then 2 else -1
set_option maxRecDepth 100000 in
set_option maxHeartbeats 4000000 in
theorem akidsB (k : Int) (σ : St) : ACalls Try.prog 58 [intV .i64 k] σ fun r s => s = σ ∧ r = intV .i64 (kidsB k) := by
  refine ACalls.pureF (R := fun r => r = intV .i64 (kidsB k)) ?_ rfl σ
  refine acalls_of cx_ok dr_ok Try.func58 (by kernel_rfl) rfl (nt := 23) (rs := [.tmp 2]) rfl rfl ?_
  repeat' first | ((with_reducible first | refine cond_split (fun h => ?_) (fun h => ?_) | refine want_split (fun h => ?_) (fun h => ?_)) <;> (try simp only [h])) | (simp only [↓wBA, wBB, wBC, cx_muts, cx_arr, wBD, convA, Nat.reduceBEq, reduceIte, reduceCtorEq, reducePow, reduceAdd, reduceSub, reduceMul, reduceEqDiff, reduceLeDiff, Nat.reduceLT, Int.reduceLT, Int.reduceLE, Int.reduceToNat, ty58_XVo, bu_len, bu_max, bu_min])
  all_goals refine ret_is (a := _) ?_ rfl rfl
  all_goals simp only [↓wBA, wBB, wBC, cx_muts, cx_arr, wBD, convA, Nat.reduceBEq, reduceIte, reduceCtorEq, reducePow, reduceAdd, reduceSub, reduceMul, reduceEqDiff, reduceLeDiff, Nat.reduceLT, Int.reduceLT, Int.reduceLE, Int.reduceToNat, ty58_XVo]
  all_goals simp_all [resA, resL, resV, leT, leG, leA, leC, leM, leaf, tokLt, tokLtL, intV, boolV, nilA, nilSl, kidsB]
  all_goals grind
set_option maxRecDepth 100000 in
set_option maxHeartbeats 4000000 in
theorem akidsV (k : Int) (σ : St) : ACalls Try.prog 75 [intV .i64 k] σ fun r s => s = σ ∧ r = intV .i64 (kidsV k) := by
  refine ACalls.pureF (R := fun r => r = intV .i64 (kidsV k)) ?_ rfl σ
  refine acalls_of cx_ok dr_ok Try.func75 (by kernel_rfl) rfl (nt := 25) (rs := [.tmp 2]) rfl rfl ?_
  repeat' first | ((with_reducible first | refine cond_split (fun h => ?_) (fun h => ?_) | refine want_split (fun h => ?_) (fun h => ?_)) <;> (try simp only [h])) | (simp only [↓wBA, wBB, wBC, cx_muts, cx_arr, wBD, convA, Nat.reduceBEq, reduceIte, reduceCtorEq, reducePow, reduceAdd, reduceSub, reduceMul, reduceEqDiff, reduceLeDiff, Nat.reduceLT, Int.reduceLT, Int.reduceLE, Int.reduceToNat, ty75_XVo, bu_len, bu_max, bu_min])
  all_goals refine ret_is (a := _) ?_ rfl rfl
  all_goals simp only [↓wBA, wBB, wBC, cx_muts, cx_arr, wBD, convA, Nat.reduceBEq, reduceIte, reduceCtorEq, reducePow, reduceAdd, reduceSub, reduceMul, reduceEqDiff, reduceLeDiff, Nat.reduceLT, Int.reduceLT, Int.reduceLE, Int.reduceToNat, ty75_XVo]
  all_goals simp_all [resA, resL, resV, leT, leG, leA, leC, leM, leaf, tokLt, tokLtL, intV, boolV, nilA, nilSl, kidsV]
  all_goals grind
def aggB (k : Int) : Bool := decide (20 ≤ k) && decide (k ≤ 23)
set_option maxRecDepth 100000 in
set_option maxHeartbeats 4000000 in
theorem aaggB (k : Int) (σ : St) : ACalls Try.prog 57 [intV .i64 k] σ fun r s => s = σ ∧ r = boolV (aggB k) := by
  refine ACalls.pureF (R := fun r => r = boolV (aggB k)) ?_ rfl σ
  refine acalls_of cx_ok dr_ok Try.func57 (by kernel_rfl) rfl (nt := 8) (rs := [.tmp 2]) rfl rfl ?_
  repeat' first | ((with_reducible first | refine cond_split (fun h => ?_) (fun h => ?_) | refine want_split (fun h => ?_) (fun h => ?_)) <;> (try simp only [h])) | (simp only [↓wBA, wBB, wBC, cx_muts, cx_arr, wBD, convA, Nat.reduceBEq, reduceIte, reduceCtorEq, reducePow, reduceAdd, reduceSub, reduceMul, reduceEqDiff, reduceLeDiff, Nat.reduceLT, Int.reduceLT, Int.reduceLE, Int.reduceToNat, ty57_XVo, bu_len, bu_max, bu_min])
  all_goals refine ret_is (a := _) ?_ rfl rfl
  all_goals simp only [↓wBA, wBB, wBC, cx_muts, cx_arr, wBD, convA, Nat.reduceBEq, reduceIte, reduceCtorEq, reducePow, reduceAdd, reduceSub, reduceMul, reduceEqDiff, reduceLeDiff, Nat.reduceLT, Int.reduceLT, Int.reduceLE, Int.reduceToNat, ty57_XVo]
  all_goals simp_all [resA, resL, resV, leT, leG, leA, leC, leM, leaf, tokLt, tokLtL, intV, boolV, nilA, nilSl, aggB]
  all_goals grind
set_option maxRecDepth 100000 in
set_option maxHeartbeats 4000000 in
theorem atruth (b : Bool) (σ : St) : ACalls Try.prog 82 [boolV b] σ fun r s => s = σ ∧ r = vaA (trV b) := by
  refine ACalls.pureF (R := fun r => r = vaA (trV b)) ?_ rfl σ
  refine acalls_of cx_ok dr_ok Try.func82 (by kernel_rfl) rfl (nt := 5) (rs := [.cell 2 50]) rfl rfl ?_
  repeat' first | ((with_reducible first | refine cond_split (fun h => ?_) (fun h => ?_) | refine want_split (fun h => ?_) (fun h => ?_)) <;> (try simp only [h])) | (simp only [↓wBA, wBB, wBC, cx_muts, cx_arr, wBD, convA, Nat.reduceBEq, reduceIte, reduceCtorEq, reducePow, reduceAdd, reduceSub, reduceMul, reduceEqDiff, reduceLeDiff, Nat.reduceLT, Int.reduceLT, Int.reduceLE, Int.reduceToNat, ty82_XVo, bu_len, bu_max, bu_min])
  all_goals refine ret_is (a := _) ?_ rfl rfl
  all_goals simp only [↓wBA, wBB, wBC, cx_muts, cx_arr, wBD, convA, Nat.reduceBEq, reduceIte, reduceCtorEq, reducePow, reduceAdd, reduceSub, reduceMul, reduceEqDiff, reduceLeDiff, Nat.reduceLT, Int.reduceLT, Int.reduceLE, Int.reduceToNat, ty82_XVo]
  all_goals simp_all [resA, resL, resV, leT, leG, leA, leC, leM, leaf, tokLt, tokLtL, intV, boolV, nilA, nilSl, vaA, vaC, trV, emp]
end Go.Proofs.Ytcnkmandddfdmaa
namespace Go.Proofs.Ytcnkmandddfdmaa
open Go.RowKit
open Nat (reducePow reduceAdd reduceSub reduceMul reduceEqDiff reduceLeDiff)
theorem ty60_XBi : (type_of% ck_3) ∧ (type_of% cx_3) ∧ (type_of% ck_9) ∧ (type_of% cx_9) ∧ (type_of% ck_66) ∧ (type_of% cx_66) ∧ (type_of% @ks_66) ∧ (type_of% @ko_66) ∧ (type_of% @kn_66) ∧ (type_of% kz_66) ∧ (type_of% ck_93) ∧ (type_of% cx_93) ∧ (type_of% ce_93) := ⟨ck_3, cx_3, ck_9, cx_9, ck_66, cx_66, @ks_66, @ko_66, @kn_66, kz_66, ck_93, cx_93, ce_93⟩
/-- A column of a scope: its table, its name, its type. -/
abbrev Bc := ByteArray × ByteArray × Int
def bcC (c : Bc) : List PV := [.v (.string c.1), .v (.string c.2.1), .v (.int .i64 c.2.2)]
def enBc (l : List Bc) : List (List PV) := l.map bcC
theorem enBc_len (l : List Bc) : (enBc l).length = l.length := by simp [enBc]
theorem enBc_get (l : List Bc) (i : Nat) (h : i < l.length) : (enBc l)[i]? = some (bcC l[i]) := by simp [enBc, h]
def mBc (tb nm : ByteArray) (c : Bc) : Bool := c.2.1.toList == nm.toList && (tb.toList == emp.toList || c.1.toList == tb.toList)
/-- A step of the search: the place, what was found, whether it was found twice. -/
def fStep (tb nm : ByteArray) (s : Nat × Int × Bool) (c : Bc) : Nat × Int × Bool := (s.1 + 1, if mBc tb nm c then (s.1 : Int) else s.2.1, s.2.2 || (mBc tb nm c && decide (0 ≤ s.2.1)))
def fGo (tb nm : ByteArray) (l : List Bc) : Nat × Int × Bool := l.foldl (fStep tb nm) (0, -1, false)
def findS (tb nm : ByteArray) (cols : List Bc) : Int × Int := if (fGo tb nm cols).2.2 = true ∨ (fGo tb nm cols).2.1 < 0 then (0, 32) else ((fGo tb nm cols).2.1, 0)
theorem fold_step {α β : Type} (f : β → α → β) (b : β) (l : List α) (i : Nat) (h : i < l.length) : (l.take (i + 1)).foldl f b = f ((l.take i).foldl f b) l[i] := by
  rw [List.take_succ_eq_append_getElem h, List.foldl_append]; rfl
theorem fGo_bad (tb nm : ByteArray) : ∀ (l : List Bc) (s : Nat × Int × Bool), s.2.2 = true → (l.foldl (fStep tb nm) s).2.2 = true
  | [], s, h => h
  | c :: l, s, h => fGo_bad tb nm l _ (by simp [fStep, h])
theorem fGo_take (tb nm : ByteArray) (l : List Bc) (i : Nat) (h : (fGo tb nm (l.take i)).2.2 = true) : (fGo tb nm l).2.2 = true := by
  have : l = l.take i ++ l.drop i := (List.take_append_drop i l).symm
  rw [fGo, this, List.foldl_append]
  exact fGo_bad tb nm _ _ h
theorem fGo_inv (tb nm : ByteArray) : ∀ (l : List Bc) (s : Nat × Int × Bool), -1 ≤ s.2.1 → s.2.1 < s.1 → (l.foldl (fStep tb nm) s).1 = s.1 + l.length ∧ -1 ≤ (l.foldl (fStep tb nm) s).2.1 ∧ (l.foldl (fStep tb nm) s).2.1 < (l.foldl (fStep tb nm) s).1
  | [], s, h1, h2 => ⟨by simp, h1, h2⟩
  | c :: l, s, h1, h2 => by
    have := fGo_inv tb nm l (fStep tb nm s c) (by simp only [fStep]; split <;> omega) (by simp only [fStep]; split <;> omega)
    simp only [List.foldl_cons, List.length_cons]
    refine ⟨?_, this.2.1, this.2.2⟩
    rw [this.1]; simp only [fStep]; omega
theorem findS_lt {tb nm : ByteArray} {cols : List Bc} (h : (findS tb nm cols).2 = 0) : 0 ≤ (findS tb nm cols).1 ∧ (findS tb nm cols).1.toNat < cols.length := by
  have := fGo_inv tb nm cols (0, -1, false) (by simp) (by simp)
  unfold findS fGo at *
  split
  · rename_i hc; rw [if_pos hc] at h; simp at h
  · rename_i hc; simp only [not_or] at hc; simp only; omega
set_option maxRecDepth 100000 in
set_option maxHeartbeats 4000000 in
theorem afind0 (tb nm : ByteArray) (cols : List Bc) (hc : cols.length ≤ 4398046511104) (σ : St) : ACalls Try.prog 60 [.p (.v (.string tb)), .p (.v (.string nm)), .p (.sl 3 (enBc cols))] σ fun r s => s = σ ∧ r = .tup [intV .i64 (findS tb nm cols).1, intV .i64 (findS tb nm cols).2] := by
  refine ACalls.pureF (R := fun r => r = .tup [intV .i64 (findS tb nm cols).1, intV .i64 (findS tb nm cols).2]) ?_ rfl σ
  refine acalls_of cx_ok dr_ok Try.func60 (by kernel_rfl) rfl (nt := 36) (rs := [.tmp 6, .tmp 7]) rfl rfl ?_
  simp only [↓wBA, wBB, wBC, cx_muts, cx_arr, wBD, convA, Nat.reduceBEq, reduceIte, reduceCtorEq, reducePow, reduceAdd, reduceSub, reduceMul, reduceEqDiff, reduceLeDiff, Nat.reduceLT, Int.reduceLT, Int.reduceLE, Int.reduceToNat, ty60_XBi, enBc_len]
  refine awp_loopN (cols.length) (fun i => [(8, intV .i64 (fGo tb nm (cols.take i)).2.1), (13, intV .i64 (i : Nat)), (6, .any), (7, .any), (9, .any), (10, .any), (14, .any), (15, .any), (16, .any), (17, .any), (18, .any), (19, .any), (20, .any), (21, .any), (22, .any), (23, .any), (24, .any), (25, .any), (26, .any), (27, .any), (28, .any), (29, .any), (30, .any), (31, .any), (32, .any), (33, .any), (34, .any), (35, .any)]) (fun i => []) (fun i => (fGo tb nm (cols.take i)).2.2 = false) ?_ ?_ ?_
  · rfl
  · skip
    simp only [setsF_cons, setsF_nil, setsO_cons, setsO_nil, List.set_cons_zero, List.set_cons_succ, List.length_cons, List.length_nil, St.put, Nat.zero_add, Nat.reduceAdd, Nat.reduceLT, Nat.lt_irrefl, reduceIte, List.cons_append, List.nil_append]
    simp [WeakE, Weak, setsF, setsO, St.put, leL, leT, leM, leG, leA, leC, leR, leS, leO, tokLt, tokLtL, intV, boolV, leaf, nilA, nilSl, fGo]
  · intro i hi hI
    simp only [setsF_cons, setsF_nil, setsO_cons, setsO_nil, List.set_cons_zero, List.set_cons_succ, List.length_cons, List.length_nil, St.put, Nat.zero_add, Nat.reduceAdd, Nat.reduceLT, Nat.lt_irrefl, reduceIte, List.cons_append, List.nil_append]
    by_cases hlt : i < cols.length
    · have hdec : decide ((i : Int) < (cols.length : Int)) = true := by simp; omega
      have hi0 : ((0 : Int) ≤ (i : Int)) = True := eq_true (by omega)
      have hw : IntKind.i64.wrap ((i : Int) + 1) = ((i + 1 : Nat) : Int) := by rw [wrap_i64 (by omega) (by omega)]; simp
      have hg := enBc_get cols i hlt
      have hst : fGo tb nm (cols.take (i + 1)) = fStep tb nm (fGo tb nm (cols.take i)) cols[i] := fold_step _ _ _ _ hlt
      have hbad := fGo_take tb nm cols (i + 1)
      have hinv := fGo_inv tb nm (cols.take i) (0, -1, false) (by simp) (by simp)
      change (fGo tb nm (cols.take i)).1 = _ ∧ _ at hinv
      have hidx : (fGo tb nm (cols.take i)).1 = i := by rw [hinv.1]; simp; omega
      have hfin : (fGo tb nm cols).2.2 = true → findS tb nm cols = (0, 32) := fun h => by unfold findS; rw [if_pos (.inl h)]
      rcases hc : cols[i] with ⟨c1, c2, c3⟩
      rw [hc] at hst hg
      simp only [bcC] at hg
      repeat' first | ((with_reducible first | refine cond_split (fun h => ?_) (fun h => ?_) | refine want_split (fun h => ?_) (fun h => ?_)) <;> (try simp only [h])) | (simp only [↓wBA, wBB, wBC, cx_muts, cx_arr, wBD, convA, Nat.reduceBEq, reduceIte, reduceCtorEq, reducePow, reduceAdd, reduceSub, reduceMul, reduceEqDiff, reduceLeDiff, Nat.reduceLT, Int.reduceLT, Int.reduceLE, Int.reduceToNat, ty60_XBi, bu_len, bu_max, bu_min, enBc_len, hdec, hi0, hg, hw, binStr])
      all_goals first
        | (refine ⟨⟨i + 1, by omega, ?_⟩, by show cols.length - (i + 1) < cols.length - i; omega, ?_⟩
           · rw [hst]; simp_all [fStep, mBc, emp]
           · simp only [setsF_cons, setsF_nil, setsO_cons, setsO_nil, List.set_cons_zero, List.set_cons_succ, St.put, hst]
             simp_all [WeakE, Weak, leL, leT, leM, leG, leA, leC, leS, leO, tokLt, tokLtL, intV, boolV, fStep, mBc, emp])
        | skip
      all_goals have hb : (fGo tb nm cols).2.2 = true := hbad (by rw [hst]; simp_all [fStep, mBc, emp])
      all_goals have hf := hfin hb
      all_goals simp only [hf]
      all_goals refine ret_is (a := _) ?_ rfl rfl
      all_goals simp only [↓wBA, wBB, wBC, cx_muts, cx_arr, wBD, convA, Nat.reduceBEq, reduceIte, reduceCtorEq, reducePow, reduceAdd, reduceSub, reduceMul, reduceEqDiff, reduceLeDiff, Nat.reduceLT, Int.reduceLT, Int.reduceLE, Int.reduceToNat, ty60_XBi]
      all_goals simp_all [resA, resL, resV, leT, leG, leA, leC, leM, leaf, tokLt, tokLtL, intV, boolV, nilA, nilSl]
    · have hdec : decide ((i : Int) < (cols.length : Int)) = false := by simp; omega
      have ht : cols.take i = cols := List.take_of_length_le (by omega)
      rw [ht] at hI
      simp only [ht]
      repeat' first | ((with_reducible first | refine cond_split (fun h => ?_) (fun h => ?_) | refine want_split (fun h => ?_) (fun h => ?_)) <;> (try simp only [h])) | (simp only [↓wBA, wBB, wBC, cx_muts, cx_arr, wBD, convA, Nat.reduceBEq, reduceIte, reduceCtorEq, reducePow, reduceAdd, reduceSub, reduceMul, reduceEqDiff, reduceLeDiff, Nat.reduceLT, Int.reduceLT, Int.reduceLE, Int.reduceToNat, ty60_XBi, bu_len, bu_max, bu_min, enBc_len, hdec])
      all_goals refine ret_is (a := _) ?_ rfl rfl
      all_goals simp only [↓wBA, wBB, wBC, cx_muts, cx_arr, wBD, convA, Nat.reduceBEq, reduceIte, reduceCtorEq, reducePow, reduceAdd, reduceSub, reduceMul, reduceEqDiff, reduceLeDiff, Nat.reduceLT, Int.reduceLT, Int.reduceLE, Int.reduceToNat, ty60_XBi]
      all_goals simp_all [resA, resL, resV, leT, leG, leA, leC, leM, leaf, tokLt, tokLtL, intV, boolV, nilA, nilSl, findS]
      all_goals grind
end Go.Proofs.Ytcnkmandddfdmaa
namespace Go.Proofs.Ytcnkmandddfdmaa
open Go.RowKit
open Nat (reducePow reduceAdd reduceSub reduceMul reduceEqDiff reduceLeDiff)
def pl61_12_XBt : Plan := (.det 0 (.det 1 (.det 2 (.det 3 (.det 4 (.det 5 (.det 6 (.det 7 (.fin 8 (.det 9 (.det 10 .done)))))))))))
theorem ty74_XBt : (type_of% ck_3) ∧ (type_of% cx_3) := ⟨ck_3, cx_3⟩
theorem ty81_XBt : (type_of% ck_3) ∧ (type_of% cx_3) ∧ (type_of% ck_61) ∧ (type_of% cx_61) ∧ (type_of% @ks_61) ∧ (type_of% @ko_61) ∧ (type_of% @kn_61) ∧ (type_of% kz_61) := ⟨ck_3, cx_3, ck_61, cx_61, @ks_61, @ko_61, @kn_61, kz_61⟩
theorem ty73_XBt : (type_of% ck_3) ∧ (type_of% cx_3) ∧ (type_of% ck_61) ∧ (type_of% cx_61) ∧ (type_of% @ks_61) ∧ (type_of% @ko_61) ∧ (type_of% @kn_61) ∧ (type_of% kz_61) ∧ (type_of% ck_124) ∧ (type_of% cx_124) := ⟨ck_3, cx_3, ck_61, cx_61, @ks_61, @ko_61, @kn_61, kz_61, ck_124, cx_124⟩
theorem ty72_XBt : (type_of% ck_3) ∧ (type_of% cx_3) ∧ (type_of% ck_4) ∧ (type_of% cx_4) ∧ (type_of% ck_61) ∧ (type_of% cx_61) ∧ (type_of% @ks_61) ∧ (type_of% @ko_61) ∧ (type_of% @kn_61) ∧ (type_of% kz_61) ∧ (type_of% ck_124) ∧ (type_of% cx_124) := ⟨ck_3, cx_3, ck_4, cx_4, ck_61, cx_61, @ks_61, @ko_61, @kn_61, kz_61, ck_124, cx_124⟩
theorem ty61_XBt : (type_of% ck_3) ∧ (type_of% cx_3) ∧ (type_of% ck_61) ∧ (type_of% cx_61) ∧ (type_of% @ks_61) ∧ (type_of% @ko_61) ∧ (type_of% @kn_61) ∧ (type_of% kz_61) := ⟨ck_3, cx_3, ck_61, cx_61, @ks_61, @ko_61, @kn_61, kz_61⟩
def enI (l : List Int) : List (List PV) := l.map fun n => [.v (.int .i64 n)]
theorem enI_len (l : List Int) : (enI l).length = l.length := by simp [enI]
theorem enI_get (l : List Int) (i : Nat) (h : i < l.length) : (enI l)[i]? = some [.v (.int .i64 l[i])] := by simp [enI, h]
/-- The place of the first one of which p holds, or -1. -/
def idxP {α : Type} (p : α → Bool) (l : List α) : Int := match l.findIdx? p with
  | some i => (i : Nat)
  | none => -1
theorem idxP_at {α : Type} (p : α → Bool) (l : List α) (i : Nat) (h : i < l.length) (h1 : ∀ j (hj : j < i), p (l[j]'(by omega)) = false) (h2 : p l[i] = true) : idxP p l = (i : Nat) := by
  unfold idxP
  have : l.findIdx? p = some i := by
    rw [List.findIdx?_eq_some_iff_getElem]
    exact ⟨h, h2, fun j hj => by simp [h1 j hj]⟩
  rw [this]
theorem idxP_none {α : Type} (p : α → Bool) (l : List α) (h1 : ∀ j (hj : j < l.length), p l[j] = false) : idxP p l = -1 := by
  unfold idxP
  have : l.findIdx? p = none := by
    rw [List.findIdx?_eq_none_iff]
    intro x hx
    obtain ⟨j, hj, rfl⟩ := List.getElem_of_mem hx
    exact h1 j hj
  rw [this]
theorem idxP_ge {α : Type} (p : α → Bool) (l : List α) : decide (idxP p l ≥ 0) = l.any p := by
  unfold idxP
  split
  · rename_i i h
    have := List.findIdx?_eq_some_iff_getElem.1 h
    obtain ⟨h1, h2, _⟩ := this
    have : l.any p = true := List.any_eq_true.2 ⟨_, List.getElem_mem h1, h2⟩
    rw [this]; simp
  · rename_i h
    rw [List.findIdx?_eq_none_iff] at h
    have : l.any p = false := by rw [List.any_eq_false]; intro x hx; simp [h x hx]
    rw [this]; simp
/-- A number in a variable. -/
def nuO (t : Int) (_ : Nat) : Ob := .row 1 [[intV .i64 t]]
theorem nuP (t : Int) (u : Nat) : PlainOb (nuO t u) := ⟨fun g => by simp [renOb, nuO, renL, renA, intV], fun n => by simp [tokOb, nuO, tokLtL, tokLt, intV], 1, _, rfl⟩
def badT (t k : Int) : Bool := k != t && k != 0
set_option maxRecDepth 100000 in
set_option maxHeartbeats 4000000 in
theorem abadT (t k : Int) : OCalls (nuO t) 74 (fun p => [intV .i64 k, .mp p 1 0 0]) 0 fun r _ => r = boolV (badT t k) := by
  refine OCalls.mono (R := fun r s' => r = boolV (badT t k) ∧ s' = 0) (OCalls.of (nuP t) (fun t => rfl) rfl ?_) fun r s h => h.1
  refine acalls_of cx_ok dr_ok Try.func74 (by kernel_rfl) rfl (nt := 9) (rs := [.tmp 3]) rfl rfl ?_
  simp only [nuO]
  repeat' first | ((with_reducible first | refine cond_split (fun h => ?_) (fun h => ?_) | refine want_split (fun h => ?_) (fun h => ?_)) <;> (try simp only [h])) | (simp only [↓wBA, wBB, wBC, cx_muts, cx_arr, wBD, convA, Nat.reduceBEq, reduceIte, reduceCtorEq, reducePow, reduceAdd, reduceSub, reduceMul, reduceEqDiff, reduceLeDiff, Nat.reduceLT, Int.reduceLT, Int.reduceLE, Int.reduceToNat, ty74_XBt, bu_len, bu_max, bu_min])
  all_goals refine ret_obI (a := _) (b := _) (nuP _ _) ?_ rfl rfl
  all_goals simp only [↓wBA, wBB, wBC, cx_muts, cx_arr, wBD, convA, Nat.reduceBEq, reduceIte, reduceCtorEq, reducePow, reduceAdd, reduceSub, reduceMul, reduceEqDiff, reduceLeDiff, Nat.reduceLT, Int.reduceLT, Int.reduceLE, Int.reduceToNat, ty74_XBt]
  all_goals simp_all [resA, resL, resV, leT, leG, leA, leC, leM, leaf, tokLt, tokLtL, intV, boolV, nilA, nilSl, nuO, badT]
set_option maxRecDepth 100000 in
set_option maxHeartbeats 4000000 in
theorem aidxT (t : Int) (ts : List Int) (hl : ts.length ≤ 4398046511104) : OCalls (nuO t) 81 (fun p => [.p (.sl 1 (enI ts)), .fn 74 [] [.mp p 1 0 0]]) 0 fun r _ => r = intV .i64 (idxP (badT t) ts) := by
  refine OCalls.mono (R := fun r s' => r = intV .i64 (idxP (badT t) ts) ∧ s' = 0) (OCalls.of (nuP t) (fun t => rfl) rfl ?_) fun r s h => h.1
  have hB := fun k => abadT t k
  refine acalls_of cx_ok dr_ok Try.func81 (by kernel_rfl) rfl (nt := 17) (rs := [.tmp 4]) rfl rfl ?_
  simp only [nuO]
  simp only [↓wBA, wBB, wBC, cx_muts, cx_arr, wBD, convA, Nat.reduceBEq, reduceIte, reduceCtorEq, reducePow, reduceAdd, reduceSub, reduceMul, reduceEqDiff, reduceLeDiff, Nat.reduceLT, Int.reduceLT, Int.reduceLE, Int.reduceToNat, ty81_XBt, enI_len]
  refine awp_loopN (ts.length) (fun i => [(8, intV .i64 (i : Nat)), (4, .any), (5, .any), (9, .any), (10, .any), (11, .any), (12, .any), (13, .any), (14, .any), (15, .any), (16, .any), (17, .any), (18, .any)]) (fun i => []) (fun i => ∀ j (hj : j < i) (hj' : j < ts.length), badT t ts[j] = false) ?_ ?_ ?_
  · intro j hj; omega
  · skip
    simp only [setsF_cons, setsF_nil, setsO_cons, setsO_nil, List.set_cons_zero, List.set_cons_succ, List.length_cons, List.length_nil, St.put, Nat.zero_add, Nat.reduceAdd, Nat.reduceLT, Nat.lt_irrefl, reduceIte, List.cons_append, List.nil_append]
    simp [WeakE, Weak, setsF, setsO, St.put, leL, leT, leM, leG, leA, leC, leR, leS, leO, tokLt, tokLtL, intV, boolV, leaf, nilA, nilSl]
  · intro i hi hI
    simp only [setsF_cons, setsF_nil, setsO_cons, setsO_nil, List.set_cons_zero, List.set_cons_succ, List.length_cons, List.length_nil, St.put, Nat.zero_add, Nat.reduceAdd, Nat.reduceLT, Nat.lt_irrefl, reduceIte, List.cons_append, List.nil_append]
    by_cases hlt : i < ts.length
    · have hdec : decide ((i : Int) < (ts.length : Int)) = true := by simp; omega
      have hi0 : ((0 : Int) ≤ (i : Int)) = True := eq_true (by omega)
      have hw : IntKind.i64.wrap ((i : Int) + 1) = ((i + 1 : Nat) : Int) := by rw [wrap_i64 (by omega) (by omega)]; simp
      have hg := enI_get ts i hlt
      repeat' first | ((with_reducible first | refine cond_split (fun h => ?_) (fun h => ?_) | refine want_split (fun h => ?_) (fun h => ?_)) <;> (try simp only [h])) | (simp only [↓wBA, wBB, wBC, cx_muts, cx_arr, wBD, convA, Nat.reduceBEq, reduceIte, reduceCtorEq, reducePow, reduceAdd, reduceSub, reduceMul, reduceEqDiff, reduceLeDiff, Nat.reduceLT, Int.reduceLT, Int.reduceLE, Int.reduceToNat, ty81_XBt, bu_len, bu_max, bu_min, enI_len, hdec, hi0, hg, hw]) | ((with_reducible show ACalls _ _ _ _ _); refine (hB _ _ 0 rfl).mono ?_; rintro _ _ ⟨_, rfl, rfl⟩; simp only [nuO])
      · have hix := idxP_at (badT t) ts i hlt (fun j hj => hI j hj (by omega)) h
        simp only [hix]
        all_goals refine ret_obI (a := _) (b := _) (nuP _ _) ?_ rfl rfl
        all_goals simp only [↓wBA, wBB, wBC, cx_muts, cx_arr, wBD, convA, Nat.reduceBEq, reduceIte, reduceCtorEq, reducePow, reduceAdd, reduceSub, reduceMul, reduceEqDiff, reduceLeDiff, Nat.reduceLT, Int.reduceLT, Int.reduceLE, Int.reduceToNat, ty81_XBt]
        all_goals simp_all [resA, resL, resV, leT, leG, leA, leC, leM, leaf, tokLt, tokLtL, intV, boolV, nilA, nilSl, nuO]
      · skip
        refine ⟨⟨i + 1, by omega, ?_⟩, by show ts.length - (i + 1) < ts.length - i; omega, ?_⟩
        · intro j hj hj'
          by_cases e : j = i
          · subst e; exact h
          · exact hI j (by omega) hj'
        · skip
          simp only [setsF_cons, setsF_nil, setsO_cons, setsO_nil, List.set_cons_zero, List.set_cons_succ, List.length_cons, List.length_nil, St.put, Nat.zero_add, Nat.reduceAdd, Nat.reduceLT, Nat.lt_irrefl, reduceIte, List.cons_append, List.nil_append]
          simp [WeakE, Weak, setsF, setsO, St.put, leL, leT, leM, leG, leA, leC, leR, leS, leO, tokLt, tokLtL, intV, boolV, leaf, nilA, nilSl]
    · have hdec : decide ((i : Int) < (ts.length : Int)) = false := by simp; omega
      have hix := idxP_none (badT t) ts (fun j hj => hI j (by omega) hj)
      simp only [hix]
      repeat' first | ((with_reducible first | refine cond_split (fun h => ?_) (fun h => ?_) | refine want_split (fun h => ?_) (fun h => ?_)) <;> (try simp only [h])) | (simp only [↓wBA, wBB, wBC, cx_muts, cx_arr, wBD, convA, Nat.reduceBEq, reduceIte, reduceCtorEq, reducePow, reduceAdd, reduceSub, reduceMul, reduceEqDiff, reduceLeDiff, Nat.reduceLT, Int.reduceLT, Int.reduceLE, Int.reduceToNat, ty81_XBt, bu_len, bu_max, bu_min, enI_len, hdec])
      all_goals refine ret_obI (a := _) (b := _) (nuP _ _) ?_ rfl rfl
      all_goals simp only [↓wBA, wBB, wBC, cx_muts, cx_arr, wBD, convA, Nat.reduceBEq, reduceIte, reduceCtorEq, reducePow, reduceAdd, reduceSub, reduceMul, reduceEqDiff, reduceLeDiff, Nat.reduceLT, Int.reduceLT, Int.reduceLE, Int.reduceToNat, ty81_XBt]
      all_goals simp_all [resA, resL, resV, leT, leG, leA, leC, leM, leaf, tokLt, tokLtL, intV, boolV, nilA, nilSl, nuO]
set_option maxRecDepth 100000 in
set_option maxHeartbeats 4000000 in
theorem acontT (t : Int) (ts : List Int) (hl : ts.length ≤ 4398046511104) : OCalls (nuO t) 73 (fun p => [.p (.sl 1 (enI ts)), .fn 74 [] [.mp p 1 0 0]]) 0 fun r _ => r = boolV (ts.any (badT t)) := by
  refine OCalls.mono (R := fun r s' => r = boolV (ts.any (badT t)) ∧ s' = 0) (OCalls.of (nuP t) (fun t => rfl) rfl ?_) fun r s h => h.1
  have hB := aidxT t ts hl
  refine acalls_of cx_ok dr_ok Try.func73 (by kernel_rfl) rfl (nt := 7) (rs := [.tmp 4]) rfl rfl ?_
  simp only [nuO]
  repeat' first | ((with_reducible first | refine cond_split (fun h => ?_) (fun h => ?_) | refine want_split (fun h => ?_) (fun h => ?_)) <;> (try simp only [h])) | (simp only [↓wBA, wBB, wBC, cx_muts, cx_arr, wBD, convA, Nat.reduceBEq, reduceIte, reduceCtorEq, reducePow, reduceAdd, reduceSub, reduceMul, reduceEqDiff, reduceLeDiff, Nat.reduceLT, Int.reduceLT, Int.reduceLE, Int.reduceToNat, ty73_XBt, bu_len, bu_max, bu_min, idxP_ge]) | ((with_reducible show ACalls _ _ _ _ _); refine (hB _ 0 rfl).mono ?_; rintro _ _ ⟨_, rfl, rfl⟩; simp only [nuO])
  all_goals refine ret_obI (a := _) (b := _) (nuP _ _) ?_ rfl rfl
  all_goals simp only [↓wBA, wBB, wBC, cx_muts, cx_arr, wBD, convA, Nat.reduceBEq, reduceIte, reduceCtorEq, reducePow, reduceAdd, reduceSub, reduceMul, reduceEqDiff, reduceLeDiff, Nat.reduceLT, Int.reduceLT, Int.reduceLE, Int.reduceToNat, ty73_XBt]
  all_goals simp_all [resA, resL, resV, leT, leG, leA, leC, leM, leaf, tokLt, tokLtL, intV, boolV, nilA, nilSl, nuO]
/-- Types in a variable. -/
def tyO (ts : List Int) (_ : Nat) : Ob := .row 1 [[.p (.sl 1 (enI ts))]]
theorem tyP (ts : List Int) (u : Nat) : PlainOb (tyO ts u) := ⟨fun g => by simp [renOb, tyO, renL, renA], fun n => by simp [tokOb, tyO, tokLtL, tokLt], 1, _, rfl⟩
def onlyS (t : Int) (ts : List Int) : Bool := !ts.any (badT t)
set_option maxRecDepth 100000 in
set_option maxHeartbeats 4000000 in
theorem aonly (t : Int) (ts : List Int) (hl : ts.length ≤ 4398046511104) : OCalls (tyO ts) 72 (fun p => [intV .i64 t, .mp p 1 0 0]) 0 fun r _ => r = boolV (onlyS t ts) := by
  refine OCalls.mono (R := fun r s' => r = boolV (onlyS t ts) ∧ s' = 0) (OCalls.of (tyP ts) (fun t => rfl) rfl ?_) fun r s h => h.1
  have hB := acontT t ts hl
  refine acalls_of cx_ok dr_ok Try.func72 (by kernel_rfl) rfl (nt := 6) (rs := [.tmp 3]) rfl rfl ?_
  simp only [tyO]
  repeat' first | ((with_reducible first | refine cond_split (fun h => ?_) (fun h => ?_) | refine want_split (fun h => ?_) (fun h => ?_)) <;> (try simp only [h])) | (simp only [↓wBA, wBB, wBC, cx_muts, cx_arr, wBD, convA, Nat.reduceBEq, reduceIte, reduceCtorEq, reducePow, reduceAdd, reduceSub, reduceMul, reduceEqDiff, reduceLeDiff, Nat.reduceLT, Int.reduceLT, Int.reduceLE, Int.reduceToNat, ty72_XBt, bu_len, bu_max, bu_min]) | ((with_reducible show ACalls _ _ _ _ _); refine (hB _ 1 rfl).mono ?_; rintro _ _ ⟨_, rfl, rfl⟩; simp only [nuO])
  all_goals refine ret_obI (a := _) (b := _) (tyP _ _) ?_ rfl rfl
  all_goals simp only [↓wBA, wBB, wBC, cx_muts, cx_arr, wBD, convA, Nat.reduceBEq, reduceIte, reduceCtorEq, reducePow, reduceAdd, reduceSub, reduceMul, reduceEqDiff, reduceLeDiff, Nat.reduceLT, Int.reduceLT, Int.reduceLE, Int.reduceToNat, ty72_XBt]
  all_goals simp_all [resA, resL, resV, leT, leG, leA, leC, leM, leaf, tokLt, tokLtL, intV, boolV, nilA, nilSl, tyO, onlyS]
def typedS (k : Int) (ts : List Int) : Int × Bool :=
  if k = 3 ∨ (5 ≤ k ∧ k ≤ 9) then (1, onlyS 1 ts)
  else if k = 4 ∨ k = 16 ∨ k = 17 then (2, onlyS 2 ts)
  else if k = 18 ∨ k = 19 then (2, true)
  else (2, onlyS (if ts.getD 1 0 > ts.getD 0 0 then ts.getD 1 0 else ts.getD 0 0) ts)
set_option maxRecDepth 100000 in
set_option maxHeartbeats 8000000 in
theorem atyped (k : Int) (ts : List Int) (hl : ts.length ≤ 4398046511104) (hk : 2 ≤ ts.length ∨ k = 3 ∨ k = 4 ∨ k = 18 ∨ k = 19) (σ : St) : ACalls Try.prog 61 [intV .i64 k, .p (.sl 1 (enI ts))] σ fun r s => s = σ ∧ r = .tup [intV .i64 (typedS k ts).1, boolV (typedS k ts).2] := by
  refine ACalls.pureF (R := fun r => r = .tup [intV .i64 (typedS k ts).1, boolV (typedS k ts).2]) ?_ rfl σ
  have hB := fun t => aonly t ts hl
  have hm : ∀ n m : Int, (if m > n then m else n) = if m > n then m else n := fun _ _ => rfl
  have hd0 : 2 ≤ ts.length → (enI ts)[(0 : Nat)]? = some [.v (.int .i64 (ts.getD 0 0))] := fun h => by rw [enI_get ts 0 (by omega)]; simp [List.getD, show 0 < ts.length by omega]
  have hd1 : 2 ≤ ts.length → (enI ts)[(1 : Nat)]? = some [.v (.int .i64 (ts.getD 1 0))] := fun h => by rw [enI_get ts 1 (by omega)]; simp [List.getD, show 1 < ts.length by omega]
  refine acalls_of cx_ok dr_ok Try.func61 (by kernel_rfl) rfl (nt := 40) (rs := [.tmp 4, .tmp 5]) rfl rfl ?_
  by_cases h2 : 2 ≤ ts.length
  · have e0 := hd0 h2
    have e1 := hd1 h2
    clear hd0 hd1
    repeat' first | ((with_reducible first | refine cond_split (fun h => ?_) (fun h => ?_) | refine want_split (fun h => ?_) (fun h => ?_)) <;> (try simp only [h])) | (simp only [↓wBA, wBB, wBC, cx_muts, cx_arr, wBD, convA, Nat.reduceBEq, reduceIte, reduceCtorEq, reducePow, reduceAdd, reduceSub, reduceMul, reduceEqDiff, reduceLeDiff, Nat.reduceLT, Int.reduceLT, Int.reduceLE, Int.reduceToNat, ty61_XBt, bu_len, bu_max, bu_min, pl61_12_XBt, e0, e1]) | ((with_reducible show ACalls _ _ _ _ _); refine (hB _ _ 0 rfl).mono ?_; rintro _ _ ⟨_, rfl, rfl⟩; simp only [tyO]) | (with_reducible refine draw_plan pl61_12_XBt 11 (some 33) (by decide) (by decide) (by kernel_rfl) (by kernel_rfl) ?_) | ((with_reducible first | refine wantD_split (fun h => ?_) (fun h => ?_) | refine wantU_split (fun h => ?_) (fun h => ?_)) <;> (try simp only [h])) | (with_reducible refine And.intro ?_ ?_)
    all_goals refine ret_is (a := _) ?_ rfl rfl
    all_goals simp only [↓wBA, wBB, wBC, cx_muts, cx_arr, wBD, convA, Nat.reduceBEq, reduceIte, reduceCtorEq, reducePow, reduceAdd, reduceSub, reduceMul, reduceEqDiff, reduceLeDiff, Nat.reduceLT, Int.reduceLT, Int.reduceLE, Int.reduceToNat, ty61_XBt]
    all_goals simp_all [resA, resL, resV, leT, leG, leA, leC, leM, leaf, tokLt, tokLtL, intV, boolV, nilA, nilSl, typedS]
    all_goals grind
  · have hk' : k = 3 ∨ k = 4 ∨ k = 18 ∨ k = 19 := by omega
    clear hd0 hd1
    rcases hk' with rfl | rfl | rfl | rfl
    · skip
      repeat' first | ((with_reducible first | refine cond_split (fun h => ?_) (fun h => ?_) | refine want_split (fun h => ?_) (fun h => ?_)) <;> (try simp only [h])) | (simp only [↓wBA, wBB, wBC, cx_muts, cx_arr, wBD, convA, Nat.reduceBEq, reduceIte, reduceCtorEq, reducePow, reduceAdd, reduceSub, reduceMul, reduceEqDiff, reduceLeDiff, Nat.reduceLT, Int.reduceLT, Int.reduceLE, Int.reduceToNat, ty61_XBt, bu_len, bu_max, bu_min, pl61_12_XBt, Int.reduceBEq, decide_true]) | ((with_reducible show ACalls _ _ _ _ _); refine (hB _ _ 0 rfl).mono ?_; rintro _ _ ⟨_, rfl, rfl⟩; simp only [tyO]) | (with_reducible refine draw_plan pl61_12_XBt 11 (some 33) (by decide) (by decide) (by kernel_rfl) (by kernel_rfl) ?_) | ((with_reducible first | refine wantD_split (fun h => ?_) (fun h => ?_) | refine wantU_split (fun h => ?_) (fun h => ?_)) <;> (try simp only [h])) | (with_reducible refine And.intro ?_ ?_)
      all_goals refine ret_is (a := _) ?_ rfl rfl
      all_goals simp only [↓wBA, wBB, wBC, cx_muts, cx_arr, wBD, convA, Nat.reduceBEq, reduceIte, reduceCtorEq, reducePow, reduceAdd, reduceSub, reduceMul, reduceEqDiff, reduceLeDiff, Nat.reduceLT, Int.reduceLT, Int.reduceLE, Int.reduceToNat, ty61_XBt]
      all_goals simp_all [resA, resL, resV, leT, leG, leA, leC, leM, leaf, tokLt, tokLtL, intV, boolV, nilA, nilSl, typedS]
    · skip
      repeat' first | ((with_reducible first | refine cond_split (fun h => ?_) (fun h => ?_) | refine want_split (fun h => ?_) (fun h => ?_)) <;> (try simp only [h])) | (simp only [↓wBA, wBB, wBC, cx_muts, cx_arr, wBD, convA, Nat.reduceBEq, reduceIte, reduceCtorEq, reducePow, reduceAdd, reduceSub, reduceMul, reduceEqDiff, reduceLeDiff, Nat.reduceLT, Int.reduceLT, Int.reduceLE, Int.reduceToNat, ty61_XBt, bu_len, bu_max, bu_min, pl61_12_XBt, Int.reduceBEq, Int.reduceGE, Int.reduceLE, decide_true, decide_false]) | ((with_reducible show ACalls _ _ _ _ _); refine (hB _ _ 0 rfl).mono ?_; rintro _ _ ⟨_, rfl, rfl⟩; simp only [tyO]) | (with_reducible refine draw_plan pl61_12_XBt 11 (some 33) (by decide) (by decide) (by kernel_rfl) (by kernel_rfl) ?_) | ((with_reducible first | refine wantD_split (fun h => ?_) (fun h => ?_) | refine wantU_split (fun h => ?_) (fun h => ?_)) <;> (try simp only [h])) | (with_reducible refine And.intro ?_ ?_)
      all_goals refine ret_is (a := _) ?_ rfl rfl
      all_goals simp only [↓wBA, wBB, wBC, cx_muts, cx_arr, wBD, convA, Nat.reduceBEq, reduceIte, reduceCtorEq, reducePow, reduceAdd, reduceSub, reduceMul, reduceEqDiff, reduceLeDiff, Nat.reduceLT, Int.reduceLT, Int.reduceLE, Int.reduceToNat, ty61_XBt]
      all_goals simp_all [resA, resL, resV, leT, leG, leA, leC, leM, leaf, tokLt, tokLtL, intV, boolV, nilA, nilSl, typedS]
    · skip
      repeat' first | ((with_reducible first | refine cond_split (fun h => ?_) (fun h => ?_) | refine want_split (fun h => ?_) (fun h => ?_)) <;> (try simp only [h])) | (simp only [↓wBA, wBB, wBC, cx_muts, cx_arr, wBD, convA, Nat.reduceBEq, reduceIte, reduceCtorEq, reducePow, reduceAdd, reduceSub, reduceMul, reduceEqDiff, reduceLeDiff, Nat.reduceLT, Int.reduceLT, Int.reduceLE, Int.reduceToNat, ty61_XBt, bu_len, bu_max, bu_min, pl61_12_XBt, Int.reduceBEq, Int.reduceGE, Int.reduceLE, decide_true, decide_false]) | (with_reducible refine draw_plan pl61_12_XBt 11 (some 33) (by decide) (by decide) (by kernel_rfl) (by kernel_rfl) ?_) | ((with_reducible first | refine wantD_split (fun h => ?_) (fun h => ?_) | refine wantU_split (fun h => ?_) (fun h => ?_)) <;> (try simp only [h])) | (with_reducible refine And.intro ?_ ?_)
      all_goals refine ret_is (a := _) ?_ rfl rfl
      all_goals simp only [↓wBA, wBB, wBC, cx_muts, cx_arr, wBD, convA, Nat.reduceBEq, reduceIte, reduceCtorEq, reducePow, reduceAdd, reduceSub, reduceMul, reduceEqDiff, reduceLeDiff, Nat.reduceLT, Int.reduceLT, Int.reduceLE, Int.reduceToNat, ty61_XBt]
      all_goals simp_all [resA, resL, resV, leT, leG, leA, leC, leM, leaf, tokLt, tokLtL, intV, boolV, nilA, nilSl, typedS]
    · skip
      repeat' first | ((with_reducible first | refine cond_split (fun h => ?_) (fun h => ?_) | refine want_split (fun h => ?_) (fun h => ?_)) <;> (try simp only [h])) | (simp only [↓wBA, wBB, wBC, cx_muts, cx_arr, wBD, convA, Nat.reduceBEq, reduceIte, reduceCtorEq, reducePow, reduceAdd, reduceSub, reduceMul, reduceEqDiff, reduceLeDiff, Nat.reduceLT, Int.reduceLT, Int.reduceLE, Int.reduceToNat, ty61_XBt, bu_len, bu_max, bu_min, pl61_12_XBt, Int.reduceBEq, Int.reduceGE, Int.reduceLE, decide_true, decide_false]) | (with_reducible refine draw_plan pl61_12_XBt 11 (some 33) (by decide) (by decide) (by kernel_rfl) (by kernel_rfl) ?_) | ((with_reducible first | refine wantD_split (fun h => ?_) (fun h => ?_) | refine wantU_split (fun h => ?_) (fun h => ?_)) <;> (try simp only [h])) | (with_reducible refine And.intro ?_ ?_)
      all_goals refine ret_is (a := _) ?_ rfl rfl
      all_goals simp only [↓wBA, wBB, wBC, cx_muts, cx_arr, wBD, convA, Nat.reduceBEq, reduceIte, reduceCtorEq, reducePow, reduceAdd, reduceSub, reduceMul, reduceEqDiff, reduceLeDiff, Nat.reduceLT, Int.reduceLT, Int.reduceLE, Int.reduceToNat, ty61_XBt]
      all_goals simp_all [resA, resL, resV, leT, leG, leA, leC, leM, leaf, tokLt, tokLtL, intV, boolV, nilA, nilSl, typedS]
end Go.Proofs.Ytcnkmandddfdmaa
