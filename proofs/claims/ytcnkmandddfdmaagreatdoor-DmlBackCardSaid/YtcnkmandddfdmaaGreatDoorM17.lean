/- Loops over the frame as it stands: only the slots that a round sets are named. -/
import Derived.Test.YtcnkmandddfdmaaGreatDoorM16
set_option linter.unusedSimpArgs false
set_option linter.unusedVariables false
set_option linter.defProp false
set_option maxRecDepth 100000
set_option maxHeartbeats 32000000
namespace Go.Proofs.YtcnkmandddfdmaaGreatDoor
open Go.RowKit
def setsF (fr : List AV) : List (Nat × AV) → List AV
 | [] => fr
 | (i, a) :: D => setsF (fr.set i a) D
def setsO (σ : St) : List (Nat × Ob) → St
 | [] => σ
 | (t, ob) :: S => setsO (σ.put t ob) S
theorem setsF_nil {fr : List AV} : setsF fr [] = fr := nr rfl
theorem setsF_cons {fr : List AV} {i : Nat} {a : AV} {D : List (Nat × AV)} : setsF fr ((i, a) :: D) = setsF (fr.set i a) D := nr rfl
theorem setsO_nil {σ : St} : setsO σ [] = σ := nr rfl
theorem setsO_cons {σ : St} {t : Nat} {ob : Ob} {S : List (Nat × Ob)} : setsO σ ((t, ob) :: S) = setsO (σ.put t ob) S := nr rfl
theorem put_le (σ : St) (t : Nat) (ob : Ob) : σ.length ≤ (σ.put t ob).length := by unfold St.put; split <;> simp
theorem setsO_len : ∀ (S : List (Nat × Ob)) (σ : St), σ.length ≤ (setsO σ S).length
 | [], σ => Nat.le_refl _
 | (t, ob) :: S, σ => by rw [setsO_cons]; exact Nat.le_trans (put_le σ t ob) (setsO_len S _)
theorem awp_loopD {P : Program} {C : Ctx} {fr : List AV} {σ : St} {Q : Exit → List AV → St → Prop} {c : Code} {X : Type} (D : X → List (Nat × AV)) (S : X → List (Nat × Ob)) (m : X → Nat) (x0 : X) (h2 : WeakE fr σ (setsF fr (D x0)) (setsO σ (S x0)))
 (h3 : ∀ x, AWp P C (aDraw P C) c (setsF fr (D x)) (setsO σ (S x)) (roundA (fun x => (setsF fr (D x), setsO σ (S x))) m x Q)) : AWp P C (aDraw P C) (.loop c) fr σ Q :=
 awp_loop' (fun x => (setsF fr (D x), setsO σ (S x))) m x0 (fun x => setsO_len _ _) h2 h3
theorem awp_loopN {P : Program} {C : Ctx} {fr : List AV} {σ : St} {Q : Exit → List AV → St → Prop} {c : Code} (n : Nat) (D : Nat → List (Nat × AV)) (S : Nat → List (Nat × Ob)) (I : Nat → Prop) (h0 : I 0) (h2 : WeakE fr σ (setsF fr (D 0)) (setsO σ (S 0)))
 (h3 : ∀ i, (hi : i ≤ n) → (hI : I i) → AWp P C (aDraw P C) c (setsF fr (D i)) (setsO σ (S i)) (roundA (fun x : { i : Nat // i ≤ n ∧ I i } => (setsF fr (D x.1), setsO σ (S x.1))) (fun x => n - x.1) ⟨i, hi, hI⟩ Q)) : AWp P C (aDraw P C) (.loop c) fr σ Q :=
 awp_loopD (X := { i : Nat // i ≤ n ∧ I i }) (fun x => D x.1) (fun x => S x.1) (fun x => n - x.1) ⟨0, by omega, h0⟩ h2 fun ⟨i, hi, hI⟩ => h3 i hi hI
end Go.Proofs.YtcnkmandddfdmaaGreatDoor
