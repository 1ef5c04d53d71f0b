/- What the lexer tells, as a plain function. -/
import Derived.Test.YtcnkmandddfdmaaGreatDoorM22
set_option linter.unusedSimpArgs false
set_option linter.unusedVariables false
set_option linter.defProp false
set_option maxRecDepth 100000
set_option maxHeartbeats 32000000
namespace Go.Proofs.YtcnkmandddfdmaaGreatDoor
open Go.RowKit
inductive LexO where
 | ok (ts : List Tok)
 | err (e : Int)
 | opn
def LexO.pre (ts : List Tok) : LexO → LexO
 | .ok us => .ok (ts ++ us)
 | .err e => .err e
 | .opn => .opn
theorem LexO.pre_pre (ts us : List Tok) (o : LexO) : (o.pre us).pre ts = o.pre (ts ++ us) := by cases o <;> simp [LexO.pre]
theorem LexO.pre_nil (o : LexO) : o.pre [] = o := by cases o <;> simp [LexO.pre]
def clsB (c : UInt8) : Int := classL (c.toNat : Int)
def isWb (c : UInt8) : Bool := clsB c == 1 || clsB c == 2
def isDb (c : UInt8) : Bool := clsB c == 2
def hdW (l : List UInt8) : Bool := match l with
 | d :: _ => clsB d == 1
 | [] => false
def lexB (rec : List UInt8 → LexO) (c : UInt8) (l : List UInt8) : LexO :=
 if clsB c = 3 then rec l
 else if clsB c = 1 then (match wordF (mkB (c :: l.takeWhile isWb)) with
  | some t => (rec (l.dropWhile isWb)).pre [t]
  | none => .err 30)
 else if clsB c = 2 then (if hdW (l.dropWhile isDb) = true then .err 30 else match numS (c :: l.takeWhile isDb) with
  | some n => (rec (l.dropWhile isDb)).pre [(3, emp, (n : Int))]
  | none => .err 35)
 else if c = 39 then (match quoS l with
  | some q => if 64 < q.1.length then .err 30 else (rec q.2).pre [(4, mkB q.1, 0)]
  | none => .opn)
 else if sgnF (mkB (c :: l)) = 0 then .err 30
 else (rec (l.drop (sgnF (mkB (c :: l)) - 1))).pre [(5, mkB ((c :: l).take (sgnF (mkB (c :: l)))), 0)]
def lexN : Nat → List UInt8 → LexO
 | _, [] => .ok []
 | 0, _ :: _ => .opn
 | n + 1, c :: l => lexB (lexN n) c l
def lexS (l : List UInt8) : LexO := lexN l.length l
theorem dw_len (p : UInt8 → Bool) : ∀ l : List UInt8, (l.dropWhile p).length ≤ l.length
 | [] => by simp
 | c :: l => by
   have := dw_len p l
   rw [List.dropWhile_cons]
   split <;> simp only [List.length_cons] <;> omega
theorem lexB_congr {f g : List UInt8 → LexO} {c : UInt8} {l : List UInt8} (h : ∀ r, r.length ≤ l.length → f r = g r) : lexB f c l = lexB g c l := by
 unfold lexB
 rw [h l (Nat.le_refl _), h _ (dw_len isWb l), h _ (dw_len isDb l), h (l.drop (sgnF (mkB (c :: l)) - 1)) (by rw [List.length_drop]; omega)]
 cases hq : quoS l with
 | none => rfl
 | some q =>
   have := quoS_len l.length l q.1 q.2 (Nat.le_refl _) hq
   simp only [h q.2 (by omega)]
theorem lexN_le : ∀ (n : Nat) (l : List UInt8), l.length ≤ n → lexN n l = lexN l.length l := by
 intro n
 induction n using Nat.strongRecOn with
 | ind n ih =>
   intro l hl
   cases l with
   | nil => cases n <;> rfl
   | cons c l =>
     cases n with
     | zero => simp at hl
     | succ n =>
       simp only [List.length_cons] at hl ⊢
       simp only [lexN]
       refine lexB_congr fun r hr => ?_
       rw [ih n (by omega) r (by omega), ← ih l.length (by omega) r hr]
theorem lexS_nil : lexS [] = .ok [] := rfl
theorem lexS_cons (c : UInt8) (l : List UInt8) : lexS (c :: l) = lexB lexS c l := by
 show lexB (lexN l.length) c l = lexB lexS c l
 exact lexB_congr fun r hr => lexN_le _ r hr
def allS (s : ByteArray) : LexO := if 2048 < s.size then .err 30 else lexS (bl s)
def LexO.toks : LexO → List Tok
 | .ok ts => ts
 | _ => []
def LexO.code : LexO → Int
 | .ok _ => 0
 | .err e => e
 | .opn => 30
def allR (o : LexO) : AV := .tup [.p (nilSl 3 (encT o.toks)), intV .i64 o.code]
theorem tw_at {p : UInt8 → Bool} {l : List UInt8} {k j : Nat} (hkj : k ≤ j) (hj : j ≤ l.length) (hall : ∀ i, k ≤ i → (h : i < j) → p (l[i]'(by omega)) = true) (hend : (h : j < l.length) → p l[j] = false) : (l.drop k).takeWhile p = (l.drop k).take (j - k) ∧ (l.drop k).dropWhile p = l.drop j := by
 induction hm : j - k generalizing k with
 | zero =>
   have : j = k := by omega
   subst this
   rcases Nat.lt_or_ge j l.length with h | h
   ·rw [List.drop_eq_getElem_cons h]
    constructor <;> simp only [List.takeWhile_cons, List.dropWhile_cons, hend h, Bool.false_eq_true, if_false, Nat.sub_self, List.take_zero]
   ·rw [List.drop_of_length_le h]; simp
 | succ m ih =>
   have hk : k < l.length := by omega
   have h1 := hall k (Nat.le_refl _) (by omega)
   obtain ⟨e1, e2⟩ := ih (k := k + 1) (by omega) (fun i hi h => hall i (by omega) h) (by omega)
   rw [List.drop_eq_getElem_cons hk]
   constructor
   ·simp only [List.takeWhile_cons, h1, if_true, e1, List.take_succ_cons]
   ·simp only [List.dropWhile_cons, h1, if_true, e2]
theorem ext_bl (s : ByteArray) (k j : Nat) (hkj : k ≤ j) (hj : j ≤ s.size) : s.extract k j = mkB (((bl s).drop k).take (j - k)) := by
 apply ByteArray.ext
 apply Array.ext'
 simp only [ByteArray.data_extract, Array.toList_extract, mkB, bl]
theorem dig_of {c : UInt8} (h : isDb c = true) : 48 ≤ c.toNat ∧ c.toNat ≤ 57 := by
 simp only [isDb, clsB, classL, beq_iff_eq] at h
 repeat' split at h
 all_goals omega
theorem wordF_num {s : ByteArray} {t : Tok} (h : wordF s = some t) : t.2.2 = 0 := by
 unfold wordF at h
 split at h
 ·cases h; rfl
 ·split at h
  ·cases h
  ·cases h; rfl
end Go.Proofs.YtcnkmandddfdmaaGreatDoor
