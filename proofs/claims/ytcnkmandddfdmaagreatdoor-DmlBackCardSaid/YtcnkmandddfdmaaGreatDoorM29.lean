/- Texts put together: what the lexer tells of them. Go's library on the abstract machine: contracts of the kit. -/
import Derived.Test.YtcnkmandddfdmaaGreatDoorM24
import Derived.Shelf.Strings.Builder1
import Derived.Shelf.Strings.Builder2
import Derived.Shelf.Strings.OnBuilder
import Derived.Shelf.Small.Utf8
import Derived.Shelf.Utf8.RuneCount
import Derived.Shelf.Strconv.Itoa0
import Derived.Shelf.Strconv.Itoa1
import Derived.Shelf.LaysM
import Derived.Shelf.Strconv.Itoa2
import Derived.Shelf.Strconv.Itoa3
import Derived.Shelf.Strconv.Itoa4
import Derived.Shelf.Strings.Search1
import Derived.Shelf.Strings.Search2
import Derived.Shelf.Strings.Search3
import Derived.Shelf.Strings.Count
import Derived.Shelf.Strings.Shaped
import Derived.Shelf.Strings.Split
import Derived.Shelf.Strings.Replace
import Derived.Shelf.Strings.SplitShaped
import Derived.Shelf.Unicode.Latin
import Derived.Shelf.Unicode.Decode
import Derived.Shelf.Strings.RuneCount
import Derived.Shelf.Unicode.DecodeSlow
import Derived.Shelf.Unicode.DecodeAny
import Derived.Shelf.Unicode.CaseLookup
import Derived.Shelf.Unicode.CaseConvert
import Derived.Shelf.Unicode.CaseTo
import Derived.Shelf.Unicode.CaseLaid
import Derived.Ground.Names2Prog
import Derived.Shelf.Slices.SearchI
import Derived.Test.YtcnkmandddfdmaaGreatDoorProg
import Derived.Test.YtcnkmandddfdmaaGreatDoorM18
import Derived.Test.YtcnkmandddfdmaaGreatDoorM15
import Derived.Lib.AppendIntMem
import Derived.Lib.ItoaLen
import Derived.Lib.SplitLaws
set_option linter.unusedSimpArgs false
set_option linter.unusedVariables false
set_option linter.defProp false
set_option maxRecDepth 100000
set_option maxHeartbeats 32000000
namespace Go.Proofs.YtcnkmandddfdmaaGreatDoor
open Go.RowKit
structure Dlm (d : UInt8) : Prop where
 w : isWb d = false
 q : d ≠ 39
 e : d ≠ 61
 g : d ≠ 62
theorem Dlm.d {d : UInt8} (h : Dlm d) : isDb d = false := by
 have := h.w
 simp only [isWb, isDb, Bool.or_eq_false_iff] at this ⊢
 exact this.2
theorem Dlm.l {d : UInt8} (h : Dlm d) : (clsB d == 1) = false := by
 have := h.w
 simp only [isWb, Bool.or_eq_false_iff] at this
 exact this.1
theorem tw_app {p : UInt8 → Bool} {d : UInt8} (hd : p d = false) (b : List UInt8) : ∀ l : List UInt8, (l ++ d :: b).takeWhile p = l.takeWhile p ∧ (l ++ d :: b).dropWhile p = l.dropWhile p ++ d :: b
 | [] => by constructor <;> simp [List.takeWhile_cons, List.dropWhile_cons, hd]
 | c :: l => by
   obtain ⟨h1, h2⟩ := tw_app hd b l
   by_cases hc : p c = true
   ·constructor <;> simp [List.takeWhile_cons, List.dropWhile_cons, hc, h1, h2]
   ·constructor <;> simp [List.takeWhile_cons, List.dropWhile_cons, hc]
theorem quoS_app {d : UInt8} (hd : d ≠ 39) (b : List UInt8) : ∀ (n : Nat) (l t r : List UInt8), l.length ≤ n → quoS l = some (t, r) → quoS (l ++ d :: b) = some (t, r ++ d :: b)
 | _, [], t, r, hn, h => by simp [quoS] at h
 | 0, c :: l, t, r, hn, h => by simp at hn
 | n + 1, c :: l, t, r, hn, h => by
   simp only [List.length_cons] at hn
   by_cases hc : c = 39
   ·subst hc
    cases l with
    | nil =>
      simp [quoS] at h
      obtain ⟨rfl, rfl⟩ := h
      exact quoS_end (by simp [hd])
    | cons c2 l =>
      by_cases h2 : c2 = 39
      ·subst h2
       rw [quoS_two] at h
       cases hq : quoS l with
       | none => simp [hq] at h
       | some q =>
         obtain ⟨t', r'⟩ := q
         simp [hq] at h
         obtain ⟨rfl, rfl⟩ := h
         have := quoS_app hd b n l t' r' (by simp at hn; omega) hq
         simp only [List.cons_append]
         rw [quoS_two, this]; rfl
      ·rw [quoS_end (by simp [h2])] at h
       simp at h
       obtain ⟨rfl, rfl⟩ := h
       simp only [List.cons_append]
       exact quoS_end (by simp [h2])
   ·rw [quoS_ne hc] at h
    cases hq : quoS l with
    | none => simp [hq] at h
    | some q =>
      obtain ⟨t', r'⟩ := q
      simp [hq] at h
      obtain ⟨rfl, rfl⟩ := h
      have := quoS_app hd b n l t' r' (by omega) hq
      simp only [List.cons_append]
      rw [quoS_ne hc, this]; rfl
def twoL (e : List UInt8) : Bool := e == [60, 62] || e == [60, 61] || e == [62, 61]
def sgnL (l : List UInt8) : Nat := if twoL (l.take 2) = true then 2 else if (oneS.data.toList.any fun c => l.head? == some c) = true then 1 else 0
theorem mkB_size (l : List UInt8) : (mkB l).size = l.length := by simp [mkB, ByteArray.size]
theorem mkB_get (l : List UInt8) (k : Nat) : (mkB l)[k]? = l[k]? := by rw [← bl_get, bl_mk]
theorem mkB_toList (l : List UInt8) : (mkB l).toList = l := by rw [ByteArray.toList_eq]; simp [mkB]
theorem sgnF_eq (l : List UInt8) : sgnF (mkB l) = sgnL l := by
 have h0 : (mkB l)[0]? = l.head? := by rw [mkB_get, List.head?_eq_getElem?]
 unfold sgnF sgnL
 rw [h0, mkB_size]
 by_cases h2 : 2 ≤ l.length
 ·have he : (mkB l).extract 0 2 = mkB (l.take 2) := by rw [ext_bl (mkB l) 0 2 (by omega) (by rw [mkB_size]; exact h2), bl_mk]; simp
  rw [he]
  have : two2 (mkB (l.take 2)) = twoL (l.take 2) := by unfold two2 twoL; rw [mkB_toList]
  rw [this]
  simp [h2]
 ·have : twoL (l.take 2) = false := by
   match l, h2 with
   | [], _ => rfl
   | [c], _ => simp [twoL]
   | _ :: _ :: _, h => simp at h
  rw [this]
  simp [h2]
theorem sgnL_app {d : UInt8} (hd : Dlm d) (b : List UInt8) (c : UInt8) (l : List UInt8) : sgnL (c :: l ++ d :: b) = sgnL (c :: l) := by
 unfold sgnL
 cases l with
 | nil =>
   have : twoL (List.take 2 ([c] ++ d :: b)) = false := by
    have h1 := hd.e
    have h2 := hd.g
    simp [twoL, h1, h2]
   rw [this]
   simp [twoL]
 | cons c2 l => simp
theorem sgnL_le (c : UInt8) (l : List UInt8) : sgnL (c :: l) ≤ l.length + 1 := by
 have := (sgnF_le (mkB (c :: l))).2 (by rw [mkB_size]; simp)
 rw [sgnF_eq, mkB_size] at this
 simpa using this
def GoOn (x : LexO) : LexO → LexO → Prop
 | .ok ta, o => o = x.pre ta
 | .err e, o => o = .err e
 | .opn, _ => True
theorem GoOn.pre {x o o' : LexO} (h : GoOn x o o') (ts : List Tok) : GoOn x (o.pre ts) (o'.pre ts) := by
 cases o with
 | ok ta =>
   have h : o' = x.pre ta := h
   subst h
   exact LexO.pre_pre ts ta x
 | err e =>
   have h : o' = .err e := h
   subst h
   rfl
 | opn => trivial
theorem lex_on {d : UInt8} (hd : Dlm d) (b : List UInt8) (X : LexO) (hX : lexS (d :: b) = X) : ∀ (n : Nat) (a : List UInt8), a.length ≤ n → GoOn X (lexS a) (lexS (a ++ d :: b))
 | _, [], _ => by rw [lexS_nil, List.nil_append, hX]; simp only [GoOn]; rw [LexO.pre_nil]
 | 0, c :: l, hn => by simp at hn
 | n + 1, c :: l, hn => by
   have ih := lex_on hd b X hX n
   simp only [List.length_cons] at hn
   rw [List.cons_append, lexS_cons, lexS_cons]
   rcases clsB_in c with hc | hc | hc | hc
   ·by_cases h39 : c = 39
    ·subst h39
     rw [lexB_39, lexB_39]
     cases hq : quoS l with
     | none => trivial
     | some q =>
       obtain ⟨t, r⟩ := q
       rw [quoS_app hd.q b l.length l t r (Nat.le_refl _) hq]
       have := quoS_len l.length l t r (Nat.le_refl _) hq
       simp only
       split
       ·rfl
       ·exact (ih r (by omega)).pre _
    ·rw [lexB_sg hc h39, lexB_sg hc h39, sgnF_eq, sgnF_eq, ← List.cons_append, sgnL_app hd b c l]
     have hle := sgnL_le c l
     generalize sgnL (c :: l) = k at *
     by_cases hk : k = 0
     ·rw [if_pos hk, if_pos hk]; rfl
     ·rw [if_neg hk, if_neg hk, List.drop_append_of_le_length (by omega), List.take_append_of_le_length (by simp; omega)]
      exact (ih _ (by rw [List.length_drop]; omega)).pre _
   ·rw [lexB_wd hc, lexB_wd hc]
    obtain ⟨h1, h2⟩ := tw_app hd.w b l
    rw [h1, h2]
    cases wordF (mkB (c :: l.takeWhile isWb)) with
    | none => rfl
    | some t => exact (ih _ (by have := dw_len isWb l; omega)).pre _
   ·rw [lexB_dg hc, lexB_dg hc]
    obtain ⟨h1, h2⟩ := tw_app hd.d b l
    rw [h1, h2]
    have hh : hdW (l.dropWhile isDb ++ d :: b) = hdW (l.dropWhile isDb) := by
     cases l.dropWhile isDb with
     | nil => simp [hdW, hd.l]
     | cons x y => rfl
    rw [hh]
    split
    ·rfl
    ·cases numS (c :: l.takeWhile isDb) with
     | none => rfl
     | some t => exact (ih _ (by have := dw_len isDb l; omega)).pre _
   ·rw [lexB_sp hc, lexB_sp hc]
    exact ih l (by omega)
theorem lex_ok {d : UInt8} (hd : Dlm d) {a ta} (h : lexS a = .ok ta) (b : List UInt8) : lexS (a ++ d :: b) = (lexS (d :: b)).pre ta := by
 have := lex_on hd b _ rfl a.length a (Nat.le_refl _)
 rw [h] at this
 exact this
theorem lex_bad {d : UInt8} (hd : Dlm d) {a e} (h : lexS a = .err e) (b : List UInt8) : lexS (a ++ d :: b) = .err e := by
 have := lex_on hd b _ rfl a.length a (Nat.le_refl _)
 rw [h] at this
 exact this
theorem wb_ne {c : UInt8} (h : isWb c = true) : c ≠ 39 := fun e => by subst e; revert h; decide
theorem db_wb {c : UInt8} (h : isDb c = true) : isWb c = true := by
 simp only [isDb, isWb] at h ⊢
 rw [h]; simp
theorem tw_count {p : UInt8 → Bool} (hp : ∀ c, p c = true → c ≠ 39) : ∀ l : List UInt8, l.count 39 = (l.dropWhile p).count 39
 | [] => rfl
 | c :: l => by
   by_cases hc : p c = true
   ·rw [List.dropWhile_cons, if_pos hc, ← tw_count hp l, List.count_cons_of_ne (hp c hc)]
   ·rw [List.dropWhile_cons, if_neg hc]
theorem quoS_par : ∀ (n : Nat) (l : List UInt8), l.length ≤ n → match quoS l with
    | some q => l.count 39 % 2 = (q.2.count 39 + 1) % 2
    | none => l.count 39 % 2 = 0
  | _, [], _ => rfl
  | 0, c :: l, hn => by simp at hn
  | n + 1, c :: l, hn => by
    simp only [List.length_cons] at hn
    by_cases hc : c = 39
    · subst hc
      cases l with
      | nil => rfl
      | cons c2 l =>
        by_cases h2 : c2 = 39
        · subst h2
          have := quoS_par n l (by simp at hn; omega)
          rw [quoS_two, List.count_cons_self, List.count_cons_self]
          cases hq : quoS l with
          | none => rw [hq] at this; simp only [Option.map_none] at this ⊢; omega
          | some q => rw [hq] at this; simp only [Option.map_some] at this ⊢; omega
        · rw [quoS_end (by simp [h2]), List.count_cons_self]
    · have := quoS_par n l (by omega)
      rw [quoS_ne hc, List.count_cons_of_ne hc]
      cases hq : quoS l with
      | none => rw [hq] at this; exact this
      | some q => rw [hq] at this; exact this
def Par (l : List UInt8) : LexO → Prop
 | .ok ts => l.count 39 % 2 = 0 ∧ ((∀ t ∈ ts, t.1 ≠ 4) → l.count 39 = 0)
 | .opn => l.count 39 % 2 = 1
 | .err _ => True
theorem Par.pre {l l' : List UInt8} {o : LexO} (ts : List Tok) (h : Par l o) (he : l'.count 39 = l.count 39) : Par l' (o.pre ts) := by
 cases o with
 | ok us =>
   simp only [Par, LexO.pre] at h ⊢
   rw [he]
   exact ⟨h.1, fun h4 => h.2 fun t ht => h4 t (by simp [ht])⟩
 | err e => trivial
 | opn => simp only [Par, LexO.pre] at h ⊢; rw [he]; exact h
theorem two_ne {c : UInt8} {l : List UInt8} (h39 : c ≠ 39) : (c :: l).count 39 = (l.drop (sgnL (c :: l) - 1)).count 39 := by
 rw [List.count_cons_of_ne h39]
 unfold sgnL
 split
 ·rename_i h
  cases l with
  | nil => rfl
  | cons c2 l =>
    have : c2 ≠ 39 := by
     intro e; subst e
     simp [twoL] at h
    show (c2 :: l).count 39 = l.count 39
    rw [List.count_cons_of_ne this]
 ·split <;> rfl
theorem lex_par : ∀ (n : Nat) (a : List UInt8), a.length ≤ n → Par a (lexS a)
 | _, [], _ => ⟨rfl, fun _ => rfl⟩
 | 0, c :: l, hn => by simp at hn
 | n + 1, c :: l, hn => by
   have ih := lex_par n
   simp only [List.length_cons] at hn
   rw [lexS_cons]
   rcases clsB_in c with hc | hc | hc | hc
   ·by_cases h39 : c = 39
    ·subst h39
     rw [lexB_39]
     have hp := quoS_par l.length l (Nat.le_refl _)
     cases hq : quoS l with
     | none =>
       rw [hq] at hp
       simp only [Par] at hp ⊢
       rw [List.count_cons_self]; omega
     | some q =>
       rw [hq] at hp
       have hl := quoS_len l.length l q.1 q.2 (Nat.le_refl _) hq
       simp only at hp ⊢
       split
       ·trivial
       ·have hi := ih q.2 (by omega)
        cases ho : lexS q.2 with
        | ok us =>
          rw [ho] at hi
          simp only [Par, LexO.pre] at hi ⊢
          rw [List.count_cons_self]
          exact ⟨by omega, fun h4 => absurd rfl (h4 (4, mkB q.1, 0) (by simp))⟩
        | err e => trivial
        | opn =>
          rw [ho] at hi
          simp only [Par, LexO.pre] at hi ⊢
          rw [List.count_cons_self]; omega
    ·rw [lexB_sg hc h39, sgnF_eq]
     split
     ·trivial
     ·exact (ih _ (by rw [List.length_drop]; omega)).pre _ (two_ne h39)
   ·rw [lexB_wd hc]
    have hcw : isWb c = true := by simp [isWb, hc]
    cases wordF (mkB (c :: l.takeWhile isWb)) with
    | none => trivial
    | some t => exact (ih _ (by have := dw_len isWb l; omega)).pre _ (by rw [List.count_cons_of_ne (wb_ne hcw)]; exact tw_count (fun c h => wb_ne h) l)
   ·rw [lexB_dg hc]
    have hcw : isWb c = true := by simp [isWb, hc]
    split
    ·trivial
    ·cases numS (c :: l.takeWhile isDb) with
     | none => trivial
     | some t => exact (ih _ (by have := dw_len isDb l; omega)).pre _ (by rw [List.count_cons_of_ne (wb_ne hcw)]; exact tw_count (fun c h => wb_ne (db_wb h)) l)
   ·rw [lexB_sp hc]
    have : c ≠ 39 := fun e => by subst e; revert hc; decide
    have hi := ih l (by omega)
    have := hi.pre (l' := c :: l) [] (List.count_cons_of_ne this)
    rwa [LexO.pre_nil] at this
end Go.Proofs.YtcnkmandddfdmaaGreatDoor
/-
 DERIVED: THE SHELF's CONTRACTS AT THIS DUMP, IN PLAIN WORDS (tools/lay-plain.mjs out of 'TryzShelf.lean', which tools/lay-shelf.mjs wrote): THE SAME DECLARATIONS UNDER THE SAME NAMES: 'import', 'namespace', 'open', 'def', 'theorem' AND NOTHING ELSE: no command of the shelf's: FOR A HAND-IN. Each laying: the table of numbers ('.._ren') and one theorem, a field a fact of the dump's own or the kernel's comparison; each contract: ONE APPLICATION.
-/
namespace Go.Proofs
open Go.Shelf
def Tryz.lays158_ren : Go.Shelf.Ren := ⟨fun | 158 => 16 | 165 => 38 | 166 => 39 | 167 => 40 | 169 => 41 | 230 => 42 | 203 => 43 | 240 => 72 | 241 => 73 | 197 => 74 | 118 => 75 | 168 => 76 | 270 => 77 | 262 => 78 | 276 => 101 | 277 => 102 | 260 => 103 | 242 => 104 | 313 => 105 | 278 => 120 | 274 => 121 | 275 => 122 | n => n, fun | 9 => 9 | 4 => 4 | 3 => 3 | 5 => 5 | 72 => 94 | 0 => 0 | 76 => 98 | 75 => 97 | 107 => 102 | 70 => 91 | 20 => 20 | 37 => 92 | 127 => 147 | 21 => 21 | 105 => 148 | 164 => 184 | 162 => 190 | 203 => 188 | 119 => 201 | 46 => 90 | 139 => 204 | 138 => 203 | 51 => 181 | 160 => 205 | 208 => 219 | 206 => 217 | 80 => 73 | n => n, fun | 13 => 1 | 3 => 3 | 4 => 4 | n => n⟩
theorem Tryz.lays158 : Go.Proofs.Lays.n158 Tryz.prog Tryz.lays158_ren := {
 mixed := by kernel_rfl
 f118 := Tryz.func75.trans (congrArg some (by kernel_rfl))
 f158 := Tryz.func16.trans (congrArg some (by kernel_rfl))
 f165 := Tryz.func38.trans (congrArg some (by kernel_rfl))
 f166 := Tryz.func39.trans (congrArg some (by kernel_rfl))
 f167 := Tryz.func40.trans (congrArg some (by kernel_rfl))
 f168 := Tryz.func76.trans (congrArg some (by kernel_rfl))
 f169 := Tryz.func41.trans (congrArg some (by kernel_rfl))
 f197 := Tryz.func74.trans (congrArg some (by kernel_rfl))
 f203 := Tryz.func43.trans (congrArg some (by kernel_rfl))
 f230 := Tryz.func42.trans (congrArg some (by kernel_rfl))
 f240 := Tryz.func72.trans (congrArg some (by kernel_rfl))
 f241 := Tryz.func73.trans (congrArg some (by kernel_rfl))
 f242 := Tryz.func104.trans (congrArg some (by kernel_rfl))
 f260 := Tryz.func103.trans (congrArg some (by kernel_rfl))
 f262 := Tryz.func78.trans (congrArg some (by kernel_rfl))
 f270 := Tryz.func77.trans (congrArg some (by kernel_rfl))
 f274 := Tryz.func121.trans (congrArg some (by kernel_rfl))
 f275 := Tryz.func122.trans (congrArg some (by kernel_rfl))
 f276 := Tryz.func101.trans (congrArg some (by kernel_rfl))
 f277 := Tryz.func102.trans (congrArg some (by kernel_rfl))
 f278 := Tryz.func120.trans (congrArg some (by kernel_rfl))
 f313 := Tryz.func105.trans (congrArg some (by kernel_rfl))
 t0 := Tryz.underlying0
 a0 := Tryz.isAgg0
 z0 := Tryz.sizeOf0
 v0 := Tryz.zeroValue0
 t3 := Tryz.underlying3
 a3 := Tryz.isAgg3
 z3 := Tryz.sizeOf3
 v3 := Tryz.zeroValue3
 t4 := Tryz.underlying4
 a4 := Tryz.isAgg4
 z4 := Tryz.sizeOf4
 v4 := Tryz.zeroValue4
 t5 := Tryz.underlying5
 a5 := Tryz.isAgg5
 z5 := Tryz.sizeOf5
 v5 := Tryz.zeroValue5
 t9 := Tryz.underlying9
 a9 := Tryz.isAgg9
 z9 := Tryz.sizeOf9
 v9 := Tryz.zeroValue9
 t20 := Tryz.underlying20
 a20 := Tryz.isAgg20
 z20 := Tryz.sizeOf20
 v20 := Tryz.zeroValue20
 t21 := Tryz.underlying21
 a21 := Tryz.isAgg21
 z21 := Tryz.sizeOf21
 v21 := Tryz.zeroValue21
 t37 := Tryz.underlying92
 a37 := Tryz.isAgg92
 z37 := Tryz.sizeOf92
 v37 := Tryz.zeroValue92
 t46 := Tryz.underlying90
 a46 := Tryz.isAgg90
 z46 := Tryz.sizeOf90
 v46 := Tryz.zeroValue90
 t51 := Tryz.underlying181
 a51 := Tryz.isAgg181
 z51 := Tryz.sizeOf181
 v51 := Tryz.zeroValue181
 t70 := Tryz.underlying91
 a70 := Tryz.isAgg91
 z70 := Tryz.sizeOf91
 v70 := Tryz.zeroValue91
 t72 := Tryz.underlying94
 a72 := Tryz.isAgg94
 z72 := Tryz.sizeOf94
 v72 := Tryz.zeroValue94
 t75 := Tryz.underlying97
 a75 := Tryz.isAgg97
 z75 := Tryz.sizeOf97
 v75 := Tryz.zeroValue97
 t76 := Tryz.underlying98
 a76 := Tryz.isAgg98
 z76 := Tryz.sizeOf98
 v76 := Tryz.zeroValue98
 t105 := Tryz.underlying148
 a105 := Tryz.isAgg148
 z105 := Tryz.sizeOf148
 v105 := Tryz.zeroValue148
 t107 := Tryz.underlying102
 a107 := Tryz.isAgg102
 z107 := Tryz.sizeOf102
 v107 := Tryz.zeroValue102
 t119 := Tryz.underlying201
 a119 := Tryz.isAgg201
 z119 := Tryz.sizeOf201
 t127 := Tryz.underlying147
 a127 := Tryz.isAgg147
 z127 := Tryz.sizeOf147
 v127 := Tryz.zeroValue147
 t138 := Tryz.underlying203
 a138 := Tryz.isAgg203
 z138 := Tryz.sizeOf203
 v138 := Tryz.zeroValue203
 t139 := Tryz.underlying204
 a139 := Tryz.isAgg204
 z139 := Tryz.sizeOf204
 v139 := Tryz.zeroValue204
 t160 := Tryz.underlying205
 a160 := Tryz.isAgg205
 z160 := Tryz.sizeOf205
 v160 := Tryz.zeroValue205
 t162 := Tryz.underlying190
 a162 := Tryz.isAgg190
 z162 := Tryz.sizeOf190
 v162 := Tryz.zeroValue190
 t164 := Tryz.underlying184
 a164 := Tryz.isAgg184
 z164 := Tryz.sizeOf184
 v164 := Tryz.zeroValue184
 t203 := Tryz.underlying188
 a203 := Tryz.isAgg188
 z203 := Tryz.sizeOf188
 v203 := Tryz.zeroValue188
 t206 := Tryz.underlying217
 a206 := Tryz.isAgg217
 z206 := Tryz.sizeOf217
 v206 := Tryz.zeroValue217
 t208 := Tryz.underlying219
 a208 := Tryz.isAgg219
 z208 := Tryz.sizeOf219
 v208 := Tryz.zeroValue219
 g3 := by kernel_rfl
 g4 := by kernel_rfl
 g13 := by kernel_rfl }
theorem Tryz.Builder_Extra_158 : Builder.Extra Tryz.prog Tryz.lays158_ren := {
 sizeBuilder := by kernel_rfl
 liesBuilder := by kernel_rfl
 t5 := Tryz.underlying5
 a5 := Tryz.isAgg5
 z5 := Tryz.sizeOf5
 v5 := Tryz.zeroValue5
 infoByte := by kernel_rfl
 cellsByte := by kernel_rfl
 sizeByte := by kernel_rfl
 neB5 := by decide }
open Go.RowKit in
theorem Tryz.strings_ToUpper_ascii (s : ByteArray) (w : World) (hs : s.size ≤ 140737488355328) (hascii : ∀ (j : Nat) (b : UInt8), s.data.toList[j]? = some b → b.toNat < 128) :
 Calls Tryz.prog 16 #[.string s] w fun e w' => e = .returned (.string ⟨(Lib.toUpperA s.data.toList).toArray⟩) ∧ Below w.heap.size w w' := Any.strings_ToUpper_ascii Tryz.lays158 Tryz.Builder_Extra_158 s w hs hascii
def Tryz.laysM173_ren : Go.Shelf.Ren := ⟨fun | 173 => 15 | 246 => 37 | 283 => 68 | 284 => 69 | 285 => 70 | 286 => 71 | 129 => 97 | 317 => 96 | 318 => 98 | 319 => 99 | 320 => 100 | 337 => 118 | 338 => 119 | n => n, fun | 2 => 2 | 3 => 3 | 9 => 9 | 4 => 4 | 171 => 141 | 0 => 0 | 53 => 142 | 37 => 92 | 5 => 5 | 173 => 145 | 212 => 180 | 51 => 181 | 20 => 20 | 213 => 182 | 46 => 90 | 232 => 214 | 233 => 215 | n => n, fun | 17 => 0 | 18 => 5 | 19 => 6 | n => n⟩
theorem Tryz.laysM173 : Go.Proofs.LaysM.n173 Tryz.prog Tryz.laysM173_ren := {
 mixed := by kernel_rfl
 f129 := Tryz.func97.trans (congrArg some (by kernel_rfl))
 f173 := Tryz.func15.trans (congrArg some (by kernel_rfl))
 f246 := Tryz.func37.trans (congrArg some (by kernel_rfl))
 f283 := Tryz.func68.trans (congrArg some (by kernel_rfl))
 f284 := Tryz.func69.trans (congrArg some (by kernel_rfl))
 f285 := Tryz.func70.trans (congrArg some (by kernel_rfl))
 f286 := Tryz.func71.trans (congrArg some (by kernel_rfl))
 f317 := Tryz.func96.trans (congrArg some (by kernel_rfl))
 f318 := Tryz.func98.trans (congrArg some (by kernel_rfl))
 f319 := Tryz.func99.trans (congrArg some (by kernel_rfl))
 f320 := Tryz.func100.trans (congrArg some (by kernel_rfl))
 f337 := Tryz.func118.trans (congrArg some (by kernel_rfl))
 f338 := Tryz.func119.trans (congrArg some (by kernel_rfl))
 t0 := Tryz.underlying0
 a0 := Tryz.isAgg0
 z0 := Tryz.sizeOf0
 v0 := Tryz.zeroValue0
 t2 := Tryz.underlying2
 a2 := Tryz.isAgg2
 z2 := Tryz.sizeOf2
 v2 := Tryz.zeroValue2
 t3 := Tryz.underlying3
 a3 := Tryz.isAgg3
 z3 := Tryz.sizeOf3
 v3 := Tryz.zeroValue3
 t4 := Tryz.underlying4
 a4 := Tryz.isAgg4
 z4 := Tryz.sizeOf4
 v4 := Tryz.zeroValue4
 t5 := Tryz.underlying5
 a5 := Tryz.isAgg5
 z5 := Tryz.sizeOf5
 v5 := Tryz.zeroValue5
 t9 := Tryz.underlying9
 a9 := Tryz.isAgg9
 z9 := Tryz.sizeOf9
 v9 := Tryz.zeroValue9
 t20 := Tryz.underlying20
 a20 := Tryz.isAgg20
 z20 := Tryz.sizeOf20
 v20 := Tryz.zeroValue20
 t37 := Tryz.underlying92
 a37 := Tryz.isAgg92
 z37 := Tryz.sizeOf92
 v37 := Tryz.zeroValue92
 t46 := Tryz.underlying90
 a46 := Tryz.isAgg90
 z46 := Tryz.sizeOf90
 v46 := Tryz.zeroValue90
 t51 := Tryz.underlying181
 a51 := Tryz.isAgg181
 z51 := Tryz.sizeOf181
 v51 := Tryz.zeroValue181
 t53 := Tryz.underlying142
 a53 := Tryz.isAgg142
 z53 := Tryz.sizeOf142
 v53 := Tryz.zeroValue142
 t171 := Tryz.underlying141
 a171 := Tryz.isAgg141
 z171 := Tryz.sizeOf141
 v171 := Tryz.zeroValue141
 t173 := Tryz.underlying145
 a173 := Tryz.isAgg145
 z173 := Tryz.sizeOf145
 v173 := Tryz.zeroValue145
 t212 := Tryz.underlying180
 a212 := Tryz.isAgg180
 z212 := Tryz.sizeOf180
 v212 := Tryz.zeroValue180
 t213 := Tryz.underlying182
 a213 := Tryz.isAgg182
 z213 := Tryz.sizeOf182
 t232 := Tryz.underlying214
 a232 := Tryz.isAgg214
 z232 := Tryz.sizeOf214
 v232 := Tryz.zeroValue214
 t233 := Tryz.underlying215
 a233 := Tryz.isAgg215
 z233 := Tryz.sizeOf215
 v233 := Tryz.zeroValue215
 g17 := by kernel_rfl
 g18 := by kernel_rfl
 g19 := by kernel_rfl
 i0 := by kernel_rfl
 i2 := by kernel_rfl
 i3 := by kernel_rfl
 i4 := by kernel_rfl
 i5 := by kernel_rfl
 i9 := by kernel_rfl
 i20 := by kernel_rfl
 i37 := by kernel_rfl
 i46 := by kernel_rfl
 i51 := by kernel_rfl
 i53 := by kernel_rfl
 i171 := by kernel_rfl
 i173 := by kernel_rfl
 i212 := by kernel_rfl
 i232 := by kernel_rfl
 i233 := by kernel_rfl
 m17 := by kernel_rfl
 m18 := by kernel_rfl
 m19 := by kernel_rfl }
open Go.RowKit Go.Sort Go.Lib in
theorem Tryz.strconv_FormatInt_10 (n : Int) (h0 : -9223372036854775808 ≤ n) (h1 : n ≤ 9223372036854775807) (w : World) (htab : Lib.TabIs Tryz.prog w "internal/strconv.uint64pow10" .u64 Lib.pow10Tab) :
 Calls Tryz.prog 15 #[.int .i64 n, .int .i64 10] w fun e w' => e = .returned (.string ⟨(Lib.itoa n).toArray⟩) ∧ ∃ k os, w' = grow (w.drewN k) os := Any.strconv_FormatInt_10 Tryz.laysM173 n h0 h1 w htab
def Tryz.lays155_ren : Go.Shelf.Ren := ⟨fun | 155 => 18 | 154 => 45 | 138 => 79 | 165 => 38 | 143 => 80 | 166 => 39 | 197 => 74 | 169 => 41 | 195 => 106 | 218 => 107 | 240 => 72 | 241 => 73 | 219 => 108 | 260 => 103 | 276 => 101 | 277 => 102 | 217 => 123 | 225 => 124 | 224 => 125 | 267 => 126 | 266 => 132 | 314 => 133 | n => n, fun | 9 => 9 | 3 => 3 | 4 => 4 | 72 => 94 | 0 => 0 | 76 => 98 | 105 => 148 | 21 => 21 | 5 => 5 | 70 => 91 | 20 => 20 | 37 => 92 | 75 => 97 | 127 => 147 | 164 => 184 | 46 => 90 | 119 => 201 | 139 => 204 | 138 => 203 | 146 => 220 | 51 => 181 | 80 => 73 | n => n, fun | 1 => 2 | 3 => 3 | 4 => 4 | n => n⟩
theorem Tryz.lays155 : Go.Proofs.Lays.n155 Tryz.prog Tryz.lays155_ren := {
 mixed := by kernel_rfl
 f138 := Tryz.func79.trans (congrArg some (by kernel_rfl))
 f143 := Tryz.func80.trans (congrArg some (by kernel_rfl))
 f154 := Tryz.func45.trans (congrArg some (by kernel_rfl))
 f155 := Tryz.func18.trans (congrArg some (by kernel_rfl))
 f165 := Tryz.func38.trans (congrArg some (by kernel_rfl))
 f166 := Tryz.func39.trans (congrArg some (by kernel_rfl))
 f169 := Tryz.func41.trans (congrArg some (by kernel_rfl))
 f195 := Tryz.func106.trans (congrArg some (by kernel_rfl))
 f197 := Tryz.func74.trans (congrArg some (by kernel_rfl))
 f217 := Tryz.func123.trans (congrArg some (by kernel_rfl))
 f218 := Tryz.func107.trans (congrArg some (by kernel_rfl))
 f219 := Tryz.func108.trans (congrArg some (by kernel_rfl))
 f224 := Tryz.func125.trans (congrArg some (by kernel_rfl))
 f225 := Tryz.func124.trans (congrArg some (by kernel_rfl))
 f240 := Tryz.func72.trans (congrArg some (by kernel_rfl))
 f241 := Tryz.func73.trans (congrArg some (by kernel_rfl))
 f260 := Tryz.func103.trans (congrArg some (by kernel_rfl))
 f266 := Tryz.func132.trans (congrArg some (by kernel_rfl))
 f267 := Tryz.func126.trans (congrArg some (by kernel_rfl))
 f276 := Tryz.func101.trans (congrArg some (by kernel_rfl))
 f277 := Tryz.func102.trans (congrArg some (by kernel_rfl))
 f314 := Tryz.func133.trans (congrArg some (by kernel_rfl))
 t0 := Tryz.underlying0
 a0 := Tryz.isAgg0
 z0 := Tryz.sizeOf0
 v0 := Tryz.zeroValue0
 t3 := Tryz.underlying3
 a3 := Tryz.isAgg3
 z3 := Tryz.sizeOf3
 v3 := Tryz.zeroValue3
 t4 := Tryz.underlying4
 a4 := Tryz.isAgg4
 z4 := Tryz.sizeOf4
 v4 := Tryz.zeroValue4
 t5 := Tryz.underlying5
 a5 := Tryz.isAgg5
 z5 := Tryz.sizeOf5
 v5 := Tryz.zeroValue5
 t9 := Tryz.underlying9
 a9 := Tryz.isAgg9
 z9 := Tryz.sizeOf9
 v9 := Tryz.zeroValue9
 t20 := Tryz.underlying20
 a20 := Tryz.isAgg20
 z20 := Tryz.sizeOf20
 v20 := Tryz.zeroValue20
 t21 := Tryz.underlying21
 a21 := Tryz.isAgg21
 z21 := Tryz.sizeOf21
 v21 := Tryz.zeroValue21
 t37 := Tryz.underlying92
 a37 := Tryz.isAgg92
 z37 := Tryz.sizeOf92
 v37 := Tryz.zeroValue92
 t46 := Tryz.underlying90
 a46 := Tryz.isAgg90
 z46 := Tryz.sizeOf90
 v46 := Tryz.zeroValue90
 t51 := Tryz.underlying181
 a51 := Tryz.isAgg181
 z51 := Tryz.sizeOf181
 v51 := Tryz.zeroValue181
 t70 := Tryz.underlying91
 a70 := Tryz.isAgg91
 z70 := Tryz.sizeOf91
 v70 := Tryz.zeroValue91
 t72 := Tryz.underlying94
 a72 := Tryz.isAgg94
 z72 := Tryz.sizeOf94
 v72 := Tryz.zeroValue94
 t75 := Tryz.underlying97
 a75 := Tryz.isAgg97
 z75 := Tryz.sizeOf97
 v75 := Tryz.zeroValue97
 t76 := Tryz.underlying98
 a76 := Tryz.isAgg98
 z76 := Tryz.sizeOf98
 v76 := Tryz.zeroValue98
 t105 := Tryz.underlying148
 a105 := Tryz.isAgg148
 z105 := Tryz.sizeOf148
 v105 := Tryz.zeroValue148
 t119 := Tryz.underlying201
 a119 := Tryz.isAgg201
 z119 := Tryz.sizeOf201
 t127 := Tryz.underlying147
 a127 := Tryz.isAgg147
 z127 := Tryz.sizeOf147
 v127 := Tryz.zeroValue147
 t138 := Tryz.underlying203
 a138 := Tryz.isAgg203
 z138 := Tryz.sizeOf203
 v138 := Tryz.zeroValue203
 t139 := Tryz.underlying204
 a139 := Tryz.isAgg204
 z139 := Tryz.sizeOf204
 v139 := Tryz.zeroValue204
 t146 := Tryz.underlying220
 a146 := Tryz.isAgg220
 z146 := Tryz.sizeOf220
 v146 := Tryz.zeroValue220
 t164 := Tryz.underlying184
 a164 := Tryz.isAgg184
 z164 := Tryz.sizeOf184
 v164 := Tryz.zeroValue184
 g1 := by kernel_rfl
 g3 := by kernel_rfl
 g4 := by kernel_rfl }
theorem Tryz.Builder_Extra_155 : Builder.Extra Tryz.prog Tryz.lays155_ren := {
 sizeBuilder := by kernel_rfl
 liesBuilder := by kernel_rfl
 t5 := Tryz.underlying5
 a5 := Tryz.isAgg5
 z5 := Tryz.sizeOf5
 v5 := Tryz.zeroValue5
 infoByte := by kernel_rfl
 cellsByte := by kernel_rfl
 sizeByte := by kernel_rfl
 neB5 := by decide }
open Go.RowKit Go.Lib in
theorem Tryz.strings_ReplaceAll (s old new : ByteArray) (m : Int) (w : World) (hs : s.size < 4294967281) (hm : w.cell? ⟨2, 0, none⟩ = some (.int .i64 m)) (h1 : 1 ≤ old.size) (hlen : s.size + Lib.countB s old * new.size ≤ 140737488355328) :
 Calls Tryz.prog 18 #[.string s, .string old, .string new] w fun e w' =>
  e = .returned (.string ⟨(Lib.replaceAll s.data.toList old.data.toList new.data.toList).toArray⟩) ∧ Below w.heap.size w w' := Any.strings_ReplaceAll Tryz.lays155 Tryz.Builder_Extra_155 s old new m w hs hm h1 hlen
end Go.Proofs
namespace Go.Proofs.YtcnkmandddfdmaaGreatDoor
open Go.RowKit
theorem rep_vals {M : View} : ∀ {us vs : List Value}, ARepL M (us.map fun u => AV.p (.v u)) vs → vs = us
 | [], vs, h => by simpa [ARepL] using h
 | u :: us, vs, h => by
   simp only [List.map_cons, ARepL] at h
   obtain ⟨v, vs', rfl, h1, h2⟩ := h
   rw [(rep_v h1).2, rep_vals h2]
theorem ACalls.lib {P : Program} {f : FuncId} {us : List Value} {v : Value} {σ : St} (he : Enters P f) (hp : plain v = true)
 (h : ∀ M : View, Glob M σ → Calls P f us.toArray M.w fun e w' => e = .returned v ∧ Below M.w.heap.size M.w w') : ACalls P f (us.map fun u => .p (.v u)) σ fun r s => s = σ ∧ r = .p (.v v) := by
 refine ⟨he, fun M vs hM hv => ?_⟩
 obtain rfl := rep_vals hv
 refine (h M hM.glob).mono ?_
 rintro e w' ⟨rfl, hb⟩
 have hE : Ext M σ { M with w := w' } σ :=
  ⟨fun _ _ h h' => ⟨h, h', rfl⟩, own_same (fun _ => rfl) (fun _ => rfl) (fun _ => rfl), fun _ _ h => h, fun b o ho => World.cell?_of_block (hb.block b (hM.imm b o ho)), fun b hl _ => ⟨hb.block b hl, fun _ h => h⟩, fun t ob b h1 h2 => .inr ⟨t, ob, h1, h2⟩, hb.size, hb.os, hb.tape, hb.output⟩
 exact ⟨v, .p (.v v), σ, { M with w := w' }, rfl, rfl, hE, ⟨fun t ob ht => (hM.obj t ob ht).later hE.later rfl rfl rfl fun b h => ⟨hb.block b (hM.lt t b h), fun _ h => h⟩, hM.inj, hM.fresh, fun t b h => Nat.lt_of_lt_of_le (hM.lt t b h) hb.size, fun b o h => Nat.lt_of_lt_of_le (hM.imm b o h) hb.size, hM.glob.ext hE⟩, rep_mk hp, Nat.le_refl _, rfl, rfl⟩
def itoaV (n : Int) : ByteArray := ⟨(Lib.itoa n).toArray⟩
def upperV (s : ByteArray) : ByteArray := ⟨(Lib.toUpperA s.data.toList).toArray⟩
def replV (s a b : ByteArray) : ByteArray := ⟨(Lib.replaceAll s.data.toList a.data.toList b.data.toList).toArray⟩
theorem glob_at {M : View} {σ : St} (h : Glob M σ) {g : Nat} {p : Array Value → Prop} (hx : (g, p) ∈ globTab) : ∃ cs T, M.w.heap[g]? = some (.cells cs T (0, 0)) ∧ p cs := by
 obtain ⟨cs, T, h1, h2, _⟩ := h _ hx
 exact ⟨cs, T, h1, h2⟩
theorem glob_pow {M : View} {σ : St} (h : Glob M σ) : Lib.TabIs Tryz.prog M.w "internal/strconv.uint64pow10" .u64 Lib.pow10Tab := by
 obtain ⟨cs, T, h1, rfl⟩ := glob_at h (g := 0) (p := fun cs => cs = (Lib.pow10Tab.map fun z => Value.int .u64 z).toArray) (List.mem_append.2 (.inl (List.mem_append.2 (.inr (List.mem_singleton.2 rfl)))))
 have hg : Tryz.prog.globalNamed "internal/strconv.uint64pow10" = some 0 := by kernel_rfl
 unfold Lib.TabIs World.var?
 rw [hg]
 simp only [Option.bind_some, h1]
theorem aitoa (n : Int) (h0 : -9223372036854775808 ≤ n) (h1 : n ≤ 9223372036854775807) (σ : St) : ACalls Tryz.prog 15 [intV .i64 n, intV .i64 10] σ fun r s => s = σ ∧ r = .p (.v (.string (itoaV n))) :=
 ACalls.lib (us := [.int .i64 n, .int .i64 10]) ⟨_, Tryz.func15, by kernel_rfl, rfl⟩ rfl fun M hG =>
  (Tryz.strconv_FormatInt_10 n h0 h1 M.w (glob_pow hG)).mono fun e w' ⟨he, k, os, hw⟩ => ⟨he, by rw [hw]; exact Lib.below_grow _ _ (Nat.le_refl _) k os⟩
theorem alupper (s : ByteArray) (hs : s.size ≤ 140737488355328) (ha : ∀ (j : Nat) (b : UInt8), s.data.toList[j]? = some b → b.toNat < 128) (σ : St) : ACalls Tryz.prog 16 [.p (.v (.string s))] σ fun r s' => s' = σ ∧ r = .p (.v (.string (upperV s))) :=
 ACalls.lib (us := [.string s]) ⟨_, Tryz.func16, by kernel_rfl, rfl⟩ rfl fun M hG => Tryz.strings_ToUpper_ascii s M.w hs ha
theorem arepl (s a b : ByteArray) (hs : s.size < 4294967281) (h1 : 1 ≤ a.size) (hlen : s.size + Lib.countB s a * b.size ≤ 140737488355328) (σ : St) : ACalls Tryz.prog 18 [.p (.v (.string s)), .p (.v (.string a)), .p (.v (.string b))] σ fun r s' => s' = σ ∧ r = .p (.v (.string (replV s a b))) := by
 refine ACalls.lib (us := [.string s, .string a, .string b]) ⟨_, Tryz.func18, by kernel_rfl, rfl⟩ rfl fun M hG => ?_
 obtain ⟨cs, T, g1, m, rfl⟩ := glob_at hG (g := 2) (p := fun cs => ∃ m, cs = #[.int .i64 m]) (List.mem_append.2 (.inr (List.mem_singleton.2 rfl)))
 exact Tryz.strings_ReplaceAll s a b m M.w hs (by rw [cell_of_row _ _ _ _ _ _ g1]; rfl) h1 hlen
theorem replK_len (o n : List UInt8) : ∀ (k : Nat) (s : List UInt8), (Lib.replaceK o n k s).length ≤ s.length + k * n.length
 | 0, s => by simp [Lib.replaceK]
 | k + 1, s => by
   rw [Lib.replaceK]
   split
   ·omega
   ·have := replK_len o n k (s.drop ((Lib.index s o).toNat + o.length))
    simp only [List.length_append, List.length_take, List.length_drop] at this ⊢
    rw [Nat.succ_mul]
    omega
theorem repl_len (s a b : ByteArray) : (replV s a b).size ≤ s.size + (s.size + 1) * b.size := by
 have hs : ∀ t : ByteArray, t.data.toList.length = t.size := fun t => by rw [Array.length_toList]; rfl
 have h1 := replK_len a.data.toList b.data.toList (Lib.replaceNum s.data.toList a.data.toList (-1)) s.data.toList
 have h2 := Lib.count_le s.data.toList a.data.toList
 have h3 : Lib.replaceNum s.data.toList a.data.toList (-1) ≤ s.size + 1 := by
  unfold Lib.replaceNum
  rw [if_pos (.inl (by omega)), ← hs s]
  exact h2
 have h4 := Nat.mul_le_mul_right b.size h3
 have h5 : (replV s a b).size = (Lib.replaceAll s.data.toList a.data.toList b.data.toList).length := by unfold replV; show (List.toArray _).size = _; rw [List.size_toArray]
 rw [h5, Lib.replaceAll, Lib.replace]
 split
 ·rw [hs]; omega
 ·rw [hs, hs] at h1; omega
end Go.Proofs.YtcnkmandddfdmaaGreatDoor
