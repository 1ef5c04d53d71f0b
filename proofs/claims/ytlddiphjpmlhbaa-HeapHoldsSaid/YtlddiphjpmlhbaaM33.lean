/- Pools: a batch's record is read. Pools: one on disks whose log has records is opened. -/
import Derived.Test.YtlddiphjpmlhbaaM32
import Derived.Test.YtlddiphjpmlhbaaM27
set_option linter.unusedSimpArgs false
set_option linter.unusedVariables false
set_option linter.defProp false
set_option maxRecDepth 100000
set_option maxHeartbeats 32000000
namespace Go.Proofs.Ytlddiphjpmlhbaa
open Go.RowKit
def pl23_4Plj : Plan := (.det 0 (.det 1 (.det 2 (.det 3 (.det 4 (.det 5 (.det 6 (.det 7 (.det 8 (.det 9 (.det 10 (.act 11 (.fin 12 .done)))))))))))))
def pl23_5Plj : Plan := (.det 0 (.det 1 (.det 2 (.det 3 (.fin 4 .done)))))
def tPlj := aa wX <| aa wbu <| aa T3 <| aa T5 <| aa T23 <| aa T74 <| aa T86 T123
def cxG : Ctx := { cx with muts := [74 * 100000 + 36] }
theorem cxG_ok : cxG.ok Try.prog := cx_ok
theorem drG_ok : DrawOk Try.prog (aDraw Try.prog cxG) := aDraw_ok cxG_ok (by kernel_rfl)
theorem kindG (t : TypeId) : cxG.kind t = cx.kind t := nr rfl
theorem tyG (t : TypeId) : cxG.ty t = cx.ty t := nr rfl
theorem mutsG : cxG.muts = [74 * 100000 + 36] := nr rfl
theorem lenG {T : TypeId} {x : AV} : lenA cxG T x = lenA cx T x := nr rfl
theorem sliceG {T : TypeId} {x : AV} {lo hi : Option AV} : sliceA cxG T x lo hi = sliceA cx T x lo hi := nr rfl
def imgB (q : Nat × List UInt8) : List UInt8 := UInt8.ofNat (q.1 % 256) :: UInt8.ofNat (q.1 / 256 % 256) :: q.2
def imgsB (ch : List (Nat × List UInt8)) : List UInt8 := ch.flatMap imgB
theorem imgB_len {q : Nat × List UInt8} (h : q.2.length = 512) : (imgB q).length = 514 := by simp [imgB, h]
theorem imgsB_cons (q : Nat × List UInt8) (ch : List (Nat × List UInt8)) : imgsB (q :: ch) = imgB q ++ imgsB ch := rfl
theorem imgsB_app (a b : List (Nat × List UInt8)) : imgsB (a ++ b) = imgsB a ++ imgsB b := List.flatMap_append ..
theorem imgsB_len : ∀ {ch : List (Nat × List UInt8)}, (∀ q ∈ ch, q.2.length = 512) → (imgsB ch).length = 514 * ch.length
 | [], _ => rfl
 | q :: ch, h => by
   rw [imgsB_cons, List.length_append, imgB_len (h q (by simp)), imgsB_len fun x hx => h x (by simp [hx]), List.length_cons]
   omega
theorem or_pg (a b : Nat) (ha : a < 256) (hb : b < 256) : IntKind.i64.wrap ((BitVec.ofInt IntKind.i64.bits (a : Nat) ||| BitVec.ofInt IntKind.i64.bits ((b * 256 : Nat) : Int)).toNat) = ((a + b * 256 : Nat) : Int) := by
 rw [or_bits, show 2 ^ IntKind.i64.bits = 18446744073709551616 from rfl, Nat.mod_eq_of_lt (by omega), Nat.mod_eq_of_lt (by omega)]
 have e3 : a ||| b * 256 = a + b * 256 := by
  have := Nat.two_pow_add_eq_or_of_lt (i := 8) (b := a) (by omega) b
  rw [Nat.or_comm, Nat.mul_comm b 256, ← show 2 ^ 8 * b = 256 * b from rfl, ← this]; omega
 rw [e3, wrap_i64 (by omega) (by omega)]
def imA (k t : Nat) : AV := if k = 0 then .p (.v (.slice none 0 0)) else .ms t 513 0 k
theorem zd513 : List.drop 1 (List.map (fun v => AV.p (PV.v v)) zT513) = pageC zero512 := by rw [← zB_512]; simp [zT513]
theorem imA_0 (t : Nat) : imA 0 t = .p (.v (.slice none 0 0)) := rfl
theorem aimgs {σ : St} (ch : List (Nat × List UInt8)) (np : Nat) (hne : ch ≠ []) (hl : ch.length ≤ 100000) (hok : ∀ q ∈ ch, q.1 < np ∧ q.2.length = 512) (hnp : np ≤ 65536) :
 ACalls Try.prog 23 [.p (.sl 1 (encB (imgsB ch))), intV .i64 (np : Nat)] σ fun r σ' => ∃ t, r = .tup [.ms t 513 0 ch.length, boolV true] ∧ Ap σ σ' ∧ ChAt σ' t ch ∧ σ.length ≤ t := by
 have hlen : (imgsB ch).length = 514 * ch.length := imgsB_len fun q hq => (hok q hq).2
 refine acalls_of cxG_ok drG_ok Try.func23 (by kernel_rfl) rfl (nt := 44) (rs := [.tmp 4, .tmp 5]) rfl rfl ?_
 repeat' first | ((with_reducible first | refine cs ?_ ?_ | refine ws ?_ ?_ | refine wd ?_ ?_ | refine wu ?_ ?_) <;> intro h <;> try simp only [h]) | simp only [↓wBA, tPlj, convA, seval, pl23_4Plj, pl23_5Plj, wH] | (with_reducible refine dP pl23_4Plj 13 (some 13) (by decide) (by kernel_rfl) ?_) | (with_reducible refine dP pl23_5Plj 5 (some 24) (by decide) (by kernel_rfl) ?_)
 refine awp_loopS (X := { k : Nat // k ≤ ch.length } × Nat) (fun k => ch.length - k.1.1) (fun k => [(0, .p (.sl 1 (encB (imgsB (ch.drop k.1.1))))), (6, imA k.1.1 k.2)]) [4, 5, 7, 8, 9, 10, 11, 12, 13, 14, 15, 16, 17, 18, 19, 20, 21, 22, 23, 24, 25, 26, 27, 28, 29, 30, 31, 32, 33, 34, 35, 36] (fun k s => Ap σ s ∧ (k.1.1 = 0 ∨ σ.length ≤ k.2 ∧ ChAt s k.2 (ch.take k.1.1))) ((⟨0, by omega⟩, 0)) ?_ ?_ ?_ ?_
 ·simp only [wHl, wHf, imA_0, List.drop_zero]
 ·exact ⟨Ap.refl _, .inl rfl⟩
 ·rintro _ _ ⟨hf, _⟩; exact hf.len
 ·intro y J s hI
  simp only [wHl]
  obtain ⟨⟨k, hk⟩, t⟩ := y
  obtain ⟨ha, hst⟩ := hI
  dsimp only at *
  have hsl := ha.len
  by_cases hlt : k < ch.length
  ·obtain ⟨q, hq⟩ : ∃ q, ch[k]? = some q := ⟨ch[k], by simp [hlt]⟩
   obtain ⟨q1, q2⟩ := hok q (List.mem_of_getElem? hq)
   have hdr : ch.drop k = q :: ch.drop (k + 1) := by
    rw [List.drop_eq_getElem_cons hlt]
    have := List.getElem?_eq_getElem hlt; rw [hq] at this; simp only [Option.some.injEq] at this; rw [this]
   have htk : ch.take (k + 1) = ch.take k ++ [q] := by rw [List.take_add_one, hq]; rfl
   obtain ⟨R, hR⟩ : ∃ R, imgsB (ch.drop (k + 1)) = R := ⟨_, rfl⟩
   have hbb : imgsB (ch.drop k) = UInt8.ofNat (q.1 % 256) :: UInt8.ofNat (q.1 / 256 % 256) :: (q.2 ++ R) := by rw [hdr, imgsB_cons, hR]; rfl
   have hbl : (imgsB (ch.drop k)).length = 514 * (ch.length - k) := by rw [imgsB_len fun x hx => (hok x (List.mem_of_mem_drop hx)).2, List.length_drop]
   have hel : (encB (imgsB (ch.drop k))).length = 514 * (ch.length - k) := by rw [encB_len, hbl]
   have b1 : decide (((514 * (ch.length - k) : Nat) : Int) ≥ 514) = true := by simp only [ge_iff_le, decide_eq_true_eq]; omega
   obtain ⟨B, hB⟩ : ∃ B, encB (imgsB (ch.drop k)) = B := ⟨_, rfl⟩
   rw [hB] at hel ⊢
   have b2 : ((0 : Int) < ((514 * (ch.length - k) : Nat) : Int)) = True := eq_true (by omega)
   have b3 : ((1 : Int) < ((514 * (ch.length - k) : Nat) : Int)) = True := eq_true (by omega)
   have u0 : (UInt8.ofNat (q.1 % 256)).toNat = q.1 % 256 := by rw [UInt8.toNat_ofNat']; omega
   have u1 : (UInt8.ofNat (q.1 / 256 % 256)).toNat = q.1 / 256 % 256 := by rw [UInt8.toNat_ofNat']; omega
   have g0 : B[0]? = some [.v (.int .u8 ((q.1 % 256 : Nat) : Int))] := by rw [← hB, hbb]; show some [byteP (UInt8.ofNat (q.1 % 256))] = _; unfold byteP; rw [u0]
   have g1 : B[1]? = some [.v (.int .u8 ((q.1 / 256 % 256 : Nat) : Int))] := by rw [← hB, hbb]; show some [byteP (UInt8.ofNat (q.1 / 256 % 256))] = _; unfold byteP; rw [u1]
   have w0 : IntKind.i64.wrap ((q.1 % 256 : Nat) : Int) = ((q.1 % 256 : Nat) : Int) := wrap_i64 (by omega) (by omega)
   have w1 : IntKind.i64.wrap ((q.1 / 256 % 256 : Nat) : Int) = ((q.1 / 256 % 256 : Nat) : Int) := wrap_i64 (by omega) (by omega)
   have w2 : IntKind.i64.wrap (((q.1 / 256 % 256 : Nat) : Int) * 2 ^ min 8 IntKind.i64.bits) = ((q.1 / 256 % 256 * 256 : Nat) : Int) := by
    rw [show min 8 IntKind.i64.bits = 8 from rfl, wrap_i64 (by omega) (by omega)]; simp
   have w3 := or_pg (q.1 % 256) (q.1 / 256 % 256) (by omega) (by omega)
   rw [show q.1 % 256 + q.1 / 256 % 256 * 256 = q.1 by omega] at w3
   have hn : ((514 * (ch.length - k) : Nat) : Int) = ((514 * (ch.length - k) : Nat) : Int) := rfl
   have hB2 : B.drop 2 = encB (q.2 ++ R) := by rw [← hB, hbb]; rfl
   have b4 : ((2 : Int) ≤ ((514 * (ch.length - k) : Nat) : Int)) = True := eq_true (by omega)
   have hsl2 : sliceA cx 23 (.p (.sl 1 B)) (some (.p (.v (.int .i64 2)))) none = some (.p (.sl 1 (encB (q.2 ++ R)))) := by
    simp only [sliceA, ck_23, elemsA, boundA, intA]
    rw [if_pos ⟨trivial, by omega, by omega, by omega⟩]
    simp only [Int.toNat_natCast, List.take_length]
    rw [show (2 : Int).toNat = 2 from rfl, hB2]
   have z5 := pageC_512 len_zero512
   have htq : List.take 512 (pageC (q.2 ++ R)) = pageC q.2 := by simp only [pageC, ← List.map_take, List.take_left' q2]
   have h512 := pageC_512 q2
   have b5 : decide ((q.1 : Int) ≥ (np : Int)) = false := by simp only [ge_iff_le, decide_eq_false_iff_not]; omega
   have d5 : List.drop 512 (pageC zero512) = [] := List.drop_eq_nil_of_le (by omega)
   have hpl : (PV.v (.int .i64 (q.1 : Int)) :: q.2.map byteP).length = 513 := by simp [q2]
   have hmq : AV.p (.v (.int .i64 (q.1 : Int))) :: List.map AV.p (q.2.map byteP) = imgR q := by simp only [map_byteP]; rfl
   have hmp : List.map AV.p (.v (.int .i64 (q.1 : Int)) :: q.2.map byteP) = imgR q := hmq
   have hl1 := tL (n := (k + 1) * 520) (by omega)
   have hl2 := lM (n := k + 1) (by omega)
   have hl4 := lM (n := 1) (by omega)
   have ir : AV.p (.v (.int .i64 (q.1 : Int))) :: pageC q.2 = imgR q := rfl
   have hsl3 : sliceA cx 23 (.p (.sl 1 B)) (some (.p (.v (.int .i64 514)))) none = some (.p (.sl 1 (encB (imgsB (ch.drop (k + 1)))))) := by
    simp only [sliceA, ck_23, elemsA, boundA, intA]
    rw [if_pos ⟨trivial, by omega, by omega, by omega⟩]
    simp only [Int.toNat_natCast, List.take_length]
    rw [show (514 : Int).toNat = 514 from rfl, ← hB, hdr, imgsB_cons]
    simp only [encB, List.map_append]
    rw [List.drop_left' (by simp [imgB_len q2])]
   have i0 : (imgR q)[0]? = some (.p (.v (.int .i64 (q.1 : Nat)))) := rfl
   have il : (imgR q).length = 513 := by simp [imgR, h512]
   have htp : toPs (imgR q) = some (.v (.int .i64 (q.1 : Int)) :: q.2.map byteP) := toPs_row
   rcases Nat.eq_zero_or_pos k with hk0 | hk0
   ·rw [show imA k t = .p (.v (.slice none 0 0)) from if_pos hk0]
    repeat' first | ((with_reducible first | refine cs ?_ ?_ | refine ws ?_ ?_ | refine wd ?_ ?_ | refine wu ?_ ?_) <;> intro h <;> try simp only [h]) | simp only [↓wBA, tPlj, convA, seval, pl23_4Plj, pl23_5Plj, wH, wHl, kindG, tyG, mutsG, lenG, sliceG, hel, b1, b2, b3, g0, g1, u0, u1, w0, w1, w2, w3, wZt, zB_512, zd513, z5, hsl2, boundA, copyA, srcC, flat_encB, elemsA, map_byteP, htq, h512, b5, d5, List.append_nil, hpl, hmq, hmp, hl1, hl2, hl4, ir, i0, il, htp, appendM, srcM, srcA, hsl3] | (with_reducible refine dP pl23_4Plj 13 (some 13) (by decide) (by kernel_rfl) ?_) | (with_reducible refine dP pl23_5Plj 5 (some 24) (by decide) (by kernel_rfl) ?_)
    have e1 : imA (k + 1) (s.length + 2) = .ms (s.length + 2) 513 0 1 := by subst hk0; rfl
    have e2 : ch.take (k + 1) = [q] := by rw [htk, hk0]; rfl
    refine ⟨(⟨k + 1, by omega⟩, s.length + 2), by show ch.length - (k + 1) < ch.length - k; omega, ⟨((ha.more _).more _).more _, .inr ⟨by show σ.length ≤ s.length + 2; omega, ⟨[imgR q], ?_, ?_, ?_⟩⟩⟩, ?_⟩
    ·skip
     simp only [wH, wHe, Nat.reduceAdd, Nat.reduceLT, Nat.reduceEqDiff, Nat.reduceMul, reduceCtorEq, Nat.lt_irrefl]
    ·show List.take (ch.take (k + 1)).length _ = (ch.take (k + 1)).map imgR
     rw [e2]; rfl
    ·show (ch.take (k + 1)).length ≤ _
     rw [e2]; exact Nat.le_refl _
    ·simp only [wHl, wHf, e1]
   ·obtain ⟨htn, hch⟩ : σ.length ≤ t ∧ ChAt s t (ch.take k) := hst.elim (fun e => by omega) id
    obtain ⟨ls, ht, ht2, ht3⟩ := hch.row
    have hkl : (ch.take k).length = k := by rw [List.length_take]; omega
    rw [hkl] at ht2 ht3
    have htl := at_lt ht
    have n1 : (t = s.length) = False := nf (by omega)
    have n2 : (s.length = t) = False := nf (by omega)
    have hl3 := eq_true ht3
    rw [show imA k t = .ms t 513 0 k from if_neg (by omega)]
    repeat' first | ((with_reducible first | refine cs ?_ ?_ | refine ws ?_ ?_ | refine wd ?_ ?_ | refine wu ?_ ?_) <;> intro h <;> try simp only [h]) | simp only [↓wBA, tPlj, convA, seval, pl23_4Plj, pl23_5Plj, wH, wHl, kindG, tyG, mutsG, lenG, sliceG, hel, b1, b2, b3, g0, g1, u0, u1, w0, w1, w2, w3, wZt, zB_512, zd513, z5, hsl2, boundA, copyA, srcC, flat_encB, elemsA, map_byteP, htq, h512, b5, d5, List.append_nil, hpl, hmq, hmp, hl1, hl2, hl4, ir, i0, il, htp, appendM, srcM, srcA, hsl3, ht, htl, n1, n2, hl3, ht2] | (with_reducible refine dP pl23_4Plj 13 (some 13) (by decide) (by kernel_rfl) ?_) | (with_reducible refine dP pl23_5Plj 5 (some 24) (by decide) (by kernel_rfl) ?_)
    have e1 : imA (k + 1) (s.length + 2) = .ms (s.length + 2) 513 0 (k + 1) := if_neg (by omega)
    refine ⟨(⟨k + 1, by omega⟩, s.length + 2), by show ch.length - (k + 1) < ch.length - k; omega, ⟨(((ha.set htn _).more _).more _).more _, .inr ⟨by show σ.length ≤ s.length + 2; omega, ⟨(ch.take k).map imgR ++ [imgR q], ?_, ?_, ?_⟩⟩⟩, ?_⟩
    ·skip
     simp only [wH, wHe, Nat.reduceAdd, Nat.reduceLT, Nat.reduceEqDiff, Nat.reduceMul, reduceCtorEq, Nat.lt_irrefl]
    ·show List.take (ch.take (k + 1)).length _ = (ch.take (k + 1)).map imgR
     rw [htk, List.map_append, List.length_append, hkl]
     exact List.take_of_length_le (by simp only [List.length_append, List.length_map, hkl, List.length_cons, List.length_nil]; omega)
    ·show (ch.take (k + 1)).length ≤ _
     rw [htk]; simp
    ·simp only [wHl, wHf, e1]
  ·have he : k = ch.length := by omega
   subst he
   have e0 : imgsB (ch.drop ch.length) = [] := by rw [List.drop_length]; rfl
   have hb0 : encB ([] : List UInt8) = [] := rfl
   rw [e0, hb0]
   have hl0 : ch.length ≠ 0 := fun e => hne (List.length_eq_zero_iff.1 e)
   obtain ⟨htn, hch⟩ : σ.length ≤ t ∧ ChAt s t (ch.take ch.length) := hst.elim (fun e => absurd e hl0) id
   rw [List.take_length] at hch
   rw [show imA ch.length t = .ms t 513 0 ch.length from if_neg hl0]
   have b6 : decide ((ch.length : Int) > 0) = true := by simp; omega
   repeat' first | ((with_reducible first | refine cs ?_ ?_ | refine ws ?_ ?_ | refine wd ?_ ?_ | refine wu ?_ ?_) <;> intro h <;> try simp only [h]) | simp only [↓wBA, tPlj, convA, seval, pl23_4Plj, pl23_5Plj, wH, wHl, kindG, tyG, mutsG, lenG, sliceG, b6] | (with_reducible refine dP pl23_4Plj 13 (some 13) (by decide) (by kernel_rfl) ?_) | (with_reducible refine dP pl23_5Plj 5 (some 24) (by decide) (by kernel_rfl) ?_)
   all_goals refine ret_st ?_ (by first | exact Nat.le_refl _ | (simp only [List.length_set, List.length_append]; omega) | omega)
   all_goals simp only [resA.eq_1, resL.eq_1, resL.eq_2, resV.eq_1, resV.eq_2, ↓wBA, tPlj, convA, seval, wH, kindG, tyG]
   exact ⟨t, rfl, ha, hch, htn⟩
end Go.Proofs.Ytlddiphjpmlhbaa
namespace Go.Proofs.Ytlddiphjpmlhbaa
open Go.RowKit
def tPlk := aa wX <| aa wbu <| aa T3 <| aa T4 <| aa T22 <| aa T23 <| aa T25 <| aa T26 <| aa T29 <| aa T69 <| aa T73 T74
def keptPg (f : Nat → List UInt8) (n : Nat) : List UInt8 := (List.range 8).flatMap fun i => f (8 * n + i)
def ChsOk (np : Nat) (chs : List (List (Nat × List UInt8))) : Prop := ∀ ch ∈ chs, ch ≠ [] ∧ ∀ q ∈ ch, q.1 < np ∧ q.2.length = 512 ∧ pgz q.2 = q.2
theorem ovr_app2 (v : Nat → List UInt8) (b : List (Nat × List UInt8)) (m : Nat) : ∀ a, ovr v (a ++ b) m = ovr (ovr v a) b m := by
 intro a
 induction a generalizing v with
 | nil => rfl
 | cons r a ih => exact ih _
theorem Kq.then {P P1 P2 : PoolV} {i j : Nat} {v v' : Nat → List UInt8} (h1 : Kq P P1 i v) (h2 : Kq P1 P2 j v') : Kq P P2 (i + j) v' :=
 ⟨h2.size.trans h1.size, h2.most.trans h1.most, h2.ls.trans h1.ls, h2.ld.trans h1.ld, h2.str.trans h1.str, Nat.le_trans h2.wait h1.wait, by have := h1.ctr; have := h2.ctr; omega, by have := h1.dw; have := h2.dw; omega, h2.view, h2.kept.trans h1.kept⟩
theorem recs_bytes : ∀ {np : Nat} {chs : List (List (Nat × List UInt8))}, ChsOk np chs → 514 * chs.flatten.length + 4 * chs.length ≤ (recsB (chs.map imgsB)).length
 | _, [], _ => by simp
 | np, ch :: chs, h => by
   have h1 := recs_bytes (np := np) (chs := chs) fun c hc => h c (by simp [hc])
   have h2 := imgsB_len fun q hq => ((h ch (by simp)).2 q hq).2.1
   simp only [List.map_cons, recsB_cons, List.length_append, recB_len, List.flatten_cons, List.length_cons, h2]
   omega
theorem take_flat {α : Type} (chs : List (List α)) (k : Nat) : (chs.take k).flatten.length ≤ chs.flatten.length := by
 conv => rhs; rw [← List.take_append_drop k chs, List.flatten_append, List.length_append]
 omega
theorem aopenPR {σ : St} {dd dl : Nat} {Fd Fl : Nat → Prop} {D DL : DiskV} (hd : DiskAt σ dd Fd D) (hl : DiskAt σ dl Fl DL) (hdj : ∀ t, Fd t → Fl t → False) (hz : 16 ≤ D.size) (hs : ∀ k, (secAt D.now k).length = 64) (hlz : 3 ≤ DL.size) (c : Nat) (chs : List (List (Nat × List UInt8))) (hne : chs ≠ []) (hok : ChsOk (min (D.size / 8) 3840) chs)
 (hh : Heads DL.now c (recsB (chs.map imgsB)).length) (hroom : (recsB (chs.map imgsB)).length ≤ (DL.size - 2) * 64) (hon : ∀ k, k < (recsB (chs.map imgsB)).length → (secAt DL.now (2 + k / 64))[k % 64]? = (recsB (chs.map imgsB))[k]?) (hls : ∀ k, (secAt DL.now k).length = 64) (hw : DL.wait = []) (hdw : D.wait = []) (most : Nat) (hm : 1 ≤ most) (hmb : most ≤ 100000) (hc : c + 200000 < 18446744073709551616) :
 ACalls Try.prog 7 [.mp dd 6 0 0, .mp dl 6 0 0, intV .i64 (most : Nat)] σ fun r σ' => ∃ p l kh G P, r = .tup [.mp p 6 0 0, intV .i64 0] ∧ Fr σ σ' (fun t => Fd t ∨ Fl t) G ∧ PoolIs σ' p dd l kh G P ∧ P.most = most ∧ P.data.size = D.size ∧ P.data.wait = [] ∧ P.log.disk.size = DL.size ∧ P.log.d = dl ∧ P.log.str = [] ∧ P.log.wait = 0 ∧ P.ct ≤ c + 200000 ∧ (∀ n, P.view n = ovr (fun m => pgz (diskPg D.now m)) chs.flatten n) ∧ ∀ f ∈ P.fs, (P.V f).dirty = false := by
 have hb2 : DL.size ≤ 65536 := by obtain ⟨kn, kk, w', a', es, hd, hF⟩ := hl; exact hd.big
 have hby := recs_bytes hok
 have e1 : decide ((most : Int) < 1) = false := by simp; omega
 have e2 : decide ((D.size : Int) < 16) = false := by simp; omega
 have hrn : chs.map imgsB ≠ [] := by simpa using hne
 have hr0 : ∀ r ∈ chs.map imgsB, 0 < r.length := fun r hr => by
  obtain ⟨ch, hch, rfl⟩ := List.mem_map.1 hr
  rw [imgsB_len fun q hq => ((hok ch hch).2 q hq).2.1]
  have : ch.length ≠ 0 := fun e => (hok ch hch).1 (List.length_eq_zero_iff.1 e)
  omega
 refine acalls_of cx_ok dr_ok Try.func7 (by kernel_rfl) rfl (nt := 72) (rs := [.tmp 6, .tmp 7]) rfl rfl ?_
 repeat' first | ((with_reducible first | refine cs ?_ ?_ | refine ws ?_ ?_) <;> intro h <;> try simp only [h]) | simp only [↓wBA, tPlk, convA, seval, wH, e1, e2] | ((with_reducible show ACalls _ _ _ _ _); first | refine (adsize hd).eq ?_ | (refine (awopenR hl hlz c _ hrn hr0 hroom hh hls hw hon).mono ?_; rintro _ s ⟨t', w, rfl, ha, hwn, hL⟩))
 have hsl := hL.lt _ (.inl rfl)
 obtain ⟨S, hS⟩ : ∃ S, S = s ++ [some (.map [])] ++ [some (.row 6 [[.mp dd 6 0 0, .mp σ.length 5 0 0, .p (.v (.int .i64 (most : Nat))), .p (.v (.slice none 0 0)), .mmap s.length, .p (.v (.int .i64 0))]])] := ⟨_, rfl⟩
 rw [← hS]
 have hApS : Ap s S := by rw [hS]; exact (Ap.app _ _).more _
 obtain ⟨P0, hP0⟩ : ∃ P0 : PoolV, P0 = ⟨D, { d := dl, disk := DL, ctr := c, len := (recsB (chs.map imgsB)).length, str := recsB (chs.map imgsB), wait := 0 }, most, 0, [], fun _ => ⟨0, [], false, 0⟩, []⟩ := ⟨_, rfl⟩
 have hPool : PoolIs S (s.length + 1) dd σ.length s.length (fun t => t = s.length + 1 ∨ t = s.length ∨ Fd t ∨ (t = σ.length ∨ Fl t ∨ some w = some t) ∨ oG none [] t) P0 := by
  rw [hP0]
  refine ⟨⟨fun n f => by simp [lkM], by simp, hm, hmb, by simp, by simp, by simp, by simp, hs, hz⟩, Fd, (fun t => t = σ.length ∨ Fl t ∨ some w = some t), none, _, ⟨by rw [hS]; simp [intV], (hd.ap ha).ap hApS, hL.same (fun t ht => by have := hL.lt t ht; rw [hS, List.append_assoc, List.getElem?_append_left this]), .nil, by rw [hS]; simp [encM], fun t h1 h2 => ?_, fun t h1 => ?_, fun t h1 => ?_, fun e => ?_, fun e => ?_, fun e => ?_, fun e => ?_⟩, fun t => Iff.rfl⟩
  ·rcases h2 with rfl | h2 | h2
   ·exact Nat.lt_irrefl _ (hd.lt _ h1)
   ·exact hdj t h1 h2
   ·simp only [Option.some.injEq] at h2; subst h2; have := hd.lt _ h1; omega
  ·rcases h1 with h1 | h1 <;> simp at h1
  ·rcases h1 with h1 | h1 <;> simp at h1
  ·have := hd.lt _ e; omega
  ·have := hL.lt _ e; omega
  ·have := hd.lt _ e; omega
  ·have := hL.lt _ e; omega
 have hfin := ha.trans hApS
 have hlen := hfin.len
 have hcl := clR_len (chs.map imgsB)
 rw [List.length_map] at hcl
 have hpg0 : P0.pages = min (D.size / 8) 3840 := by rw [hP0]; rfl
 refine awp_loopS (X := { i : Nat // i ≤ chs.length }) (fun i => chs.length - i.1) (fun i => [(46, intV .i64 (i.1 : Nat))]) [6, 7, 13, 14, 15, 16, 47, 48, 49, 50, 51, 52, 53, 54, 55, 56, 57, 58, 59, 60, 61, 62, 63, 64, 65] (fun i q => ∃ G' P', Fr S q (fun t => t = s.length + 1 ∨ t = s.length ∨ Fd t ∨ (t = σ.length ∨ Fl t ∨ some w = some t) ∨ oG none [] t) G' ∧ PoolIs q (s.length + 1) dd σ.length s.length G' P' ∧ Kq P0 P' (chs.take i.1).flatten.length (ovr P0.view (chs.take i.1).flatten)) (⟨0, by omega⟩) ?_ ?_ ?_ ?_
 ·simp only [wHl, wHf]
 ·exact ⟨_, P0, Fr.refl _ _, hPool, by simpa [ovr] using (Kp.refl P0 0).q⟩
 ·rintro _ _ ⟨_, _, hf, _⟩; exact hf.len
 ·intro x J q hI
  simp only [wHl]
  obtain ⟨i, hi⟩ := x
  obtain ⟨G1, P1, hF1, hA1, hK1⟩ := hI
  dsimp only at *
  have hc1 := hK1.ctr
  have hw1 := hK1.dw
  have hpl1 := hK1.pages
  have hlog0 : P0.ct = c ∧ P0.dq = 0 := by rw [hP0]; exact ⟨rfl, by simp [PoolV.dq, PoolV.dirt, hdw]⟩
  rw [hlog0.1] at hc1
  rw [hlog0.2] at hw1
  have htf := take_flat chs i
  by_cases hlt : i < chs.length
  ·obtain ⟨ch, hch⟩ : ∃ ch, chs[i]? = some ch := ⟨chs[i], by simp [hlt]⟩
   obtain ⟨k1, k2⟩ := hok ch (List.mem_of_getElem? hch)
   have htk : (chs.take (i + 1)).flatten = (chs.take i).flatten ++ ch := by rw [List.take_add_one, hch]; simp
   have htf2 := take_flat chs (i + 1)
   rw [htk, List.length_append] at htf2
   have b1 := dT (i := i) (n := chs.length) (by omega)
   have b2 : ((i : Int) < (chs.length : Int)) = True := eq_true (by omega)
   have b3 := nnI i
   have hwi := wI i (by have := hby; omega)
   have hg : (clR (chs.map imgsB))[i]? = some [.sl 1 (encB (imgsB ch))] := by simp [clR, hch]
   repeat' first | ((with_reducible first | refine cs ?_ ?_ | refine ws ?_ ?_) <;> intro h <;> try simp only [h]) | simp only [↓wBA, tPlk, convA, seval, wH, wHl, hcl, b1, b2, b3, hg, Int.toNat_natCast] | ((with_reducible show ACalls _ _ _ _ _); refine (apagesIs hA1).eq ?_)
   have hql := hF1.len
   have hbt := hby
   refine (aimgs (σ := q) ch P1.pages k1 (by omega) (fun x hx => ⟨by rw [hpl1, hpg0]; exact (k2 x hx).1, (k2 x hx).2.1⟩) (by rw [hpl1, hpg0]; omega)).mono ?_
   rintro _ q1 ⟨t, rfl, ha1, hch1, htn⟩
   have hA2 := hA1.ap ha1
   have hql1 := ha1.len
   repeat' first | ((with_reducible first | refine cs ?_ ?_ | refine ws ?_ ?_) <;> intro h <;> try simp only [h]) | simp only [↓wBA, tPlk, convA, seval, wH, wHl]
   refine (aput hA2 ch hch1 (fun e => by have := hA1.lt _ e; omega) (fun x hx => ⟨by rw [hpl1, hpg0]; exact (k2 x hx).1, (k2 x hx).2⟩) (by omega) (by omega) (by omega)).mono ?_
   rintro _ q2 ⟨rfl, G2, P2, hF2, hA3, hK2⟩
   repeat' first | ((with_reducible first | refine cs ?_ ?_ | refine ws ?_ ?_) <;> intro h <;> try simp only [h]) | simp only [↓wBA, tPlk, convA, seval, wH, wHl, hwi]
   refine ⟨⟨i + 1, by omega⟩, by show chs.length - (i + 1) < chs.length - i; omega, ⟨G2, P2, (hF1.trans ha1.fr).trans hF2, hA3, ?_⟩, by simp only [wHl, wHf]⟩
   show Kq P0 P2 (chs.take (i + 1)).flatten.length (ovr P0.view (chs.take (i + 1)).flatten)
   have hv : ovr P1.view ch = ovr P0.view ((chs.take i).flatten ++ ch) := funext fun m => by
    rw [ovr_app2]; exact ovr_congr hK1.view m ch
   rw [htk, List.length_append, ← hv]
   exact hK1.then hK2
  ·have he : i = chs.length := by omega
   subst he
   have b1 := dF (i := chs.length) (n := chs.length) (by omega)
   rw [List.take_length] at hK1 hc1 hw1
   have b2 : decide ((chs.length : Int) > 0) = true := by
    have : chs.length ≠ 0 := fun e => hne (List.length_eq_zero_iff.1 e)
    simp; omega
   repeat' first | ((with_reducible first | refine cs ?_ ?_ | refine ws ?_ ?_) <;> intro h <;> try simp only [h]) | simp only [↓wBA, tPlk, convA, seval, wH, wHl, hcl, b1, b2]
   refine (apointIs hA1 (by omega) (by omega)).mono ?_
   rintro _ q2 ⟨rfl, G2, P2, hF2, hA2, u1, u2, u3, u4, u5, u6, u7, u8, u9, u10, u11, u12⟩
   have hff := hF1.trans hF2
   have hlen2 := hff.len
   repeat' first | ((with_reducible first | refine cs ?_ ?_ | refine ws ?_ ?_) <;> intro h <;> try simp only [h]) | simp only [↓wBA, tPlk, convA, seval, wH, wHl]
   all_goals refine ret_st ?_ (by first | exact Nat.le_refl _ | (simp only [List.length_set, List.length_append]; omega) | omega)
   all_goals simp only [resA.eq_1, resL.eq_1, resL.eq_2, resV.eq_1, resV.eq_2, ↓wBA, tPlk, convA, seval, wH]
   all_goals
    have hP0e : P0.data = D ∧ P0.most = most ∧ P0.log.disk = DL ∧ P0.log.d = dl := by rw [hP0]; exact ⟨rfl, rfl, rfl, rfl⟩
    refine ⟨_, _, _, G2, P2, rfl, ?_, hA2, by rw [u2, hK1.most]; exact hP0e.2.1, by rw [u1, hK1.size, hP0e.1], u9, by rw [u3, hK1.ls, hP0e.2.2.1], by rw [u4, hK1.ld]; exact hP0e.2.2.2, u5, u7, by omega, fun n => ?_, u12⟩
   ·have hsl' := ha.len
    have hof : ∀ t, (t = s.length + 1 ∨ t = s.length ∨ Fd t ∨ (t = σ.length ∨ Fl t ∨ some w = some t) ∨ oG none [] t) → (Fd t ∨ Fl t) ∨ σ.length ≤ t := fun t ht => by
     rcases ht with rfl | rfl | ht | (rfl | ht | ht) | ht
     ·right; omega
     ·right; omega
     ·exact .inl (.inl ht)
     ·right; exact Nat.le_refl _
     ·exact .inl (.inr ht)
     ·simp only [Option.some.injEq] at ht; subst ht; right; omega
     ·rcases ht with ht | ht <;> simp at ht
    refine ⟨Nat.le_trans hlen hff.len, fun t ht hn => ?_, fun t ht => (hff.own t ht).elim (hof t) fun e => .inr (Nat.le_trans hlen e)⟩
    rw [hff.keep t (Nat.lt_of_lt_of_le ht hlen) fun e => (hof t e).elim hn fun e => Nat.lt_irrefl _ (Nat.lt_of_lt_of_le ht e)]
    obtain ⟨τ, rfl⟩ := hfin
    exact List.getElem?_append_left ht
   ·rw [u11, hK1.view]
    refine ovr_congr (fun m => ?_) n _
    rw [hP0]; rfl
end Go.Proofs.Ytlddiphjpmlhbaa
