/- Pools: clean. Pools: a frame goes, another one comes. -/
import Derived.Test.YtockimhceppkbaaM26
set_option linter.unusedSimpArgs false
set_option linter.unusedVariables false
set_option linter.defProp false
set_option maxRecDepth 100000
set_option maxHeartbeats 32000000
namespace Go.Proofs.Ytockimhceppkbaa
open Go.RowKit
def pl37_10Plc : Plan := (.det 0 (.det 1 (.det 2 (.det 3 (.det 4 (.det 5 (.det 6 (.det 7 (.det 8 (.det 9 (.det 10 (.det 11 (.fin 12 (.det 13 .done))))))))))))))
def tPlc := aa wX <| aa wbu <| aa T3 <| aa T4 <| aa T31 <| aa T43 <| aa T55 <| aa T62 <| aa T94 <| aa T102 T109
theorem Ord.at {σ : St} {V : Nat → FrameV} {a : AV} {w : Option Nat} {fs : List Nat} (h : Ord σ V a w fs) {f : Nat} (hf : f ∈ fs) : ∃ i, fs[i]? = some f ∧ σ[f]? = some (frOb (V f) i) ∧ (V f).pg.length = 512 := by
 cases h with
 | nil => simp at hf
 | hp h =>
   obtain ⟨i, hi⟩ := List.getElem?_of_mem hf
   exact ⟨i, hi, h.f i f hi, h.pg f hf⟩
theorem Ord.upd {σ s : St} {V : Nat → FrameV} {a : AV} {w : Option Nat} {fs : List Nat} (h : Ord σ V a w fs) {i f : Nat} (hi : fs[i]? = some f) (v : FrameV) (hv : v.pg.length = 512) (hs : s[f]? = some (frOb v i)) (ho : ∀ t, oG w fs t → t ≠ f → s[t]? = σ[t]?) : Ord s (updV V f v) a w fs := by
 cases h with
 | nil => simp at hi
 | hp h => exact .hp (h.upd hi v hv hs fun t ht hn => ho t (ht.imp (fun e => by rw [e]) id) hn)
theorem wrW_succ (n : Nat) (pg : List UInt8) (k : Nat) : wrW n pg (k + 1) = wrW n pg k ++ [(8 * n + k, (pg.drop (64 * k)).take 64)] := by simp [wrW, List.range_succ]
theorem wrW_len (n : Nat) (pg : List UInt8) (k : Nat) : (wrW n pg k).length = k := by simp [wrW]
theorem countP_clean (V : Nat → FrameV) {f : Nat} : ∀ {fs : List Nat}, fs.Nodup → f ∈ fs → (V f).dirty = true → fs.countP (fun g => (updV V f { V f with dirty := false } g).dirty) + 1 = fs.countP fun g => (V g).dirty
 | [], _, h, _ => by simp at h
 | g :: fs, hn, h, hd => by
   rw [List.nodup_cons] at hn
   rw [List.countP_cons, List.countP_cons]
   by_cases e : g = f
   ·subst e
    have : fs.countP (fun x => (updV V g { V g with dirty := false } x).dirty) = fs.countP fun x => (V x).dirty := List.countP_congr fun x hx => by
     have : x ≠ g := fun e => hn.1 (e ▸ hx)
     simp only [updV, if_neg this]
    rw [this]
    simp [updV, hd]
   ·have h' : f ∈ fs := (List.mem_cons.1 h).elim (fun e' => absurd e'.symm e) id
    have ih := countP_clean V hn.2 h' hd
    have e2 : (updV V f { V f with dirty := false } g).dirty = (V g).dirty := by simp only [updV, if_neg e]
    rw [e2]
    omega
theorem aclean0 {σ : St} {p dd l kh f : Nat} {G : Nat → Prop} {P : PoolV} (h : PoolIs σ p dd l kh G P) (hf : f ∈ P.fs) (hd : (P.V f).dirty = false) :
 ACalls Try.prog 37 [.mp p 6 0 0, .mp f 516 0 0] σ fun r σ' => σ' = σ ∧ r = intV .i64 0 := by
 obtain ⟨hk, Fd, Gl, w, a, h, hG⟩ := h
 have h0 := h.o
 have l0 := at_lt h0
 obtain ⟨i, hi, f1, p1⟩ := h.ord.at hf
 have q1 := at_lt f1
 simp only [frOb, hd] at f1
 refine acalls_of cx_ok dr_ok Try.func37 (by kernel_rfl) rfl (nt := 54) (rs := [.tmp 4]) rfl rfl ?_
 repeat' first | ((with_reducible first | refine cs ?_ ?_ | refine ws ?_ ?_ | refine wd ?_ ?_ | refine wu ?_ ?_) <;> intro h <;> try simp only [h]) | simp only [↓wBA, tPlc, convA, seval, pl37_10Plc, wH, wFr, h0, l0, f1, q1, p1] | (with_reducible refine dP pl37_10Plc 14 (some 36) (by decide) (by kernel_rfl) ?_)
 all_goals refine ret_st ?_ (by first | exact Nat.le_refl _ | (simp only [List.length_set, List.length_append]; omega) | omega)
 all_goals simp only [resA.eq_1, resL.eq_1, resL.eq_2, resV.eq_1, resV.eq_2, ↓wBA, tPlc, convA, seval, wH]
theorem aclean1 {σ : St} {p dd l kh f : Nat} {G : Nat → Prop} {P : PoolV} (h : PoolIs σ p dd l kh G P) (hf : f ∈ P.fs) (hd : (P.V f).dirty = true) (hc : P.ct + 1 < 18446744073709551616) (hw : P.dq + 8 ≤ 1000000000000) :
 ACalls Try.prog 37 [.mp p 6 0 0, .mp f 516 0 0] σ fun r σ' => r = intV .i64 0 ∧ ∃ G' P', Fr σ σ' G G' ∧ PoolIs σ' p dd l kh G' P' ∧ Kp P P' 0 ∧ P'.fs = P.fs ∧ P'.hm = P.hm ∧ P'.V = updV P.V f { P.V f with dirty := false } := by
 obtain ⟨hk, Fd, Gl, w, a, h, hG⟩ := h
 have h0 := h.o
 have l0 := at_lt h0
 obtain ⟨i, hi, f1, p1⟩ := h.ord.at hf
 have q1 := at_lt f1
 have hog : oG w P.fs f := .inr hf
 have hnf := hk.fn f hf
 have hb := h.data.big
 have hbs : (P.V f).n < min (P.data.size / 8) 3840 := hnf
 simp only [frOb, hd] at f1
 generalize hfn : (P.V f).n = n at *
 generalize hfp : (P.V f).pg = pg at *
 generalize hfu : (P.V f).used = us at *
 refine acalls_of cx_ok dr_ok Try.func37 (by kernel_rfl) rfl (nt := 54) (rs := [.tmp 4]) rfl rfl ?_
 repeat' first | ((with_reducible first | refine cs ?_ ?_ | refine ws ?_ ?_ | refine wd ?_ ?_ | refine wu ?_ ?_) <;> intro h <;> try simp only [h]) | simp only [↓wBA, tPlc, convA, seval, pl37_10Plc, wH, wFr, h0, l0, f1, q1, p1] | (with_reducible refine dP pl37_10Plc 14 (some 36) (by decide) (by kernel_rfl) ?_)
 have hnd := h.ord.big.2
 have hcd := countP_clean P.V hnd hf hd
 have hwd : P.data.wait.length + 8 * P.fs.countP (fun f => (P.V f).dirty) + 8 ≤ 1000000000000 := hw
 have hw : P.data.wait.length + 8 ≤ 1000000000000 := by omega
 have hcc : P.log.ctr + min P.log.wait 1 + 1 < 18446744073709551616 := hc
 have hc : P.log.ctr + 1 < 18446744073709551616 := by omega
 refine (awflush h.log hc).mono ?_
 rintro _ s1 ⟨rfl, Gl1, L1, hf1, hl1, hst, hwt, hsz, hct, hld⟩
 have k0 := hf1.get h0 h.pl
 have k1 := hf1.get f1 (fun e => h.ol f hog e)
 have d1 := h.data.frame hf1 (fun t ht hg => h.dl t ht hg)
 have q2 := at_lt k0
 have q3 := at_lt k1
 have hle := hf1.len
 repeat' first | ((with_reducible first | refine cs ?_ ?_ | refine ws ?_ ?_ | refine wd ?_ ?_ | refine wu ?_ ?_) <;> intro h <;> try simp only [h]) | simp only [↓wBA, tPlc, convA, seval, pl37_10Plc, wH] | (with_reducible refine dP pl37_10Plc 14 (some 36) (by decide) (by kernel_rfl) ?_)
 refine awp_loopS (X := { i : Nat // i ≤ 8 }) (fun i => 8 - i.1) (fun i => [(22, intV .i64 (i.1 : Nat))]) [4, 6, 7, 8, 23, 24, 25, 26, 27, 28, 29, 30, 31, 32, 33, 34, 35, 36, 37, 38, 39, 40, 41, 42, 43, 44, 45, 46, 47, 48, 49, 50, 51, 52] (fun i s => ∃ F', Fr s1 s Fd F' ∧ DiskAt s dd F' { P.data with now := wrPg P.data.now n pg i.1, wait := P.data.wait ++ wrW n pg i.1 }) (⟨0, by omega⟩) ?_ ?_ ?_ ?_
 ·simp only [wHl, wHf]
 ·exact ⟨Fd, Fr.refl _ _, by simpa [wrPg, wrW] using d1⟩
 ·rintro _ _ ⟨_, hf, _⟩; have := hf.len; omega
 ·intro x J s hI
  simp only [wHl]
  obtain ⟨i', hi'⟩ := x
  obtain ⟨F', hf2, hd2⟩ := hI
  dsimp only at *
  have j0 := hf2.get k0 h.pd
  have j1 := hf2.get k1 (fun e => h.od f hog e)
  have r0 := at_lt j0
  have r1 := at_lt j1
  by_cases hlt : i' < 8
  ·have hdec : decide ((i' : Int) < 8) = true := by simp; omega
   have hw1 := wI i' (by omega)
   have w0 : IntKind.i64.wrap ((n : Int) * 8) = ((8 * n : Nat) : Int) := by rw [wrap_i64 (by omega) (by omega)]; omega
   have w2 : IntKind.i64.wrap (((8 * n : Nat) : Int) + (i' : Int)) = ((8 * n + i' : Nat) : Int) := by rw [wrap_i64 (by omega) (by omega)]; omega
   have w3 : IntKind.i64.wrap ((i' : Int) * 64) = ((64 * i' : Nat) : Int) := by rw [wrap_i64 (by omega) (by omega)]; omega
   have w4 : IntKind.i64.wrap (((i' + 1 : Nat) : Int) * 64) = ((64 * i' + 64 : Nat) : Int) := by rw [wrap_i64 (by omega) (by omega)]; omega
   have sl : ((pg.drop (64 * i')).take 64).length = 64 := by simp; omega
   have se := pageC_64 sl
   have e64 := pageC_64 len_zero64
   have b1 : (((64 * i' : Nat) : Int) < ((64 * i' + 64 : Nat) : Int)) = True := eq_true (by omega)
   have b2 : (((64 * i' + 64 : Nat) : Int) ≤ 512) = True := eq_true (by omega)
   have b3 : 64 * i' + 64 - 64 * i' = 64 := by omega
   have b4 : (1 + 64 * i' + 64 ≤ 516) = True := eq_true (by omega)
   have b5 : (1 + (64 * i' + 64) ≤ 516) = True := eq_true (by omega)
   have fs := frR_sec (n := n) (u := us) (a := i) (f := true) p1 hlt
   repeat' first | ((with_reducible first | refine cs ?_ ?_ | refine ws ?_ ?_ | refine wd ?_ ?_ | refine wu ?_ ?_) <;> intro h <;> try simp only [h]) | simp only [↓wBA, tPlc, convA, seval, pl37_10Plc, wH, wHl, wFr, p1, j0, j1, r0, r1, hdec, w0, w2, w3, w4, hw1, boundA, sliceA, elemsA, fs, b1, b2, b3, b4, b5, se, zB_64, e64, pageA] | (with_reducible refine dP pl37_10Plc 14 (some 36) (by decide) (by kernel_rfl) ?_)
   refine (adwrite (hd2.app _) (8 * n + i') (by show _ < P.data.size; omega) _ sl (by simp [wrW_len]; omega)).mono ?_
   rintro _ s2 ⟨rfl, F3, hf3, hd3⟩
   have hf4 := (hf2.app _).trans hf3
   have m0 := hf4.get k0 h.pd
   have m1 := hf4.get k1 (fun e => h.od f hog e)
   repeat' first | ((with_reducible first | refine cs ?_ ?_ | refine ws ?_ ?_ | refine wd ?_ ?_ | refine wu ?_ ?_) <;> intro h <;> try simp only [h]) | simp only [↓wBA, tPlc, convA, seval, pl37_10Plc, wH, wHl, hw1] | (with_reducible refine dP pl37_10Plc 14 (some 36) (by decide) (by kernel_rfl) ?_)
   refine ⟨⟨i' + 1, by omega⟩, by show 8 - (i' + 1) < 8 - i'; omega, ⟨F3, hf4, ?_⟩, ?_⟩
   ·simp only [wrW_succ, wrPg, ← List.append_assoc]
    exact hd3
   ·simp only [wHl, wHf]
  ·have he : i' = 8 := by omega
   subst he
   repeat' first | ((with_reducible first | refine cs ?_ ?_ | refine ws ?_ ?_ | refine wd ?_ ?_ | refine wu ?_ ?_) <;> intro h <;> try simp only [h]) | simp only [↓wBA, tPlc, convA, seval, pl37_10Plc, wH, wHl, wFr, p1, j0, j1, r0, r1] | (with_reducible refine dP pl37_10Plc 14 (some 36) (by decide) (by kernel_rfl) ?_)
   have hlen := Nat.le_trans hle hf2.len
   all_goals refine ret_st ?_ (by first | exact Nat.le_refl _ | (simp only [List.length_set, List.length_append]; omega) | omega)
   all_goals simp only [resA.eq_1, resL.eq_1, resL.eq_2, resV.eq_1, resV.eq_2, ↓wBA, tPlc, convA, seval, wH, wFr, p1, r1]
   have hs : ∀ t, t ≠ f → (List.set s f (some (.row 516 [frR (n : Int) pg false us i])))[t]? = s[t]? := fun t ht => List.getElem?_set_ne (fun e => ht e.symm)
   have hk1 : ∀ t x, σ[t]? = some x → ¬ Gl t → ¬ Fd t → s[t]? = some x := fun t x hx h1 h2 => hf2.get (hf1.get hx h1) h2
   have hF2 : ∀ t, F' t → Fd t ∨ s1.length ≤ t := hf2.own
   have hG1 : ∀ t, Gl1 t → Gl t ∨ σ.length ≤ t := hf1.own
   have nf' : ¬ F' f := fun e => (hF2 f e).elim (h.od f hog) fun e => by omega
   have nlf : ¬ Gl1 f := fun e => (hG1 f e).elim (h.ol f hog) fun e => by omega
   have lk := at_lt h.has
   have hku : ∀ g, (updV P.V f { P.V f with dirty := false } g).n = (P.V g).n ∧ (updV P.V f { P.V f with dirty := false } g).pg = (P.V g).pg := fun g => by
    unfold updV
    split
    ·rename_i e; subst e; exact ⟨rfl, rfl⟩
    ·exact ⟨rfl, rfl⟩
   have hlk : lkM P.hm n = some f := (hk.keys n f).2 ⟨hf, hfn⟩
   have hne : ∀ g ∈ P.fs, g ≠ f → (P.V g).n ≠ n := fun g hg hn e => hn (by
    have := (hk.keys n g).2 ⟨hg, e⟩
    rw [hlk] at this; simpa using this.symm)
   have hln : ∀ t, oG w P.fs t → t < σ.length := h.ord.lt
   refine ⟨fun t => t = p ∨ t = kh ∨ F' t ∨ Gl1 t ∨ oG w P.fs t, { P with data := { P.data with now := wrPg P.data.now n pg 8, wait := P.data.wait ++ wrW n pg 8 }, log := L1, V := updV P.V f { P.V f with dirty := false } }, ?_, ⟨⟨fun m g => ?_, hk.kn, hk.m1, hk.mb, hk.len, fun g hg => ?_, fun g hg => ?_, fun g hg hd' => ?_, fun k => ?_, hk.size⟩, F', Gl1, w, a, ⟨?_, ?_, ?_, ?_, ?_, fun t h1 h2 => ?_, fun t h1 h2 => ?_, fun t h1 h2 => ?_, ?_, ?_, ?_, ?_⟩, fun t => Iff.rfl⟩, ⟨rfl, rfl, hsz, hld, hst, by show L1.wait ≤ _; omega, by show L1.ctr + min L1.wait 1 ≤ P.log.ctr + min P.log.wait 1 + 0; omega, by show (P.data.wait ++ wrW n pg 8).length + 8 * P.fs.countP (fun g => (updV P.V f { P.V f with dirty := false } g).dirty) ≤ P.data.wait.length + 8 * P.fs.countP (fun g => (P.V g).dirty) + 8 * 0; have hcd' : P.fs.countP (fun g => (updV P.V f { P.V f with dirty := false } g).dirty) + 1 = P.fs.countP (fun g => (P.V g).dirty) := hcd; rw [List.length_append, wrW_len]; omega, fun m => ?_, rfl⟩, rfl, rfl, rfl⟩
   ·have e1 : Fr σ s1 G (fun t => t = p ∨ t = kh ∨ Fd t ∨ Gl1 t ∨ oG w P.fs t) := hf1.sub (fun t ht => (hG t).2 (.inr (.inr (.inr (.inl ht))))) fun t ht => by
     rw [hG t]
     rcases ht with h1 | h1 | h1 | h1 | h1
     ·exact .inl (.inl h1)
     ·exact .inl (.inr (.inl h1))
     ·exact .inl (.inr (.inr (.inl h1)))
     ·exact (hG1 t h1).imp (fun e => .inr (.inr (.inr (.inl e)))) id
     ·exact .inl (.inr (.inr (.inr (.inr h1))))
    have e2 : Fr s1 s (fun t => t = p ∨ t = kh ∨ Fd t ∨ Gl1 t ∨ oG w P.fs t) (fun t => t = p ∨ t = kh ∨ F' t ∨ Gl1 t ∨ oG w P.fs t) := hf2.sub (fun t ht => .inr (.inr (.inl ht))) fun t ht => by
     rcases ht with h1 | h1 | h1 | h1 | h1
     ·exact .inl (.inl h1)
     ·exact .inl (.inr (.inl h1))
     ·exact (hF2 t h1).imp (fun e => .inr (.inr (.inl e))) id
     ·exact .inl (.inr (.inr (.inr (.inl h1))))
     ·exact .inl (.inr (.inr (.inr (.inr h1))))
    exact (e1.trans e2).set _ ((hG f).2 (.inr (.inr (.inr (.inr hog)))))
   ·show lkM P.hm m = some g ↔ g ∈ P.fs ∧ _
    rw [(hku g).1]; exact hk.keys m g
   ·show (updV P.V f { P.V f with dirty := false } g).n < _
    rw [(hku g).1]; exact hk.fn g hg
   ·show pgz (updV P.V f { P.V f with dirty := false } g).pg = (updV P.V f { P.V f with dirty := false } g).pg
    rw [(hku g).2]; exact hk.nz g hg
   ·show pgz (diskPg (wrPg P.data.now n pg 8) (updV P.V f { P.V f with dirty := false } g).n) = (updV P.V f { P.V f with dirty := false } g).pg
    rw [(hku g).1, (hku g).2]
    by_cases e : g = f
    ·subst e
     rw [hfn, hfp, disk_wr p1]
     have := hk.nz g hf
     rwa [hfp] at this
    ·rw [disk_wr' _ _ _ _ (hne g hg e)]
     refine hk.cl g hg ?_
     have : (updV P.V f { P.V f with dirty := false } g).dirty = false := hd'
     simpa only [updV, if_neg e] using this
   ·show (secAt (wrPg P.data.now n pg 8) k).length = 64
    rw [sec_wr]
    split
    ·simp; omega
    ·exact hk.secs k
   ·rw [hs p (ne_of_ob h0 f1 (by simp))]; exact j0
   ·exact hd2.same fun t ht => hs t fun e => nf' (e ▸ ht)
   ·refine (hl1.frame hf2 fun t h1 h2 => ?_).same fun t ht => hs t fun e => nlf (e ▸ ht)
    exact (hG1 t h1).elim (h.dl t h2) fun e => Nat.lt_irrefl _ (Nat.lt_of_lt_of_le (h.data.lt t h2) e)
   ·refine h.ord.upd hi _ (by show (P.V f).pg.length = 512; rw [hfp]; exact p1) ?_ fun t h1 h2 => ?_
    ·simp only [frOb, hfn, hfp, hfu]; simp [r1]
    ·rw [hs t h2]
     have hx : σ[t]? = some (σ[t]'(hln t h1)) := by simp [hln t h1]
     rw [hk1 t _ hx (h.ol t h1) (h.od t h1), hx]
   ·rw [hs kh (ne_of_ob h.has f1 (by simp))]; exact hk1 kh _ h.has h.kl h.kd
   ·rcases hF2 t h1 with e | e
    ·exact (hG1 t h2).elim (h.dl t e) fun e' => Nat.lt_irrefl _ (Nat.lt_of_lt_of_le (h.data.lt t e) e')
    ·exact Nat.lt_irrefl _ (Nat.lt_of_lt_of_le (hl1.lt t h2) e)
   ·exact (hF2 t h2).elim (h.od t h1) fun e => Nat.lt_irrefl _ (Nat.lt_of_lt_of_le (hln t h1) (Nat.le_trans hle e))
   ·exact (hG1 t h2).elim (h.ol t h1) fun e => Nat.lt_irrefl _ (Nat.lt_of_lt_of_le (hln t h1) e)
   ·exact fun e => (hF2 p e).elim h.pd fun e => by omega
   ·exact fun e => (hG1 p e).elim h.pl fun e => by omega
   ·exact fun e => (hF2 kh e).elim h.kd fun e => by omega
   ·exact fun e => (hG1 kh e).elim h.kl fun e => by omega
   ·unfold PoolV.view
    show (match lkM P.hm m with | some g => (updV P.V f { P.V f with dirty := false } g).pg | none => pgz (diskPg (wrPg P.data.now n pg 8) m)) = _
    cases hm : lkM P.hm m with
    | some g => exact (hku g).2
    | none =>
      have : m ≠ n := fun e => by rw [e, hlk] at hm; cases hm
      simp only [disk_wr' _ _ _ _ this]
end Go.Proofs.Ytockimhceppkbaa
namespace Go.Proofs.Ytockimhceppkbaa
open Go.RowKit
theorem Ord.congr {σ : St} {V V' : Nat → FrameV} {a : AV} {w : Option Nat} {fs : List Nat} (h : Ord σ V a w fs) (hV : ∀ g ∈ fs, V' g = V g) : Ord σ V' a w fs := by
 cases h with
 | nil => exact .nil
 | hp h => exact .hp ⟨h.o, fun i g hg => by rw [hV g (List.mem_of_getElem? hg)]; exact h.f i g hg, h.nd, fun g hg => by rw [hV g hg]; exact h.pg g hg, h.big⟩
def rowP (dd l kh : Nat) (P : PoolV) (a : AV) : Option Ob := some (.row 6 [[.mp dd 6 0 0, .mp l 5 0 0, intV .i64 (P.most : Nat), a, .mmap kh, intV .i64 P.tick]])
def mapP (hm : List (Nat × Nat)) : Option Ob := some (.map (encM (fun f => .mp f 516 0 0) hm))
theorem apushP {q : St} {p dd l kh f n : Nat} {G : Nat → Prop} {P : PoolV} (h : PoolIs q p dd l kh G P) (v : FrameV) (i0 : Nat) (hf : q[f]? = some (frOb v i0)) (hv : v.pg.length = 512) (hvn : v.n = n) (hz : pgz v.pg = v.pg) (hcl : pgz (diskPg P.data.now n) = v.pg) (hn : n < P.pages) (hfG : ¬ G f) (hnone : lkM P.hm n = none) (hlen : P.fs.length < P.most) (hvd : v.dirty = false) :
 ACalls Try.prog 61 [.dyn 137 (.mp p 6 0 3), .dyn 105 (.mp f 516 0 0)] q fun r q' => r = .tup [] ∧ (∃ a, q'[p]? = some (rowP dd l kh P a)) ∧ q'[kh]? = some (mapP P.hm) ∧ ∃ G' P', PoolIs (q'.set kh (mapP (setM P.hm n f))) p dd l kh G' P' ∧ Fr q (q'.set kh (mapP (setM P.hm n f))) (fun t => t = f ∨ G t) G' ∧ P'.hm = setM P.hm n f ∧ Kp P P' 0 := by
 obtain ⟨hk, Fd, Gl, w, a, h, hG⟩ := h
 have hog : ¬ oG w P.fs f := fun e => hfG ((hG f).2 (.inr (.inr (.inr (.inr e)))))
 have hfs : f ∉ P.fs := fun e => hog (.inr e)
 have hup : ∀ g ∈ P.fs, updV P.V f v g = P.V g := fun g hg => if_neg fun e => by subst e; exact hfs hg
 have huf : updV P.V f v f = v := if_pos rfl
 have ho := h.ord.congr (V' := updV P.V f v) hup
 have hb := hk.mb
 refine (apush ho h.o (i0 := i0) (by rw [huf]; exact hf) hfs (by rw [huf]; exact hv) (by omega)).mono ?_
 rintro _ q' ⟨rfl, o', fs', hP, h1, h2, hF⟩
 have hmem : ∀ g, g ∈ fs' ↔ g ∈ P.fs ∨ g = f := fun g => by rw [hP.mem_iff]; simp
 have hcnt : fs'.countP (fun g => (updV P.V f v g).dirty) = P.fs.countP fun g => (P.V g).dirty := by
  rw [hP.countP_eq, List.countP_append, List.countP_congr (q := fun g => (P.V g).dirty) fun g hg => by rw [hup g hg]]
  simp [huf, hvd]
 have hpf : p ≠ f := fun e => hfG (e ▸ (hG p).2 (.inl rfl))
 have hkf : kh ≠ f := fun e => hfG (e ▸ (hG kh).2 (.inr (.inl rfl)))
 have hno : ∀ t, Fd t ∨ Gl t ∨ t = kh → t < q.length → q'[t]? = q[t]? := fun t ht hl => hF.keep t hl (by
  rintro (rfl | rfl | e)
  ·rcases ht with e | e | e
   ·exact h.pd e
   ·exact h.pl e
   ·exact h.pk e
  ·rcases ht with e | e | e
   ·exact hfG ((hG t).2 (.inr (.inr (.inl e))))
   ·exact hfG ((hG t).2 (.inr (.inr (.inr (.inl e)))))
   ·exact hkf e.symm
  ·rcases ht with e' | e' | rfl
   ·exact h.od t e e'
   ·exact h.ol t e e'
   ·exact h.nk e)
 have hk' := (hno kh (.inr (.inr rfl)) (at_lt h.has)).trans h.has
 have lk := at_lt hk'
 have hpk := h.pk
 have hnk' : ¬ oG (some o') fs' kh := fun e => by
  rcases hF.own kh (.inr (e.imp (fun e => by simpa using e.symm) id)) with e | e
  ·rcases e with rfl | rfl | e
   ·exact hpk rfl
   ·exact hkf rfl
   ·exact h.nk e
  ·have := at_lt h.has; omega
 have hs : ∀ t, t ≠ kh → (q'.set kh (mapP (setM P.hm n f)))[t]? = q'[t]? := fun t ht => List.getElem?_set_ne fun e => ht e.symm
 refine ⟨rfl, ⟨_, h2⟩, hk', fun t => t = p ∨ t = kh ∨ Fd t ∨ Gl t ∨ oG (some o') fs' t, { P with fs := fs', V := updV P.V f v, hm := setM P.hm n f }, ⟨⟨fun m g => ?_, nodup_set _ _ _ hk.kn, hk.m1, hk.mb, ?_, fun g hg => ?_, fun g hg => ?_, fun g hg hd => ?_, hk.secs, hk.size⟩, Fd, Gl, some o', _, h.re (by rw [hs p hpk]; exact h2) rfl rfl (by simp [lk, mapP]) (fun t ht => ?_) (.hp (h1.same fun t ht => hs t fun e => hnk' (by subst e; exact ht.imp (fun e => by rw [e]) id))) fun t ht => ?_, fun t => Iff.rfl⟩, ?_, rfl, ⟨rfl, rfl, rfl, rfl, rfl, Nat.le_refl _, ct_le rfl _, by show P.data.wait.length + 8 * fs'.countP (fun g => (updV P.V f v g).dirty) ≤ P.data.wait.length + 8 * P.fs.countP (fun g => (P.V g).dirty) + 8 * 0; rw [hcnt]; exact Nat.le_refl _, fun m => ?_, rfl⟩⟩
 ·show lkM (setM P.hm n f) m = some g ↔ g ∈ fs' ∧ (updV P.V f v g).n = m
  rw [lk_setM, hmem]
  by_cases hm : m = n
  ·subst hm
   rw [if_pos rfl]
   constructor
   ·intro e; cases e; exact ⟨.inr rfl, by rw [huf]; exact hvn⟩
   ·rintro ⟨e | e, e2⟩
    ·rw [hup g e] at e2
     have := (hk.keys m g).2 ⟨e, e2⟩
     rw [hnone] at this; cases this
    ·rw [e]
  ·rw [if_neg hm, hk.keys]
   constructor
   ·rintro ⟨e, e2⟩; exact ⟨.inl e, by rw [hup g e]; exact e2⟩
   ·rintro ⟨e | e, e2⟩
    ·exact ⟨e, by rw [hup g e] at e2; exact e2⟩
    ·subst e; rw [huf, hvn] at e2; exact absurd e2.symm hm
 ·show fs'.length ≤ P.most
  rw [hP.length_eq]; simp; omega
 ·show (updV P.V f v g).n < P.pages
  rcases (hmem g).1 hg with e | e
  ·rw [hup g e]; exact hk.fn g e
  ·subst e; rw [huf, hvn]; exact hn
 ·show pgz (updV P.V f v g).pg = (updV P.V f v g).pg
  rcases (hmem g).1 hg with e | e
  ·rw [hup g e]; exact hk.nz g e
  ·subst e; rw [huf]; exact hz
 ·show pgz (diskPg P.data.now (updV P.V f v g).n) = (updV P.V f v g).pg
  have hd' : (updV P.V f v g).dirty = false := hd
  rcases (hmem g).1 hg with e | e
  ·rw [hup g e] at hd' ⊢; exact hk.cl g e hd'
  ·subst e; rw [huf, hvn]; exact hcl
 ·have e : t ≠ kh := fun e => by subst e; exact ht.elim h.kd h.kl
  rw [hs t e]
  exact hno t (ht.imp id .inl) (ht.elim (h.data.lt t) (h.log.lt t))
 ·rcases hF.own t (.inr (ht.imp (fun e => by simpa using e.symm) id)) with e | e
  ·rcases e with rfl | rfl | e
   ·exfalso
    exact (Ord.hp h1).not h2 (by simp [rowP]) (by simp [rowP]) ht
   ·exact ⟨fun e => hfG ((hG t).2 (.inr (.inr (.inl e)))), fun e => hfG ((hG t).2 (.inr (.inr (.inr (.inl e)))))⟩
   ·exact h.no (.inl e)
  ·exact h.no (.inr e)
 ·refine (hF.sub (fun t ht => ?_) (fun t ht => ?_)).set _ (.inr ((hG kh).2 (.inr (.inl rfl))))
  ·rcases ht with rfl | rfl | e
   ·exact .inr ((hG _).2 (.inl rfl))
   ·exact .inl rfl
   ·exact .inr ((hG _).2 (.inr (.inr (.inr (.inr e)))))
  ·rcases ht with rfl | rfl | e | e | e
   ·exact .inl (.inr ((hG _).2 (.inl rfl)))
   ·exact .inl (.inr ((hG _).2 (.inr (.inl rfl))))
   ·exact .inl (.inr ((hG _).2 (.inr (.inr (.inl e)))))
   ·exact .inl (.inr ((hG _).2 (.inr (.inr (.inr (.inl e))))))
   ·rcases hF.own t (.inr (e.imp (fun e => by simpa using e.symm) id)) with e | e
    ·rcases e with rfl | rfl | e
     ·exact .inl (.inr ((hG _).2 (.inl rfl)))
     ·exact .inl (.inl rfl)
     ·exact .inl (.inr ((hG _).2 (.inr (.inr (.inr (.inr e))))))
    ·exact .inr e
 ·unfold PoolV.view
  show (match lkM (setM P.hm n f) m with | some g => (updV P.V f v g).pg | none => pgz (diskPg P.data.now m)) = _
  rw [lk_setM]
  by_cases hm : m = n
  ·subst hm
   rw [if_pos rfl, hnone]
   simp only [huf, hcl]
  ·rw [if_neg hm]
   cases hl : lkM P.hm m with
   | none => rfl
   | some g => simp only [hup g ((hk.keys m g).1 hl).1]
theorem apopP {q : St} {p dd l kh o f0 : Nat} {G Fd Gl : Nat → Prop} {P : PoolV} (hk : PoolOk P) (h : PoolH q p dd l kh Fd Gl (some o) (.ms o 1 0 P.fs.length) P) (hp : HpIn q o P.fs P.V) (hG : ∀ t, G t ↔ (t = p ∨ t = kh ∨ Fd t ∨ Gl t ∨ oG (some o) P.fs t)) (hf0 : P.fs[0]? = some f0) (hd : (P.V f0).dirty = false) :
 ACalls Try.prog 60 [.dyn 137 (.mp p 6 0 3)] q fun r q' => r = .dyn 105 (.mp f0 516 0 0) ∧ (∃ i, q'[f0]? = some (frOb (P.V f0) i)) ∧ (∃ a, q'[p]? = some (rowP dd l kh P a)) ∧ q'[kh]? = some (mapP P.hm) ∧ ∃ G' P', PoolIs (q'.set kh (mapP (delM P.hm (P.V f0).n))) p dd l kh G' P' ∧ Fr q (q'.set kh (mapP (delM P.hm (P.V f0).n))) G G' ∧ P'.hm = delM P.hm (P.V f0).n ∧ P'.fs.length < P.fs.length ∧ P'.tick = P.tick ∧ Kp P P' 0 ∧ P'.data = P.data := by
 refine (apop hp h.o hf0).mono ?_
 rintro _ q' ⟨rfl, ⟨j, hj⟩, fs', hP, h1, h2, hF⟩
 have hm0 : f0 ∈ P.fs := List.mem_of_getElem? hf0
 have hnd := (hP.nodup_iff.2 hp.nd)
 rw [List.nodup_cons] at hnd
 have hmem : ∀ g, g ∈ fs' ↔ g ∈ P.fs ∧ g ≠ f0 := fun g => by
  rw [← hP.mem_iff, List.mem_cons]
  constructor
  ·intro e; exact ⟨.inr e, fun e' => hnd.1 (e' ▸ e)⟩
  ·rintro ⟨e | e, e'⟩
   ·exact absurd e e'
   ·exact e
 have hog : ∀ t, oG (some o) fs' t → oG (some o) P.fs t := fun t ht => ht.imp id fun e => ((hmem t).1 e).1
 have hoF : ∀ t, oF o P.fs t → oG (some o) P.fs t := fun t ht => ht.imp (fun e => by rw [e]) id
 have hpk := h.pk
 have hno : ∀ t, Fd t ∨ Gl t ∨ t = kh → t < q.length → q'[t]? = q[t]? := fun t ht hl => hF.keep t hl (by
  rintro (rfl | e)
  ·rcases ht with e | e | e
   ·exact h.pd e
   ·exact h.pl e
   ·exact h.pk e
  ·rcases ht with e' | e' | rfl
   ·exact h.od t (hoF t e) e'
   ·exact h.ol t (hoF t e) e'
   ·exact h.nk (hoF _ e))
 have hk' := (hno kh (.inr (.inr rfl)) (at_lt h.has)).trans h.has
 have lk := at_lt hk'
 have hs : ∀ t, t ≠ kh → (q'.set kh (mapP (delM P.hm (P.V f0).n)))[t]? = q'[t]? := fun t ht => List.getElem?_set_ne fun e => ht e.symm
 have hlk0 : lkM P.hm (P.V f0).n = some f0 := (hk.keys _ _).2 ⟨hm0, rfl⟩
 have hlen := hP.length_eq
 simp only [List.length_cons] at hlen
 refine ⟨rfl, ⟨j, hj⟩, ⟨_, h2⟩, hk', fun t => t = p ∨ t = kh ∨ Fd t ∨ Gl t ∨ oG (some o) fs' t, { P with fs := fs', hm := delM P.hm (P.V f0).n }, ⟨⟨fun m g => ?_, nodup_del _ _ hk.kn, hk.m1, hk.mb, ?_, fun g hg => hk.fn g ((hmem g).1 hg).1, fun g hg => hk.nz g ((hmem g).1 hg).1, fun g hg hd => hk.cl g ((hmem g).1 hg).1 hd, hk.secs, hk.size⟩, Fd, Gl, some o, _, h.re (by rw [hs p hpk]; exact h2) rfl rfl (by simp [lk, mapP]) (fun t ht => ?_) (.hp (h1.same fun t ht => hs t fun e => h.nk (by subst e; exact hog _ (ht.imp (fun e => by rw [e]) id)))) fun t ht => h.no (.inl (hog t ht)), fun t => Iff.rfl⟩, ?_, rfl, ?_, rfl, ⟨rfl, rfl, rfl, rfl, rfl, Nat.le_refl _, ct_le rfl _, by show P.data.wait.length + 8 * fs'.countP (fun g => (P.V g).dirty) ≤ P.data.wait.length + 8 * P.fs.countP (fun g => (P.V g).dirty) + 8 * 0; rw [← hP.countP_eq, List.countP_cons]; omega, fun m => ?_, rfl⟩, rfl⟩
 ·show lkM (delM P.hm (P.V f0).n) m = some g ↔ g ∈ fs' ∧ (P.V g).n = m
  rw [lk_delM _ _ _ hk.kn, hmem]
  by_cases hm : m = (P.V f0).n
  ·rw [if_pos hm]
   constructor
   ·intro e; cases e
   ·rintro ⟨⟨e, e2⟩, e3⟩
    have := (hk.keys m g).2 ⟨e, e3⟩
    rw [hm, hlk0] at this
    exact absurd (by simpa using this.symm) e2
  ·rw [if_neg hm, hk.keys]
   constructor
   ·rintro ⟨e, e2⟩; exact ⟨⟨e, fun e' => hm (by rw [← e2, e'])⟩, e2⟩
   ·rintro ⟨⟨e, _⟩, e2⟩; exact ⟨e, e2⟩
 ·show fs'.length ≤ P.most
  have := hk.len; omega
 ·have e : t ≠ kh := fun e => by subst e; exact ht.elim h.kd h.kl
  rw [hs t e]
  exact hno t (ht.imp id .inl) (ht.elim (h.data.lt t) (h.log.lt t))
 ·refine (hF.sub (fun t ht => ?_) (fun t ht => ?_)).set _ ((hG kh).2 (.inr (.inl rfl)))
  ·rcases ht with rfl | e
   ·exact (hG _).2 (.inl rfl)
   ·exact (hG _).2 (.inr (.inr (.inr (.inr (hoF t e)))))
  ·rw [hG t]
   exact .inl (ht.imp id (.imp id (.imp id (.imp id (hog t)))))
 ·show fs'.length < P.fs.length
  omega
 ·unfold PoolV.view
  show (match lkM (delM P.hm (P.V f0).n) m with | some g => (P.V g).pg | none => pgz (diskPg P.data.now m)) = _
  rw [lk_delM _ _ _ hk.kn]
  by_cases hm : m = (P.V f0).n
  ·subst hm
   rw [if_pos rfl, hlk0]
   exact hk.cl f0 hm0 hd
  ·rw [if_neg hm]
   cases lkM P.hm m <;> rfl
theorem PoolIs.tick {σ : St} {p dd l kh : Nat} {G : Nat → Prop} {P : PoolV} {a : AV} (h : PoolIs σ p dd l kh G P) (hp : σ[p]? = some (rowP dd l kh P a)) (tk : Int) : PoolIs (σ.set p (some (.row 6 [[.mp dd 6 0 0, .mp l 5 0 0, intV .i64 (P.most : Nat), a, .mmap kh, intV .i64 tk]]))) p dd l kh G { P with tick := tk } := by
 obtain ⟨hk, Fd, Gl, w, a', h, hG⟩ := h
 have h0 := h.o
 rw [hp] at h0
 simp only [rowP, Option.some.injEq, Ob.row.injEq, List.cons.injEq, true_and, and_true] at h0
 subst h0
 have l0 := at_lt hp
 have hs : ∀ t, t ≠ p → (σ.set p (some (.row 6 [[.mp dd 6 0 0, .mp l 5 0 0, intV .i64 (P.most : Nat), a, .mmap kh, intV .i64 tk]])))[t]? = σ[t]? := fun t ht => List.getElem?_set_ne fun e => ht e.symm
 exact ⟨hk.re rfl rfl rfl rfl (fun _ => Iff.rfl) hk.len fun _ => ⟨rfl, rfl, rfl⟩, Fd, Gl, w, a, h.re (by simp [l0]) rfl rfl (by rw [hs kh h.pk.symm]; exact h.has) (fun t ht => hs t fun e => by subst e; exact ht.elim h.pd h.pl) (h.ord.same fun t ht => hs t fun e => h.np (e ▸ ht)) fun t ht => h.no (.inl ht), hG⟩
end Go.Proofs.Ytockimhceppkbaa
