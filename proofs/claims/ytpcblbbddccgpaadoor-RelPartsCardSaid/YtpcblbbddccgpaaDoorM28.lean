/- The rows of one side of a join by what an equality asks of them. -/
import Derived.Test.YtpcblbbddccgpaaDoorM24
import Derived.Test.YtpcblbbddccgpaaDoorM25
import Derived.Test.YtpcblbbddccgpaaDoorM27
set_option linter.unusedSimpArgs false
set_option linter.unusedVariables false
set_option linter.defProp false
set_option maxRecDepth 100000
set_option maxHeartbeats 32000000
namespace Go.Proofs.YtpcblbbddccgpaaDoor
open Go.RowKit
def pl24_3Ix : Plan := (.det 0 (.det 1 (.det 2 (.det 3 (.det 4 (.det 5 (.det 6 (.det 7 (.two 8 (.act 9 (.act 10 (.fin 11 .done))) 9 (.act 8 (.act 10 (.fin 11 .done))))))))))))
def pl24_20Ix : Plan := (.det 0 (.det 1 (.det 2 (.det 3 (.det 4 (.det 5 .done))))))
def tIx := aa wX <| aa wbu <| aa T3 <| aa T4 <| aa T22 <| aa T24 <| aa T25 <| aa T27 <| aa T36 T54
theorem weak_of {fr fr' : List AV} {σ σ' : St} (n : Nat) (h : min σ.length σ'.length = n) (hL : leL σ n σ' fr fr') (hS : leS σ n σ' σ σ') : WeakE fr σ fr' σ' := by
 subst h
 exact .inr ⟨hL, hS⟩
theorem ev_nilmap {fr : List AV} : evA fr (.const (.map none)) = .p (.v (.map none)) := nr rfl
def exKd : Ex → Int | .mk k _ _ _ _ _ _ _ => k
def exSl : Ex → Int | .mk _ _ _ _ _ _ s _ => s
def exKs : Ex → List Ex | .mk _ _ _ _ _ _ _ ks => ks
def slotsS (w : Nat) (x y : Ex) : Bool := decide (exKd x = 24) && decide (exKd y = 24) && decide (IntKind.i64.wrap ((exKs x).length + (exKs y).length : Int) ≤ 0) && decide (0 ≤ exSl x) && decide (exSl x < w) && decide ((w : Int) ≤ exSl y)
theorem slots_iff {w : Nat} {x y : Ex} : slotsS w x y = true ↔ exKd x = 24 ∧ exKd y = 24 ∧ IntKind.i64.wrap ((exKs x).length + (exKs y).length : Int) ≤ 0 ∧ 0 ≤ exSl x ∧ exSl x < w ∧ (w : Int) ≤ exSl y := by
 unfold slotsS
 simp only [Bool.and_eq_true, decide_eq_true_eq, and_assoc]
def idxP (a b : List (List Va)) (x y : Ex) : Option (Nat × Nat) :=
 let w := (a.headD []).length
 if slotsS w x y = true then
  let g := goodS w (exSl x).toNat a 0
  if g.1 = true ∧ (goodS (-1) (exSl y - w).toNat b g.2).1 = true then some ((exSl x).toNat, (exSl y - w).toNat) else none
 else none
def idxS (a b : List (List Va)) : Ex → Option (Nat × Nat)
 | .mk k _ _ _ _ _ _ [x, y] => if k = 10 ∧ a ≠ [] ∧ b ≠ [] then (if exSl x > exSl y then idxP a b y x else idxP a b x y) else none
 | _ => none
def keyS (c : Nat) (r : List Va) : ByteArray := showV (r.getD c va0)
def jSt (x : Ex) : St := [some (.row 8 [(exC x).map .p]), some (.row 1 [[intV .i64 0]]), some (.row 1 [[nilA]])]
def noneA : AV := .tup [.p (.v (.map none)), intV .i64 0, boolV false]
def IxPost (a b : List (List Va)) (x : Ex) (r : AV) (s : St) : Prop := match idxS a b x with
 | none => r = noneA ∧ s = jSt x
 | some (c, d) => r = .tup [.mmap 7, intV .i64 (c : Int), boolV true] ∧ s = jSt x ++ (none :: none :: none :: none :: some (.map (esG 8 (allG (keyS d) b))) :: rsG 36 (allG (keyS d) b))
theorem tokLtL_p (n : Nat) : ∀ l : List PV, tokLtL n (l.map AV.p) = true
 | [] => rfl
 | x :: l => by simp only [List.map_cons, tokLtL, tokLt, tokLtL_p n l, Bool.and_self]
theorem ix_none {a b : List (List Va)} {x : Ex} {fr : List AV} {l : St} (h : idxS a b x = none) (h6 : fr[6]? = some (.p (.v (.map none)))) (h7 : fr[7]? = some (intV .i64 0)) (h8 : fr[8]? = some (boolV false)) :
 retA cx [.tmp 6, .tmp 7, .tmp 8] (jSt x).length (IxPost a b x) .ret fr (jSt x ++ l) := by
 refine ⟨.inl rfl, noneA, noneA, jSt x, ?_, .inr ⟨?_, ?_⟩, Nat.le_refl _, ?_⟩
 ·simp [resA, resL, resV, h6, h7, h8, noneA]
 ·simp [wW, noneA]
 ·simp [jSt, wW, leS, tokLtL_p]
 ·simp only [IxPost, h, and_self]
theorem aindexed (a b : List (List Va)) (k vk vn : Int) (vs tb nm : ByteArray) (s : Int) (kids : List Ex) (ha : a.length ≤ 4398046511104) (hb : b.length ≤ 4398046511104)
 (hbr : ∀ r ∈ b, ∀ v ∈ r, i64R v.2.1) (hks : ∀ y ∈ kids, i64R (exSl y)) :
 ACalls Tryd.prog 24 [.p (.sl 1 (enVV a)), .p (.sl 1 (enVV b)), exA (.mk k vk vn vs tb nm s kids)] (jSt (.mk k vk vn vs tb nm s kids)) (IxPost a b (.mk k vk vn vs tb nm s kids)) := by
 generalize hx : Ex.mk k vk vn vs tb nm s kids = x at *
 have hN := @ix_none a b x
 have hP : ∀ r s, IxPost a b x r s = IxPost a b x r s := fun _ _ => rfl
 generalize hRd : IxPost a b x = R at *
 subst hx
 simp only [exA, exC, List.map_cons, List.map_nil]
 refine acalls_of cx_ok dr_ok Tryd.func24 (by kernel_rfl) rfl (nt := 133) (rs := [.tmp 6, .tmp 7, .tmp 8]) rfl rfl ?_
 simp only [jSt, exC, List.map_cons, List.map_nil]
 by_cases hk2 : kids.length = 2
 ·obtain ⟨x0, y0, rfl⟩ : ∃ x0 y0, kids = [x0, y0] := by
   rcases kids with _ | ⟨x0, _ | ⟨y0, _ | ⟨z0, kids⟩⟩⟩ <;> simp at hk2
   exact ⟨x0, y0, rfl⟩
  by_cases hc : k = 10 ∧ a ≠ [] ∧ b ≠ []
  ·obtain ⟨rfl, ha0, hb0⟩ := hc
   obtain ⟨ra, a', rfl⟩ : ∃ ra a', a = ra :: a' := by cases a with
    | nil => exact (ha0 rfl).elim
    | cons ra a' => exact ⟨ra, a', rfl⟩
   have hbl : ((b.length : Int) == 0) = false := by
    cases b with
    | nil => exact (hb0 rfl).elim
    | cons r b => simp; omega
   have hal : (((a'.length + 1 : Nat) : Int) == 0) = false := by simp; omega
   obtain ⟨k0, vk0, vn0, vs0, tb0, nm0, s0, ks0⟩ := x0
   obtain ⟨k1, vk1, vn1, vs1, tb1, nm1, s1, ks1⟩ := y0
   have hg0 : (enVV (ra :: a'))[0]? = some [.sl 3 (enV ra)] := enVV_get (ra :: a') 0 (by simp)
   by_cases hsw : s0 > s1
   ·have hsw' : decide (s0 > s1) = true := decide_eq_true hsw
    have hid : idxS (ra :: a') b (.mk 10 vk vn vs tb nm s [.mk k0 vk0 vn0 vs0 tb0 nm0 s0 ks0, .mk k1 vk1 vn1 vs1 tb1 nm1 s1 ks1]) = idxP (ra :: a') b (.mk k1 vk1 vn1 vs1 tb1 nm1 s1 ks1) (.mk k0 vk0 vn0 vs0 tb0 nm0 s0 ks0) := by
     simp only [idxS, exSl, hsw, if_false, if_true, hb0, ne_eq, not_false_eq_true, and_self, reduceCtorEq]
    rw [idxP] at hid
    simp only [List.headD_cons] at hid
    by_cases hS : slotsS ra.length (.mk k1 vk1 vn1 vs1 tb1 nm1 s1 ks1) (.mk k0 vk0 vn0 vs0 tb0 nm0 s0 ks0) = true
    ·simp only [hS, if_true] at hid
     obtain ⟨q1, q2, q3, q4, q5, q6⟩ := slots_iff.1 hS
     clear hS
     simp only [exKd, exKs, exSl] at q1 q2 q3 q4 q5 q6
     have hdr : i64R s0 := hks (.mk k0 vk0 vn0 vs0 tb0 nm0 s0 ks0) (by simp)
     subst q1 q2
     obtain ⟨c, rfl⟩ : ∃ c : Nat, s1 = (c : Int) := ⟨s1.toNat, by omega⟩
     obtain ⟨d, rfl⟩ : ∃ d : Nat, s0 = ((ra.length + d : Nat) : Int) := ⟨(s0 - ra.length).toNat, by omega⟩
     unfold i64R at hdr
     have hra : ra.length ≤ 9223372036854775807 := by omega
     have e1 : decide (IntKind.i64.wrap ((ks0.length : Int) + (ks1.length : Int)) > 0) = false := decide_eq_false (by first | exact Int.not_lt.2 q3 | (rw [Int.add_comm]; exact Int.not_lt.2 q3))
     have e1' : decide (IntKind.i64.wrap ((ks1.length : Int) + (ks0.length : Int)) > 0) = false := by rw [Int.add_comm]; exact e1
     have e2 : decide ((c : Int) < 0) = false := decide_eq_false (by omega)
     have e3 : decide ((c : Int) ≥ (ra.length : Int)) = false := decide_eq_false (by omega)
     have e4 : decide (((ra.length + d : Nat) : Int) < (ra.length : Int)) = false := decide_eq_false (by omega)
     have e5 : IntKind.i64.wrap (((ra.length + d : Nat) : Int) - (ra.length : Int)) = (d : Int) := by rw [wrap_i64 (by omega) (by omega)]; omega
     have e6 : (((ra.length + d : Nat) : Int) - (ra.length : Int)).toNat = d := by omega
     simp only [exSl, Int.toNat_natCast, e6] at hid
     have hG1 := agood (ra :: a') c (ra.length : Int) (by omega) 0
     generalize hg : goodS (ra.length : Int) c (ra :: a') 0 = g at *
     obtain ⟨g1, g2⟩ := g
     have hG2 := agood b d (-1) (by omega) g2
     generalize hg' : goodS (-1) d b g2 = g' at *
     obtain ⟨h1, h2⟩ := g'
     simp only [intV] at hG1 hG2
     simp only at hid
     cases g1
     ·have hi := hid
      simp only [Bool.false_eq_true, false_and, if_false] at hi
      repeat' first | ((with_reducible first | refine cs ?_ ?_ | refine ws ?_ ?_ | refine wd ?_ ?_ | refine wu ?_ ?_) <;> intro h <;> try simp only [h]) | simp only [↓wBA, tIx, convA, seval, pl24_3Ix, pl24_20Ix, enVV_len, enV_len, exL_len, exL, exC, hbl, hal, hsw', hg0, List.length_cons, e1, e1', e2, e3, e4, e5, ev_nilmap] | ((with_reducible show ACalls _ _ _ _ _); refine (hG1 _ 6 rfl).mono ?_; rintro _ _ ⟨_, ⟨rfl, rfl⟩, rfl⟩; simp only [lsO]) | (with_reducible refine dP pl24_3Ix 12 (some 37) (by decide) (by kernel_rfl) ?_) | (with_reducible refine dP pl24_20Ix 6 (some 133) (by decide) (by kernel_rfl) ?_) | with_reducible refine And.intro ?_ ?_
      all_goals exact hN hi rfl rfl rfl
     ·cases h1
      ·have hi := hid
       simp only [Bool.false_eq_true, and_false, if_false] at hi
       repeat' first | ((with_reducible first | refine cs ?_ ?_ | refine ws ?_ ?_ | refine wd ?_ ?_ | refine wu ?_ ?_) <;> intro h <;> try simp only [h]) | simp only [↓wBA, tIx, convA, seval, pl24_3Ix, pl24_20Ix, enVV_len, enV_len, exL_len, exL, exC, hbl, hal, hsw', hg0, List.length_cons, e1, e1', e2, e3, e4, e5, ev_nilmap] | ((with_reducible show ACalls _ _ _ _ _); first | (refine (hG1 _ 6 rfl).mono ?_; rintro _ _ ⟨_, ⟨rfl, rfl⟩, rfl⟩; simp only [lsO]) | (refine (hG2 _ 6 rfl).mono ?_; rintro _ _ ⟨_, ⟨rfl, rfl⟩, rfl⟩; simp only [lsO])) | (with_reducible refine dP pl24_3Ix 12 (some 37) (by decide) (by kernel_rfl) ?_) | (with_reducible refine dP pl24_20Ix 6 (some 133) (by decide) (by kernel_rfl) ?_) | with_reducible refine And.intro ?_ ?_
       all_goals exact hN hi rfl rfl rfl
      ·have hi := hid
       simp only [and_self, if_true] at hi
       have hi2 := hi
       have hall0 := goodS_all (-1) d b g2 (by rw [hg'])
       clear hN hid
       repeat' first | ((with_reducible first | refine cs ?_ ?_ | refine ws ?_ ?_ | refine wd ?_ ?_ | refine wu ?_ ?_) <;> intro h <;> try simp only [h]) | simp only [↓wBA, tIx, convA, seval, pl24_3Ix, pl24_20Ix, enVV_len, enV_len, exL_len, exL, exC, hbl, hal, hsw', hg0, List.length_cons, e1, e1', e2, e3, e4, e5, ev_nilmap] | ((with_reducible show ACalls _ _ _ _ _); first | (refine (hG1 _ 6 rfl).mono ?_; rintro _ _ ⟨_, ⟨rfl, rfl⟩, rfl⟩; simp only [lsO]) | (refine (hG2 _ 6 rfl).mono ?_; rintro _ _ ⟨_, ⟨rfl, rfl⟩, rfl⟩; simp only [lsO])) | (with_reducible refine dP pl24_3Ix 12 (some 37) (by decide) (by kernel_rfl) ?_) | (with_reducible refine dP pl24_20Ix 6 (some 133) (by decide) (by kernel_rfl) ?_) | with_reducible refine And.intro ?_ ?_
       ·skip
        refine awp_loopT (b.length) (fun i => [(112, intV .i64 (i : Nat)), (16, .any), (17, .any), (113, .any), (114, .any), (115, .any), (116, .any), (117, .any), (118, .any), (119, .any), (120, .any), (121, .any), (122, .any), (123, .any), (124, .any), (125, .any), (126, .any), (127, .any), (128, .any), (129, .any), (130, .any), (131, .any), (132, .any)]) (fun i => some (.row 8 [(exC (.mk 10 vk vn vs tb nm s [.mk 24 vk0 vn0 vs0 tb0 nm0 ((ra.length + d : Nat) : Int) ks0, .mk 24 vk1 vn1 vs1 tb1 nm1 (c : Int) ks1])).map .p]) :: some (.row 1 [[intV .i64 0]]) :: some (.row 1 [[nilA]]) :: none :: some (.row 8 [(exC (.mk 24 vk1 vn1 vs1 tb1 nm1 (c : Int) ks1)).map .p]) :: some (.row 8 [(exC (.mk 24 vk0 vn0 vs0 tb0 nm0 ((ra.length + d : Nat) : Int) ks0)).map .p]) :: none :: some (.map (esG 8 (allG (keyS d) (b.take i)))) :: rsG 36 (allG (keyS d) (b.take i))) ?_ ?_ ?_
        ·intro i; simp
        ·skip
         simp only [wR, Nat.reduceAdd, Nat.reduceLT, reduceIte]
         simp only [List.take_zero, allG, List.foldl_nil, esG, rsG]
         simp [wW, exC, exL]
        ·intro i hi
         simp only [wR, Nat.reduceAdd, Nat.reduceLT, reduceIte]
         by_cases hlt : i < b.length
         ·have hdec := dT (i := i) (n := b.length) (by omega)
          have hi0 := nnI i
          have hd0 := nnI d
          have hw := wI i (by omega)
          have hg := enVV_get b i hlt
          have hmem : b[i] ∈ b := List.getElem_mem hlt
          have hstep := allG_step (keyS d) b i hlt
          have hall := hall0 b[i] hmem
          have hrv := hbr b[i] hmem
          have hlen := (allG_len (keyS d) b i)
          generalize hr : b[i] = r at *
          have hrg : (enV r)[d]? = some (vaC (r.getD d va0)) := by rw [enV_get r d hall.1]; simp [List.getD, hall.1]
          have hvm : r.getD d va0 ∈ r := by simp [List.getD, hall.1]
          have hkey := akey (r.getD d va0) (hrv _ hvm)
          simp only [keyS] at hstep
          generalize r.getD d va0 = v at *
          obtain ⟨v1, v2, v3⟩ := v
          simp only [vaA, vaC, List.map_cons, List.map_nil] at hkey hrg
          generalize showV (v1, v2, v3) = k at *
          generalize allG (keyS d) (b.take i) = gs at *
          have hlk := lookG k gs 8
          have hup := fun x => updG k gs 8 x
          have hrl := rsG_len 36 gs
          have hm1 := lM (n := 1) (by omega)
          have hTk : ∀ o : Option Ob, (rsG 36 gs ++ [o]).length + 1 + 1 + 1 + 1 + 1 + 1 + 1 + 1 = 2 * gs.length + 1 + 8 := fun o => by rw [List.length_append, rsG_len]; simp
          cases hf : findG k gs with
          | none =>
            rw [hf] at hlk hup
            simp only [nilA] at hlk hup
            repeat' first | ((with_reducible first | refine cs ?_ ?_ | refine ws ?_ ?_ | refine wd ?_ ?_ | refine wu ?_ ?_) <;> intro h <;> try simp only [h]) | simp only [↓wBA, tIx, convA, seval, pl24_3Ix, pl24_20Ix, enVV_len, enV_len, hdec, hi0, hd0, hw, hg, hrg, exC, exL, e5, hlk, hup, ev_nilmap, appendA, srcA, hm1, hTk] | ((with_reducible show ACalls _ _ _ _ _); refine (hkey _).eq ?_) | (with_reducible refine dP pl24_3Ix 12 (some 37) (by decide) (by kernel_rfl) ?_) | (with_reducible refine dP pl24_20Ix 6 (some 133) (by decide) (by kernel_rfl) ?_) | with_reducible refine And.intro ?_ ?_
            refine ⟨⟨i + 1, by omega⟩, by show b.length - (i + 1) < b.length - i; omega, ?_⟩
            obtain ⟨a1, a2⟩ := addG_new 36 k r gs 8 hf
            simp only [hstep, a1, a2]
            refine weak_of (2 * gs.length + 10) (by first | (simp [rsG_len]; done) | (simp [rsG_len]; omega)) ?_ ?_
            ·simp [wW]
            ·have t1 := esG_tok gs 8 (2 * gs.length + 10) (by omega)
             simp [wW, leS, tokLtL_p, exC, exL, enVV, enV, t1]
             exact leS_rs _ (by simp [leS, leO]) gs
          | some y =>
            obtain ⟨j, l⟩ := y
            rw [hf] at hlk hup
            have hfm := findG_mem k gs j l hf
            have hll : l.length ≤ i := by obtain ⟨_, x, hx1, hx2⟩ := hfm; rw [← hx2]; exact hlen.2 x hx1
            have hrr : ∀ o : Option Ob, (rsG 36 gs ++ [o])[2 * j + 1]? = some (some (.right 36 (l.length * 1))) := fun o => by
             rw [List.getElem?_append_left (by rw [rsG_len]; omega)]; exact findG_right _ k gs j l hf
            have hrs : ∀ (o x : Option Ob), (rsG 36 gs ++ [o]).set (2 * j + 1) x = (rsG 36 gs).set (2 * j + 1) x ++ [o] := fun o x => by
             rw [List.set_append_left _ _ (by rw [rsG_len]; omega)]
            have l1 := tL (n := (l.length + 1) * 24) (by omega)
            have l2 := lM (n := l.length + 1) (by omega)
            simp only at hlk hup
            repeat' first | ((with_reducible first | refine cs ?_ ?_ | refine ws ?_ ?_ | refine wd ?_ ?_ | refine wu ?_ ?_) <;> intro h <;> try simp only [h]) | simp only [↓wBA, tIx, convA, seval, pl24_3Ix, pl24_20Ix, enVV_len, enV_len, hdec, hi0, hd0, hw, hg, hrg, exC, exL, e5, hlk, hup, ev_nilmap, appendA, srcA, ↓get8, ↓set8, hrr, hrs, l1, l2, List.length_append] | ((with_reducible show ACalls _ _ _ _ _); refine (hkey _).eq ?_) | (with_reducible refine dP pl24_3Ix 12 (some 37) (by decide) (by kernel_rfl) ?_) | (with_reducible refine dP pl24_20Ix 6 (some 133) (by decide) (by kernel_rfl) ?_) | with_reducible refine And.intro ?_ ?_
            refine ⟨⟨i + 1, by omega⟩, by show b.length - (i + 1) < b.length - i; omega, ?_⟩
            obtain ⟨a1, a2⟩ := addG_old 36 k r gs 8 j l hf
            have hal' : (addG k r gs).length = gs.length := by
             have := congrArg List.length a1
             simpa [esG_len] using this
            have t1 := esG_tok (addG k r gs) 8 (2 * gs.length + 8) (by omega)
            have he : enVV (l ++ [r]) = enVV l ++ [[.sl 3 (enV r)]] := by rw [enVV_app]; rfl
            rw [List.length_append, List.length_singleton] at a2
            rw [he] at a1
            rw [a1] at t1
            simp only [hstep, a1, ← a2]
            refine weak_of (2 * gs.length + 8) (by first | (simp [rsG_len, hal']; done) | (simp [rsG_len, hal']; omega)) ?_ ?_
            ·simp [wW]
            ·simp [wW, leS, tokLtL_p, exC, exL, t1]
             exact leS_rs1 _ _ _
         ·have hdec := dF (i := i) (n := b.length) (by omega)
          have htk : b.take i = b := List.take_of_length_le (by omega)
          simp only [htk]
          have hxi : IxPost (ra :: a') b (.mk 10 vk vn vs tb nm s [.mk 24 vk0 vn0 vs0 tb0 nm0 ((ra.length + d : Nat) : Int) ks0, .mk 24 vk1 vn1 vs1 tb1 nm1 (c : Int) ks1]) (.tup [.mmap 7, intV .i64 (c : Int), boolV true]) (jSt (.mk 10 vk vn vs tb nm s [.mk 24 vk0 vn0 vs0 tb0 nm0 ((ra.length + d : Nat) : Int) ks0, .mk 24 vk1 vn1 vs1 tb1 nm1 (c : Int) ks1]) ++ (none :: none :: none :: none :: some (.map (esG 8 (allG (keyS d) b))) :: rsG 36 (allG (keyS d) b))) := by
           simp only [IxPost, hi2, and_self]
          rw [hRd] at hxi
          repeat' first | ((with_reducible first | refine cs ?_ ?_ | refine ws ?_ ?_ | refine wd ?_ ?_ | refine wu ?_ ?_) <;> intro h <;> try simp only [h]) | simp only [↓wBA, tIx, convA, seval, pl24_3Ix, pl24_20Ix, enVV_len, hdec, exC, exL, ev_nilmap] | (with_reducible refine dP pl24_3Ix 12 (some 37) (by decide) (by kernel_rfl) ?_) | (with_reducible refine dP pl24_20Ix 6 (some 133) (by decide) (by kernel_rfl) ?_) | with_reducible refine And.intro ?_ ?_
          refine ⟨.inl rfl, _, _, _, rfl, weak_of (2 * (allG (keyS d) b).length + 8) (by first | (simp [rsG_len, jSt]; done) | (simp [rsG_len, jSt]; omega)) ?_ ?_, ?_, hxi⟩
          ·simp [wW, jSt]
          ·have t1 := esG_tok (allG (keyS d) b) 8 (2 * (allG (keyS d) b).length + 8) (by omega)
           simp [wW, jSt, leS, tokLtL_p, exC, exL, t1]
           exact leS_rs0 _ _
          ·simp [jSt]
       ·skip
        refine awp_loopT (b.length) (fun i => [(112, intV .i64 (i : Nat)), (16, .any), (17, .any), (113, .any), (114, .any), (115, .any), (116, .any), (117, .any), (118, .any), (119, .any), (120, .any), (121, .any), (122, .any), (123, .any), (124, .any), (125, .any), (126, .any), (127, .any), (128, .any), (129, .any), (130, .any), (131, .any), (132, .any)]) (fun i => some (.row 8 [(exC (.mk 10 vk vn vs tb nm s [.mk 24 vk0 vn0 vs0 tb0 nm0 ((ra.length + d : Nat) : Int) ks0, .mk 24 vk1 vn1 vs1 tb1 nm1 (c : Int) ks1])).map .p]) :: some (.row 1 [[intV .i64 0]]) :: some (.row 1 [[nilA]]) :: none :: some (.row 8 [(exC (.mk 24 vk0 vn0 vs0 tb0 nm0 ((ra.length + d : Nat) : Int) ks0)).map .p]) :: some (.row 8 [(exC (.mk 24 vk1 vn1 vs1 tb1 nm1 (c : Int) ks1)).map .p]) :: none :: some (.map (esG 8 (allG (keyS d) (b.take i)))) :: rsG 36 (allG (keyS d) (b.take i))) ?_ ?_ ?_
        ·intro i; simp
        ·skip
         simp only [wR, Nat.reduceAdd, Nat.reduceLT, reduceIte]
         simp only [List.take_zero, allG, List.foldl_nil, esG, rsG]
         simp [wW, exC, exL]
        ·intro i hi
         simp only [wR, Nat.reduceAdd, Nat.reduceLT, reduceIte]
         by_cases hlt : i < b.length
         ·have hdec := dT (i := i) (n := b.length) (by omega)
          have hi0 := nnI i
          have hd0 := nnI d
          have hw := wI i (by omega)
          have hg := enVV_get b i hlt
          have hmem : b[i] ∈ b := List.getElem_mem hlt
          have hstep := allG_step (keyS d) b i hlt
          have hall := hall0 b[i] hmem
          have hrv := hbr b[i] hmem
          have hlen := (allG_len (keyS d) b i)
          generalize hr : b[i] = r at *
          have hrg : (enV r)[d]? = some (vaC (r.getD d va0)) := by rw [enV_get r d hall.1]; simp [List.getD, hall.1]
          have hvm : r.getD d va0 ∈ r := by simp [List.getD, hall.1]
          have hkey := akey (r.getD d va0) (hrv _ hvm)
          simp only [keyS] at hstep
          generalize r.getD d va0 = v at *
          obtain ⟨v1, v2, v3⟩ := v
          simp only [vaA, vaC, List.map_cons, List.map_nil] at hkey hrg
          generalize showV (v1, v2, v3) = k at *
          generalize allG (keyS d) (b.take i) = gs at *
          have hlk := lookG k gs 8
          have hup := fun x => updG k gs 8 x
          have hrl := rsG_len 36 gs
          have hm1 := lM (n := 1) (by omega)
          have hTk : ∀ o : Option Ob, (rsG 36 gs ++ [o]).length + 1 + 1 + 1 + 1 + 1 + 1 + 1 + 1 = 2 * gs.length + 1 + 8 := fun o => by rw [List.length_append, rsG_len]; simp
          cases hf : findG k gs with
          | none =>
            rw [hf] at hlk hup
            simp only [nilA] at hlk hup
            repeat' first | ((with_reducible first | refine cs ?_ ?_ | refine ws ?_ ?_ | refine wd ?_ ?_ | refine wu ?_ ?_) <;> intro h <;> try simp only [h]) | simp only [↓wBA, tIx, convA, seval, pl24_3Ix, pl24_20Ix, enVV_len, enV_len, hdec, hi0, hd0, hw, hg, hrg, exC, exL, e5, hlk, hup, ev_nilmap, appendA, srcA, hm1, hTk] | ((with_reducible show ACalls _ _ _ _ _); refine (hkey _).eq ?_) | (with_reducible refine dP pl24_3Ix 12 (some 37) (by decide) (by kernel_rfl) ?_) | (with_reducible refine dP pl24_20Ix 6 (some 133) (by decide) (by kernel_rfl) ?_) | with_reducible refine And.intro ?_ ?_
            refine ⟨⟨i + 1, by omega⟩, by show b.length - (i + 1) < b.length - i; omega, ?_⟩
            obtain ⟨a1, a2⟩ := addG_new 36 k r gs 8 hf
            simp only [hstep, a1, a2]
            refine weak_of (2 * gs.length + 10) (by first | (simp [rsG_len]; done) | (simp [rsG_len]; omega)) ?_ ?_
            ·simp [wW]
            ·have t1 := esG_tok gs 8 (2 * gs.length + 10) (by omega)
             simp [wW, leS, tokLtL_p, exC, exL, enVV, enV, t1]
             exact leS_rs _ (by simp [leS, leO]) gs
          | some y =>
            obtain ⟨j, l⟩ := y
            rw [hf] at hlk hup
            have hfm := findG_mem k gs j l hf
            have hll : l.length ≤ i := by obtain ⟨_, x, hx1, hx2⟩ := hfm; rw [← hx2]; exact hlen.2 x hx1
            have hrr : ∀ o : Option Ob, (rsG 36 gs ++ [o])[2 * j + 1]? = some (some (.right 36 (l.length * 1))) := fun o => by
             rw [List.getElem?_append_left (by rw [rsG_len]; omega)]; exact findG_right _ k gs j l hf
            have hrs : ∀ (o x : Option Ob), (rsG 36 gs ++ [o]).set (2 * j + 1) x = (rsG 36 gs).set (2 * j + 1) x ++ [o] := fun o x => by
             rw [List.set_append_left _ _ (by rw [rsG_len]; omega)]
            have l1 := tL (n := (l.length + 1) * 24) (by omega)
            have l2 := lM (n := l.length + 1) (by omega)
            simp only at hlk hup
            repeat' first | ((with_reducible first | refine cs ?_ ?_ | refine ws ?_ ?_ | refine wd ?_ ?_ | refine wu ?_ ?_) <;> intro h <;> try simp only [h]) | simp only [↓wBA, tIx, convA, seval, pl24_3Ix, pl24_20Ix, enVV_len, enV_len, hdec, hi0, hd0, hw, hg, hrg, exC, exL, e5, hlk, hup, ev_nilmap, appendA, srcA, ↓get8, ↓set8, hrr, hrs, l1, l2, List.length_append] | ((with_reducible show ACalls _ _ _ _ _); refine (hkey _).eq ?_) | (with_reducible refine dP pl24_3Ix 12 (some 37) (by decide) (by kernel_rfl) ?_) | (with_reducible refine dP pl24_20Ix 6 (some 133) (by decide) (by kernel_rfl) ?_) | with_reducible refine And.intro ?_ ?_
            refine ⟨⟨i + 1, by omega⟩, by show b.length - (i + 1) < b.length - i; omega, ?_⟩
            obtain ⟨a1, a2⟩ := addG_old 36 k r gs 8 j l hf
            have hal' : (addG k r gs).length = gs.length := by
             have := congrArg List.length a1
             simpa [esG_len] using this
            have t1 := esG_tok (addG k r gs) 8 (2 * gs.length + 8) (by omega)
            have he : enVV (l ++ [r]) = enVV l ++ [[.sl 3 (enV r)]] := by rw [enVV_app]; rfl
            rw [List.length_append, List.length_singleton] at a2
            rw [he] at a1
            rw [a1] at t1
            simp only [hstep, a1, ← a2]
            refine weak_of (2 * gs.length + 8) (by first | (simp [rsG_len, hal']; done) | (simp [rsG_len, hal']; omega)) ?_ ?_
            ·simp [wW]
            ·simp [wW, leS, tokLtL_p, exC, exL, t1]
             exact leS_rs1 _ _ _
         ·have hdec := dF (i := i) (n := b.length) (by omega)
          have htk : b.take i = b := List.take_of_length_le (by omega)
          simp only [htk]
          have hxi : IxPost (ra :: a') b (.mk 10 vk vn vs tb nm s [.mk 24 vk0 vn0 vs0 tb0 nm0 ((ra.length + d : Nat) : Int) ks0, .mk 24 vk1 vn1 vs1 tb1 nm1 (c : Int) ks1]) (.tup [.mmap 7, intV .i64 (c : Int), boolV true]) (jSt (.mk 10 vk vn vs tb nm s [.mk 24 vk0 vn0 vs0 tb0 nm0 ((ra.length + d : Nat) : Int) ks0, .mk 24 vk1 vn1 vs1 tb1 nm1 (c : Int) ks1]) ++ (none :: none :: none :: none :: some (.map (esG 8 (allG (keyS d) b))) :: rsG 36 (allG (keyS d) b))) := by
           simp only [IxPost, hi2, and_self]
          rw [hRd] at hxi
          repeat' first | ((with_reducible first | refine cs ?_ ?_ | refine ws ?_ ?_ | refine wd ?_ ?_ | refine wu ?_ ?_) <;> intro h <;> try simp only [h]) | simp only [↓wBA, tIx, convA, seval, pl24_3Ix, pl24_20Ix, enVV_len, hdec, exC, exL, ev_nilmap] | (with_reducible refine dP pl24_3Ix 12 (some 37) (by decide) (by kernel_rfl) ?_) | (with_reducible refine dP pl24_20Ix 6 (some 133) (by decide) (by kernel_rfl) ?_) | with_reducible refine And.intro ?_ ?_
          refine ⟨.inl rfl, _, _, _, rfl, weak_of (2 * (allG (keyS d) b).length + 8) (by first | (simp [rsG_len, jSt]; done) | (simp [rsG_len, jSt]; omega)) ?_ ?_, ?_, hxi⟩
          ·simp [wW, jSt]
          ·have t1 := esG_tok (allG (keyS d) b) 8 (2 * (allG (keyS d) b).length + 8) (by omega)
           simp [wW, jSt, leS, tokLtL_p, exC, exL, t1]
           exact leS_rs0 _ _
          ·simp [jSt]
    ·have hi := hid
     simp only [hS, if_false] at hi
     have hf : (k0 != 24) = false → (k1 != 24) = false → decide (IntKind.i64.wrap ((ks0.length : Int) + (ks1.length : Int)) > 0) = false → decide (IntKind.i64.wrap ((ks1.length : Int) + (ks0.length : Int)) > 0) = false → decide (s1 < 0) = false → decide (s1 ≥ (ra.length : Int)) = false → decide (s0 < (ra.length : Int)) = false → False := fun p1 p2 p3 p3' p4 p5 p6 => by
      simp only [bne_eq_false_iff_eq, decide_eq_false_iff_not] at p1 p2 p3 p3' p4 p5 p6
      exact hS (by refine slots_iff.2 ⟨?_, ?_, ?_, ?_, ?_, ?_⟩ <;> simp only [exKd, exKs, exSl] <;> first | assumption | exact Int.not_lt.1 p3 | exact Int.not_lt.1 p3' | omega)
     repeat' first | ((with_reducible first | refine cs ?_ ?_ | refine ws ?_ ?_ | refine wd ?_ ?_ | refine wu ?_ ?_) <;> intro h <;> try simp only [h]) | simp only [↓wBA, tIx, convA, seval, pl24_3Ix, pl24_20Ix, enVV_len, enV_len, exL_len, exL, exC, hbl, hal, hsw', hg0, List.length_cons, ev_nilmap] | (with_reducible refine dP pl24_3Ix 12 (some 37) (by decide) (by kernel_rfl) ?_) | (with_reducible refine dP pl24_20Ix 6 (some 133) (by decide) (by kernel_rfl) ?_) | with_reducible refine And.intro ?_ ?_
     all_goals first | (refine (hf ?_ ?_ ?_ ?_ ?_ ?_ ?_).elim <;> first | assumption | (rw [Int.add_comm]; assumption)) | exact hN hi rfl rfl rfl
   ·have hsw' : decide (s0 > s1) = false := decide_eq_false hsw
    have hid : idxS (ra :: a') b (.mk 10 vk vn vs tb nm s [.mk k0 vk0 vn0 vs0 tb0 nm0 s0 ks0, .mk k1 vk1 vn1 vs1 tb1 nm1 s1 ks1]) = idxP (ra :: a') b (.mk k0 vk0 vn0 vs0 tb0 nm0 s0 ks0) (.mk k1 vk1 vn1 vs1 tb1 nm1 s1 ks1) := by
     simp only [idxS, exSl, hsw, if_false, if_true, hb0, ne_eq, not_false_eq_true, and_self, reduceCtorEq]
    rw [idxP] at hid
    simp only [List.headD_cons] at hid
    by_cases hS : slotsS ra.length (.mk k0 vk0 vn0 vs0 tb0 nm0 s0 ks0) (.mk k1 vk1 vn1 vs1 tb1 nm1 s1 ks1) = true
    ·simp only [hS, if_true] at hid
     obtain ⟨q1, q2, q3, q4, q5, q6⟩ := slots_iff.1 hS
     clear hS
     simp only [exKd, exKs, exSl] at q1 q2 q3 q4 q5 q6
     have hdr : i64R s1 := hks (.mk k1 vk1 vn1 vs1 tb1 nm1 s1 ks1) (by simp)
     subst q1 q2
     obtain ⟨c, rfl⟩ : ∃ c : Nat, s0 = (c : Int) := ⟨s0.toNat, by omega⟩
     obtain ⟨d, rfl⟩ : ∃ d : Nat, s1 = ((ra.length + d : Nat) : Int) := ⟨(s1 - ra.length).toNat, by omega⟩
     unfold i64R at hdr
     have hra : ra.length ≤ 9223372036854775807 := by omega
     have e1 : decide (IntKind.i64.wrap ((ks0.length : Int) + (ks1.length : Int)) > 0) = false := decide_eq_false (by first | exact Int.not_lt.2 q3 | (rw [Int.add_comm]; exact Int.not_lt.2 q3))
     have e1' : decide (IntKind.i64.wrap ((ks1.length : Int) + (ks0.length : Int)) > 0) = false := by rw [Int.add_comm]; exact e1
     have e2 : decide ((c : Int) < 0) = false := decide_eq_false (by omega)
     have e3 : decide ((c : Int) ≥ (ra.length : Int)) = false := decide_eq_false (by omega)
     have e4 : decide (((ra.length + d : Nat) : Int) < (ra.length : Int)) = false := decide_eq_false (by omega)
     have e5 : IntKind.i64.wrap (((ra.length + d : Nat) : Int) - (ra.length : Int)) = (d : Int) := by rw [wrap_i64 (by omega) (by omega)]; omega
     have e6 : (((ra.length + d : Nat) : Int) - (ra.length : Int)).toNat = d := by omega
     simp only [exSl, Int.toNat_natCast, e6] at hid
     have hG1 := agood (ra :: a') c (ra.length : Int) (by omega) 0
     generalize hg : goodS (ra.length : Int) c (ra :: a') 0 = g at *
     obtain ⟨g1, g2⟩ := g
     have hG2 := agood b d (-1) (by omega) g2
     generalize hg' : goodS (-1) d b g2 = g' at *
     obtain ⟨h1, h2⟩ := g'
     simp only [intV] at hG1 hG2
     simp only at hid
     cases g1
     ·have hi := hid
      simp only [Bool.false_eq_true, false_and, if_false] at hi
      repeat' first | ((with_reducible first | refine cs ?_ ?_ | refine ws ?_ ?_ | refine wd ?_ ?_ | refine wu ?_ ?_) <;> intro h <;> try simp only [h]) | simp only [↓wBA, tIx, convA, seval, pl24_3Ix, pl24_20Ix, enVV_len, enV_len, exL_len, exL, exC, hbl, hal, hsw', hg0, List.length_cons, e1, e1', e2, e3, e4, e5, ev_nilmap] | ((with_reducible show ACalls _ _ _ _ _); refine (hG1 _ 6 rfl).mono ?_; rintro _ _ ⟨_, ⟨rfl, rfl⟩, rfl⟩; simp only [lsO]) | (with_reducible refine dP pl24_3Ix 12 (some 37) (by decide) (by kernel_rfl) ?_) | (with_reducible refine dP pl24_20Ix 6 (some 133) (by decide) (by kernel_rfl) ?_) | with_reducible refine And.intro ?_ ?_
      all_goals exact hN hi rfl rfl rfl
     ·cases h1
      ·have hi := hid
       simp only [Bool.false_eq_true, and_false, if_false] at hi
       repeat' first | ((with_reducible first | refine cs ?_ ?_ | refine ws ?_ ?_ | refine wd ?_ ?_ | refine wu ?_ ?_) <;> intro h <;> try simp only [h]) | simp only [↓wBA, tIx, convA, seval, pl24_3Ix, pl24_20Ix, enVV_len, enV_len, exL_len, exL, exC, hbl, hal, hsw', hg0, List.length_cons, e1, e1', e2, e3, e4, e5, ev_nilmap] | ((with_reducible show ACalls _ _ _ _ _); first | (refine (hG1 _ 6 rfl).mono ?_; rintro _ _ ⟨_, ⟨rfl, rfl⟩, rfl⟩; simp only [lsO]) | (refine (hG2 _ 6 rfl).mono ?_; rintro _ _ ⟨_, ⟨rfl, rfl⟩, rfl⟩; simp only [lsO])) | (with_reducible refine dP pl24_3Ix 12 (some 37) (by decide) (by kernel_rfl) ?_) | (with_reducible refine dP pl24_20Ix 6 (some 133) (by decide) (by kernel_rfl) ?_) | with_reducible refine And.intro ?_ ?_
       all_goals exact hN hi rfl rfl rfl
      ·have hi := hid
       simp only [and_self, if_true] at hi
       have hi2 := hi
       have hall0 := goodS_all (-1) d b g2 (by rw [hg'])
       clear hN hid
       repeat' first | ((with_reducible first | refine cs ?_ ?_ | refine ws ?_ ?_ | refine wd ?_ ?_ | refine wu ?_ ?_) <;> intro h <;> try simp only [h]) | simp only [↓wBA, tIx, convA, seval, pl24_3Ix, pl24_20Ix, enVV_len, enV_len, exL_len, exL, exC, hbl, hal, hsw', hg0, List.length_cons, e1, e1', e2, e3, e4, e5, ev_nilmap] | ((with_reducible show ACalls _ _ _ _ _); first | (refine (hG1 _ 6 rfl).mono ?_; rintro _ _ ⟨_, ⟨rfl, rfl⟩, rfl⟩; simp only [lsO]) | (refine (hG2 _ 6 rfl).mono ?_; rintro _ _ ⟨_, ⟨rfl, rfl⟩, rfl⟩; simp only [lsO])) | (with_reducible refine dP pl24_3Ix 12 (some 37) (by decide) (by kernel_rfl) ?_) | (with_reducible refine dP pl24_20Ix 6 (some 133) (by decide) (by kernel_rfl) ?_) | with_reducible refine And.intro ?_ ?_
       ·skip
        refine awp_loopT (b.length) (fun i => [(112, intV .i64 (i : Nat)), (16, .any), (17, .any), (113, .any), (114, .any), (115, .any), (116, .any), (117, .any), (118, .any), (119, .any), (120, .any), (121, .any), (122, .any), (123, .any), (124, .any), (125, .any), (126, .any), (127, .any), (128, .any), (129, .any), (130, .any), (131, .any), (132, .any)]) (fun i => some (.row 8 [(exC (.mk 10 vk vn vs tb nm s [.mk 24 vk0 vn0 vs0 tb0 nm0 (c : Int) ks0, .mk 24 vk1 vn1 vs1 tb1 nm1 ((ra.length + d : Nat) : Int) ks1])).map .p]) :: some (.row 1 [[intV .i64 0]]) :: some (.row 1 [[nilA]]) :: none :: some (.row 8 [(exC (.mk 24 vk0 vn0 vs0 tb0 nm0 (c : Int) ks0)).map .p]) :: some (.row 8 [(exC (.mk 24 vk1 vn1 vs1 tb1 nm1 ((ra.length + d : Nat) : Int) ks1)).map .p]) :: none :: some (.map (esG 8 (allG (keyS d) (b.take i)))) :: rsG 36 (allG (keyS d) (b.take i))) ?_ ?_ ?_
        ·intro i; simp
        ·skip
         simp only [wR, Nat.reduceAdd, Nat.reduceLT, reduceIte]
         simp only [List.take_zero, allG, List.foldl_nil, esG, rsG]
         simp [wW, exC, exL]
        ·intro i hi
         simp only [wR, Nat.reduceAdd, Nat.reduceLT, reduceIte]
         by_cases hlt : i < b.length
         ·have hdec := dT (i := i) (n := b.length) (by omega)
          have hi0 := nnI i
          have hd0 := nnI d
          have hw := wI i (by omega)
          have hg := enVV_get b i hlt
          have hmem : b[i] ∈ b := List.getElem_mem hlt
          have hstep := allG_step (keyS d) b i hlt
          have hall := hall0 b[i] hmem
          have hrv := hbr b[i] hmem
          have hlen := (allG_len (keyS d) b i)
          generalize hr : b[i] = r at *
          have hrg : (enV r)[d]? = some (vaC (r.getD d va0)) := by rw [enV_get r d hall.1]; simp [List.getD, hall.1]
          have hvm : r.getD d va0 ∈ r := by simp [List.getD, hall.1]
          have hkey := akey (r.getD d va0) (hrv _ hvm)
          simp only [keyS] at hstep
          generalize r.getD d va0 = v at *
          obtain ⟨v1, v2, v3⟩ := v
          simp only [vaA, vaC, List.map_cons, List.map_nil] at hkey hrg
          generalize showV (v1, v2, v3) = k at *
          generalize allG (keyS d) (b.take i) = gs at *
          have hlk := lookG k gs 8
          have hup := fun x => updG k gs 8 x
          have hrl := rsG_len 36 gs
          have hm1 := lM (n := 1) (by omega)
          have hTk : ∀ o : Option Ob, (rsG 36 gs ++ [o]).length + 1 + 1 + 1 + 1 + 1 + 1 + 1 + 1 = 2 * gs.length + 1 + 8 := fun o => by rw [List.length_append, rsG_len]; simp
          cases hf : findG k gs with
          | none =>
            rw [hf] at hlk hup
            simp only [nilA] at hlk hup
            repeat' first | ((with_reducible first | refine cs ?_ ?_ | refine ws ?_ ?_ | refine wd ?_ ?_ | refine wu ?_ ?_) <;> intro h <;> try simp only [h]) | simp only [↓wBA, tIx, convA, seval, pl24_3Ix, pl24_20Ix, enVV_len, enV_len, hdec, hi0, hd0, hw, hg, hrg, exC, exL, e5, hlk, hup, ev_nilmap, appendA, srcA, hm1, hTk] | ((with_reducible show ACalls _ _ _ _ _); refine (hkey _).eq ?_) | (with_reducible refine dP pl24_3Ix 12 (some 37) (by decide) (by kernel_rfl) ?_) | (with_reducible refine dP pl24_20Ix 6 (some 133) (by decide) (by kernel_rfl) ?_) | with_reducible refine And.intro ?_ ?_
            refine ⟨⟨i + 1, by omega⟩, by show b.length - (i + 1) < b.length - i; omega, ?_⟩
            obtain ⟨a1, a2⟩ := addG_new 36 k r gs 8 hf
            simp only [hstep, a1, a2]
            refine weak_of (2 * gs.length + 10) (by first | (simp [rsG_len]; done) | (simp [rsG_len]; omega)) ?_ ?_
            ·simp [wW]
            ·have t1 := esG_tok gs 8 (2 * gs.length + 10) (by omega)
             simp [wW, leS, tokLtL_p, exC, exL, enVV, enV, t1]
             exact leS_rs _ (by simp [leS, leO]) gs
          | some y =>
            obtain ⟨j, l⟩ := y
            rw [hf] at hlk hup
            have hfm := findG_mem k gs j l hf
            have hll : l.length ≤ i := by obtain ⟨_, x, hx1, hx2⟩ := hfm; rw [← hx2]; exact hlen.2 x hx1
            have hrr : ∀ o : Option Ob, (rsG 36 gs ++ [o])[2 * j + 1]? = some (some (.right 36 (l.length * 1))) := fun o => by
             rw [List.getElem?_append_left (by rw [rsG_len]; omega)]; exact findG_right _ k gs j l hf
            have hrs : ∀ (o x : Option Ob), (rsG 36 gs ++ [o]).set (2 * j + 1) x = (rsG 36 gs).set (2 * j + 1) x ++ [o] := fun o x => by
             rw [List.set_append_left _ _ (by rw [rsG_len]; omega)]
            have l1 := tL (n := (l.length + 1) * 24) (by omega)
            have l2 := lM (n := l.length + 1) (by omega)
            simp only at hlk hup
            repeat' first | ((with_reducible first | refine cs ?_ ?_ | refine ws ?_ ?_ | refine wd ?_ ?_ | refine wu ?_ ?_) <;> intro h <;> try simp only [h]) | simp only [↓wBA, tIx, convA, seval, pl24_3Ix, pl24_20Ix, enVV_len, enV_len, hdec, hi0, hd0, hw, hg, hrg, exC, exL, e5, hlk, hup, ev_nilmap, appendA, srcA, ↓get8, ↓set8, hrr, hrs, l1, l2, List.length_append] | ((with_reducible show ACalls _ _ _ _ _); refine (hkey _).eq ?_) | (with_reducible refine dP pl24_3Ix 12 (some 37) (by decide) (by kernel_rfl) ?_) | (with_reducible refine dP pl24_20Ix 6 (some 133) (by decide) (by kernel_rfl) ?_) | with_reducible refine And.intro ?_ ?_
            refine ⟨⟨i + 1, by omega⟩, by show b.length - (i + 1) < b.length - i; omega, ?_⟩
            obtain ⟨a1, a2⟩ := addG_old 36 k r gs 8 j l hf
            have hal' : (addG k r gs).length = gs.length := by
             have := congrArg List.length a1
             simpa [esG_len] using this
            have t1 := esG_tok (addG k r gs) 8 (2 * gs.length + 8) (by omega)
            have he : enVV (l ++ [r]) = enVV l ++ [[.sl 3 (enV r)]] := by rw [enVV_app]; rfl
            rw [List.length_append, List.length_singleton] at a2
            rw [he] at a1
            rw [a1] at t1
            simp only [hstep, a1, ← a2]
            refine weak_of (2 * gs.length + 8) (by first | (simp [rsG_len, hal']; done) | (simp [rsG_len, hal']; omega)) ?_ ?_
            ·simp [wW]
            ·simp [wW, leS, tokLtL_p, exC, exL, t1]
             exact leS_rs1 _ _ _
         ·have hdec := dF (i := i) (n := b.length) (by omega)
          have htk : b.take i = b := List.take_of_length_le (by omega)
          simp only [htk]
          have hxi : IxPost (ra :: a') b (.mk 10 vk vn vs tb nm s [.mk 24 vk0 vn0 vs0 tb0 nm0 (c : Int) ks0, .mk 24 vk1 vn1 vs1 tb1 nm1 ((ra.length + d : Nat) : Int) ks1]) (.tup [.mmap 7, intV .i64 (c : Int), boolV true]) (jSt (.mk 10 vk vn vs tb nm s [.mk 24 vk0 vn0 vs0 tb0 nm0 (c : Int) ks0, .mk 24 vk1 vn1 vs1 tb1 nm1 ((ra.length + d : Nat) : Int) ks1]) ++ (none :: none :: none :: none :: some (.map (esG 8 (allG (keyS d) b))) :: rsG 36 (allG (keyS d) b))) := by
           simp only [IxPost, hi2, and_self]
          rw [hRd] at hxi
          repeat' first | ((with_reducible first | refine cs ?_ ?_ | refine ws ?_ ?_ | refine wd ?_ ?_ | refine wu ?_ ?_) <;> intro h <;> try simp only [h]) | simp only [↓wBA, tIx, convA, seval, pl24_3Ix, pl24_20Ix, enVV_len, hdec, exC, exL, ev_nilmap] | (with_reducible refine dP pl24_3Ix 12 (some 37) (by decide) (by kernel_rfl) ?_) | (with_reducible refine dP pl24_20Ix 6 (some 133) (by decide) (by kernel_rfl) ?_) | with_reducible refine And.intro ?_ ?_
          refine ⟨.inl rfl, _, _, _, rfl, weak_of (2 * (allG (keyS d) b).length + 8) (by first | (simp [rsG_len, jSt]; done) | (simp [rsG_len, jSt]; omega)) ?_ ?_, ?_, hxi⟩
          ·simp [wW, jSt]
          ·have t1 := esG_tok (allG (keyS d) b) 8 (2 * (allG (keyS d) b).length + 8) (by omega)
           simp [wW, jSt, leS, tokLtL_p, exC, exL, t1]
           exact leS_rs0 _ _
          ·simp [jSt]
       ·skip
        refine awp_loopT (b.length) (fun i => [(112, intV .i64 (i : Nat)), (16, .any), (17, .any), (113, .any), (114, .any), (115, .any), (116, .any), (117, .any), (118, .any), (119, .any), (120, .any), (121, .any), (122, .any), (123, .any), (124, .any), (125, .any), (126, .any), (127, .any), (128, .any), (129, .any), (130, .any), (131, .any), (132, .any)]) (fun i => some (.row 8 [(exC (.mk 10 vk vn vs tb nm s [.mk 24 vk0 vn0 vs0 tb0 nm0 (c : Int) ks0, .mk 24 vk1 vn1 vs1 tb1 nm1 ((ra.length + d : Nat) : Int) ks1])).map .p]) :: some (.row 1 [[intV .i64 0]]) :: some (.row 1 [[nilA]]) :: none :: some (.row 8 [(exC (.mk 24 vk1 vn1 vs1 tb1 nm1 ((ra.length + d : Nat) : Int) ks1)).map .p]) :: some (.row 8 [(exC (.mk 24 vk0 vn0 vs0 tb0 nm0 (c : Int) ks0)).map .p]) :: none :: some (.map (esG 8 (allG (keyS d) (b.take i)))) :: rsG 36 (allG (keyS d) (b.take i))) ?_ ?_ ?_
        ·intro i; simp
        ·skip
         simp only [wR, Nat.reduceAdd, Nat.reduceLT, reduceIte]
         simp only [List.take_zero, allG, List.foldl_nil, esG, rsG]
         simp [wW, exC, exL]
        ·intro i hi
         simp only [wR, Nat.reduceAdd, Nat.reduceLT, reduceIte]
         by_cases hlt : i < b.length
         ·have hdec := dT (i := i) (n := b.length) (by omega)
          have hi0 := nnI i
          have hd0 := nnI d
          have hw := wI i (by omega)
          have hg := enVV_get b i hlt
          have hmem : b[i] ∈ b := List.getElem_mem hlt
          have hstep := allG_step (keyS d) b i hlt
          have hall := hall0 b[i] hmem
          have hrv := hbr b[i] hmem
          have hlen := (allG_len (keyS d) b i)
          generalize hr : b[i] = r at *
          have hrg : (enV r)[d]? = some (vaC (r.getD d va0)) := by rw [enV_get r d hall.1]; simp [List.getD, hall.1]
          have hvm : r.getD d va0 ∈ r := by simp [List.getD, hall.1]
          have hkey := akey (r.getD d va0) (hrv _ hvm)
          simp only [keyS] at hstep
          generalize r.getD d va0 = v at *
          obtain ⟨v1, v2, v3⟩ := v
          simp only [vaA, vaC, List.map_cons, List.map_nil] at hkey hrg
          generalize showV (v1, v2, v3) = k at *
          generalize allG (keyS d) (b.take i) = gs at *
          have hlk := lookG k gs 8
          have hup := fun x => updG k gs 8 x
          have hrl := rsG_len 36 gs
          have hm1 := lM (n := 1) (by omega)
          have hTk : ∀ o : Option Ob, (rsG 36 gs ++ [o]).length + 1 + 1 + 1 + 1 + 1 + 1 + 1 + 1 = 2 * gs.length + 1 + 8 := fun o => by rw [List.length_append, rsG_len]; simp
          cases hf : findG k gs with
          | none =>
            rw [hf] at hlk hup
            simp only [nilA] at hlk hup
            repeat' first | ((with_reducible first | refine cs ?_ ?_ | refine ws ?_ ?_ | refine wd ?_ ?_ | refine wu ?_ ?_) <;> intro h <;> try simp only [h]) | simp only [↓wBA, tIx, convA, seval, pl24_3Ix, pl24_20Ix, enVV_len, enV_len, hdec, hi0, hd0, hw, hg, hrg, exC, exL, e5, hlk, hup, ev_nilmap, appendA, srcA, hm1, hTk] | ((with_reducible show ACalls _ _ _ _ _); refine (hkey _).eq ?_) | (with_reducible refine dP pl24_3Ix 12 (some 37) (by decide) (by kernel_rfl) ?_) | (with_reducible refine dP pl24_20Ix 6 (some 133) (by decide) (by kernel_rfl) ?_) | with_reducible refine And.intro ?_ ?_
            refine ⟨⟨i + 1, by omega⟩, by show b.length - (i + 1) < b.length - i; omega, ?_⟩
            obtain ⟨a1, a2⟩ := addG_new 36 k r gs 8 hf
            simp only [hstep, a1, a2]
            refine weak_of (2 * gs.length + 10) (by first | (simp [rsG_len]; done) | (simp [rsG_len]; omega)) ?_ ?_
            ·simp [wW]
            ·have t1 := esG_tok gs 8 (2 * gs.length + 10) (by omega)
             simp [wW, leS, tokLtL_p, exC, exL, enVV, enV, t1]
             exact leS_rs _ (by simp [leS, leO]) gs
          | some y =>
            obtain ⟨j, l⟩ := y
            rw [hf] at hlk hup
            have hfm := findG_mem k gs j l hf
            have hll : l.length ≤ i := by obtain ⟨_, x, hx1, hx2⟩ := hfm; rw [← hx2]; exact hlen.2 x hx1
            have hrr : ∀ o : Option Ob, (rsG 36 gs ++ [o])[2 * j + 1]? = some (some (.right 36 (l.length * 1))) := fun o => by
             rw [List.getElem?_append_left (by rw [rsG_len]; omega)]; exact findG_right _ k gs j l hf
            have hrs : ∀ (o x : Option Ob), (rsG 36 gs ++ [o]).set (2 * j + 1) x = (rsG 36 gs).set (2 * j + 1) x ++ [o] := fun o x => by
             rw [List.set_append_left _ _ (by rw [rsG_len]; omega)]
            have l1 := tL (n := (l.length + 1) * 24) (by omega)
            have l2 := lM (n := l.length + 1) (by omega)
            simp only at hlk hup
            repeat' first | ((with_reducible first | refine cs ?_ ?_ | refine ws ?_ ?_ | refine wd ?_ ?_ | refine wu ?_ ?_) <;> intro h <;> try simp only [h]) | simp only [↓wBA, tIx, convA, seval, pl24_3Ix, pl24_20Ix, enVV_len, enV_len, hdec, hi0, hd0, hw, hg, hrg, exC, exL, e5, hlk, hup, ev_nilmap, appendA, srcA, ↓get8, ↓set8, hrr, hrs, l1, l2, List.length_append] | ((with_reducible show ACalls _ _ _ _ _); refine (hkey _).eq ?_) | (with_reducible refine dP pl24_3Ix 12 (some 37) (by decide) (by kernel_rfl) ?_) | (with_reducible refine dP pl24_20Ix 6 (some 133) (by decide) (by kernel_rfl) ?_) | with_reducible refine And.intro ?_ ?_
            refine ⟨⟨i + 1, by omega⟩, by show b.length - (i + 1) < b.length - i; omega, ?_⟩
            obtain ⟨a1, a2⟩ := addG_old 36 k r gs 8 j l hf
            have hal' : (addG k r gs).length = gs.length := by
             have := congrArg List.length a1
             simpa [esG_len] using this
            have t1 := esG_tok (addG k r gs) 8 (2 * gs.length + 8) (by omega)
            have he : enVV (l ++ [r]) = enVV l ++ [[.sl 3 (enV r)]] := by rw [enVV_app]; rfl
            rw [List.length_append, List.length_singleton] at a2
            rw [he] at a1
            rw [a1] at t1
            simp only [hstep, a1, ← a2]
            refine weak_of (2 * gs.length + 8) (by first | (simp [rsG_len, hal']; done) | (simp [rsG_len, hal']; omega)) ?_ ?_
            ·simp [wW]
            ·simp [wW, leS, tokLtL_p, exC, exL, t1]
             exact leS_rs1 _ _ _
         ·have hdec := dF (i := i) (n := b.length) (by omega)
          have htk : b.take i = b := List.take_of_length_le (by omega)
          simp only [htk]
          have hxi : IxPost (ra :: a') b (.mk 10 vk vn vs tb nm s [.mk 24 vk0 vn0 vs0 tb0 nm0 (c : Int) ks0, .mk 24 vk1 vn1 vs1 tb1 nm1 ((ra.length + d : Nat) : Int) ks1]) (.tup [.mmap 7, intV .i64 (c : Int), boolV true]) (jSt (.mk 10 vk vn vs tb nm s [.mk 24 vk0 vn0 vs0 tb0 nm0 (c : Int) ks0, .mk 24 vk1 vn1 vs1 tb1 nm1 ((ra.length + d : Nat) : Int) ks1]) ++ (none :: none :: none :: none :: some (.map (esG 8 (allG (keyS d) b))) :: rsG 36 (allG (keyS d) b))) := by
           simp only [IxPost, hi2, and_self]
          rw [hRd] at hxi
          repeat' first | ((with_reducible first | refine cs ?_ ?_ | refine ws ?_ ?_ | refine wd ?_ ?_ | refine wu ?_ ?_) <;> intro h <;> try simp only [h]) | simp only [↓wBA, tIx, convA, seval, pl24_3Ix, pl24_20Ix, enVV_len, hdec, exC, exL, ev_nilmap] | (with_reducible refine dP pl24_3Ix 12 (some 37) (by decide) (by kernel_rfl) ?_) | (with_reducible refine dP pl24_20Ix 6 (some 133) (by decide) (by kernel_rfl) ?_) | with_reducible refine And.intro ?_ ?_
          refine ⟨.inl rfl, _, _, _, rfl, weak_of (2 * (allG (keyS d) b).length + 8) (by first | (simp [rsG_len, jSt]; done) | (simp [rsG_len, jSt]; omega)) ?_ ?_, ?_, hxi⟩
          ·simp [wW, jSt]
          ·have t1 := esG_tok (allG (keyS d) b) 8 (2 * (allG (keyS d) b).length + 8) (by omega)
           simp [wW, jSt, leS, tokLtL_p, exC, exL, t1]
           exact leS_rs0 _ _
          ·simp [jSt]
    ·have hi := hid
     simp only [hS, if_false] at hi
     have hf : (k0 != 24) = false → (k1 != 24) = false → decide (IntKind.i64.wrap ((ks0.length : Int) + (ks1.length : Int)) > 0) = false → decide (IntKind.i64.wrap ((ks1.length : Int) + (ks0.length : Int)) > 0) = false → decide (s0 < 0) = false → decide (s0 ≥ (ra.length : Int)) = false → decide (s1 < (ra.length : Int)) = false → False := fun p1 p2 p3 p3' p4 p5 p6 => by
      simp only [bne_eq_false_iff_eq, decide_eq_false_iff_not] at p1 p2 p3 p3' p4 p5 p6
      exact hS (by refine slots_iff.2 ⟨?_, ?_, ?_, ?_, ?_, ?_⟩ <;> simp only [exKd, exKs, exSl] <;> first | assumption | exact Int.not_lt.1 p3 | exact Int.not_lt.1 p3' | omega)
     repeat' first | ((with_reducible first | refine cs ?_ ?_ | refine ws ?_ ?_ | refine wd ?_ ?_ | refine wu ?_ ?_) <;> intro h <;> try simp only [h]) | simp only [↓wBA, tIx, convA, seval, pl24_3Ix, pl24_20Ix, enVV_len, enV_len, exL_len, exL, exC, hbl, hal, hsw', hg0, List.length_cons, ev_nilmap] | (with_reducible refine dP pl24_3Ix 12 (some 37) (by decide) (by kernel_rfl) ?_) | (with_reducible refine dP pl24_20Ix 6 (some 133) (by decide) (by kernel_rfl) ?_) | with_reducible refine And.intro ?_ ?_
     all_goals first | (refine (hf ?_ ?_ ?_ ?_ ?_ ?_ ?_).elim <;> first | assumption | (rw [Int.add_comm]; assumption)) | exact hN hi rfl rfl rfl
  ·have hi : idxS a b (.mk k vk vn vs tb nm s [x0, y0]) = none := by simp only [idxS, if_neg hc]
   obtain ⟨k0, vk0, vn0, vs0, tb0, nm0, s0, ks0⟩ := x0
   obtain ⟨k1, vk1, vn1, vs1, tb1, nm1, s1, ks1⟩ := y0
   have hcs : ((k != 10) = true) ∨ ((k != 10) = false ∧ ((a.length : Int) == 0) = true) ∨ ((k != 10) = false ∧ ((a.length : Int) == 0) = false ∧ ((b.length : Int) == 0) = true) := by
    by_cases h1 : k = 10
    ·cases a with
     | nil => exact .inr (.inl ⟨by simp [h1], rfl⟩)
     | cons ra a' => cases b with
       | nil => exact .inr (.inr ⟨by simp [h1], by simp; omega, rfl⟩)
       | cons rb b' => exact (hc ⟨h1, by simp, by simp⟩).elim
    ·exact .inl (by simp [h1])
   rcases hcs with h1 | ⟨h1, h2⟩ | ⟨h1, h2, h3⟩
   ·skip
    repeat' first | ((with_reducible first | refine cs ?_ ?_ | refine ws ?_ ?_ | refine wd ?_ ?_ | refine wu ?_ ?_) <;> intro h <;> try simp only [h]) | simp only [↓wBA, tIx, convA, seval, pl24_3Ix, pl24_20Ix, enVV_len, exL_len, h1] | (with_reducible refine dP pl24_3Ix 12 (some 37) (by decide) (by kernel_rfl) ?_) | (with_reducible refine dP pl24_20Ix 6 (some 133) (by decide) (by kernel_rfl) ?_) | with_reducible refine And.intro ?_ ?_
    all_goals exact hN hi rfl rfl rfl
   ·skip
    repeat' first | ((with_reducible first | refine cs ?_ ?_ | refine ws ?_ ?_ | refine wd ?_ ?_ | refine wu ?_ ?_) <;> intro h <;> try simp only [h]) | simp only [↓wBA, tIx, convA, seval, pl24_3Ix, pl24_20Ix, enVV_len, exL_len, h1, h2] | (with_reducible refine dP pl24_3Ix 12 (some 37) (by decide) (by kernel_rfl) ?_) | (with_reducible refine dP pl24_20Ix 6 (some 133) (by decide) (by kernel_rfl) ?_) | with_reducible refine And.intro ?_ ?_
    all_goals exact hN hi rfl rfl rfl
   ·skip
    repeat' first | ((with_reducible first | refine cs ?_ ?_ | refine ws ?_ ?_ | refine wd ?_ ?_ | refine wu ?_ ?_) <;> intro h <;> try simp only [h]) | simp only [↓wBA, tIx, convA, seval, pl24_3Ix, pl24_20Ix, enVV_len, exL_len, h1, h2, h3] | (with_reducible refine dP pl24_3Ix 12 (some 37) (by decide) (by kernel_rfl) ?_) | (with_reducible refine dP pl24_20Ix 6 (some 133) (by decide) (by kernel_rfl) ?_) | with_reducible refine And.intro ?_ ?_
    all_goals exact hN hi rfl rfl rfl
 ·have hi : idxS a b (.mk k vk vn vs tb nm s kids) = none := by
   rcases kids with _ | ⟨x0, _ | ⟨y0, _ | ⟨z0, kids⟩⟩⟩
   ·rfl
   ·rfl
   ·exact (hk2 rfl).elim
   ·rfl
  have hd : ((kids.length : Int) != 2) = true := by simp; omega
  repeat' first | ((with_reducible first | refine cs ?_ ?_ | refine ws ?_ ?_ | refine wd ?_ ?_ | refine wu ?_ ?_) <;> intro h <;> try simp only [h]) | simp only [↓wBA, tIx, convA, seval, pl24_3Ix, pl24_20Ix, enVV_len, exL_len, hd] | (with_reducible refine dP pl24_3Ix 12 (some 37) (by decide) (by kernel_rfl) ?_) | (with_reducible refine dP pl24_20Ix 6 (some 133) (by decide) (by kernel_rfl) ?_) | with_reducible refine And.intro ?_ ?_
  all_goals exact hN hi rfl rfl rfl
end Go.Proofs.YtpcblbbddccgpaaDoor
