/- What expressions come to: Eval, Holds. Rows cloned. -/
import Derived.Test.YtpcblbbddccgpaaDoorM22
import Derived.Test.YtpcblbbddccgpaaDoorM20
import Derived.Test.YtpcblbbddccgpaaDoorM21
set_option linter.unusedSimpArgs false
set_option linter.unusedVariables false
set_option linter.defProp false
set_option maxRecDepth 100000
set_option maxHeartbeats 32000000
namespace Go.Proofs.YtpcblbbddccgpaaDoor
open Go.RowKit
def pl36_1Ff : Plan := (.det 0 (.det 1 (.det 2 (.det 3 (.det 4 (.act 5 (.det 6 .done)))))))
def pl36_3Ff : Plan := (.det 0 (.det 1 (.det 2 (.det 3 (.det 4 (.det 5 (.det 7 (.det 8 (.det 9 (.det 12 (.act 6 (.det 10 (.det 11 (.fin 13 (.fin 14 .done)))))))))))))))
def pl28_4Ff : Plan := (.det 0 (.det 1 (.det 2 (.det 3 (.det 4 (.act 5 (.det 6 .done)))))))
def tFf := aa wX <| aa wbu <| aa T2 <| aa T3 <| aa T24 <| aa T25 <| aa T27 <| aa T31 <| aa T36 <| aa T69 <| aa T71 <| aa T72 T80
theorem nc0 : ((0 : Nat) : Int) = 0 := nr rfl
theorem nc1 : ((1 : Nat) : Int) = 1 := nr rfl
theorem nc2 : ((2 : Nat) : Int) = 2 := nr rfl
theorem nc3 : ((3 : Nat) : Int) = 3 := nr rfl
theorem kidsV_le (k : Int) : kidsV k ≤ 2 := by unfold kidsV; split <;> (try split) <;> (try split) <;> omega
theorem find_nil (row : List Va) (k vk vn : Int) (vs tb nm : ByteArray) (s : Int) : FindOK row (.mk k vk vn vs tb nm s []) := by
 intro e
 refine OCalls.of (fdP row) (fun t => rfl) rfl ?_
 refine acalls_of cx_ok dr_ok Tryd.func36 (by kernel_rfl) rfl (nt := 26) (rs := [.cell 4 24]) rfl rfl ?_
 simp only [fdO, exA, exC, exL, List.map_cons, List.map_nil]
 have hf := afail row 1 e
 by_cases hk : kidsV k = 0
 ·have d : ((0 : Int) != kidsV k) = false := by simp [hk]
  repeat' first | ((with_reducible first | refine cs ?_ ?_ | refine ws ?_ ?_ | refine wd ?_ ?_ | refine wu ?_ ?_) <;> intro h <;> try simp only [h]) | simp only [↓wBA, tFf, convA, seval, pl36_1Ff, pl36_3Ff, exL, List.length_cons, List.length_nil, d, nc0, nc1, nc2, nc3] | ((with_reducible show ACalls _ _ _ _ _); first | (refine (afail row _ _ _ 0 rfl).mono ?_; rintro _ _ ⟨_, ⟨rfl, rfl⟩, rfl⟩; simp only [fdO, vaA, vaC, List.map_cons, List.map_nil]) | refine (akidsV _ _).eq ?_ | (refine (aleafV row k vk vn vs tb nm s [] _ _ 0 rfl).mono ?_; rintro _ _ ⟨_, ⟨rfl, rfl⟩, rfl⟩; simp only [fdO, vaA, vaC, List.map_cons, List.map_nil])) | (with_reducible refine dP pl36_1Ff 7 (some 5) (by decide) (by kernel_rfl) ?_) | (with_reducible refine dP pl36_3Ff 15 (some 14) (by decide) (by kernel_rfl) ?_)
  all_goals refine ret_obI (a := _) (b := _) (fdP _ _) ?_ rfl rfl
  all_goals simp only [↓wBA, tFf, convA, seval]
  all_goals simp_all [wS, fdO, vaA, vaC, findV, failV, va0, emp]
 ·have d : ((0 : Int) != kidsV k) = true := by simp; omega
  repeat' first | ((with_reducible first | refine cs ?_ ?_ | refine ws ?_ ?_ | refine wd ?_ ?_ | refine wu ?_ ?_) <;> intro h <;> try simp only [h]) | simp only [↓wBA, tFf, convA, seval, pl36_1Ff, pl36_3Ff, exL, List.length_cons, List.length_nil, d, nc0, nc1, nc2, nc3] | ((with_reducible show ACalls _ _ _ _ _); first | (refine (afail row _ _ _ 0 rfl).mono ?_; rintro _ _ ⟨_, ⟨rfl, rfl⟩, rfl⟩; simp only [fdO, vaA, vaC, List.map_cons, List.map_nil]) | refine (akidsV _ _).eq ?_) | (with_reducible refine dP pl36_1Ff 7 (some 5) (by decide) (by kernel_rfl) ?_) | (with_reducible refine dP pl36_3Ff 15 (some 14) (by decide) (by kernel_rfl) ?_)
  all_goals refine ret_obI (a := _) (b := _) (fdP _ _) ?_ rfl rfl
  all_goals simp only [↓wBA, tFf, convA, seval]
  all_goals simp_all [wS, fdO, vaA, vaC, findV, failV, va0, emp]
theorem find_one (row : List Va) (k vk vn : Int) (vs tb nm : ByteArray) (s : Int) (x : Ex) (hx : FindOK row x) : FindOK row (.mk k vk vn vs tb nm s [x]) := by
 intro e
 refine OCalls.of (fdP row) (fun t => rfl) rfl ?_
 refine acalls_of cx_ok dr_ok Tryd.func36 (by kernel_rfl) rfl (nt := 26) (rs := [.cell 4 24]) rfl rfl ?_
 simp only [fdO, exA, exC, exL, List.map_cons, List.map_nil]
 have hf := afail row 1 e
 by_cases hk : kidsV k = 1
 ·have d : ((1 : Int) != kidsV k) = false := by simp [hk]
  repeat' first | ((with_reducible first | refine cs ?_ ?_ | refine ws ?_ ?_ | refine wd ?_ ?_ | refine wu ?_ ?_) <;> intro h <;> try simp only [h]) | simp only [↓wBA, tFf, convA, seval, pl36_1Ff, pl36_3Ff, exL, List.length_cons, List.length_nil, d, nc0, nc1, nc2, nc3] | ((with_reducible show ACalls _ _ _ _ _); first | (refine (afail row _ _ _ 0 rfl).mono ?_; rintro _ _ ⟨_, ⟨rfl, rfl⟩, rfl⟩; simp only [fdO, vaA, vaC, List.map_cons, List.map_nil]) | refine (akidsV _ _).eq ?_ | (refine (aoneV row k vk vn vs tb nm s x hx _ _ 0 rfl).mono ?_; rintro _ _ ⟨_, ⟨rfl, rfl⟩, rfl⟩; simp only [fdO, vaA, vaC, List.map_cons, List.map_nil])) | (with_reducible refine dP pl36_1Ff 7 (some 5) (by decide) (by kernel_rfl) ?_) | (with_reducible refine dP pl36_3Ff 15 (some 14) (by decide) (by kernel_rfl) ?_)
  all_goals refine ret_obI (a := _) (b := _) (fdP _ _) ?_ rfl rfl
  all_goals simp only [↓wBA, tFf, convA, seval]
  all_goals simp_all [wS, fdO, vaA, vaC, findV, failV, va0, emp]
 ·have d : ((1 : Int) != kidsV k) = true := by simp; omega
  repeat' first | ((with_reducible first | refine cs ?_ ?_ | refine ws ?_ ?_ | refine wd ?_ ?_ | refine wu ?_ ?_) <;> intro h <;> try simp only [h]) | simp only [↓wBA, tFf, convA, seval, pl36_1Ff, pl36_3Ff, exL, List.length_cons, List.length_nil, d, nc0, nc1, nc2, nc3] | ((with_reducible show ACalls _ _ _ _ _); first | (refine (afail row _ _ _ 0 rfl).mono ?_; rintro _ _ ⟨_, ⟨rfl, rfl⟩, rfl⟩; simp only [fdO, vaA, vaC, List.map_cons, List.map_nil]) | refine (akidsV _ _).eq ?_) | (with_reducible refine dP pl36_1Ff 7 (some 5) (by decide) (by kernel_rfl) ?_) | (with_reducible refine dP pl36_3Ff 15 (some 14) (by decide) (by kernel_rfl) ?_)
  all_goals refine ret_obI (a := _) (b := _) (fdP _ _) ?_ rfl rfl
  all_goals simp only [↓wBA, tFf, convA, seval]
  all_goals simp_all [wS, fdO, vaA, vaC, findV, failV, va0, emp]
theorem find_two (row : List Va) (k vk vn : Int) (vs tb nm : ByteArray) (s : Int) (x y : Ex) (hx : FindOK row x) (hy : FindOK row y) : FindOK row (.mk k vk vn vs tb nm s [x, y]) := by
 intro e
 refine OCalls.of (fdP row) (fun t => rfl) rfl ?_
 refine acalls_of cx_ok dr_ok Tryd.func36 (by kernel_rfl) rfl (nt := 26) (rs := [.cell 4 24]) rfl rfl ?_
 simp only [fdO, exA, exC, exL, List.map_cons, List.map_nil]
 have hf := afail row 1 e
 by_cases hk : kidsV k = 2
 ·have d : ((2 : Int) != kidsV k) = false := by simp [hk]
  have hk5 : 5 ≤ k ∧ k ≤ 17 := by
   by_cases h5 : 5 ≤ k ∧ k ≤ 17
   ·exact h5
   ·exfalso
    unfold kidsV at hk
    rw [if_neg h5] at hk
    split at hk <;> (try split at hk) <;> omega
  repeat' first | ((with_reducible first | refine cs ?_ ?_ | refine ws ?_ ?_ | refine wd ?_ ?_ | refine wu ?_ ?_) <;> intro h <;> try simp only [h]) | simp only [↓wBA, tFf, convA, seval, pl36_1Ff, pl36_3Ff, exL, List.length_cons, List.length_nil, d, nc0, nc1, nc2, nc3] | ((with_reducible show ACalls _ _ _ _ _); first | (refine (afail row _ _ _ 0 rfl).mono ?_; rintro _ _ ⟨_, ⟨rfl, rfl⟩, rfl⟩; simp only [fdO, vaA, vaC, List.map_cons, List.map_nil]) | refine (akidsV _ _).eq ?_ | (refine (atwoV row k vk vn vs tb nm s hk5 x y hx hy _ _ 0 rfl).mono ?_; rintro _ _ ⟨_, ⟨rfl, rfl⟩, rfl⟩; simp only [fdO, vaA, vaC, List.map_cons, List.map_nil])) | (with_reducible refine dP pl36_1Ff 7 (some 5) (by decide) (by kernel_rfl) ?_) | (with_reducible refine dP pl36_3Ff 15 (some 14) (by decide) (by kernel_rfl) ?_)
  all_goals refine ret_obI (a := _) (b := _) (fdP _ _) ?_ rfl rfl
  all_goals simp only [↓wBA, tFf, convA, seval]
  all_goals simp_all [wS, fdO, vaA, vaC, findV, failV, va0, emp]
 ·have d : ((2 : Int) != kidsV k) = true := by simp; omega
  repeat' first | ((with_reducible first | refine cs ?_ ?_ | refine ws ?_ ?_ | refine wd ?_ ?_ | refine wu ?_ ?_) <;> intro h <;> try simp only [h]) | simp only [↓wBA, tFf, convA, seval, pl36_1Ff, pl36_3Ff, exL, List.length_cons, List.length_nil, d, nc0, nc1, nc2, nc3] | ((with_reducible show ACalls _ _ _ _ _); first | (refine (afail row _ _ _ 0 rfl).mono ?_; rintro _ _ ⟨_, ⟨rfl, rfl⟩, rfl⟩; simp only [fdO, vaA, vaC, List.map_cons, List.map_nil]) | refine (akidsV _ _).eq ?_) | (with_reducible refine dP pl36_1Ff 7 (some 5) (by decide) (by kernel_rfl) ?_) | (with_reducible refine dP pl36_3Ff 15 (some 14) (by decide) (by kernel_rfl) ?_)
  all_goals refine ret_obI (a := _) (b := _) (fdP _ _) ?_ rfl rfl
  all_goals simp only [↓wBA, tFf, convA, seval]
  all_goals simp_all [wS, fdO, vaA, vaC, findV, failV, va0, emp]
theorem find_more (row : List Va) (k vk vn : Int) (vs tb nm : ByteArray) (s : Int) (x y z : Ex) (l : List Ex) : FindOK row (.mk k vk vn vs tb nm s (x :: y :: z :: l)) := by
 intro e
 refine OCalls.of (fdP row) (fun t => rfl) rfl ?_
 refine acalls_of cx_ok dr_ok Tryd.func36 (by kernel_rfl) rfl (nt := 26) (rs := [.cell 4 24]) rfl rfl ?_
 simp only [fdO, exA, exC, exL, List.map_cons, List.map_nil]
 have hf := afail row 1 e
 have d : ((((exL l).length + 1 + 1 + 1 : Nat) : Int) != kidsV k) = true := by have := kidsV_le k; simp; omega
 repeat' first | ((with_reducible first | refine cs ?_ ?_ | refine ws ?_ ?_ | refine wd ?_ ?_ | refine wu ?_ ?_) <;> intro h <;> try simp only [h]) | simp only [↓wBA, tFf, convA, seval, pl36_1Ff, pl36_3Ff, d] | ((with_reducible show ACalls _ _ _ _ _); first | (refine (afail row _ _ _ 0 rfl).mono ?_; rintro _ _ ⟨_, ⟨rfl, rfl⟩, rfl⟩; simp only [fdO, vaA, vaC, List.map_cons, List.map_nil]) | refine (akidsV _ _).eq ?_) | (with_reducible refine dP pl36_1Ff 7 (some 5) (by decide) (by kernel_rfl) ?_) | (with_reducible refine dP pl36_3Ff 15 (some 14) (by decide) (by kernel_rfl) ?_)
 all_goals refine ret_obI (a := _) (b := _) (fdP _ _) ?_ rfl rfl
 all_goals simp only [↓wBA, tFf, convA, seval]
 all_goals simp_all [wS, fdO, vaA, vaC, findV, failV, va0, emp]
mutual
theorem afind (row : List Va) : ∀ x : Ex, FindOK row x
 | .mk k vk vn vs tb nm s [] => find_nil row k vk vn vs tb nm s
 | .mk k vk vn vs tb nm s [x] => find_one row k vk vn vs tb nm s x (afind row x)
 | .mk k vk vn vs tb nm s [x, y] => find_two row k vk vn vs tb nm s x y (afind row x) (afind row y)
 | .mk k vk vn vs tb nm s (x :: y :: z :: l) => find_more row k vk vn vs tb nm s x y z l
end
theorem aevalV (row : List Va) (x : Ex) (σ : St) : ACalls Tryd.prog 28 [exA x, .p (.sl 3 (enV row))] σ fun r s => s = σ ∧ r = .tup [vaA (evalV row x).1, intV .i64 (evalV row x).2] := by
 refine ACalls.pureF (R := fun r => r = .tup [vaA (evalV row x).1, intV .i64 (evalV row x).2]) ?_ (by cases x; rfl) σ
 have hx := afind row x 0
 generalize hb : findV row x 0 = b at *
 obtain ⟨⟨b1, b2, b3⟩, e2⟩ := b
 obtain ⟨k, vk, vn, vs, tb, nm, s, kids⟩ := x
 refine acalls_of cx_ok dr_ok Tryd.func28 (by kernel_rfl) rfl (nt := 23) (rs := [.cell 4 24, .tmp 5]) rfl rfl ?_
 simp only [exA, exC, List.map_cons, List.map_nil]
 have hc : ∀ σ t, σ[t]? = some (some (.row 2 [[.p (.sl 3 (enV row)), .p (.v (.int .i64 0))]])) → ACalls Tryd.prog 36 [.mp t 2 0 0, .agg ((exC (.mk k vk vn vs tb nm s kids)).map .p)] σ fun r σ' => r = vaA (b1, b2, b3) ∧ σ' = σ.set t (some (fdO row e2)) := fun σ t ht => (hx σ t ht).mono fun r σ' ⟨e', ⟨h1, h2⟩, h3⟩ => by subst h1 h2 h3; exact ⟨rfl, rfl⟩
 simp only [exC, List.map_cons, List.map_nil] at hc
 repeat' first | ((with_reducible first | refine cs ?_ ?_ | refine ws ?_ ?_ | refine wd ?_ ?_ | refine wu ?_ ?_) <;> intro h <;> try simp only [h]) | simp only [↓wBA, tFf, convA, seval, pl28_4Ff] | ((with_reducible show ACalls _ _ _ _ _); refine (hc _ 2 rfl).mono ?_; rintro _ _ ⟨rfl,rfl⟩; simp only [fdO, vaA, vaC, List.map_cons, List.map_nil]) | (with_reducible refine dP pl28_4Ff 7 (some 19) (by decide) (by kernel_rfl) ?_)
 all_goals refine ret_is (a := _) ?_ rfl rfl
 all_goals simp only [↓wBA, tFf, convA, seval]
 all_goals simp_all [wS, vaA, vaC, evalV, va0, emp]
theorem aholdsV (row : List Va) (x : Ex) (σ : St) : ACalls Tryd.prog 17 [exA x, .p (.sl 3 (enV row))] σ fun r s => s = σ ∧ r = .tup [boolV (holdsV row x).1, intV .i64 (holdsV row x).2] := by
 refine ACalls.pureF (R := fun r => r = .tup [boolV (holdsV row x).1, intV .i64 (holdsV row x).2]) ?_ (by cases x; rfl) σ
 have hx := aevalV row x
 generalize hb : evalV row x = b at *
 obtain ⟨⟨b1, b2, b3⟩, e2⟩ := b
 obtain ⟨k, vk, vn, vs, tb, nm, s, kids⟩ := x
 simp only [exA, exC, vaA, vaC, List.map_cons, List.map_nil] at hx
 refine acalls_of cx_ok dr_ok Tryd.func17 (by kernel_rfl) rfl (nt := 37) (rs := [.tmp 4, .tmp 5]) rfl rfl ?_
 simp only [exA, exC, List.map_cons, List.map_nil]
 repeat' first | ((with_reducible first | refine cs ?_ ?_ | refine ws ?_ ?_) <;> intro h <;> try simp only [h]) | simp only [↓wBA, tFf, convA, seval] | ((with_reducible show ACalls _ _ _ _ _); refine (hx _).eq ?_)
 all_goals refine ret_is (a := _) ?_ rfl rfl
 all_goals simp only [↓wBA, tFf, convA, seval]
 all_goals simp_all [wS, holdsV]
 all_goals grind
end Go.Proofs.YtpcblbbddccgpaaDoor
namespace Go.Proofs.YtpcblbbddccgpaaDoor
open Go.RowKit
def tCl := aa wX <| aa wbu T36
theorem enV_cons (v : Va) (l : List Va) : enV (v :: l) = vaC v :: enV l := rfl
theorem aclone (l : List Va) (hl : l.length ≤ 4398046511104) (σ : St) : ACalls Tryd.prog 19 [.p (.sl 3 (enV l))] σ fun r s => s = σ ∧ r = .p (.sl 3 (enV l)) := by
 refine ACalls.pureF (R := fun r => r = .p (.sl 3 (enV l))) ?_ rfl σ
 cases l with
 | nil =>
   refine ACalls.nilSplit ?_ fun ad c => ?_
   ·skip
    refine acalls_of cx_ok dr_ok Tryd.func19 (by kernel_rfl) rfl (nt := 7) (rs := [.tmp 2]) rfl rfl ?_
    repeat' first | ((with_reducible first | refine cs ?_ ?_ | refine ws ?_ ?_) <;> intro h <;> try simp only [h]) | simp only [↓wBA, tCl, convA, seval, appendA, srcA]
    all_goals refine ret_is (a := _) ?_ rfl rfl
    all_goals simp only [↓wBA, tCl, convA, seval]
    all_goals simp_all [wS, enV]
   ·skip
    refine acalls_of cx_ok dr_ok Tryd.func19 (by kernel_rfl) rfl (nt := 7) (rs := [.tmp 2]) rfl rfl ?_
    have hlim2 : (0 ≤ maxLen) = True := eq_true (Nat.zero_le _)
    repeat' first | ((with_reducible first | refine cs ?_ ?_ | refine ws ?_ ?_) <;> intro h <;> try simp only [h]) | simp only [↓wBA, tCl, convA, seval, appendA, srcA, hlim2, Nat.zero_le, Nat.zero_mul]
    all_goals refine ret_is (a := _) ?_ rfl rfl
    all_goals simp only [↓wBA, tCl, convA, seval]
    all_goals simp_all [wS, enV]
 | cons v l =>
   simp only [List.length_cons] at hl
   have hlim1 := tL (n := (l.length + 1) * 32) (by omega)
   have hlim2 := lM (n := l.length + 1) (by omega)
   refine acalls_of cx_ok dr_ok Tryd.func19 (by kernel_rfl) rfl (nt := 7) (rs := [.tmp 2]) rfl rfl ?_
   simp only [enV_cons]
   repeat' first | ((with_reducible first | refine cs ?_ ?_ | refine ws ?_ ?_) <;> intro h <;> try simp only [h]) | simp only [↓wBA, tCl, convA, seval, appendA, srcA, enV_len, hlim1, hlim2]
   all_goals refine ret_is (a := _) ?_ rfl rfl
   all_goals simp only [↓wBA, tCl, convA, seval]
   all_goals simp_all [wS, enV]
def cxM : Ctx := { cx with muts := [36 * 100000 + 7] }
theorem cxM_ok : cxM.ok Tryd.prog := cx_ok
theorem drM_ok : DrawOk Tryd.prog (aDraw Tryd.prog cxM) := aDraw_ok cxM_ok (by kernel_rfl)
theorem kindM (t : TypeId) : cxM.kind t = cx.kind t := nr rfl
theorem tyM (t : TypeId) : cxM.ty t = cx.ty t := nr rfl
theorem mutsM : cxM.muts = [36 * 100000 + 7] := nr rfl
theorem get_concat {σ : St} {x : Option Ob} : (σ ++ [x])[σ.length]? = some x := by simp
theorem set_concat {σ : St} {x y : Option Ob} : (σ ++ [x]).set σ.length y = σ ++ [y] := by simp
theorem len_concat {σ : St} {x : Option Ob} : (σ ++ [x]).length = σ.length + 1 := by simp
theorem app_concat {σ : St} {x y : Option Ob} : σ ++ [x] ++ [y] = σ ++ [x, y] := by simp
def muR (l : List Va) : List (List AV) := l.map fun v => (vaC v).map .p
theorem muR_len (l : List Va) : (muR l).length = l.length := by simp [muR]
theorem acloneM (v : Va) (l : List Va) (hl : l.length + 1 ≤ 4398046511104) (σ : St) : ACalls Tryd.prog 19 [.p (.sl 3 (enV (v :: l)))] σ fun r s => r = .ms (σ.length + 1) 3 0 (l.length + 1) ∧ s = σ ++ [none, some (.row 3 (muR (v :: l)))] := by
 have hlim1 := tL (n := (l.length + 1) * 32) (by omega)
 have hlim2 := lM (n := l.length + 1) (by omega)
 refine acalls_of cxM_ok drM_ok Tryd.func19 (by kernel_rfl) rfl (nt := 7) (rs := [.tmp 2]) rfl rfl ?_
 simp only [enV_cons]
 repeat' first | ((with_reducible first | refine cs ?_ ?_ | refine ws ?_ ?_) <;> intro h <;> try simp only [h]) | simp only [↓wBA, tCl, convA, seval, appendM, srcM, srcA, enV_len, hlim1, hlim2, kindM, tyM, mutsM, get_concat, set_concat, len_concat, app_concat]
 refine ⟨.inl rfl, _, _, _, rfl, .inl ⟨rfl, rfl⟩, by simp, rfl, ?_⟩
 simp [muR, enV]
end Go.Proofs.YtpcblbbddccgpaaDoor
