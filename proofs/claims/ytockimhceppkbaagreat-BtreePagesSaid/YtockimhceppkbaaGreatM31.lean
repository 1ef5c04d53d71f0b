/- Batches: the bits. slices.Chunk, one chunk: walked. mark, from its loop on: walked. -/
import Derived.Test.YtockimhceppkbaaGreatM30
import Derived.Test.YtockimhceppkbaaGreatM17
import Derived.RangeFuncNested
import Derived.RangeFuncBound
import Derived.RangeFuncCalls
import Derived.RangeFuncLeaves
import Derived.Shelf.Abstract
import Derived.Shelf.RegionOpen
import Derived.WalkKit
import Derived.OwnWalkIn
import Derived.TacticsInMore
import Derived.LoopNIn
import Derived.LoopIn
import Derived.BigRegionIn
import Derived.Test.YtockimhceppkbaaGreatM21
set_option linter.unusedSimpArgs false
set_option linter.unusedVariables false
set_option linter.defProp false
set_option maxRecDepth 100000
set_option maxHeartbeats 32000000
namespace Go.Proofs.YtockimhceppkbaaGreat
open Go.RowKit
def tBe := aa wX <| aa wbu <| aa T3 <| aa T5 <| aa T24 <| aa T25 <| aa T30 <| aa T35 <| aa T83 T106
def haveK (pg : List UInt8) : Nat → List UInt8
 | 0 => []
 | k + 1 => haveK pg k ++ (getL pg (k : Nat)).getD []
def haveL (pg : List UInt8) : List UInt8 := haveK pg (slotsL pg).length
def rawB (pg : List UInt8) (nb : Nat) : List UInt8 := (haveL pg).take nb ++ List.replicate (nb - (haveL pg).length) 0
def hV (t : Nat) (l : List UInt8) : AV := if l = [] then .p (.v (.slice none 0 0)) else .own t 1 (encB l)
theorem rawB_len (pg : List UInt8) (nb : Nat) : (rawB pg nb).length = nb := by simp [rawB]; omega
theorem make_eq {C : Ctx} {tk : Nat} {T : TypeId} {l c : Operand} {ρ : Operand → AV} {σ : St} : makeM C true tk T l c ρ σ = (match C.kind T with
    | some (.slice E es eb ez) => (match intA (ρ l) with
      | some (_, n) => (match intA (ρ c) with
        | some (_, m) => if n = m ∧ 0 ≤ n ∧ eb * n ≤ 140737488355328 ∧ n ≤ maxLen then some (.ms tk es 0 n.toNat, σ.put tk (.row es (List.replicate n.toNat (zeroA ez)))) else none
        | none => none)
      | none => none)
    | _ => none) := by
  unfold makeM
  cases C.kind T with
  | none => rfl
  | some k => cases k <;> cases intA (ρ l) <;> cases intA (ρ c) <;> rfl
def OwnL (q : St) (n : Nat) (av : AV) (l : List UInt8) : Prop := (av = .p (.v (.slice none 0 0)) ∧ l = []) ∨ ∃ t, av = .own t 1 (encB l) ∧ l ≠ [] ∧ q[t]? = some (some (.right 5 l.length)) ∧ n ≤ t
theorem srcD_rec (q : St) (g : Option (List UInt8)) : srcD q 1 (.p (recP g)) = some (encB (g.getD [])) := by
 cases g <;> rfl
theorem app_have {q : St} {n : Nat} {av : AV} {l : List UInt8} {g : Option (List UInt8)} (h : OwnL q n av l) (hn : n ≤ q.length) (hb : (l ++ g.getD []).length ≤ 1000000) :
 ∃ av' q', appendA cx q.length 35 av (.p (recP g)) q = some (av', q') ∧ (∀ S : St, S.length = n → Ap S q → Ap S q') ∧ q.length ≤ q'.length ∧ OwnL q' n av' (l ++ g.getD []) := by
 obtain ⟨r, hr⟩ : ∃ r, g.getD [] = r := ⟨_, rfl⟩
 have hk := ck_35
 simp only [List.length_append, hr] at hb
 have hm : (encB r).length ≤ 1000000 := by rw [encB_len]; omega
 have c1 : (encB r).length * 1 ≤ 140737488355328 ∧ (encB r).length ≤ maxLen := ⟨by omega, by unfold maxLen; omega⟩
 rcases h with ⟨rfl, rfl⟩ | ⟨t, rfl, hl, ht, htn⟩
 ·cases r with
  | nil =>
    refine ⟨_, q, ?_, fun S _ h => h, Nat.le_refl _, .inl ⟨rfl, by rw [hr]; rfl⟩⟩
    unfold appendA
    rw [hk]
    simp only [srcD_rec, hr]
    rfl
  | cons c r =>
    refine ⟨.own q.length 1 (encB (c :: r)), q ++ [some (.right 5 (c :: r).length)], ?_, fun S _ h => h.more _, by simp, .inr ⟨q.length, by rw [hr]; rfl, by rw [hr]; simp, by rw [hr]; simp, hn⟩⟩
    unfold appendA
    rw [hk]
    simp only [srcD_rec, hr]
    rw [if_pos c1]
    simp only [encB, List.map_cons, put_new rfl]
    simp
 ·have htl := at_lt ht
  refine ⟨.own t 1 (encB (l ++ r)), q.set t (some (.right 5 (l ++ r).length)), ?_, fun S hS h => h.set (by omega) _, by simp, .inr ⟨t, by rw [hr], by rw [hr]; simp [hl], by rw [hr]; simp [htl], htn⟩⟩
  unfold appendA
  rw [hk]
  simp only [srcD_rec, hr]
  rw [if_pos ⟨trivial, by rw [encB_len, encB_len]; omega, by rw [encB_len, encB_len]; unfold maxLen; omega⟩, ht]
  simp only [encB_len, Nat.mul_one, and_self, if_true, encB_app]
theorem copy_have {q : St} {n t nb : Nat} {av : AV} {l : List UInt8} (h : OwnL q n av l) (ht : q[t]? = some (some (.row 1 (bRows (List.replicate nb 0))))) :
 copyA cx 35 (.ms t 1 0 nb) av q = some (intV .i64 ((min nb l.length : Nat)), q.set t (some (.row 1 (bRows (l.take nb ++ List.replicate (nb - l.length) 0))))) := by
 have hs : srcC q av = some (pageC l) := by
  rcases h with ⟨rfl, rfl⟩ | ⟨t', rfl, _, _, _⟩
  ·rfl
  ·show (match elemsA (.own t' 1 (encB l)) with | some (e, ls) => if e = 1 then some (ls.flatten.map AV.p) else none | _ => none) = _
   simp only [elemsA, if_true, flat_encB, map_byteP]
 unfold copyA
 rw [ck_35, hs]
 simp only [if_true, ht, bRows_len, List.length_replicate, Nat.zero_add, Nat.le_refl, and_self, Option.some.injEq, Prod.mk.injEq]
 refine ⟨by simp [pageC_len], ?_⟩
 congr 3
 simp only [List.take_zero, List.nil_append, List.length_take, pageC_len, bRows, List.map_append, List.map_replicate, List.drop_replicate, List.map_take, pageC, List.map_map]
 congr 1
 congr 1
 simp only [List.length_map]
 omega
theorem bv_u8 (c : UInt8) : BitVec.ofInt IntKind.u8.bits (c.toNat : Int) = c.toBitVec := by
 rw [BitVec.ofInt_natCast]
 apply BitVec.eq_of_toNat_eq
 rw [BitVec.toNat_ofNat]
 exact Nat.mod_eq_of_lt c.toNat_lt
theorem wrap_bv (x : BitVec 8) : IntKind.u8.wrap (x.toNat : Int) = ((UInt8.ofBitVec x).toNat : Int) := by
 have := x.isLt
 rw [IntKind.wrap_u8]
 show _ = (x.toNat : Int)
 omega
theorem or_one (c : UInt8) : IntKind.u8.wrap ((BitVec.ofInt IntKind.u8.bits (c.toNat : Int) ||| BitVec.ofInt IntKind.u8.bits 1).toNat : Int) = ((c ||| 1).toNat : Int) := by
 rw [bv_u8]
 exact wrap_bv _
theorem ataken {σ : St} {b p np : Nat} {pg : List UInt8} {R : St → Prop} (hpg : pg.length = 512) (hnp : np ≤ 100000) (hnp1 : 1 ≤ np) (hh : (haveL pg).length ≤ 1000000) (hk : ∀ k, k ≤ (slotsL pg).length → (haveK pg k).length ≤ 1000000)
 (hread : ACalls Tryz.prog 70 [.mp b 2 0 0, intV .i64 0] σ fun r s => r = .tup [pageA pg, intV .i64 0] ∧ R s)
 (hR : ∀ s, R s → σ.length ≤ s.length ∧ (∃ a, s[b]? = some (some (.row 2 [[.mp p 6 0 0, a]]))) ∧ ∃ dd l kh G P, PoolAt s p dd l kh G P ∧ P.pages = np) :
 ACalls Tryz.prog 39 [.mp b 2 0 0] σ fun r s' => ∃ s t, R s ∧ Ap s s' ∧ s.length ≤ t ∧ r = .tup [.ms t 1 0 ((np + 7) / 8), intV .i64 0] ∧ ∃ c0 l0, rawB pg ((np + 7) / 8) = c0 :: l0 ∧ s'[t]? = some (some (.row 1 (bRows ((c0 ||| 1) :: l0)))) := by
 have z5 := pageC_512 len_zero512
 have pc := pageC_512 hpg
 refine acalls_of cx_ok dr_ok Tryz.func39 (by kernel_rfl) rfl (nt := 50) (rs := [.tmp 2, .tmp 3]) rfl rfl ?_
 repeat' first | ((with_reducible first | refine cs ?_ ?_ | refine ws ?_ ?_) <;> intro h <;> try simp only [h]) | simp only [↓wBA, tBe, convA, seval, wH]
 refine hread.mono ?_
 rintro _ s ⟨rfl, hs⟩
 obtain ⟨hls, ⟨a, k0⟩, dd, l, kh, G, P, hP, hPn⟩ := hR s hs
 have q0 := at_lt k0
 have w1 : IntKind.i64.wrap ((P.pages : Int) + 7) = ((P.pages + 7 : Nat) : Int) := by rw [wrap_i64 (by omega) (by omega)]; simp
 have w2 : IntKind.i64.wrap (((P.pages + 7 : Nat) : Int).tdiv 8) = (((P.pages + 7) / 8 : Nat) : Int) := by
  rw [Int.tdiv_eq_ediv_of_nonneg (by omega), wrap_i64 (by omega) (by omega)]; omega
 obtain ⟨nb, hnb⟩ : ∃ nb, (P.pages + 7) / 8 = nb := ⟨_, rfl⟩
 have hnb1 : 1 ≤ nb := by omega
 have hnb2 : nb ≤ 100000 := by omega
 rw [hnb] at w2
 have hnb3 : (np + 7) / 8 = nb := by rw [← hPn, hnb]
 rw [hnb3]
 have tl1 : ((nb : Int) ≤ 140737488355328) = True := eq_true (by omega)
 have hl2 : ((nb : Int) ≤ ((maxLen : Nat) : Int)) = True := eq_true (Int.ofNat_le.2 (by unfold maxLen; omega))
 have hrep : List.replicate nb [AV.p (.v (.int .u8 0))] = bRows (List.replicate nb 0) := by simp only [bRows, List.map_replicate]; rfl
 repeat' first | ((with_reducible first | refine cs ?_ ?_ | refine ws ?_ ?_) <;> intro h <;> try simp only [h]) | simp only [↓wBA, tBe, convA, seval, wH, zl512, zB_512, z5, pc, pageA, k0, q0, w1, w2, tl1, hl2, hrep, Int.one_mul, nnI, make_eq, Int.toNat_natCast, zeroA] | ((with_reducible show ACalls _ _ _ _ _); first | refine (apages (hP.ap (Ap.app _ _))).eq ?_ | refine (anslots pg hpg _).eq ?_)
 obtain ⟨S1, hS1⟩ : ∃ S1, S1 = s ++ [some (.row 512 [pageC pg])] ++ [some (.row 1 (bRows (List.replicate nb 0)))] := ⟨_, rfl⟩
 rw [← hS1]
 have hA1 : Ap s S1 := by rw [hS1]; exact (Ap.app _ _).more _
 have hsl : S1.length = s.length + 2 := by rw [hS1]; simp
 have hpgo : S1[s.length]? = some (some (.row 512 [pageC pg])) := by rw [hS1]; simp
 have hbo : S1[s.length + 1]? = some (some (.row 1 (bRows (List.replicate nb 0)))) := by rw [hS1]; simp
 refine awp_loopS (X := { k : Nat // k ≤ (slotsL pg).length } × AV) (fun i => (slotsL pg).length - i.1.1) (fun i => [(29, intV .i64 (i.1.1 : Nat)), (7, i.2)]) [8, 9, 10, 30, 31, 32, 33, 34, 35, 36, 37, 38, 39, 40, 41] (fun i q => Ap S1 q ∧ OwnL q S1.length i.2 (haveK pg i.1.1)) ((⟨0, by omega⟩, .p (.v (.slice none 0 0)))) ?_ ?_ ?_ ?_
 ·simp only [wHl, wHf]
 ·exact ⟨Ap.refl _, .inl ⟨rfl, rfl⟩⟩
 ·rintro _ _ ⟨hf, _⟩; have := hf.len; omega
 ·intro y J q hI
  simp only [wHl]
  obtain ⟨⟨k, hkk⟩, av⟩ := y
  obtain ⟨ha, ho⟩ := hI
  dsimp only at *
  have hlen' := ha.len
  have m0 := ha.get hpgo
  have r0 := at_lt m0
  have m1 := ha.get hbo
  have r1 := at_lt m1
  by_cases hlt : k < (slotsL pg).length
  ·have b1 := dT (i := k) (n := (slotsL pg).length) (by omega)
   have hkb := hk (k + 1) (by omega)
   have hsb : (slotsL pg).length ≤ 124 := by simp [slotsL]; omega
   have hw1 := wI k (by omega)
   obtain ⟨g, hg⟩ : ∃ g, getL pg (k : Nat) = g := ⟨_, rfl⟩
   have hks : haveK pg (k + 1) = haveK pg k ++ g.getD [] := by simp only [haveK, hg]
   obtain ⟨av', q', happ, g1, g2, g3⟩ := app_have (g := g) ho hlen' (by rw [← hks]; exact hkb)
   repeat' first | ((with_reducible first | refine cs ?_ ?_ | refine ws ?_ ?_) <;> intro h <;> try simp only [h]) | simp only [↓wBA, tBe, convA, seval, wH, wHl, b1, m0, r0, pc, hg, happ, hw1] | ((with_reducible show ACalls _ _ _ _ _); refine (aget pg k hpg _).eq ?_)
   exact ⟨(⟨k + 1, by omega⟩, av'), by show (slotsL pg).length - (k + 1) < (slotsL pg).length - k; omega, ⟨g1 S1 rfl ha, hks ▸ g3⟩, rfl⟩
  ·have he : k = (slotsL pg).length := by omega
   subst he
   have b1 := dF (i := (slotsL pg).length) (n := (slotsL pg).length) (by omega)
   repeat' first | ((with_reducible first | refine cs ?_ ?_ | refine ws ?_ ?_) <;> intro h <;> try simp only [h]) | simp only [↓wBA, tBe, convA, seval, wH, wHl, b1]
   have hcp := copy_have ho m1
   obtain ⟨c0, l0, hc⟩ : ∃ c0 l0, rawB pg nb = c0 :: l0 := by
    cases hr : rawB pg nb with
    | nil => have := rawB_len pg nb; rw [hr] at this; simp at this; omega
    | cons c l => exact ⟨c, l, rfl⟩
   have hc' : (haveK pg (slotsL pg).length).take nb ++ List.replicate (nb - (haveK pg (slotsL pg).length).length) 0 = c0 :: l0 := hc
   rw [hc'] at hcp
   have hb0 : bRows (c0 :: l0) = [.p (byteP c0)] :: bRows l0 := rfl
   have b4 : ((0 : Int) < (nb : Int)) = True := eq_true (by omega)
   repeat' first | ((with_reducible first | refine cs ?_ ?_ | refine ws ?_ ?_) <;> intro h <;> try simp only [h]) | simp only [↓wBA, tBe, convA, seval, wH, wHl, hcp, r1, hb0, b4, byteP, or_one, List.getElem?_cons_zero]
   have hq := ((hA1.trans ha).set (t := s.length + 1) (by omega) (some (.row 1 ([.p (.v (.int .u8 ((c0 ||| 1).toNat : Nat)))] :: bRows l0))))
   have hlen := hq.len
   all_goals refine ret_st ?_ (by first | exact Nat.le_refl _ | (simp only [List.length_set, List.length_append]; omega) | omega)
   all_goals simp only [resA.eq_1, resL.eq_1, resL.eq_2, resV.eq_1, resV.eq_2, ↓wBA, tBe, convA, seval, wH]
   exact ⟨s, s.length + 1, hs, hq, Nat.le_succ _, rfl, c0, l0, hc, by simp [r1]; rfl⟩
end Go.Proofs.YtockimhceppkbaaGreat
namespace Go.Proofs.YtockimhceppkbaaGreat
open Go.RowKit Go.Shelf
attribute [local go_sem] Oper.semAt_some
theorem chunk_in (F : Fence) (n : Nat) (hf : F.fn 77) (hro : F.round = none) (a : Option Addr) (len cap : Nat) (w : World) :
 CallsIn F n Tryz.prog 77 #[.slice a len cap, .int .i64 400] w fun e w' => e = .returned (.func (.func 105) #[] #[.pointer (some ⟨w.heap.size, 0, none⟩), .pointer (some ⟨w.heap.size + 1, 0, none⟩)]) ∧ w' = (w.alloc (.cells #[.slice a len cap] 35)).alloc (.cells #[.int .i64 400] 3) := by
 refine callsIn_of_wp Tryz.func77 rfl hf ?_ hro
 simp only [Tryz.ntmps77, List.size_toArray, List.length_cons, List.length_nil, Nat.reduceAdd, Nat.reduceSub, Array.replicate_succ, Array.replicate_zero, List.push_toArray, List.append_toArray, List.nil_append, List.cons_append]
 gi_wp2
 go_ret
 exact ⟨rfl, rfl⟩
theorem chunk1_in (F : Fence) (n : Nat) (hf : F.fn 105) (hro : F.round = none) (hn : 1 ≤ n) (l Bs Bn b len cap : Nat) (hlen : 1 ≤ len) (hle : len < 400 ∨ len = 400) (hcap : len ≤ cap) (J Jx : List Unit → World → Prop) (hJd : ∀ pre W, J pre W → J pre W.drew)
 (hY : ∀ pre x W, J pre W → pre.length < 1 → YieldAt F (n - 1) Tryz.prog l #[.slice (some ⟨b, 0, none⟩) len len] W fun e W' =>
  (e = .returned (.bool true) ∧ J (pre ++ [x]) W' ∧ ((W.cell? ⟨Bs, 0, none⟩ = some (.slice (some ⟨b, 0, none⟩) len cap) → W'.cell? ⟨Bs, 0, none⟩ = some (.slice (some ⟨b, 0, none⟩) len cap)) ∧ (W.cell? ⟨Bn, 0, none⟩ = some (.int .i64 400) → W'.cell? ⟨Bn, 0, none⟩ = some (.int .i64 400)))) ∨ (e = .returned (.bool false) ∧ Jx (pre ++ [x]) W'))
 (W : World) (hBs : W.cell? ⟨Bs, 0, none⟩ = some (.slice (some ⟨b, 0, none⟩) len cap)) (hBn : W.cell? ⟨Bn, 0, none⟩ = some (.int .i64 400)) (h0 : J [] W) :
 CallsIn F n Tryz.prog 105 #[.func (.yield l) #[] #[], .pointer (some ⟨Bs, 0, none⟩), .pointer (some ⟨Bn, 0, none⟩)] W fun e W' => (∃ v, e = .returned v) ∧ (J [()] W' ∨ Jx [()] W') := by
 refine callsIn_of_wp Tryz.func105 rfl hf ?_ hro
 simp only [Tryz.ntmps105, List.size_toArray, List.length_cons, List.length_nil, Nat.reduceAdd, Nat.reduceSub, Array.replicate_succ, Array.replicate_zero, List.push_toArray, List.append_toArray, List.nil_append, List.cons_append]
 gi_wp2
 gi_loopw [4] (fun i wr => ((i = .int .i64 0 ∧ J [] wr) ∨ (i = .int .i64 400 ∧ J [()] wr)) ∧ wr.cell? ⟨Bs, 0, none⟩ = some (.slice (some ⟨b, 0, none⟩) len cap) ∧ wr.cell? ⟨Bn, 0, none⟩ = some (.int .i64 400))
  (fun i _ => 400 - (intOf i).toNat)
 case atStart => exact ⟨.inl ⟨rfl, h0⟩, hBs, hBn⟩
 case round =>
  obtain ⟨(⟨rfl, hJ0⟩ | ⟨rfl, hJ1⟩), hs, hnn⟩ := hrel
  ·obtain ⟨fn, tmps, assign, body, hy, hR⟩ := hY [] () wr.drew (hJd _ _ hJ0) (by simp)
   have hs' : wr.drew.cell? ⟨Bs, 0, none⟩ = some (.slice (some ⟨b, 0, none⟩) len cap) := hs
   have hnn' : wr.drew.cell? ⟨Bn, 0, none⟩ = some (.int .i64 400) := hnn
   rcases hle with hle | rfl
   ·have hli : (len : Int) < 400 := by omega
    gi_wp2
    gi_region
    gi_wp2
    all_goals refine hR.mono ?_
    all_goals rintro e W3 (⟨rfl, hJ3, hk3, hk4⟩ | ⟨rfl, hJx3⟩)
    all_goals gi_wp2
    all_goals first
     | exact ⟨⟨.inr ⟨rfl, hJ3⟩, hk3 hs', hk4 hnn'⟩, by simp [intOf]⟩
     | (refine bodyPost_ret (results_none rfl _ _ _) rfl ?_; exact ⟨⟨_, rfl⟩, .inr hJx3⟩)
   ·gi_wp2
    gi_region
    gi_wp2
    all_goals refine hR.mono ?_
    all_goals rintro e W3 (⟨rfl, hJ3, hk3, hk4⟩ | ⟨rfl, hJx3⟩)
    all_goals gi_wp2
    all_goals first
     | exact ⟨⟨.inr ⟨rfl, hJ3⟩, hk3 hs', hk4 hnn'⟩, by simp [intOf]⟩
     | (refine bodyPost_ret (results_none rfl _ _ _) rfl ?_; exact ⟨⟨_, rfl⟩, .inr hJx3⟩)
  ·have hno : ¬ (400 : Int) < (len : Int) := by omega
   gi_wp2
   all_goals trace_state
   go_end0
   exact ⟨⟨_, rfl⟩, .inl hJ1⟩
end Go.Proofs.YtockimhceppkbaaGreat
namespace Go.Proofs.YtockimhceppkbaaGreat
open Go.RowKit Go.Shelf
attribute [local go_sem] Oper.semAt_some
theorem chunk_stops (F : Fence) (n : Nat) (hf : F.fn 105) (hro : F.round = none) (hn : 1 ≤ n) (Bs Bn b len cap : Nat) (hlen : 1 ≤ len) (hle : len ≤ 400) (hcap : len ≤ cap) (w : World) (h1 : Bs < w.heap.size) (h2 : Bn < w.heap.size)
 (hBs : w.cell? ⟨Bs, 0, none⟩ = some (.slice (some ⟨b, 0, none⟩) len cap)) (hBn : w.cell? ⟨Bn, 0, none⟩ = some (.int .i64 400)) :
 SeqStopsK F n Tryz.prog 105 #[.pointer (some ⟨Bs, 0, none⟩), .pointer (some ⟨Bn, 0, none⟩)] (fun _ : Unit => #[.slice (some ⟨b, 0, none⟩) len len])
  (fun W W' => (W.cell? ⟨Bs, 0, none⟩ = some (.slice (some ⟨b, 0, none⟩) len cap) → W'.cell? ⟨Bs, 0, none⟩ = some (.slice (some ⟨b, 0, none⟩) len cap)) ∧ (W.cell? ⟨Bn, 0, none⟩ = some (.int .i64 400) → W'.cell? ⟨Bn, 0, none⟩ = some (.int .i64 400)))
  (fun xs => xs = [()]) (fun pre => pre = [()]) 1 w := fun l J Jx W hW hJ hJx hY h0 => by
 refine (chunk1_in F n hf hro hn l Bs Bn b len cap hlen (by omega) hcap J Jx (fun pre W' h => hJ pre W' W'.drew none h ⟨rfl, rfl, rfl, Nat.le_refl _, fun _ _ _ => rfl⟩ (fun r e => by cases e)) hY W ((hW.cell (p := ⟨Bs, 0, none⟩) h1).trans hBs) ((hW.cell (p := ⟨Bn, 0, none⟩) h2).trans hBn) h0).mono ?_
 rintro e W' ⟨he, h | h⟩
 ·exact ⟨he, .inl ⟨_, rfl, h⟩⟩
 ·exact ⟨he, .inr ⟨_, rfl, h⟩⟩
section
variable {F : Fence} {n : Nat} {ops : Array Oper} {rest : List Oper} {o : Oper} {a : Act} {w : World} {Q : Exit → Act → World → Prop}
theorem load_pageIn {l : List UInt8} {g : Nat} (hl : l.length = 512) (hg : w.heap[g]? = some (.cells (bytesA l) 106 (0, 0))) (hgd : o.guard = none) (x : Operand) (ho : o.op = .load 106 x)
 (hx : a.eval x = .pointer (some ⟨g, 0, none⟩)) (h : wpListIn F n Tryz.prog ops Q rest (a.put o.dst (.agg (bytesA l))) w) : wpListIn F n Tryz.prog ops Q (o :: rest) a w := by
 refine wpListIn_plain hgd fun K hK' => ?_
 unfold Oper.wpIn
 refine ⟨by simp [Oper.about, ho], ?_⟩
 rw [Oper.semAt_plain F _ _ (by rw [ho]; intro c hc; cases hc)]
 unfold execOp
 simp only [ho, hx, Instr.loadAt, Instr.sureAddr, Sem.run_bind, Sem.run_pure, Result.andThen_ok, run_loadVar_row w g _ 106 _ _ _ hg Tryz.underlying106 rfl (info_page' _ hl)]
 exact hK' _ _ h
theorem store_pageIn {l z : List UInt8} {g : Nat} (hl : l.length = 512) (hz : z.length = 512) (hg : w.heap[g]? = some (.cells (bytesA z) 106 (0, 0))) (hgd : o.guard = none) (x y : Operand) (ho : o.op = .store 106 x y)
 (hx : a.eval x = .pointer (some ⟨g, 0, none⟩)) (hy : a.eval y = .agg (bytesA l)) (h : wpListIn F n Tryz.prog ops Q rest (a.put o.dst undef) (w.setRow g (bytesA l))) : wpListIn F n Tryz.prog ops Q (o :: rest) a w := by
 refine wpListIn_plain hgd fun K hK' => ?_
 unfold Oper.wpIn
 refine ⟨by simp [Oper.about, ho], ?_⟩
 rw [Oper.semAt_plain F _ _ (by rw [ho]; intro c hc; cases hc)]
 unfold execOp
 simp only [ho, hx, hy, Instr.storeAt, Instr.sureAddr, Sem.run_bind, Sem.run_pure, Result.andThen_ok, run_storeVar_row w g _ 106 _ _ hg (info_page' _ hl) (by rw [size_bytesA, size_bytesA, hl, hz]) (oneCell_bytesA _)]
 exact hK' _ _ h
theorem store_page_newIn {l z : List UInt8} (hl : l.length = 512) (hz : z.length = 512) (hgd : o.guard = none) (x y : Operand) (ho : o.op = .store 106 x y)
 (hx : a.eval x = .pointer (some ⟨w.heap.size, 0, none⟩)) (hy : a.eval y = .agg (bytesA l)) (h : wpListIn F n Tryz.prog ops Q rest (a.put o.dst undef) (w.alloc (.cells (bytesA l) 106))) :
 wpListIn F n Tryz.prog ops Q (o :: rest) a (w.alloc (.cells (bytesA z) 106)) := by
 refine store_pageIn hl hz (heap_alloc_new w _) hgd x y ho hx hy ?_
 rw [World.setRow_alloc_new]
 exact h
end
noncomputable def markRest : Code := match Tryz.f40.body with
 | some (.seq _ (.seq _ z)) => z
 | _ => .skip
theorem mark_tail {w0 : World} {bt cap nb : Nat} {bits : List UInt8} (hnb : bits.length = nb) (h1 : 1 ≤ nb) (h4 : nb ≤ 400) (hcap : nb ≤ cap) (hlt : bt < w0.heap.size) (hby : ∀ j c, bits[j]? = some c → w0.cell? ⟨bt, 0 + j, none⟩ = some (.int .u8 c.toNat)) (u0 u2 u3 u4 u5 u6 u7 u8 u9 u10 u11 u12 u13 u14 u15 u16 u17 u18 u19 u20 u21 u22 u23 u24 u25 u26 u27 u28 u29 u30 u31 u32 u33 u34 u35 u36 u37 u38 u39 u40 u41 u42 u43 u44 : Value) {Rw : Ending → World → Prop}
 (hw : ∀ w1, Below w0.heap.size w0 w1 → Calls Tryz.prog 41 #[u0, .int .i64 0, .agg (bytesA (addL (newL 255) bits).1)] w1 fun e w' => ∃ v, e = .returned v ∧ ∀ D, w0.heap.size ≤ D → w1.heap[D]? = some (.deferred (some [])) → w'.heap[D]? = some (.deferred (some [])) ∧ ∀ o, Rw (.returned (.tuple #[])) (w'.putObj D o)) :
 markRest.wpIn Fence.wide 10 Tryz.prog (bodyPostM Fence.wide 10 Tryz.prog Tryz.f40 Rw) { tmps := #[u0, .slice (some ⟨bt, 0, none⟩) nb cap, u2, u3, u4, u5, u6, u7, u8, u9, u10, u11, u12, u13, u14, u15, u16, u17, u18, u19, u20, u21, u22, u23, u24, u25, u26, u27, u28, u29, u30, u31, u32, u33, u34, u35, u36, u37, u38, u39, u40, u41, u42, u43, u44], defers := [] } w0 := by
 have hl0 := length_newL 255
 have hz := zero_page
 obtain ⟨Qm, hQm⟩ : ∃ Q, Q = bodyPostM Fence.wide 10 Tryz.prog Tryz.f40 Rw := ⟨_, rfl⟩
 rw [← hQm]
 unfold markRest Tryz.f40
 dsimp only
 gi_wp2_with (first | (refine ⟨trivial, ?_⟩; gi_at_call 42; refine (callsIn_wide.2 (new_any 255 _)).mono ?_; rintro e w1 ⟨rfl, hb1⟩) | (refine store_page_newIn hl0 length_zeroPage rfl _ _ rfl rfl rfl ?_) | (refine ⟨trivial, ?_⟩; gi_at_call 77; refine (chunk_in Fence.wide _ trivial rfl _ _ _ _).mono ?_; rintro e w2 ⟨rfl, rfl⟩))
 have hlp : (addL (newL 255) bits).1.length = 512 := length_addL _ _
 obtain ⟨w2, hw2⟩ : ∃ w2, w2 = ((w1.alloc (.cells (bytesA (newL 255)) 106)).alloc (.cells #[.slice (some ⟨bt, 0, none⟩) nb cap] 35)).alloc (.cells #[.int .i64 400] 3) := ⟨_, rfl⟩
 have hs2 : w2.heap.size = w1.heap.size + 3 := by rw [hw2]; simp
 have hb2 : Below w0.heap.size w0 w2 := by rw [hw2]; exact ((hb1.alloc hb1.size _).alloc (by have := hb1.size; simp; omega) _).alloc (by have := hb1.size; simp; omega) _
 have hpg : w2.heap[w1.heap.size]? = some (.cells (bytesA (newL 255)) 106 (0, 0)) := by
  rw [hw2]; exact heap_alloc_lt _ (heap_alloc_lt _ (heap_alloc_new _ _))
 have hbx : w2.cell? ⟨w1.heap.size + 1, 0, none⟩ = some (.slice (some ⟨bt, 0, none⟩) nb cap) := by
  have : w2.heap[w1.heap.size + 1]? = some (.cells #[.slice (some ⟨bt, 0, none⟩) nb cap] 35 (0, 0)) := by
   rw [hw2]; refine heap_alloc_lt _ ?_
   have := heap_alloc_new (w1.alloc (.cells (bytesA (newL 255)) 106)) (.cells #[.slice (some ⟨bt, 0, none⟩) nb cap] 35)
   rwa [World.size_alloc] at this
  simp [World.cell?, this]
 have hbn : w2.cell? ⟨w1.heap.size + 1 + 1, 0, none⟩ = some (.int .i64 400) := by
  have : w2.heap[w1.heap.size + 1 + 1]? = some (.cells #[.int .i64 400] 3 (0, 0)) := by
   rw [hw2]
   have := heap_alloc_new ((w1.alloc (.cells (bytesA (newL 255)) 106)).alloc (.cells #[.slice (some ⟨bt, 0, none⟩) nb cap] 35)) (.cells #[.int .i64 400] 3)
   rwa [World.size_alloc, World.size_alloc] at this
  simp [World.cell?, this]
 rw [← hw2]
 have hs1 := hb1.size
 have hpage : ∀ (B : World) (W : World) (row : Option Nat) (l : List UInt8), W.heap[w1.heap.size]? = some (.cells (bytesA l) 106 (0, 0)) → W.grownBy B row → (∀ r, row = some r → w2.heap.size ≤ r ∧ ∃ o : Obj, W.heap[r]? = some o ∧ o.isCells = false) → B.heap[w1.heap.size]? = some (.cells (bytesA l) 106 (0, 0)) := fun B W row l h hg hr =>
  (hg.block _ (Array.getElem?_eq_some_iff.1 h).1 (fun e => by have := (hr _ e.symm).1; omega)).trans h
 refine wpIn_rangeFunc_ownF rfl (by omega) (gf := 105) (lb := #[.pointer (some ⟨w1.heap.size + 1, 0, none⟩), .pointer (some ⟨w1.heap.size + 1 + 1, 0, none⟩)]) rfl trivial (enters_of Tryz.func105 (by kernel_rfl) rfl)
  (chunk_stops Fence.wide _ trivial rfl (by omega) (w1.heap.size + 1) (w1.heap.size + 1 + 1) bt nb cap h1 h4 hcap w2 (by omega) (by omega) hbx hbn)
  (fun h k => ⟨fun e => k.1 (h.1 e), fun e => k.2 (h.2 e)⟩)
  (fun W l o o' hl ho hc hw => ⟨fun e => (World.cell?_of_block (World.putObj_heap_other (by show w1.heap.size + 1 ≠ l; omega))).trans e, fun e => (World.cell?_of_block (World.putObj_heap_other (by show w1.heap.size + 1 + 1 ≠ l; omega))).trans e⟩)
  (Below.refl _ _) (fun _ => rfl)
  (fun pre W => W.heap[w1.heap.size]? = some (.cells (bytesA (if pre = [] then newL 255 else (addL (newL 255) bits).1)) 106 (0, 0)) ∧ Below w0.heap.size w0 W ∧ w2.heap.size ≤ W.heap.size)
  (fun _ _ _ => False)
  (OwnFrom.and (fun pre W B row h hg hr => hpage B W row _ h hg hr) (OwnFrom.and (ownFrom_below (Nat.le_refl _) (by omega)) (fun pre W B row h hg hr => Nat.le_trans h hg.size)))
  (fun _ _ _ _ _ h _ _ => h)
  ⟨by simpa using hpg, hb2, Nat.le_refl _⟩
  (fun _ => { tmps := #[u0, .slice (some ⟨bt, 0, none⟩) nb cap, u2, u3, u4, u5, u6, u7, .pointer (some ⟨w1.heap.size, 0, none⟩), .slice (some ⟨bt, 0, none⟩) nb nb, u10, u11, u12, u13, u14, u15, u16, u17, u18, u19, u20, u21, u22, u23, u24, u25, u26, u27, u28, u29, u30, .agg (bytesA (newL 255)), .slice (some ⟨bt, 0, none⟩) nb cap, .func (.func 105) #[] #[.pointer (some ⟨w1.heap.size + 1, 0, none⟩), .pointer (some ⟨w1.heap.size + 1 + 1, 0, none⟩)], .slice (some ⟨bt, 0, none⟩) nb nb, u35, u36, u37, u38, u39, u40, u41, u42, u43, u44], defers := [] }) ?assign ?body ?done ?stop
 case assign =>
  intro l x W K hK
  gi_wp2
  exact hK
 case body =>
  rintro l pre x W ⟨hpW, hbW, hWs⟩ hlen
  have hpre : pre = [] := by cases pre with | nil => rfl | cons _ _ => simp at hlen
  subst hpre
  simp only [if_true] at hpW
  have hby' : ByteS W (.slice (some ⟨bt, 0, none⟩) nb nb) bits := by
   subst hnb
   exact bytes_of_cells fun j c hc => (hbW.cell (p := ⟨bt, 0 + j, none⟩) hlt).trans (hby j c hc)
  gi_wp2_with (first | (refine load_pageIn hl0 hpW rfl _ rfl rfl ?_) | (refine ⟨trivial, ?_⟩; gi_at_call 78; refine (CallsIn.inRound l (callsIn_wide.2 (add_any (newL 255) bits _ _ hl0 hby' (by omega)))).mono ?_; rintro e W3 ⟨rfl, hb3⟩) | (refine store_pageIn hlp hl0 ((hb3.block _ (Array.getElem?_eq_some_iff.1 hpW).1).trans hpW) rfl _ _ rfl rfl rfl ?_))
  have hp3 : W3.heap[w1.heap.size]? = some (.cells (bytesA (newL 255)) 106 (0, 0)) := (hb3.block _ (Array.getElem?_eq_some_iff.1 hpW).1).trans hpW
  have hk : ∀ k, k < W.heap.size → k ≠ w1.heap.size → (W3.setRow w1.heap.size (bytesA (addL (newL 255) bits).1)).heap[k]? = W.heap[k]? := fun k h1 h2 => (setRow_other _ _ _ _ h2).trans (hb3.block k h1)
  refine ⟨⟨by simpa using hb3.size, fun k o hk' ho => ?_⟩, ⟨fun e => ?_, fun e => ?_⟩, ?_, ?_, by have := hb3.size; simp; omega⟩
  ·have hne : k ≠ w1.heap.size := fun e => by subst e; rw [hpW] at hk'; cases hk'; simp [Obj.isCells] at ho
   exact (hk k (Array.getElem?_eq_some_iff.1 hk').1 hne).trans hk'
  ·exact (World.cell?_of_block (hk _ (by show w1.heap.size + 1 < _; omega) (by show w1.heap.size + 1 ≠ _; omega))).trans e
  ·exact (World.cell?_of_block (hk _ (by show w1.heap.size + 1 + 1 < _; omega) (by show w1.heap.size + 1 + 1 ≠ _; omega))).trans e
  ·simpa using setRow_heap _ _ _ _ _ _ hp3
  ·exact below_setRow (hbW.trans (hb3.mono hbW.size)) hs1 _
 case done =>
  rintro D ys W hD rfl ⟨hpW, hbW, hWs⟩ hK
  have hpW' : W.heap[w1.heap.size]? = some (.cells (bytesA (addL (newL 255) bits).1) 106 (0, 0)) := by simpa using hpW
  gi_wp2_with (first | (refine load_pageIn hlp hpW' rfl _ rfl rfl ?_) | (refine ⟨trivial, ?_⟩; gi_at_call 41; refine (callsIn_wide.2 (hw W hbW)).mono ?_; rintro e W3 ⟨v, rfl, hv⟩))
  rw [hQm]
  obtain ⟨hK3, hR⟩ := hv D (by have := hb2.size; omega) hK
  refine ⟨by simp, .inl ⟨_, _, rfl, run_takeDeferred hK3, ?_⟩⟩
  exact ⟨_, results_none rfl _ _ _, hR _⟩
 case stop =>
  rintro D c pre W _ _ h _
  exact h.elim
end Go.Proofs.YtockimhceppkbaaGreat
