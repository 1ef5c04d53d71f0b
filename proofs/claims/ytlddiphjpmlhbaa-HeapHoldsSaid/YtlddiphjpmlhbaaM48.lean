/- HeapHolds. The law of heaps beside a plain list. -/
import Derived.Test.YtlddiphjpmlhbaaM47
set_option linter.unusedSimpArgs false
set_option linter.unusedVariables false
set_option linter.defProp false
set_option maxRecDepth 100000
set_option maxHeartbeats 32000000
namespace Go.Proofs.Ytlddiphjpmlhbaa
open Go.RowKit
def pl5_20Hv6 : Plan := (.det 0 (.det 1 (.det 2 (.det 3 (.det 4 (.det 5 (.det 6 (.det 7 (.fin 8 (.det 9 .done))))))))))
def tHv6 := aa wX <| aa wbu <| aa T3 <| aa T4 <| aa T25 <| aa T26 <| aa T29 <| aa T31 <| aa T40 <| aa T54 <| aa T55 <| aa T56 <| aa T58 <| aa T59 <| aa T61 T105
theorem TwoS.fr {σ s : St} {b p dd l kh b' p' dd' l' kh' x y o1 o2 : Nat} {U K K' H1 H2 : Nat → Prop} {P P' : PoolV} {v : Nat → List UInt8} {T : Nat → Bool} {ns1 ns2 : List Nat} {es1 es2 : Ents} (h : TwoS σ b p dd l kh x y o1 o2 U H1 H2 P v T ns1 ns2 es1 es2) (hf : Fr σ s K K') (hK : ∀ t, K t → U t) (hb : Bt s b' p' dd' l' kh' K' P' v) (hpg : P'.pages = P.pages) : TwoS s b' p' dd' l' kh' x y o1 o2 K' H1 H2 P' v T ns1 ns2 es1 es2 :=
 h.move hb hpg (fun t ht => hf.keep t (h.lt t (.inr ht)) fun e => ht.elim (h.a.dj t (hK t e)) (h.b.dj t (hK t e))) fun t a c => (hf.own t a).elim (fun e => c.elim (h.a.dj t (hK t e)) (h.b.dj t (hK t e))) fun e => by have := h.lt t (.inr c); omega
theorem aheapHolds (fr : Int) (ops : List OpV) (hops : ops.length ≤ 140737488351232) (hrec : ∀ op ∈ ops, op.2.2.2.length ≤ 140737488351232) (σ : St) : ACalls Try.prog 5 [intV .i64 fr, .p (.sl 4 (ops.map opR))] σ fun r σ' => r = boolV true := by
 obtain ⟨kk, hkk⟩ : ∃ kk : Nat, IntKind.u64.wrap fr = (kk : Int) := ⟨(IntKind.u64.wrap fr).toNat, by rw [IntKind.wrap_u64]; omega⟩
 have hm5 : (kk : Int).tmod 5 = ((kk % 5 : Nat) : Int) := by rw [Int.tmod_eq_emod_of_nonneg (by omega)]; omega
 have hu5 : IntKind.u64.wrap ((kk % 5 : Nat) : Int) = ((kk % 5 : Nat) : Int) := IntKind.wrap_u64 _ ▸ (by omega)
 have hw5 : IntKind.i64.wrap ((kk % 5 : Nat) : Int) = ((kk % 5 : Nat) : Int) := wrap_i64 (by omega) (by omega)
 have hw6 := wI (kk % 5) (by omega)
 refine acalls_of cx_ok dr_ok Try.func5 (by kernel_rfl) rfl (nt := 140) (rs := [.tmp 4]) rfl rfl ?_
 repeat' first | ((with_reducible first | refine cs ?_ ?_ | refine ws ?_ ?_ | refine wd ?_ ?_ | refine wu ?_ ?_) <;> intro h <;> try simp only [h]) | simp only [↓wBA, tHv6, convA, seval, pl5_20Hv6, wH] | ((with_reducible show ACalls _ _ _ _ _); refine (aawake6 _).mono ?_; rintro _ s0 ⟨a0, rfl⟩) | (with_reducible refine dP pl5_20Hv6 10 (some 85) (by decide) (by kernel_rfl) ?_)
 refine (adnew 1600 (by omega) _).mono ?_
 rintro _ s1 ⟨dd, Fd, rfl, a1, hd, hFd⟩
 repeat' first | ((with_reducible first | refine cs ?_ ?_ | refine ws ?_ ?_ | refine wd ?_ ?_ | refine wu ?_ ?_) <;> intro h <;> try simp only [h]) | simp only [↓wBA, tHv6, convA, seval, pl5_20Hv6, wH] | (with_reducible refine dP pl5_20Hv6 10 (some 85) (by decide) (by kernel_rfl) ?_)
 refine (adnew 8000 (by omega) _).mono ?_
 rintro _ s2 ⟨dl, Fl, rfl, a2, hl, hFl⟩
 have hd2 := hd.ap a2
 have b0 := a0.len; have b1 := a1.len; have b2 := a2.len
 repeat' first | ((with_reducible first | refine cs ?_ ?_ | refine ws ?_ ?_ | refine wd ?_ ?_ | refine wu ?_ ?_) <;> intro h <;> try simp only [h]) | simp only [↓wBA, tHv6, convA, seval, pl5_20Hv6, wH, hkk, hm5, hu5, hw5, hw6] | (with_reducible refine dP pl5_20Hv6 10 (some 85) (by decide) (by kernel_rfl) ?_)
 refine (aopenN2 hd2 hl (fun t h1 h2 => by have := hd.lt t h1; have := hFl t h2; omega) (by omega) (by omega) (kk % 5 + 1) (by omega) (by omega)).mono ?_
 rintro _ s3 ⟨p, l, kh, G, P, rfl, a3, hP, p1, p2, p3, p4, p5, p6, p7, p8, p9⟩
 have hpg : P.pages = 200 := by rw [p1]; rfl
 have b3 := a3.len
 clear hd hd2 hl
 have hbud : Bud P 50000000 := ⟨by omega, by omega, by omega⟩
 repeat' first | ((with_reducible first | refine cs ?_ ?_ | refine ws ?_ ?_ | refine wd ?_ ?_ | refine wu ?_ ?_) <;> intro h <;> try simp only [h]) | simp only [↓wBA, tHv6, convA, seval, pl5_20Hv6, wH] | ((with_reducible show ACalls _ _ _ _ _); refine (abBatch hP).mono ?_; rintro _ s4 ⟨rfl, a4, h4⟩) | (with_reducible refine dP pl5_20Hv6 10 (some 85) (by decide) (by kernel_rfl) ?_)
 have b4 := a4.len
 refine (amake (T := fun n => n == 0) h4 (by rw [p8]; exact tk_new (by omega)) (by omega) (by omega) rfl (hbud.mono (by omega))).mono ?_
 rintro r s5 ⟨U5, P5, v5, f5, h5, k5, hc⟩
 rcases hc with ⟨x, x1, x2, hTx, rfl, hpx, hvo5, hTk5⟩ | ⟨hall, _, _⟩
 rotate_left
 ·exact absurd (hall 1 (by omega)) (by decide)
 have b5 := f5.len
 have hpg5 := k5.pages
 repeat' first | ((with_reducible first | refine cs ?_ ?_ | refine ws ?_ ?_ | refine wd ?_ ?_ | refine wu ?_ ?_) <;> intro h <;> try simp only [h]) | simp only [↓wBA, tHv6, convA, seval, pl5_20Hv6, wH] | (with_reducible refine dP pl5_20Hv6 10 (some 85) (by decide) (by kernel_rfl) ?_)
 have ht0 : updT (fun n => n == 0) x true 0 = true := by unfold updT; rw [if_neg (by omega)]; rfl
 have cn0 : cnt (updT (fun n => n == 0) x true) 200 = 2 := by rw [cnt_true (T := fun n => n == 0) (k := x) hTx 200 (by omega), cnt_one _ (by omega)]
 refine (amake (T := updT (fun n => n == 0) x true) h5 (by rw [hpg5]; exact hTk5) (by omega) (by omega) ht0 (hbud.kp k5 (by omega))).mono ?_
 rintro r s6 ⟨U6, P6, v6, f6, h6, k6, hc⟩
 rcases hc with ⟨y, y1, y2, hTy, rfl, hpy, hvo6, hTk6⟩ | ⟨hall, _, _⟩
 rotate_left
 ·exfalso
  have := cnt_all (T := updT (fun n => n == 0) x true) 200 fun a ha => hall a (by omega)
  omega
 have b6 := f6.len
 have hpg6 := k6.pages
 have hxy : x ≠ y := fun e => by subst e; simp [updT] at hTy
 have bxy : ((x : Int) == (y : Int)) = false := by simp; omega
 repeat' first | ((with_reducible first | refine cs ?_ ?_ | refine ws ?_ ?_ | refine wd ?_ ?_ | refine wu ?_ ?_) <;> intro h <;> try simp only [h]) | simp only [↓wBA, tHv6, convA, seval, pl5_20Hv6, wH, bxy] | (with_reducible refine dP pl5_20Hv6 10 (some 85) (by decide) (by kernel_rfl) ?_)
 obtain ⟨hhx, hrx⟩ := Heap.one (v := v6) (T := updT (updT (fun n => n == 0) x true) y true) (m := x) (np := 200) x1 (by omega) (by simp [updT]) (by rw [hvo6 x hxy (by omega)]; exact hpx)
 obtain ⟨hhy, hry⟩ := Heap.one (v := v6) (T := updT (updT (fun n => n == 0) x true) y true) (m := y) (np := 200) y1 (by omega) (by simp [updT]) hpy
 have ht6 : updT (updT (fun n => n == 0) x true) y true 0 = true := by unfold updT; rw [if_neg (by omega)]; exact ht0
 have cn6 : cnt (updT (updT (fun n => n == 0) x true) y true) 200 = 3 := by rw [cnt_true hTy 200 (by omega), cn0]
 have hpgE : P6.pages = 200 := by rw [hpg6, hpg5, hpg]
 have hTk7 : Tk (v6 0) 200 (updT (updT (fun n => n == 0) x true) y true) := by rw [hpg5, hpg] at hTk6; exact hTk6
 generalize updT (updT (fun n => n == 0) x true) y true = T6 at *
 obtain ⟨S, hS⟩ : ∃ S, S = s6 ++ [some (.row 2 [[.p (.v (.int .i64 (x : Nat))), .p (.v (.int .i64 (y : Nat)))]])] ++ [some (.row 2 [[.p (.v (.slice none 0 0)), .p (.v (.slice none 0 0))]])] ++ [some (.row 2 [[.p (.v (.slice none 0 0)), .p (.v (.slice none 0 0))]])] ++ [some (.row 2 [[.mp (s6.length + 1) 2 0 0, .mp (s6.length + 2) 2 0 0]])] := ⟨_, rfl⟩
 rw [← hS]
 have aS : Ap s6 S := by rw [hS]; exact (((Ap.app _ _).more _).more _).more _
 have lS : S.length = s6.length + 4 := by rw [hS]; simp
 have hF0 : S[s6.length]? = some (some (.row 2 [[.p (.v (.int .i64 (x : Nat))), .p (.v (.int .i64 (y : Nat)))]])) := by rw [hS]; simp
 have hL0 : S[s6.length + 3]? = some (some (.row 2 [[.mp (s6.length + 1) 2 0 0, .mp (s6.length + 2) 2 0 0]])) := by rw [hS]; simp
 have hr1 : S[s6.length + 1]? = some (some (.row 2 [[.p (.v (.slice none 0 0)), .p (.v (.slice none 0 0))]])) := by rw [hS]; simp
 have hr2 : S[s6.length + 2]? = some (some (.row 2 [[.p (.v (.slice none 0 0)), .p (.v (.slice none 0 0))]])) := by rw [hS]; simp
 have hU6lt := h6.lt
 have href : ∀ o, S[o]? = some (some (.row 2 [[.p (.v (.slice none 0 0)), .p (.v (.slice none 0 0))]])) → HRef S o (fun t => t = o) [] := fun o ho => ⟨_, _, ⟨ho, .inl ⟨rfl, rfl⟩, .inl ⟨rfl, rfl⟩⟩, fun t => by simp [ownOf, msOf]⟩
 have hpgd := k6.ls.trans k5.ls
 have hTwo : TwoS S s3.length p dd l kh x y (s6.length + 1) (s6.length + 2) U6 (fun t => t = s6.length + 1) (fun t => t = s6.length + 2) P6 v6 T6 [x] [y] [] [] :=
  ⟨⟨h6.ap aS, by rw [hpgE]; exact hTk7, ht6, by rw [hpgE]; exact hhx, rfl, href _ hr1, fun t a b => by have := hU6lt t a; omega, ⟨fun n k r => by rw [hrx]; simp, by simp⟩⟩, ⟨h6.ap aS, by rw [hpgE]; exact hTk7, ht6, by rw [hpgE]; exact hhy, rfl, href _ hr2, fun t a b => by have := hU6lt t a; omega, ⟨fun n k r => by rw [hry]; simp, by simp⟩⟩, fun t a b => by omega, by simp; exact hxy⟩
 have hbud6 : Bud P6 45000000 := (hbud.kp k5 (k := 48000000) (by omega)).kp k6 (by omega)
 have kd1 : P6.log.disk.size = 8000 := by rw [hpgd]; exact p3
 have kd2 : P6.log.d = dl := by rw [k6.ld, k5.ld]; exact p4
 obtain ⟨F, hFe⟩ : ∃ F, s6.length = F := ⟨_, rfl⟩
 simp only [hFe] at hTwo hF0 hL0 lS hU6lt ⊢
 clear h6 h5 h4 hP k5 k6 f5 f6 hpx hpy hvo5 hvo6 hTk5 hTk6 hrx hry hhx hhy hTx hTy cn0
 refine awp_loopS (X := { q : Nat × Nat × Nat // q.1 ≤ 60 ∧ q.1 ≤ ops.length }) (fun q => 60 - q.1.1) (fun q => [(7, .mp q.1.2.1 6 0 0), (9, .mp q.1.2.2 2 0 0), (15, intV .i64 (q.1.1 : Nat))]) [4, 8, 16, 17, 66, 67, 68, 69, 70, 71, 72, 73, 74, 75, 76, 77, 78, 79, 80, 81, 82, 83, 84, 85, 86, 87, 88, 89, 90, 91, 92, 93, 94, 95, 96, 97, 98, 99, 100, 101, 102, 103, 104, 105, 106, 107, 108, 109, 110, 111, 112, 113, 114, 115, 116, 117, 118, 119, 120, 121, 122, 123, 124, 125, 126, 127, 128, 129, 130, 131, 132, 133, 134, 135, 136, 137, 138, 139, 140, 141] (fun q s => S.length ≤ s.length ∧ ∃ l kh U H1 H2 P v T ns1 ns2 es1 es2, TwoS s q.1.2.2 q.1.2.1 dd l kh x y (F + 1) (F + 2) U H1 H2 P v T ns1 ns2 es1 es2 ∧ s[F]? = some (some (.row 2 [[.p (.v (.int .i64 (x : Nat))), .p (.v (.int .i64 (y : Nat)))]])) ∧ s[F + 3]? = some (some (.row 2 [[.mp (F + 1) 2 0 0, .mp (F + 2) 2 0 0]])) ∧ (∀ t, t = F ∨ t = F + 3 → ¬ (U t ∨ H1 t ∨ H2 t)) ∧ es1.length ≤ q.1.1 ∧ es2.length ≤ q.1.1 ∧ ns1.length ≤ q.1.1 + 1 ∧ ns2.length ≤ q.1.1 + 1 ∧ cnt T 200 ≤ q.1.1 + 3 ∧ P.pages = 200 ∧ Bud P (45000000 - 600000 * q.1.1) ∧ P.log.disk.size = 8000 ∧ P.log.d = dl) (⟨(0, p, s3.length), by omega, by omega⟩) ?_ ?_ ?_ ?_
 ·simp only [wHl, wHf]
 ·exact ⟨Nat.le_refl _, l, kh, U6, _, _, P6, v6, T6, [x], [y], [], [], hTwo, hF0, hL0, fun t ht e => by rcases e with e | e | e; (have := hU6lt t e; omega); omega; omega, by simp, by simp, by simp, by simp, by omega, hpgE, hbud6, kd1, kd2⟩
 ·rintro _ _ ⟨h, _⟩; exact h
 ·intro y0 J q hI
  clear hTwo hF0 hL0 hr1 hr2 href aS hbud6 kd1 kd2 hTk7 ht6 cn6 hS
  simp only [wHl]
  obtain ⟨⟨i, pp, bb⟩, hi, hi2⟩ := y0
  obtain ⟨hq, l1, kh1, U1, H1, H2, P1, v1, T1, ns1, ns2, es1, es2, hT, hFr, hLr, hno, he1, he2, hn1, hn2, hcn, hpg1, hb1, kd1, kd2⟩ := hI
  dsimp only at *
  by_cases hlt : i < 60 ∧ i < ops.length
  ·have e1 := dT (i := i) (n := ops.length) hlt.2
   have e2 : decide ((i : Int) < 60) = true := by simp; omega
   obtain ⟨⟨kd, on, nn, rr⟩, hop⟩ : ∃ op, ops[i]? = some op := ⟨ops[i]'hlt.2, by simp [hlt.2]⟩
   have hget : (ops.map opR)[i]? = some [.v (.int .i64 kd), .v (.int .i64 on), .v (.int .i64 nn), .sl 1 (encB rr)] := by simp [hop, opR]
   have hrl := hrec _ (List.mem_of_getElem? hop)
   dsimp only at hrl
   have u1 := nnI i
   have u2 : ((i : Int) < (ops.length : Int)) = True := eq_true (by omega)
   have hwi := wI i (by omega)
   obtain ⟨ko, hko⟩ : ∃ ko : Nat, IntKind.u64.wrap on = (ko : Int) := ⟨(IntKind.u64.wrap on).toNat, by rw [IntKind.wrap_u64]; omega⟩
   have hko2 : (ko : Int).tmod 2 = ((ko % 2 : Nat) : Int) := by rw [Int.tmod_eq_emod_of_nonneg (by omega)]; omega
   have hT' := hT.ap (Ap.app q [some (.row 4 [[.p (.v (.int .i64 kd)), .p (.v (.int .i64 on)), .p (.v (.int .i64 nn)), .p (.sl 1 (encB rr))]])])
   have yF := at_lt hFr
   have yL := at_lt hLr
   have n1 : (F = q.length) = False := nf (by omega)
   have n2 : (q.length = F) = False := nf (by omega)
   have n3 : (F + 3 = q.length) = False := nf (by omega)
   have n4 : (q.length = F + 3) = False := nf (by omega)
   have n5 : (F = F + 3) = False := nf (by omega)
   have n6 : (F + 3 = F) = False := nf (by omega)
   have hnoA : ∀ t, t = F ∨ t = F + 3 ∨ t = q.length → ¬ (U1 t ∨ H1 t ∨ H2 t) := fun t ht e => by
    rcases ht with ht | ht | ht
    ·exact hno t (.inl ht) e
    ·exact hno t (.inr ht) e
    ·have := hT.lt t e; omega
   have hm2 : ko % 2 = 0 ∨ ko % 2 = 1 := by omega
   rcases hm2 with hm2 | hm2
   case' inl =>
    have hw2 : IntKind.i64.wrap ((ko % 2 : Nat) : Int) = 0 := by rw [hm2]; rfl
    repeat' first | ((with_reducible first | refine cs ?_ ?_ | refine ws ?_ ?_ | refine wd ?_ ?_ | refine wu ?_ ?_) <;> intro h <;> try simp only [h]) | simp only [↓wBA, tHv6, convA, seval, pl5_20Hv6, wH, wHl, e1, e2, List.length_map, hget, u1, u2, Int.toNat_natCast, hko, hko2, hw2, hFr, hLr, yF, yL, n1, n2, n3, n4, n5, n6] | (with_reducible refine dP pl5_20Hv6 10 (some 85) (by decide) (by kernel_rfl) ?_)
    refine (aone hT'.a kd on nn rr hrl (by omega) (by omega) (by rw [hpg1]; omega) (hb1.mono (by omega))).mono ?_
    rintro _ s7 ⟨rfl, U2, H1', P2, v2, T2, ns1', es1', f7, h7, o7⟩
    have l7 := f7.len
    simp only [List.length_append, List.length_cons, List.length_nil] at l7
    have k7 := o7.kp
    have o7l := o7.len
    have o7n := o7.ln
    have o7c := o7.cn
    rw [hpg1] at o7c
    have hF7 := f7.get (t := F) (x := some (.row 2 [[.p (.v (.int .i64 (x : Nat))), .p (.v (.int .i64 (y : Nat)))]])) (by rw [List.getElem?_append_left yF]; exact hFr) (fun e => hno F (.inl rfl) (e.elim .inl fun e => .inr (.inl e)))
    have hL7 := f7.get (t := F + 3) (x := some (.row 2 [[.mp (F + 1) 2 0 0, .mp (F + 2) 2 0 0]])) (by rw [List.getElem?_append_left yL]; exact hLr) (fun e => hno (F + 3) (.inr rfl) (e.elim .inl fun e => .inr (.inl e)))
    have op7 := f7.get (t := q.length) (x := some (.row 4 [[.p (.v (.int .i64 kd)), .p (.v (.int .i64 on)), .p (.v (.int .i64 nn)), .p (.sl 1 (encB rr))]])) (by simp) (fun e => Nat.lt_irrefl q.length (e.elim (fun e => hT.lt _ (.inl e)) fun e => hT.lt _ (.inr (.inl e))))
    have yF7 := at_lt hF7
    have yL7 := at_lt hL7
    have opl7 := at_lt op7
    obtain ⟨H1n, H2n, ns1n, ns2n, es1n, es2n, hT7, hno7, hc1, hc2, hc3, hc4, hc5⟩ : ∃ H1n H2n ns1n ns2n es1n es2n, TwoS s7 bb pp dd l1 kh1 x y (F + 1) (F + 2) U2 H1n H2n P2 v2 T2 ns1n ns2n es1n es2n ∧ (∀ t, t = F ∨ t = F + 3 ∨ t = q.length → ¬ (U2 t ∨ H1n t ∨ H2n t)) ∧ es1n.length ≤ i + 1 ∧ es2n.length ≤ i + 1 ∧ ns1n.length ≤ i + 2 ∧ ns2n.length ≤ i + 2 ∧ cnt T2 200 ≤ i + 4 := by
     refine ⟨H1', H2, ns1', ns2, es1', es2, hT'.one f7 h7 o7, fun t ht e => ?_, by omega, by omega, by omega, by omega, by omega⟩
     rcases e with e | e | e
     ·exact (f7.own t (.inl e)).elim (fun e => hnoA t ht (e.elim .inl fun e => .inr (.inl e))) fun e => by rcases ht with rfl | rfl | rfl <;> (simp only [List.length_append, List.length_cons, List.length_nil] at e; omega)
     ·exact (f7.own t (.inr e)).elim (fun e => hnoA t ht (e.elim .inl fun e => .inr (.inl e))) fun e => by rcases ht with rfl | rfl | rfl <;> (simp only [List.length_append, List.length_cons, List.length_nil] at e; omega)
     ·exact hnoA t ht (.inr (.inr e))
   case' inr =>
    have hw2 : IntKind.i64.wrap ((ko % 2 : Nat) : Int) = 1 := by rw [hm2]; rfl
    repeat' first | ((with_reducible first | refine cs ?_ ?_ | refine ws ?_ ?_ | refine wd ?_ ?_ | refine wu ?_ ?_) <;> intro h <;> try simp only [h]) | simp only [↓wBA, tHv6, convA, seval, pl5_20Hv6, wH, wHl, e1, e2, List.length_map, hget, u1, u2, Int.toNat_natCast, hko, hko2, hw2, hFr, hLr, yF, yL, n1, n2, n3, n4, n5, n6] | (with_reducible refine dP pl5_20Hv6 10 (some 85) (by decide) (by kernel_rfl) ?_)
    refine (aone hT'.b kd on nn rr hrl (by omega) (by omega) (by rw [hpg1]; omega) (hb1.mono (by omega))).mono ?_
    rintro _ s7 ⟨rfl, U2, H1', P2, v2, T2, ns1', es1', f7, h7, o7⟩
    have l7 := f7.len
    simp only [List.length_append, List.length_cons, List.length_nil] at l7
    have k7 := o7.kp
    have o7l := o7.len
    have o7n := o7.ln
    have o7c := o7.cn
    rw [hpg1] at o7c
    have hF7 := f7.get (t := F) (x := some (.row 2 [[.p (.v (.int .i64 (x : Nat))), .p (.v (.int .i64 (y : Nat)))]])) (by rw [List.getElem?_append_left yF]; exact hFr) (fun e => hno F (.inl rfl) (e.elim .inl fun e => .inr (.inr e)))
    have hL7 := f7.get (t := F + 3) (x := some (.row 2 [[.mp (F + 1) 2 0 0, .mp (F + 2) 2 0 0]])) (by rw [List.getElem?_append_left yL]; exact hLr) (fun e => hno (F + 3) (.inr rfl) (e.elim .inl fun e => .inr (.inr e)))
    have op7 := f7.get (t := q.length) (x := some (.row 4 [[.p (.v (.int .i64 kd)), .p (.v (.int .i64 on)), .p (.v (.int .i64 nn)), .p (.sl 1 (encB rr))]])) (by simp) (fun e => Nat.lt_irrefl q.length (e.elim (fun e => hT.lt _ (.inl e)) fun e => hT.lt _ (.inr (.inr e))))
    have yF7 := at_lt hF7
    have yL7 := at_lt hL7
    have opl7 := at_lt op7
    obtain ⟨H1n, H2n, ns1n, ns2n, es1n, es2n, hT7, hno7, hc1, hc2, hc3, hc4, hc5⟩ : ∃ H1n H2n ns1n ns2n es1n es2n, TwoS s7 bb pp dd l1 kh1 x y (F + 1) (F + 2) U2 H1n H2n P2 v2 T2 ns1n ns2n es1n es2n ∧ (∀ t, t = F ∨ t = F + 3 ∨ t = q.length → ¬ (U2 t ∨ H1n t ∨ H2n t)) ∧ es1n.length ≤ i + 1 ∧ es2n.length ≤ i + 1 ∧ ns1n.length ≤ i + 2 ∧ ns2n.length ≤ i + 2 ∧ cnt T2 200 ≤ i + 4 := by
     refine ⟨H1, H1', ns1, ns1', es1, es1', (hT'.swap.one f7 h7 o7).swap, fun t ht e => ?_, by omega, by omega, by omega, by omega, by omega⟩
     rcases e with e | e | e
     ·exact (f7.own t (.inl e)).elim (fun e => hnoA t ht (e.elim .inl fun e => .inr (.inr e))) fun e => by rcases ht with rfl | rfl | rfl <;> (simp only [List.length_append, List.length_cons, List.length_nil] at e; omega)
     ·exact hnoA t ht (.inr (.inl e))
     ·exact (f7.own t (.inr e)).elim (fun e => hnoA t ht (e.elim .inl fun e => .inr (.inr e))) fun e => by rcases ht with rfl | rfl | rfl <;> (simp only [List.length_append, List.length_cons, List.length_nil] at e; omega)
   all_goals
    have hpg2 := k7.pages.trans hpg1
    have hb2 := hb1.kp k7 (k := 45000000 - 600000 * i) (by omega)
    have kd3 : P2.log.disk.size = 8000 := by rw [k7.ls]; exact kd1
    have kd4 : P2.log.d = dl := by rw [k7.ld]; exact kd2
    have hkind : kd = 5 ∨ kd = 6 ∨ (kd ≠ 5 ∧ kd ≠ 6) := by omega
    refine Or.elim hkind (fun h5 => ?_) (fun h => Or.elim h (fun h6 => ?_) (fun h56 => ?_))
    focus
     have z5 : (kd == 5) = true := by simp [h5]
     have z6 : (kd == 6) = false := by simp [h5]
     repeat' first | ((with_reducible first | refine cs ?_ ?_ | refine ws ?_ ?_ | refine wd ?_ ?_ | refine wu ?_ ?_) <;> intro h <;> try simp only [h]) | simp only [↓wBA, tHv6, convA, seval, pl5_20Hv6, wH, wHl, op7, opl7, z5, z6] | (with_reducible refine dP pl5_20Hv6 10 (some 85) (by decide) (by kernel_rfl) ?_)
     refine (abDone hT7.a.bt (by rw [hpg2, kd3]; omega) (hb2.mono (by omega))).mono ?_
     rintro _ s9 ⟨rfl, U9, P9, f8, h8, k8⟩
     have l9 := f8.len
     have hT9 := hT7.bt f8 h8 k8.pages
     have hb9 := hb2.kb k8 (k := 45000000 - 600000 * (i + 1)) (by omega)
     have op8 := f8.get op7 (fun e => hno7 _ (.inr (.inr rfl)) (.inl e))
     have opl8 := at_lt op8
     have hF9 := f8.get hF7 (fun e => hno7 _ (.inl rfl) (.inl e))
     have hL9 := f8.get hL7 (fun e => hno7 _ (.inr (.inl rfl)) (.inl e))
     have yF9 := at_lt hF9
     have yL9 := at_lt hL9
     have hno9 : ∀ t, t = F ∨ t = F + 3 → ¬ U9 t := fun t ht e => (f8.own t e).elim (fun e => hno7 t (ht.imp id .inl) (.inl e)) fun e => by rcases ht with rfl | rfl <;> omega
     have hpg9 := k8.pages.trans hpg2
     have kd91 : P9.log.disk.size = 8000 := by rw [k8.ls]; exact kd3
     have kd92 : P9.log.d = dl := by rw [k8.ld]; exact kd4
     obtain ⟨pn, hpn⟩ : ∃ pn, pn = pp := ⟨_, rfl⟩
     obtain ⟨bn, hbn⟩ : ∃ bn, bn = bb := ⟨_, rfl⟩
     obtain ⟨l90, hl90⟩ : ∃ l90, l90 = l1 := ⟨_, rfl⟩
     obtain ⟨kh9, hkh9⟩ : ∃ kh9, kh9 = kh1 := ⟨_, rfl⟩
     repeat' first | ((with_reducible first | refine cs ?_ ?_ | refine ws ?_ ?_ | refine wd ?_ ?_ | refine wu ?_ ?_) <;> intro h <;> try simp only [h]) | simp only [↓wBA, tHv6, convA, seval, pl5_20Hv6, wH, wHl, op8, opl8, z5, z6, hF9, hL9, yF9, yL9] | (with_reducible refine dP pl5_20Hv6 10 (some 85) (by decide) (by kernel_rfl) ?_)
    rotate_left
    focus
     have z5 : (kd == 5) = false := by simp [h6]
     have z6 : (kd == 6) = true := by simp [h6]
     repeat' first | ((with_reducible first | refine cs ?_ ?_ | refine ws ?_ ?_ | refine wd ?_ ?_ | refine wu ?_ ?_) <;> intro h <;> try simp only [h]) | simp only [↓wBA, tHv6, convA, seval, pl5_20Hv6, wH, wHl, op7, opl7, z5, z6] | (with_reducible refine dP pl5_20Hv6 10 (some 85) (by decide) (by kernel_rfl) ?_)
     refine (abDone hT7.a.bt (by rw [hpg2, kd3]; omega) (hb2.mono (by omega))).mono ?_
     rintro _ s8 ⟨rfl, U8, P8, f8, h8, k8⟩
     have l8 := f8.len
     have hT8 := hT7.bt f8 h8 k8.pages
     have hb8 := hb2.kb k8 (k := 45000000 - 600000 * i - 300000) (by omega)
     have op8 := f8.get op7 (fun e => hno7 _ (.inr (.inr rfl)) (.inl e))
     have opl8 := at_lt op8
     have hF8 := f8.get hF7 (fun e => hno7 _ (.inl rfl) (.inl e))
     have hL8 := f8.get hL7 (fun e => hno7 _ (.inr (.inl rfl)) (.inl e))
     have hno8 : ∀ t, t = F ∨ t = F + 3 → ¬ U8 t := fun t ht e => (f8.own t e).elim (fun e => hno7 t (ht.imp id .inl) (.inl e)) fun e => by rcases ht with rfl | rfl <;> omega
     have hpg8 := k8.pages.trans hpg2
     obtain ⟨B8, G8, ch8, hin8, hU8⟩ := id h8
     have hGU : ∀ t, G8 t → U8 t := fun t e => (hU8 t).2 (.inr e)
     repeat' first | ((with_reducible first | refine cs ?_ ?_ | refine ws ?_ ?_ | refine wd ?_ ?_ | refine wu ?_ ?_) <;> intro h <;> try simp only [h]) | simp only [↓wBA, tHv6, convA, seval, pl5_20Hv6, wH, wHl, op8, opl8, z5, z6] | (with_reducible refine dP pl5_20Hv6 10 (some 85) (by decide) (by kernel_rfl) ?_)
     refine (aflushP hin8.pl (hb8.mono (k' := 1) (by omega)).c).mono ?_
     rintro _ s81 ⟨rfl, G81, P81, f81, hP81, k81, _, _, _, _, hw81⟩
     have l81 := f81.len
     have hb81 := hb8.kp k81 (k := 45000000 - 600000 * i - 300000) (by omega)
     have hpg81 := k81.pages.trans hpg8
     have hd81 : P81.log.d = dl := by rw [k81.ld, k8.ld]; exact kd4
     have hz81 : P81.log.disk.size = 8000 := by rw [k81.ls, k8.ls]; exact kd3
     have hv81 : P81.view = v2 := funext fun n => by rw [k81.view, k8.view]
     repeat' first | ((with_reducible first | refine cs ?_ ?_ | refine ws ?_ ?_ | refine wd ?_ ?_ | refine wu ?_ ?_) <;> intro h <;> try simp only [h]) | simp only [↓wBA, tHv6, convA, seval, pl5_20Hv6, wH, wHl] | (with_reducible refine dP pl5_20Hv6 10 (some 85) (by decide) (by kernel_rfl) ?_)
     refine (arestD hP81 hw81 (by have := hb81.w; have := dq_ge P81; omega)).mono ?_
     rintro _ s82 ⟨Fd82, Fl82, D82, f82, hR82, _⟩
     rw [hd81, hv81, hpg81] at hR82
     have l82 := f82.len
     repeat' first | ((with_reducible first | refine cs ?_ ?_ | refine ws ?_ ?_ | refine wd ?_ ?_ | refine wu ?_ ?_) <;> intro h <;> try simp only [h]) | simp only [↓wBA, tHv6, convA, seval, pl5_20Hv6, wH, wHl] | (with_reducible refine dP pl5_20Hv6 10 (some 85) (by decide) (by kernel_rfl) ?_)
     refine (arestL hR82).mono ?_
     rintro _ s83 ⟨f83, hR83⟩
     have l83 := f83.len
     repeat' first | ((with_reducible first | refine cs ?_ ?_ | refine ws ?_ ?_ | refine wd ?_ ?_ | refine wu ?_ ?_) <;> intro h <;> try simp only [h]) | simp only [↓wBA, tHv6, convA, seval, pl5_20Hv6, wH, wHl] | (with_reducible refine dP pl5_20Hv6 10 (some 85) (by decide) (by kernel_rfl) ?_)
     refine (areopen hR83 3 (by omega) (by omega) (by have := hb81.c; have := ct_ge P81; omega)).mono ?_
     rintro _ s84 ⟨pn, l90, kh9, G84, P9, rfl, f84, hP84, g1, g2, g3, g4, g5, g6, g7, g8⟩
     have l84 := f84.len
     have hb9 : Bud P9 (45000000 - 600000 * (i + 1)) := ⟨by have := hb81.c; have := ct_ge P81; omega, by omega, by omega⟩
     repeat' first | ((with_reducible first | refine cs ?_ ?_ | refine ws ?_ ?_ | refine wd ?_ ?_ | refine wu ?_ ?_) <;> intro h <;> try simp only [h]) | simp only [↓wBA, tHv6, convA, seval, pl5_20Hv6, wH, wHl] | ((with_reducible show ACalls _ _ _ _ _); refine (abBatch hP84).mono ?_; rintro _ s9 ⟨rfl, a9, h9⟩) | (with_reducible refine dP pl5_20Hv6 10 (some 85) (by decide) (by kernel_rfl) ?_)
     rw [g8] at h9
     have l9' := a9.len
     have l9 : s7.length ≤ s9.length := by omega
     have fA : Fr s8 s9 G8 (fun t => t = s84.length ∨ G84 t) := (((f81.trans f82).trans (f83.sub (G := fun t => Fd82 t ∨ Fl82 t) (G' := fun t => Fd82 t ∨ Fl82 t) (fun t e => .inr e) fun t e => .inl e)).trans f84).trans ((a9.fr (F := G84)).to fun t e => e.elim (fun e => .inr (by omega)) .inl)
     have hT9 := hT8.fr fA hGU h9 (by rw [g1, hpg8])
     have hF9 := fA.get hF8 (fun e => hno8 _ (.inl rfl) (hGU _ e))
     have hL9 := fA.get hL8 (fun e => hno8 _ (.inr rfl) (hGU _ e))
     have yF9 := at_lt hF9
     have yL9 := at_lt hL9
     obtain ⟨U9, hU9⟩ : ∃ U9 : Nat → Prop, U9 = fun t => t = s84.length ∨ G84 t := ⟨_, rfl⟩
     rw [← hU9] at hT9 fA
     have hno9 : ∀ t, t = F ∨ t = F + 3 → ¬ U9 t := fun t ht e => (fA.own t e).elim (fun e => hno8 t ht (hGU t e)) fun e => by rcases ht with rfl | rfl <;> omega
     have hpg9 : P9.pages = 200 := g1
     have kd91 : P9.log.disk.size = 8000 := by rw [g4]; exact hz81
     have kd92 : P9.log.d = dl := g5
     obtain ⟨bn, hbn⟩ : ∃ bn, bn = s84.length := ⟨_, rfl⟩
     repeat' first | ((with_reducible first | refine cs ?_ ?_ | refine ws ?_ ?_ | refine wd ?_ ?_ | refine wu ?_ ?_) <;> intro h <;> try simp only [h]) | simp only [↓wBA, tHv6, convA, seval, pl5_20Hv6, wH, wHl, hF9, hL9, yF9, yL9] | (with_reducible refine dP pl5_20Hv6 10 (some 85) (by decide) (by kernel_rfl) ?_)
    rotate_left
    focus
     have z5 : (kd == 5) = false := by simp [h56.1]
     have z6 : (kd == 6) = false := by simp [h56.2]
     obtain ⟨s9, hs9⟩ : ∃ s9, s9 = s7 := ⟨_, rfl⟩
     obtain ⟨U9, hU9⟩ : ∃ U9, U9 = U2 := ⟨_, rfl⟩
     obtain ⟨P9, hP9⟩ : ∃ P9, P9 = P2 := ⟨_, rfl⟩
     subst hs9 hU9 hP9
     have l9 : s9.length ≤ s9.length := Nat.le_refl _
     have hT9 := hT7
     have hb9 := hb2.mono (k' := 45000000 - 600000 * (i + 1)) (by omega)
     have hF9 := hF7
     have hL9 := hL7
     have yF9 := yF7
     have yL9 := yL7
     have hno9 : ∀ t, t = F ∨ t = F + 3 → ¬ U9 t := fun t ht e => hno7 t (ht.imp id .inl) (.inl e)
     have hpg9 := hpg2
     have kd91 := kd3
     have kd92 := kd4
     obtain ⟨pn, hpn⟩ : ∃ pn, pn = pp := ⟨_, rfl⟩
     obtain ⟨bn, hbn⟩ : ∃ bn, bn = bb := ⟨_, rfl⟩
     obtain ⟨l90, hl90⟩ : ∃ l90, l90 = l1 := ⟨_, rfl⟩
     obtain ⟨kh9, hkh9⟩ : ∃ kh9, kh9 = kh1 := ⟨_, rfl⟩
     repeat' first | ((with_reducible first | refine cs ?_ ?_ | refine ws ?_ ?_ | refine wd ?_ ?_ | refine wu ?_ ?_) <;> intro h <;> try simp only [h]) | simp only [↓wBA, tHv6, convA, seval, pl5_20Hv6, wH, wHl, op7, opl7, z5, z6, hF7, hL7, yF7, yL7] | (with_reducible refine dP pl5_20Hv6 10 (some 85) (by decide) (by kernel_rfl) ?_)
    rotate_left
    all_goals
     refine (aalike hT9.a.bt hT9.a.hp hT9.a.fst (hb9.mono (by omega)) (by omega) hT9.a.rf (by omega) hT9.a.dj hT9.a.eq).mono ?_
     rintro _ t1 ⟨rfl, V1, Q1, w1, c1, r1⟩
     have m1 := w1.len
     have hX1 := hT9.bt w1 c1 r1.pages
     have hF10 := w1.get hF9 (fun e => hno9 _ (.inl rfl) e)
     have hL10 := w1.get hL9 (fun e => hno9 _ (.inr rfl) e)
     have yF10 := at_lt hF10
     have yL10 := at_lt hL10
     repeat' first | ((with_reducible first | refine cs ?_ ?_ | refine ws ?_ ?_ | refine wd ?_ ?_ | refine wu ?_ ?_) <;> intro h <;> try simp only [h]) | simp only [↓wBA, tHv6, convA, seval, pl5_20Hv6, wH, wHl, hF10, hL10, yF10, yL10] | (with_reducible refine dP pl5_20Hv6 10 (some 85) (by decide) (by kernel_rfl) ?_)
     refine (aalike hX1.b.bt hX1.b.hp hX1.b.fst ((hb9.kp r1 (k := 1) (by omega))) (by omega) hX1.b.rf (by omega) hX1.b.dj hX1.b.eq).mono ?_
     rintro _ t2 ⟨rfl, V2, Q2, w2, c2, r2⟩
     have m2 := w2.len
     have hX2 := hX1.bt w2 c2 r2.pages
     have hF11 := w2.get hF10 (fun e => (w1.own F e).elim (fun e => hno9 _ (.inl rfl) e) fun e => by omega)
     have hL11 := w2.get hL10 (fun e => (w1.own (F + 3) e).elim (fun e => hno9 _ (.inr rfl) e) fun e => by omega)
     have hwv : ∀ t, V2 t → V1 t ∨ t1.length ≤ t := w2.own
     repeat' first | ((with_reducible first | refine cs ?_ ?_ | refine ws ?_ ?_ | refine wd ?_ ?_ | refine wu ?_ ?_) <;> intro h <;> try simp only [h]) | simp only [↓wBA, tHv6, convA, seval, pl5_20Hv6, wH, wHl, hwi] | (with_reducible refine dP pl5_20Hv6 10 (some 85) (by decide) (by kernel_rfl) ?_)
     have hfin : ∀ t, t = F ∨ t = F + 3 → ¬ (V2 t ∨ H1n t ∨ H2n t) := fun t ht e => by
      rcases e with e | e
      ·rcases w2.own t e with e | e
       ·rcases w1.own t e with e | e
        ·exact hno9 t ht e
        ·rcases ht with rfl | rfl <;> omega
       ·rcases ht with rfl | rfl <;> omega
      ·exact hno7 t (ht.imp id .inl) (.inr e)
     exact ⟨⟨(i + 1, _, _), by omega, by omega⟩, by show 60 - (i + 1) < 60 - i; omega, ⟨by omega, _, _, V2, H1n, H2n, Q2, v2, T2, ns1n, ns2n, es1n, es2n, hX2, hF11, hL11, hfin, hc1, hc2, hc3, hc4, hc5, r2.pages.trans (r1.pages.trans hpg9), (hb9.kp r1 (k := 45000000 - 600000 * (i + 1)) (by omega)).kp r2 (k := 45000000 - 600000 * (i + 1)) (by omega), by rw [r2.ls, r1.ls]; exact kd91, by rw [r2.ld, r1.ld]; exact kd92⟩, by simp only [wHl, wHf]⟩
  ·have hout : decide ((i : Int) < 60) = false ∨ (decide ((i : Int) < 60) = true ∧ decide ((i : Int) < (ops.length : Int)) = false) := by
    by_cases h : i < 60
    ·right; exact ⟨dT h, dF (by omega)⟩
    ·left; simp; omega
   rcases hout with e1 | ⟨e1, e2⟩
   ·skip
    repeat' first | ((with_reducible first | refine cs ?_ ?_ | refine ws ?_ ?_ | refine wd ?_ ?_ | refine wu ?_ ?_) <;> intro h <;> try simp only [h]) | simp only [↓wBA, tHv6, convA, seval, pl5_20Hv6, wH, wHl, e1, List.length_map] | (with_reducible refine dP pl5_20Hv6 10 (some 85) (by decide) (by kernel_rfl) ?_)
    all_goals refine ret_st ?_ (by first | exact Nat.le_refl _ | (simp only [List.length_set, List.length_append]; omega) | omega)
    all_goals simp only [resA.eq_1, resL.eq_1, resL.eq_2, resV.eq_1, resV.eq_2, ↓wBA, tHv6, convA, seval, wH]
   ·skip
    repeat' first | ((with_reducible first | refine cs ?_ ?_ | refine ws ?_ ?_ | refine wd ?_ ?_ | refine wu ?_ ?_) <;> intro h <;> try simp only [h]) | simp only [↓wBA, tHv6, convA, seval, pl5_20Hv6, wH, wHl, e1, e2, List.length_map] | (with_reducible refine dP pl5_20Hv6 10 (some 85) (by decide) (by kernel_rfl) ?_)
    all_goals refine ret_st ?_ (by first | exact Nat.le_refl _ | (simp only [List.length_set, List.length_append]; omega) | omega)
    all_goals simp only [resA.eq_1, resL.eq_1, resL.eq_2, resV.eq_1, resV.eq_2, ↓wBA, tHv6, convA, seval, wH]
end Go.Proofs.Ytlddiphjpmlhbaa
namespace Go.Proofs.Ytlddiphjpmlhbaa
open Go.RowKit
theorem op_sh {c : List PV} (h : HasShL [.int .i64, .int .i64, .int .i64, .sl 1 [.int .u8]] c) : ∃ o : OpV, c = opR o ∧ o.2.2.2.length ≤ 140737488351232 := by
 simp only [HasShL] at h
 obtain ⟨x1, c1, rfl, h1, x2, c2, rfl, h2, x3, c3, rfl, h3, x4, c4, rfl, h4, rfl⟩ := h
 obtain ⟨r, rfl, hr⟩ := bytes_sh2 h4
 simp only [HasSh] at h1 h2 h3
 obtain ⟨n1, rfl, _⟩ := h1
 obtain ⟨n2, rfl, _⟩ := h2
 obtain ⟨n3, rfl, _⟩ := h3
 exact ⟨(n1, n2, n3, r), rfl, hr⟩
theorem ops_sh {x : PV} (h : HasSh (.sl 48 [.int .i64, .int .i64, .int .i64, .sl 1 [.int .u8]]) x) : ∃ ops : List OpV, x = .sl 4 (ops.map opR) ∧ ops.length ≤ 140737488351232 ∧ ∀ o ∈ ops, o.2.2.2.length ≤ 140737488351232 := by
 rw [HasSh] at h
 obtain ⟨ls, rfl, hl, hc⟩ := h
 have key : ∀ ls : List (List PV), (∀ c ∈ ls, HasShL [.int .i64, .int .i64, .int .i64, .sl 1 [.int .u8]] c) → ∃ ops : List OpV, ls = ops.map opR ∧ ∀ o ∈ ops, o.2.2.2.length ≤ 140737488351232 := by
  intro ls
  induction ls with
  | nil => intro _; exact ⟨[], rfl, by simp⟩
  | cons c ls ih =>
    intro hc
    obtain ⟨o, rfl, ho⟩ := op_sh (hc c (by simp))
    obtain ⟨os, rfl, hs⟩ := ih fun c h => hc c (by simp [h])
    exact ⟨o :: os, rfl, fun q hq => by rcases List.mem_cons.1 hq with rfl | hq; exact ho; exact hs q hq⟩
 obtain ⟨ops, rfl, ho⟩ := key ls hc
 exact ⟨ops, rfl, by simp at hl; omega, ho⟩
theorem holds6_law (fr : Int) (x : PV) (v : Value) (W : World) (hx : HasSh (.sl 48 [.int .i64, .int .i64, .int .i64, .sl 1 [.int .u8]]) x) (hr : PRep W (inH W) x v) :
 Calls Try.prog 5 #[.int .i64 fr, v] W fun e W' => e = .returned (.bool true) ∧ Below W.heap.size W W' := by
 obtain ⟨ops, rfl, h1, h2⟩ := ops_sh hx
 exact law_calls2 (W := W) (vs := [.int .i64 fr, v]) (aheapHolds fr ops h1 h2 []) (by
  simp only [ARepL]
  exact ⟨_, _, rfl, rep_mk rfl, _, _, rfl, (by simp only [ARep]; exact hr), rfl⟩)
end Go.Proofs.Ytlddiphjpmlhbaa
