/- dml.Insert. The reference's Ok is the program's. -/
import Derived.Test.YtcnkmandddfdmaaGreatDoorM38
import Derived.Test.YtcnkmandddfdmaaGreatDoorM20
set_option linter.unusedSimpArgs false
set_option linter.unusedVariables false
set_option linter.defProp false
set_option maxRecDepth 100000
set_option maxHeartbeats 32000000
namespace Go.Proofs.YtcnkmandddfdmaaGreatDoor
open Go.RowKit
def tIn := aa wX <| aa wbu <| aa T3 <| aa T9 <| aa T22 <| aa T24 <| aa T25 <| aa T29 <| aa T30 <| aa T33 <| aa T36 <| aa T39 <| aa T44 <| aa T45 <| aa T79 T87
theorem ACalls.nilW4 {P : Program} {f : FuncId} {e : Nat} {a b c : AV} {rest : List AV} {σ : St} {R : AV → St → Prop} (hc : ACalls P f (a :: b :: c :: .p (.sl e []) :: rest) σ R) : ACalls P f (a :: b :: c :: nilA :: rest) σ R :=
 ⟨hc.1, fun M vs hM hv => hc.2 M vs hM (by
  simp only [ARepL] at hv ⊢
  obtain ⟨ua, _, rfl, ha, ub, _, rfl, hb, uc, _, rfl, hcc, u, us', rfl, h1, h2⟩ := hv
  have := (rep_v h1).2; subst this
  refine ⟨ua, _, rfl, ha, ub, _, rfl, hb, uc, _, rfl, hcc, _, us', rfl, ?_, h2⟩
  simp only [ARep, PRep]
  exact .inl ⟨trivial, none, 0, rfl, fun _ => rfl⟩)⟩
def nmsS (s : Sm) (cols : List Tc) : List ByteArray := if s.names = [] then cols.map (·.1) else s.names
def bdE (cols : List Tc) (cs : List Int) (r : List Ex) : Int := if r.length ≠ cs.length then 30 else (asgS [] cols r cs).2
def bdX (cols : List Tc) (cs : List Int) (r : List Ex) : List Ex := (asgS [] cols r cs).1
def bdS (cols : List Tc) (cs : List Int) : List (List Ex) → List (List Ex) × Int
 | [] => ([], 0)
 | r :: rs => if bdE cols cs r ≠ 0 then ([], bdE cols cs r) else if (bdS cols cs rs).2 ≠ 0 then ([], (bdS cols cs rs).2) else (bdX cols cs r :: (bdS cols cs rs).1, 0)
theorem bdS_bad (cols : List Tc) (cs : List Int) : ∀ (rs : List (List Ex)) (i : Nat) (h : i < rs.length), (∀ j (hj : j < i), bdE cols cs (rs[j]'(by omega)) = 0) → bdE cols cs rs[i] ≠ 0 → bdS cols cs rs = ([], bdE cols cs rs[i])
 | r :: rs, 0, h, _, h2 => by simp only [bdS, List.getElem_cons_zero] at h2 ⊢; rw [if_pos h2]
 | r :: rs, i + 1, h, h1, h2 => by
   have h0 := h1 0 (by omega)
   simp only [List.getElem_cons_zero] at h0
   have ih := bdS_bad cols cs rs i (by simpa using h) (fun j hj => by have := h1 (j + 1) (by omega); simpa using this) (by simpa using h2)
   simp only [bdS, List.getElem_cons_succ] at h2 ⊢
   rw [if_neg (by simp [h0]), ih, if_pos h2]
 | [], i, h, _, _ => by simp at h
theorem bdS_ok (cols : List Tc) (cs : List Int) : ∀ (rs : List (List Ex)), (∀ j (hj : j < rs.length), bdE cols cs rs[j] = 0) → bdS cols cs rs = (rs.map (bdX cols cs), 0)
 | [], _ => rfl
 | r :: rs, h1 => by
   have h0 := h1 0 (by simp)
   simp only [List.getElem_cons_zero] at h0
   have ih := bdS_ok cols cs rs fun j hj => by have := h1 (j + 1) (by simpa using hj); simpa using this
   simp only [bdS, h0, ih, ne_eq, not_true_eq_false, if_false, List.map_cons]
theorem bdX_succ (cols : List Tc) (cs : List Int) (rs : List (List Ex)) (i : Nat) (h : i < rs.length) : enR ((rs.take (i + 1)).map (bdX cols cs)) = enR ((rs.take i).map (bdX cols cs)) ++ [[.sl 8 (exL (bdX cols cs rs[i]))]] := by
 rw [List.take_succ_eq_append_getElem h, enR, List.map_append, List.map_append]; rfl
def iStep (z : List Va) (cs : List Int) (s : List (List Va) × Int) (xs : List Ex) : List (List Va) × Int := (s.1 ++ [(wrkS z xs cs s.2).1], (wrkS z xs cs s.2).2)
theorem iGo_len (z : List Va) (cs : List Int) : ∀ (l : List (List Ex)) (s : List (List Va) × Int), (l.foldl (iStep z cs) s).1.length = s.1.length + l.length
 | [], s => by simp
 | r :: l, s => by rw [List.foldl_cons, iGo_len z cs l]; simp [iStep]; omega
theorem iGo_rows (z : List Va) (cs : List Int) : ∀ (l : List (List Ex)) (s : List (List Va) × Int), (∀ r ∈ s.1, r.length = z.length) → ∀ r ∈ (l.foldl (iStep z cs) s).1, r.length = z.length
 | [], s, h => h
 | q :: l, s, h => by
   rw [List.foldl_cons]
   refine iGo_rows z cs l _ fun r hr => ?_
   simp only [iStep, List.mem_append, List.mem_singleton] at hr
   rcases hr with hr | rfl
   ·exact h r hr
   ·exact wrkS_len z q cs s.2
def z0 (cols : List Tc) : List Va := List.replicate cols.length va0
def finI (cols : List Tc) (u : List (List Va) × Int) : List (List Va) × Int := if u.2 ≠ 0 then ([], u.2) else if soundS cols u.1 ≠ 0 then ([], soundS cols u.1) else (u.1, 0)
def insS (s : Sm) (cols : List Tc) : List (List Va) × Int :=
 if s.kind ≠ 3 then ([], 1)
 else if (tgtS (nmsS s cols) cols).2 ≠ 0 then ([], (tgtS (nmsS s cols) cols).2)
 else if (bdS cols (tgtS (nmsS s cols) cols).1 s.rows).2 ≠ 0 then ([], (bdS cols (tgtS (nmsS s cols) cols).1 s.rows).2)
 else finI cols ((bdS cols (tgtS (nmsS s cols) cols).1 s.rows).1.foldl (iStep (z0 cols) (tgtS (nmsS s cols) cols).1) ([], 0))
theorem z0_en (cols : List Tc) : List.replicate cols.length [.v (.int .i64 0), .v (.int .i64 0), .v (.string ⟨#[]⟩)] = enV (z0 cols) := by simp [z0, enV, vaC, va0, emp]
theorem nms_succ (cols : List Tc) (i : Nat) (h : i < cols.length) : enN ((cols.take (i + 1)).map (·.1)) = enN ((cols.take i).map (·.1)) ++ [[.v (.string cols[i].1)]] := by
 rw [List.take_succ_eq_append_getElem h, enN, List.map_append, List.map_append]; rfl
theorem ains (s : Sm) (hnl : s.names.length ≤ 1000000000000) (hrl : s.rows.length ≤ 1000000000000) (hrr : ∀ r ∈ s.rows, r.length ≤ 1000000000000) (nm : ByteArray) (cols : List Tc) (hcl : cols.length ≤ 4398046511104) (σ : St) : ACalls Tryz.prog 8 [.agg ((smC s).map .p), tbA nm cols] σ fun r st => st = σ ∧ r = .tup [.p (.sl 1 (enVV (insS s cols).1)), intV .i64 (insS s cols).2] := by
 refine ACalls.pureF (R := fun r => r = .tup [.p (.sl 1 (enVV (insS s cols).1)), intV .i64 (insS s cols).2]) ?_ (by cases s; rfl) σ
 have hT := atargetsN (nmsS s cols) nm cols (by unfold nmsS; split <;> (try rw [List.length_map]) <;> omega) (by omega)
 have hTok := tgtS_ok (nmsS s cols) cols
 have hA := fun (cs : List Int) (r : List Ex) (h1 : r.length ≤ cs.length) (h2 : ∀ c ∈ cs, 0 ≤ c ∧ c.toNat < cols.length) (h3 : r.length ≤ 1000000000000) => aassigned r cs nm cols [] h3 h1 h2 (by simp)
 have hAl := fun cs r => asgS_len [] cols r cs
 have hSd := fun rows h1 h2 => asoundN rows nm cols h1 (by omega) h2
 unfold insS
 generalize htg : tgtS (nmsS s cols) cols = tg at *
 clear htg
 obtain ⟨cs, et⟩ := tg
 obtain ⟨kind, tb, sn, scols, names, srows, items, src, wh, group, order, limit, sets, hash⟩ := s
 simp only [tbA] at hT hA hSd
 simp only at hrl hrr hnl hTok
 refine acalls_of cx_ok dr_ok Tryz.func8 (by kernel_rfl) rfl (nt := 107) (rs := [.tmp 4, .tmp 5]) rfl rfl ?_
 simp only [tbA, smC, List.map_cons, List.map_nil]
 by_cases hk : kind = 3
 ·subst hk
  simp only [ne_eq, not_true_eq_false, if_false]
  by_cases hn : names = []
  ·subst hn
   simp only [enS, List.map_nil, nilSl, List.isEmpty_nil, if_true]
   have hnms : nmsS { kind := 3, tb := tb, nm := sn, cols := scols, names := [], rows := srows, items := items, src := src, wh := wh, group := group, order := order, limit := limit, sets := sets, hash := hash } cols = cols.map (·.1) := by simp [nmsS]
   rw [hnms] at hT hTok
   have h00 : (((0 : Nat) : Int) == 0) = true := rfl
   repeat' first | ((with_reducible first | refine cond_split ?_ ?_ | refine ws ?_ ?_) <;> intro h <;> try simp only [h]) | simp only [↓wBA, tIn, convA, seval, enTc_len, bne_self_eq_false, h00]
   refine awp_loopN (cols.length) (fun i => [(6, .nown 2 1 (enN ((cols.take i).map (·.1)))), (32, intV .i64 (i : Nat)), (8, .any), (33, .any), (34, .any), (35, .any), (36, .any), (37, .any), (38, .any), (39, .any), (40, .any), (41, .any)]) (fun i => [(2, .nright 9 (i * 1))]) (fun i => True) ?_ ?_ ?_
   ·trivial
   ·skip
    simp only [wR, Nat.reduceAdd, Nat.reduceLT, reduceIte]
    simp [wW, enN]
   ·intro i hi _
    simp only [wR, Nat.reduceAdd, Nat.reduceLT, reduceIte]
    by_cases hlt : i < cols.length
    ·have hdec := dT (i := i) (n := cols.length) (by omega)
     have hi0 := nnI i
     have hw := wI i (by omega)
     have hg := enTc_get cols i hlt
     have hst := nms_succ cols i hlt
     have htl : (enN ((cols.take i).map (·.1))).length = i := by rw [enN_len, List.length_map]; simp; omega
     have hlim1 := tL (n := (i + 1) * 16) (by omega)
     have hlim2 := lM (n := i + 1) (by omega)
     rcases hc : cols[i] with ⟨c1, c2, c3, c4⟩
     rw [hc] at hst hg
     simp only [tcC] at hg
     repeat' first | ((with_reducible first | refine cond_split ?_ ?_ | refine ws ?_ ?_) <;> intro h <;> try simp only [h]) | simp only [↓wBA, tIn, convA, seval, enTc_len, hdec, hi0, hg, hw, htl, hlim1, hlim2, appendA, srcA, List.length_append]
     refine ⟨⟨i + 1, by omega, ?_⟩, by show cols.length - (i + 1) < cols.length - i; omega, ?_⟩
     ·trivial
     ·simp only [hst]
      simp [wW]
    ·have hdec := dF (i := i) (n := cols.length) (by omega)
     have ht : cols.take i = cols := List.take_of_length_le (by omega)
     simp only [ht]
     by_cases het : et = 0
     ·subst het
      obtain ⟨hcs1, hcs2⟩ := hTok rfl
      simp only [not_true_eq_false, if_false]
      repeat' first | ((with_reducible first | refine cond_split ?_ ?_ | refine ws ?_ ?_) <;> intro h <;> try simp only [h]) | simp only [↓wBA, tIn, convA, seval, enTc_len, hdec, bne_self_eq_false, enR_len] | ((with_reducible show ACalls _ _ _ _ _); refine ACalls.frzArgs ?_; simp only [frzL, frzA]; refine (hT _).eq ?_)
      refine awp_loopN (srows.length) (fun i => [(11, .nown 3 1 (enR ((srows.take i).map (bdX cols cs)))), (54, intV .i64 (i : Nat)), (4, .any), (5, .any), (13, .any), (14, .any), (15, .any), (55, .any), (56, .any), (57, .any), (58, .any), (59, .any), (60, .any), (61, .any), (62, .any), (63, .any), (64, .any), (65, .any), (66, .any), (67, .any), (68, .any), (69, .any), (70, .any), (71, .any), (72, .any), (73, .any), (74, .any), (75, .any), (76, .any), (77, .any)]) (fun i => [(3, .nright 33 (i * 1))]) (fun i => ∀ j (hj : j < i) (h1 : j < srows.length), bdE cols cs srows[j] = 0) ?_ ?_ ?_
      ·intro j hj; omega
      ·skip
       simp only [wR, Nat.reduceAdd, Nat.reduceLT, reduceIte]
       simp [wW, enR]
      ·intro i hi hI
       simp only [wR, Nat.reduceAdd, Nat.reduceLT, reduceIte]
       by_cases hlt : i < srows.length
       ·have hdec := dT (i := i) (n := srows.length) (by omega)
        have hi0 := nnI i
        have hw := wI i (by omega)
        have hg := enR_get srows i hlt
        have hrr1 := hrr srows[i] (List.getElem_mem hlt)
        have hst := bdX_succ cols cs srows i hlt
        have hA1 := fun (hh : (srows[i]'hlt).length ≤ cs.length) => hA cs (srows[i]'hlt) hh hcs2 hrr1
        have hbad := bdS_bad cols cs srows i hlt (fun j hj => hI j hj (by omega))
        have hnext : bdE cols cs srows[i] = 0 → ∀ j (hj : j < i + 1) (h1 : j < srows.length), bdE cols cs srows[j] = 0 := fun h0 j hj h1 => by
         by_cases e : j = i
         ·subst e; exact h0
         ·exact hI j (by omega) h1
        have htl : (enR ((srows.take i).map (bdX cols cs))).length = i := by rw [enR_len, List.length_map]; simp; omega
        have hlim1 := tL (n := (i + 1) * 24) (by omega)
        have hlim2 := lM (n := i + 1) (by omega)
        by_cases hlen : srows[i].length = cs.length
        ·have dl : ((srows[i].length : Int) != (cs.length : Int)) = false := by simp [hlen]
         have hA2 := hA1 (by omega)
         have hbe : bdE cols cs srows[i] = (asgS [] cols srows[i] cs).2 := by unfold bdE; rw [if_neg (by simp [hlen])]
         have hbx : bdX cols cs srows[i] = (asgS [] cols srows[i] cs).1 := rfl
         rw [hbe] at hbad hnext
         rw [hbx] at hst
         generalize asgS [] cols srows[i] cs = ag at *
         obtain ⟨xs, ea⟩ := ag
         simp only at hbad hnext hst hA2
         by_cases hea : ea = 0
         ·subst hea
          repeat' first | ((with_reducible first | refine cond_split ?_ ?_ | refine ws ?_ ?_) <;> intro h <;> try simp only [h]) | simp only [↓wBA, tIn, convA, seval, enR_len, exL_len, enI_len, hdec, hi0, hg, hw, dl, htl, hlim1, hlim2, appendA, srcA, List.length_append, bne_self_eq_false] | ((with_reducible show ACalls _ _ _ _ _); refine ACalls.nilW4 (e := 3) ((hA2 _).mono ?_); rintro _ _ ⟨rfl, rfl⟩)
          refine ⟨⟨i + 1, by omega, ?_⟩, by show srows.length - (i + 1) < srows.length - i; omega, ?_⟩
          ·exact hnext rfl
          ·simp only [hst]
           simp [wW]
         ·have hea' : (ea != 0) = true := by simpa using hea
          have hb := hbad hea
          simp only [hb, hea, not_false_eq_true, if_true]
          repeat' first | ((with_reducible first | refine cond_split ?_ ?_ | refine ws ?_ ?_) <;> intro h <;> try simp only [h]) | simp only [↓wBA, tIn, convA, seval, enR_len, exL_len, enI_len, hdec, hi0, hg, dl, hea'] | ((with_reducible show ACalls _ _ _ _ _); refine ACalls.nilW4 (e := 3) ((hA2 _).mono ?_); rintro _ _ ⟨rfl, rfl⟩)
          all_goals refine ret_is (a := _) ?_ rfl rfl
          all_goals simp only [↓wBA, tIn, convA, seval]
          all_goals simp_all [wS, enVV]
        ·have dl : ((srows[i].length : Int) != (cs.length : Int)) = true := by simp; omega
         have hb := hbad (by unfold bdE; rw [if_pos hlen]; decide)
         have hb2 : bdE cols cs srows[i] = 30 := by unfold bdE; rw [if_pos hlen]
         rw [hb2] at hb
         simp only [hb, Int.reduceEq, not_false_eq_true, if_true]
         repeat' first | ((with_reducible first | refine cond_split ?_ ?_ | refine ws ?_ ?_) <;> intro h <;> try simp only [h]) | simp only [↓wBA, tIn, convA, seval, enR_len, exL_len, enI_len, hdec, hi0, hg, dl]
         all_goals refine ret_is (a := _) ?_ rfl rfl
         all_goals simp only [↓wBA, tIn, convA, seval]
         all_goals simp_all [wS, enVV]
       ·have hdec := dF (i := i) (n := srows.length) (by omega)
        have ht : srows.take i = srows := List.take_of_length_le (by omega)
        have hbs := bdS_ok cols cs srows fun j hj => hI j (by omega) hj
        have hbl : ∀ x ∈ srows.map (bdX cols cs), x.length ≤ cs.length := fun x hx => by
         obtain ⟨r, hr, rfl⟩ := List.mem_map.1 hx
         obtain ⟨j, hj, rfl⟩ := List.mem_iff_getElem.1 hr
         have h0 := hI j (by omega) hj
         have h1 := hAl cs srows[j]
         have h2 : srows[j].length = cs.length := by
          by_cases e : srows[j].length = cs.length
          ·exact e
          ·unfold bdE at h0; rw [if_pos e] at h0; simp at h0
         unfold bdX; omega
        have hbn : (srows.map (bdX cols cs)).length ≤ 1000000000000 := by rw [List.length_map]; exact hrl
        have hbi : ((srows.map (bdX cols cs)).length : Int) = (srows.length : Int) := by simp
        simp only [ht, hbs, not_true_eq_false, if_false]
        clear hbs
        have hcsl : cs.length ≤ 4398046511104 := by rw [hcs1]; first | omega | (rw [List.length_map]; omega)
        generalize srows.map (bdX cols cs) = bl at *
        have hur := iGo_rows (z0 cols) cs bl ([], 0) (by simp)
        have hul := iGo_len (z0 cols) cs
        generalize hsp : iStep (z0 cols) cs = stp at *
        have hz := z0_en cols
        have hzl : (z0 cols).length = cols.length := by simp [z0]
        have hlz : ((32 : Int) * (cols.length : Int) ≤ 140737488355328) = True := eq_true (by omega)
        repeat' first | ((with_reducible first | refine cond_split ?_ ?_ | refine ws ?_ ?_) <;> intro h <;> try simp only [h]) | simp only [↓wBA, tIn, convA, seval, enR_len, hdec]
        refine awp_loopN (bl.length) (fun m => [(16, .nown 4 1 (enVV ((bl.take m).foldl stp ([], 0)).1)), (17, intV .i64 ((bl.take m).foldl stp ([], 0)).2), (80, intV .i64 (m : Nat)), (19, .any), (20, .any), (81, .any), (82, .any), (83, .any), (84, .any), (85, .any), (86, .any), (87, .any), (88, .any), (89, .any), (90, .any), (91, .any), (92, .any), (93, .any), (94, .any), (95, .any), (96, .any), (97, .any), (98, .any), (99, .any)]) (fun m => [(4, .nright 39 (m * 1))]) (fun m => True) ?_ ?_ ?_
        ·trivial
        ·skip
         simp only [wR, Nat.reduceAdd, Nat.reduceLT, reduceIte]
         simp [wW, enVV]
        ·intro m hm _
         simp only [wR, Nat.reduceAdd, Nat.reduceLT, reduceIte]
         by_cases hltm : m < bl.length
         ·have hdm := dT (i := m) (n := bl.length) (by omega)
          have hm0 := nnI m
          have hwm := wI m (by omega)
          have hgm := enR_get bl m hltm
          have hst := take_step stp ([], 0) bl m hltm
          have hlen := hul (bl.take m) ([], 0)
          have hbm := hbl bl[m] (List.getElem_mem hltm)
          have hWk := fun l => aworked (z0 cols) bl[m] cs l hbm (fun c hc => by rw [hzl]; exact hcs2 c hc) (by omega) (by omega)
          rw [← hsp] at hst
          simp only [iStep] at hst
          rw [hsp] at hst
          generalize hs : (bl.take m).foldl stp ([], 0) = st at *
          obtain ⟨out, l⟩ := st
          have hol' : out.length = m := by simp at hlen; omega
          have hWk' := hWk l
          clear hWk
          generalize hrow : bl[m] = row at *
          generalize hwr : wrkS (z0 cols) row cs l = wr at *
          obtain ⟨nrow, le⟩ := wr
          simp only at hst hWk'
          have hB : enVV (out ++ [nrow]) = enVV out ++ [[.sl 3 (enV nrow)]] := by simp [enVV]
          have htl : (enVV out).length = m := by rw [enVV_len, hol']
          have hlim1 := tL (n := (m + 1) * 24) (by omega)
          have hlim2 := lM (n := m + 1) (by omega)
          have hc0 : ((0 : Int) ≤ (cols.length : Int)) = True := eq_true (by omega)
          have hcm : ((cols.length : Int) ≤ (maxLen : Int)) = True := eq_true (by unfold maxLen; omega)
          repeat' first | ((with_reducible first | refine cond_split ?_ ?_ | refine ws ?_ ?_) <;> intro h <;> try simp only [h]) | simp only [↓wBA, tIn, convA, seval, enR_len, enTc_len, hdm, hm0, hwm, hgm, htl, hlim1, hlim2, hlz, hc0, hcm, Int.toNat_natCast, appendA, srcA, List.length_append] | ((with_reducible show ACalls _ _ _ _ _); refine ACalls.frzArgs ?_; simp only [frzL, frzA, hz]; refine (hWk' _).eq ?_)
          refine ⟨⟨m + 1, by omega, ?_⟩, by show bl.length - (m + 1) < bl.length - m; omega, ?_⟩
          ·trivial
          ·simp only [hst, hB]
           simp [wW]
         ·have hdm := dF (i := m) (n := bl.length) (by omega)
          have htm : bl.take m = bl := List.take_of_length_le (by omega)
          have hul2 := hul bl ([], 0)
          simp only [htm]
          generalize bl.foldl stp ([], 0) = u at *
          obtain ⟨out, l⟩ := u
          simp only at hur
          rw [hzl] at hur
          have hol' : out.length = bl.length := by simpa using hul2
          have hSd' := hSd out (by omega) hur
          unfold finI
          simp only
          by_cases hl : l = 0
          ·subst hl
           generalize soundS cols out = sv at *
           simp only [ne_eq, not_true_eq_false, if_false]
           by_cases hsv : sv = 0
           ·subst hsv
            simp only [not_true_eq_false, if_false]
            repeat' first | ((with_reducible first | refine cond_split ?_ ?_ | refine ws ?_ ?_) <;> intro h <;> try simp only [h]) | simp only [↓wBA, tIn, convA, seval, enR_len, hdm, beq_self_eq_true, bne_self_eq_false] | ((with_reducible show ACalls _ _ _ _ _); refine ACalls.frzArgs ?_; simp only [frzL, frzA]; refine (hSd' _).eq ?_)
            all_goals refine ret_is (a := _) ?_ rfl rfl
            all_goals simp only [↓wBA, tIn, convA, seval]
            all_goals simp_all [wS]
           ·have hsv' : (sv != 0) = true := by simpa using hsv
            simp only [hsv, not_false_eq_true, if_true]
            repeat' first | ((with_reducible first | refine cond_split ?_ ?_ | refine ws ?_ ?_) <;> intro h <;> try simp only [h]) | simp only [↓wBA, tIn, convA, seval, enR_len, hdm, beq_self_eq_true, hsv'] | ((with_reducible show ACalls _ _ _ _ _); refine ACalls.frzArgs ?_; simp only [frzL, frzA]; refine (hSd' _).eq ?_)
            all_goals refine ret_is (a := _) ?_ rfl rfl
            all_goals simp only [↓wBA, tIn, convA, seval]
            all_goals simp_all [wS, enVV]
          ·have hl' : (l != 0) = true := by simpa using hl
           have hl2 : (l == 0) = false := by simpa using hl
           simp only [ne_eq, hl, not_false_eq_true, if_true]
           repeat' first | ((with_reducible first | refine cond_split ?_ ?_ | refine ws ?_ ?_) <;> intro h <;> try simp only [h]) | simp only [↓wBA, tIn, convA, seval, enR_len, hdm, hl', hl2]
           all_goals refine ret_is (a := _) ?_ rfl rfl
           all_goals simp only [↓wBA, tIn, convA, seval]
           all_goals simp_all [wS, enVV]
     ·have het' : (et != 0) = true := by simpa using het
      simp only [het, not_false_eq_true, if_true]
      repeat' first | ((with_reducible first | refine cond_split ?_ ?_ | refine ws ?_ ?_) <;> intro h <;> try simp only [h]) | simp only [↓wBA, tIn, convA, seval, enTc_len, hdec, het'] | ((with_reducible show ACalls _ _ _ _ _); refine ACalls.frzArgs ?_; simp only [frzL, frzA]; refine (hT _).eq ?_)
      all_goals refine ret_is (a := _) ?_ rfl rfl
      all_goals simp only [↓wBA, tIn, convA, seval]
      all_goals simp_all [wS, enVV]
  ·have hne : nilSl 1 (enS names) = .sl 1 (enS names) := by
    cases names with
    | nil => exact absurd rfl hn
    | cons n l => rfl
   have hnms : nmsS { kind := 3, tb := tb, nm := sn, cols := scols, names := names, rows := srows, items := items, src := src, wh := wh, group := group, order := order, limit := limit, sets := sets, hash := hash } cols = names := by simp [nmsS, hn]
   rw [hnms] at hT hTok
   rw [← enS_enN, hne] at hT
   simp only [hne]
   have h00 : ((names.length : Int) == 0) = false := by
    have : names.length ≠ 0 := fun e => hn (List.eq_nil_of_length_eq_zero e)
    simp; omega
   by_cases het : et = 0
   ·subst het
    obtain ⟨hcs1, hcs2⟩ := hTok rfl
    simp only [not_true_eq_false, if_false]
    repeat' first | ((with_reducible first | refine cond_split ?_ ?_ | refine ws ?_ ?_) <;> intro h <;> try simp only [h]) | simp only [↓wBA, tIn, convA, seval, enS_len, h00, bne_self_eq_false, enR_len] | ((with_reducible show ACalls _ _ _ _ _); refine (hT _).eq ?_)
    refine awp_loopN (srows.length) (fun i => [(11, .nown 2 1 (enR ((srows.take i).map (bdX cols cs)))), (54, intV .i64 (i : Nat)), (4, .any), (5, .any), (13, .any), (14, .any), (15, .any), (55, .any), (56, .any), (57, .any), (58, .any), (59, .any), (60, .any), (61, .any), (62, .any), (63, .any), (64, .any), (65, .any), (66, .any), (67, .any), (68, .any), (69, .any), (70, .any), (71, .any), (72, .any), (73, .any), (74, .any), (75, .any), (76, .any), (77, .any)]) (fun i => [(2, .nright 33 (i * 1))]) (fun i => ∀ j (hj : j < i) (h1 : j < srows.length), bdE cols cs srows[j] = 0) ?_ ?_ ?_
    ·intro j hj; omega
    ·skip
     simp only [wR, Nat.reduceAdd, Nat.reduceLT, reduceIte]
     simp [wW, enR]
    ·intro i hi hI
     simp only [wR, Nat.reduceAdd, Nat.reduceLT, reduceIte]
     by_cases hlt : i < srows.length
     ·have hdec := dT (i := i) (n := srows.length) (by omega)
      have hi0 := nnI i
      have hw := wI i (by omega)
      have hg := enR_get srows i hlt
      have hrr1 := hrr srows[i] (List.getElem_mem hlt)
      have hst := bdX_succ cols cs srows i hlt
      have hA1 := fun (hh : (srows[i]'hlt).length ≤ cs.length) => hA cs (srows[i]'hlt) hh hcs2 hrr1
      have hbad := bdS_bad cols cs srows i hlt (fun j hj => hI j hj (by omega))
      have hnext : bdE cols cs srows[i] = 0 → ∀ j (hj : j < i + 1) (h1 : j < srows.length), bdE cols cs srows[j] = 0 := fun h0 j hj h1 => by
       by_cases e : j = i
       ·subst e; exact h0
       ·exact hI j (by omega) h1
      have htl : (enR ((srows.take i).map (bdX cols cs))).length = i := by rw [enR_len, List.length_map]; simp; omega
      have hlim1 := tL (n := (i + 1) * 24) (by omega)
      have hlim2 := lM (n := i + 1) (by omega)
      by_cases hlen : srows[i].length = cs.length
      ·have dl : ((srows[i].length : Int) != (cs.length : Int)) = false := by simp [hlen]
       have hA2 := hA1 (by omega)
       have hbe : bdE cols cs srows[i] = (asgS [] cols srows[i] cs).2 := by unfold bdE; rw [if_neg (by simp [hlen])]
       have hbx : bdX cols cs srows[i] = (asgS [] cols srows[i] cs).1 := rfl
       rw [hbe] at hbad hnext
       rw [hbx] at hst
       generalize asgS [] cols srows[i] cs = ag at *
       obtain ⟨xs, ea⟩ := ag
       simp only at hbad hnext hst hA2
       by_cases hea : ea = 0
       ·subst hea
        repeat' first | ((with_reducible first | refine cond_split ?_ ?_ | refine ws ?_ ?_) <;> intro h <;> try simp only [h]) | simp only [↓wBA, tIn, convA, seval, enR_len, exL_len, enI_len, hdec, hi0, hg, hw, dl, htl, hlim1, hlim2, appendA, srcA, List.length_append, bne_self_eq_false] | ((with_reducible show ACalls _ _ _ _ _); refine ACalls.nilW4 (e := 3) ((hA2 _).mono ?_); rintro _ _ ⟨rfl, rfl⟩)
        refine ⟨⟨i + 1, by omega, ?_⟩, by show srows.length - (i + 1) < srows.length - i; omega, ?_⟩
        ·exact hnext rfl
        ·simp only [hst]
         simp [wW]
       ·have hea' : (ea != 0) = true := by simpa using hea
        have hb := hbad hea
        simp only [hb, hea, not_false_eq_true, if_true]
        repeat' first | ((with_reducible first | refine cond_split ?_ ?_ | refine ws ?_ ?_) <;> intro h <;> try simp only [h]) | simp only [↓wBA, tIn, convA, seval, enR_len, exL_len, enI_len, hdec, hi0, hg, dl, hea'] | ((with_reducible show ACalls _ _ _ _ _); refine ACalls.nilW4 (e := 3) ((hA2 _).mono ?_); rintro _ _ ⟨rfl, rfl⟩)
        all_goals refine ret_is (a := _) ?_ rfl rfl
        all_goals simp only [↓wBA, tIn, convA, seval]
        all_goals simp_all [wS, enVV]
      ·have dl : ((srows[i].length : Int) != (cs.length : Int)) = true := by simp; omega
       have hb := hbad (by unfold bdE; rw [if_pos hlen]; decide)
       have hb2 : bdE cols cs srows[i] = 30 := by unfold bdE; rw [if_pos hlen]
       rw [hb2] at hb
       simp only [hb, Int.reduceEq, not_false_eq_true, if_true]
       repeat' first | ((with_reducible first | refine cond_split ?_ ?_ | refine ws ?_ ?_) <;> intro h <;> try simp only [h]) | simp only [↓wBA, tIn, convA, seval, enR_len, exL_len, enI_len, hdec, hi0, hg, dl]
       all_goals refine ret_is (a := _) ?_ rfl rfl
       all_goals simp only [↓wBA, tIn, convA, seval]
       all_goals simp_all [wS, enVV]
     ·have hdec := dF (i := i) (n := srows.length) (by omega)
      have ht : srows.take i = srows := List.take_of_length_le (by omega)
      have hbs := bdS_ok cols cs srows fun j hj => hI j (by omega) hj
      have hbl : ∀ x ∈ srows.map (bdX cols cs), x.length ≤ cs.length := fun x hx => by
       obtain ⟨r, hr, rfl⟩ := List.mem_map.1 hx
       obtain ⟨j, hj, rfl⟩ := List.mem_iff_getElem.1 hr
       have h0 := hI j (by omega) hj
       have h1 := hAl cs srows[j]
       have h2 : srows[j].length = cs.length := by
        by_cases e : srows[j].length = cs.length
        ·exact e
        ·unfold bdE at h0; rw [if_pos e] at h0; simp at h0
       unfold bdX; omega
      have hbn : (srows.map (bdX cols cs)).length ≤ 1000000000000 := by rw [List.length_map]; exact hrl
      have hbi : ((srows.map (bdX cols cs)).length : Int) = (srows.length : Int) := by simp
      simp only [ht, hbs, not_true_eq_false, if_false]
      clear hbs
      have hcsl : cs.length ≤ 4398046511104 := by rw [hcs1]; first | omega | (rw [List.length_map]; omega)
      generalize srows.map (bdX cols cs) = bl at *
      have hur := iGo_rows (z0 cols) cs bl ([], 0) (by simp)
      have hul := iGo_len (z0 cols) cs
      generalize hsp : iStep (z0 cols) cs = stp at *
      have hz := z0_en cols
      have hzl : (z0 cols).length = cols.length := by simp [z0]
      have hlz : ((32 : Int) * (cols.length : Int) ≤ 140737488355328) = True := eq_true (by omega)
      repeat' first | ((with_reducible first | refine cond_split ?_ ?_ | refine ws ?_ ?_) <;> intro h <;> try simp only [h]) | simp only [↓wBA, tIn, convA, seval, enR_len, hdec]
      refine awp_loopN (bl.length) (fun m => [(16, .nown 3 1 (enVV ((bl.take m).foldl stp ([], 0)).1)), (17, intV .i64 ((bl.take m).foldl stp ([], 0)).2), (80, intV .i64 (m : Nat)), (19, .any), (20, .any), (81, .any), (82, .any), (83, .any), (84, .any), (85, .any), (86, .any), (87, .any), (88, .any), (89, .any), (90, .any), (91, .any), (92, .any), (93, .any), (94, .any), (95, .any), (96, .any), (97, .any), (98, .any), (99, .any)]) (fun m => [(3, .nright 39 (m * 1))]) (fun m => True) ?_ ?_ ?_
      ·trivial
      ·skip
       simp only [wR, Nat.reduceAdd, Nat.reduceLT, reduceIte]
       simp [wW, enVV]
      ·intro m hm _
       simp only [wR, Nat.reduceAdd, Nat.reduceLT, reduceIte]
       by_cases hltm : m < bl.length
       ·have hdm := dT (i := m) (n := bl.length) (by omega)
        have hm0 := nnI m
        have hwm := wI m (by omega)
        have hgm := enR_get bl m hltm
        have hst := take_step stp ([], 0) bl m hltm
        have hlen := hul (bl.take m) ([], 0)
        have hbm := hbl bl[m] (List.getElem_mem hltm)
        have hWk := fun l => aworked (z0 cols) bl[m] cs l hbm (fun c hc => by rw [hzl]; exact hcs2 c hc) (by omega) (by omega)
        rw [← hsp] at hst
        simp only [iStep] at hst
        rw [hsp] at hst
        generalize hs : (bl.take m).foldl stp ([], 0) = st at *
        obtain ⟨out, l⟩ := st
        have hol' : out.length = m := by simp at hlen; omega
        have hWk' := hWk l
        clear hWk
        generalize hrow : bl[m] = row at *
        generalize hwr : wrkS (z0 cols) row cs l = wr at *
        obtain ⟨nrow, le⟩ := wr
        simp only at hst hWk'
        have hB : enVV (out ++ [nrow]) = enVV out ++ [[.sl 3 (enV nrow)]] := by simp [enVV]
        have htl : (enVV out).length = m := by rw [enVV_len, hol']
        have hlim1 := tL (n := (m + 1) * 24) (by omega)
        have hlim2 := lM (n := m + 1) (by omega)
        have hc0 : ((0 : Int) ≤ (cols.length : Int)) = True := eq_true (by omega)
        have hcm : ((cols.length : Int) ≤ (maxLen : Int)) = True := eq_true (by unfold maxLen; omega)
        repeat' first | ((with_reducible first | refine cond_split ?_ ?_ | refine ws ?_ ?_) <;> intro h <;> try simp only [h]) | simp only [↓wBA, tIn, convA, seval, enR_len, enTc_len, hdm, hm0, hwm, hgm, htl, hlim1, hlim2, hlz, hc0, hcm, Int.toNat_natCast, appendA, srcA, List.length_append] | ((with_reducible show ACalls _ _ _ _ _); refine ACalls.frzArgs ?_; simp only [frzL, frzA, hz]; refine (hWk' _).eq ?_)
        refine ⟨⟨m + 1, by omega, ?_⟩, by show bl.length - (m + 1) < bl.length - m; omega, ?_⟩
        ·trivial
        ·simp only [hst, hB]
         simp [wW]
       ·have hdm := dF (i := m) (n := bl.length) (by omega)
        have htm : bl.take m = bl := List.take_of_length_le (by omega)
        have hul2 := hul bl ([], 0)
        simp only [htm]
        generalize bl.foldl stp ([], 0) = u at *
        obtain ⟨out, l⟩ := u
        simp only at hur
        rw [hzl] at hur
        have hol' : out.length = bl.length := by simpa using hul2
        have hSd' := hSd out (by omega) hur
        unfold finI
        simp only
        by_cases hl : l = 0
        ·subst hl
         generalize soundS cols out = sv at *
         simp only [ne_eq, not_true_eq_false, if_false]
         by_cases hsv : sv = 0
         ·subst hsv
          simp only [not_true_eq_false, if_false]
          repeat' first | ((with_reducible first | refine cond_split ?_ ?_ | refine ws ?_ ?_) <;> intro h <;> try simp only [h]) | simp only [↓wBA, tIn, convA, seval, enR_len, hdm, beq_self_eq_true, bne_self_eq_false] | ((with_reducible show ACalls _ _ _ _ _); refine ACalls.frzArgs ?_; simp only [frzL, frzA]; refine (hSd' _).eq ?_)
          all_goals refine ret_is (a := _) ?_ rfl rfl
          all_goals simp only [↓wBA, tIn, convA, seval]
          all_goals simp_all [wS]
         ·have hsv' : (sv != 0) = true := by simpa using hsv
          simp only [hsv, not_false_eq_true, if_true]
          repeat' first | ((with_reducible first | refine cond_split ?_ ?_ | refine ws ?_ ?_) <;> intro h <;> try simp only [h]) | simp only [↓wBA, tIn, convA, seval, enR_len, hdm, beq_self_eq_true, hsv'] | ((with_reducible show ACalls _ _ _ _ _); refine ACalls.frzArgs ?_; simp only [frzL, frzA]; refine (hSd' _).eq ?_)
          all_goals refine ret_is (a := _) ?_ rfl rfl
          all_goals simp only [↓wBA, tIn, convA, seval]
          all_goals simp_all [wS, enVV]
        ·have hl' : (l != 0) = true := by simpa using hl
         have hl2 : (l == 0) = false := by simpa using hl
         simp only [ne_eq, hl, not_false_eq_true, if_true]
         repeat' first | ((with_reducible first | refine cond_split ?_ ?_ | refine ws ?_ ?_) <;> intro h <;> try simp only [h]) | simp only [↓wBA, tIn, convA, seval, enR_len, hdm, hl', hl2]
         all_goals refine ret_is (a := _) ?_ rfl rfl
         all_goals simp only [↓wBA, tIn, convA, seval]
         all_goals simp_all [wS, enVV]
   ·have het' : (et != 0) = true := by simpa using het
    simp only [het, not_false_eq_true, if_true]
    repeat' first | ((with_reducible first | refine cond_split ?_ ?_ | refine ws ?_ ?_) <;> intro h <;> try simp only [h]) | simp only [↓wBA, tIn, convA, seval, enS_len, h00, het'] | ((with_reducible show ACalls _ _ _ _ _); refine (hT _).eq ?_)
    all_goals refine ret_is (a := _) ?_ rfl rfl
    all_goals simp only [↓wBA, tIn, convA, seval]
    all_goals simp_all [wS, enVV]
 ·have k3 : (kind != 3) = true := by simpa using hk
  simp only [ne_eq, hk, not_false_eq_true, if_true]
  repeat' first | ((with_reducible first | refine cond_split ?_ ?_ | refine ws ?_ ?_) <;> intro h <;> try simp only [h]) | simp only [↓wBA, tIn, convA, seval, k3]
  all_goals refine ret_is (a := _) ?_ rfl rfl
  all_goals simp only [↓wBA, tIn, convA, seval]
  all_goals simp_all [wS, enVV]
end Go.Proofs.YtcnkmandddfdmaaGreatDoor
namespace Go.Proofs.YtcnkmandddfdmaaGreatDoor
open Go.RowKit
def tSo := aa wX <| aa wbu <| aa T2 <| aa T3 <| aa T9 T41
theorem fdiv2 (n : Int) : (n.fdiv 2 = 0) = (n = 0 ∨ n = 1) := by
 rw [Int.fdiv_eq_ediv_of_nonneg _ (by decide)]
 apply propext
 omega
theorem list_nil {s : ByteArray} : (s.toList = []) = (s.size = 0) := by
 rw [ba_list]
 apply propext
 constructor
 ·intro h; have := congrArg List.length h; simpa using this
 ·intro h; apply List.eq_nil_of_length_eq_zero; simpa using h
theorem aokR (v : Va) (σ : St) : ACalls Tryz.prog 13 [vaA v] σ fun r s => s = σ ∧ r = boolV (okV v) := by
 refine ACalls.pureF (R := fun r => r = boolV (okV v)) ?_ rfl σ
 obtain ⟨k, n, t⟩ := v
 refine acalls_of cx_ok dr_ok Tryz.func13 (by kernel_rfl) rfl (nt := 57) (rs := [.tmp 2]) rfl rfl ?_
 simp only [vaA, vaC, List.map_cons, List.map_nil]
 repeat' first | ((with_reducible first | refine cs ?_ ?_ | refine ws ?_ ?_) <;> intro h <;> try simp only [h]) | simp only [↓wBA, tSo, convA, seval, binStr]
 all_goals refine ret_is (a := _) ?_ rfl rfl
 all_goals simp only [↓wBA, tSo, convA, seval]
 all_goals simp_all [wS, okV, emp, fdiv2, list_nil]
 all_goals (try omega)
 all_goals grind
end Go.Proofs.YtcnkmandddfdmaaGreatDoor
