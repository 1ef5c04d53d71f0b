/- DmlBack, plain: what comes back of a row's literals. A text that is begin, parsed. -/
import Derived.Test.YtcnkmandddfdmaaGreatDoorM41
import Derived.Test.YtcnkmandddfdmaaGreatDoorM33
set_option linter.unusedSimpArgs false
set_option linter.unusedVariables false
set_option linter.defProp false
set_option maxRecDepth 100000
set_option maxHeartbeats 32000000
namespace Go.Proofs.YtcnkmandddfdmaaGreatDoor
open Go.RowKit
def joinB : List (List UInt8) → List UInt8
 | [] => []
 | [a] => a
 | a :: b :: l => a ++ 44 :: 32 :: joinB (b :: l)
theorem lex_comma (l : List UInt8) : lexS (44 :: l) = (lexS l).pre [tComma] := by
 rw [lexS_cons, lexB_sg (by decide) (by decide), sgnF_eq]
 have : sgnL (44 :: l) = 1 := by
  unfold sgnL
  have : twoL ((44 :: l).take 2) = false := by cases l <;> simp [twoL]
  rw [this]; rfl
 rw [this]; rfl
theorem lex_shut (l : List UInt8) : lexS (41 :: l) = (lexS l).pre [tShut] := by
 rw [lexS_cons, lexB_sg (by decide) (by decide), sgnF_eq]
 have : sgnL (41 :: l) = 1 := by
  unfold sgnL
  have : twoL ((41 :: l).take 2) = false := by cases l <;> simp [twoL]
  rw [this]; rfl
 rw [this]; rfl
theorem lex_open (l : List UInt8) : lexS (40 :: l) = (lexS l).pre [tOpen] := by
 rw [lexS_cons, lexB_sg (by decide) (by decide), sgnF_eq]
 have : sgnL (40 :: l) = 1 := by
  unfold sgnL
  have : twoL ((40 :: l).take 2) = false := by cases l <;> simp [twoL]
  rw [this]; rfl
 rw [this]; rfl
theorem lex_sp (l : List UInt8) : lexS (32 :: l) = lexS l := by rw [lexS_cons, lexB_sp (by decide)]
theorem lex_vals : ∀ l : List Va, l ≠ [] → (∀ v ∈ l, LitOk v) → lexS (joinB (l.map fun v => bl (showV v)) ++ [41]) = .ok (toksV l ++ [tShut])
 | [], h, _ => absurd rfl h
 | [v], _, hok => by
   have hv := hok v (by simp)
   simp only [List.map_cons, List.map_nil, joinB, toksV]
   rw [lex_ok dlm_shut (lex_show hv.1 hv.2) [], lex_shut, lexS_nil]
   rfl
 | v :: w :: l, _, hok => by
   have hv := hok v (by simp)
   have ih := lex_vals (w :: l) (by simp) fun u hu => hok u (List.mem_cons_of_mem _ hu)
   simp only [List.map_cons, joinB, toksV, List.append_assoc, List.cons_append] at ih ⊢
   rw [lex_ok dlm_comma (lex_show hv.1 hv.2), lex_comma, lex_sp, ih]
   simp only [LexO.pre, List.append_assoc, List.cons_append, List.nil_append]
def q1 : List UInt8 := [105, 110, 115, 101, 114, 116, 32, 105, 110, 116, 111, 32, 116, 32, 118, 97, 108, 117, 101, 115, 32]
def q2 : List UInt8 := [105, 110, 115, 101, 114, 116, 32, 105, 110, 116, 111, 32, 116, 32]
def q3 : List UInt8 := [32, 118, 97, 108, 117, 101, 115, 32]
theorem lex_q1 : lexS q1 = .ok [(1, wINS, 0), (1, ⟨#[73, 78, 84, 79]⟩, 0), (2, nT, 0), tVal] := by
 rw [lexS_C]; kernel_rfl
theorem lex_q2 : lexS q2 = .ok [(1, wINS, 0), (1, ⟨#[73, 78, 84, 79]⟩, 0), (2, nT, 0)] := by
 rw [lexS_C]; kernel_rfl
theorem lex_q3 : lexS q3 = .ok [tVal] := by
 rw [lexS_C]; kernel_rfl
theorem lex_mid (l : List Va) (hne : l ≠ []) (hok : ∀ v ∈ l, LitOk v) : lexS (41 :: (q3 ++ 40 :: (joinB (l.map fun v => bl (showV v)) ++ [41]))) = .ok (tShut :: tVal :: tOpen :: (toksV l ++ [tShut])) := by
 rw [lex_shut, lex_ok dlm_open lex_q3, lex_open, lex_vals l hne hok]
 rfl
theorem pre_ok {o : LexO} {ts us : List Tok} (h : o.pre ts = .ok us) : ∃ vs, o = .ok vs ∧ us = ts ++ vs := by
 cases o with
 | ok vs => simp only [LexO.pre, LexO.ok.injEq] at h; exact ⟨vs, rfl, h.symm⟩
 | err e => simp [LexO.pre] at h
 | opn => simp [LexO.pre] at h
theorem lex_two {names : List UInt8} {l : List Va} {ts : List Tok} (hne : l ≠ []) (hok : ∀ v ∈ l, LitOk v) (h : lexS (q2 ++ 40 :: (names ++ 41 :: (q3 ++ 40 :: (joinB (l.map fun v => bl (showV v)) ++ [41])))) = .ok ts) : ∃ N, lexS names = .ok N ∧ ts = [(1, wINS, 0), (1, ⟨#[73, 78, 84, 79]⟩, 0), (2, nT, 0), tOpen] ++ (N ++ tShut :: tVal :: tOpen :: (toksV l ++ [tShut])) := by
 rw [lex_ok dlm_open lex_q2, lex_open, LexO.pre_pre] at h
 obtain ⟨us, h1, h2⟩ := pre_ok h
 have hm := lex_mid l hne hok
 generalize q3 ++ 40 :: (joinB (l.map fun v => bl (showV v)) ++ [41]) = M at *
 cases hn : lexS names with
 | ok N =>
   rw [lex_ok dlm_shut hn, hm] at h1
   simp only [LexO.pre, LexO.ok.injEq] at h1
   exact ⟨N, rfl, by rw [h2, ← h1]; rfl⟩
 | err e =>
   rw [lex_bad dlm_shut hn] at h1
   cases h1
 | opn =>
   have p1 := lex_par _ (names ++ 41 :: M) (Nat.le_refl _)
   have p2 := lex_par _ (41 :: M) (Nat.le_refl _)
   have p3 := lex_par _ names (Nat.le_refl _)
   rw [h1] at p1
   rw [hm] at p2
   rw [hn] at p3
   simp only [Par] at p1 p2 p3
   rw [List.count_append] at p1
   omega
theorem alt_ne {T : List Tok} {xs : List ByteArray} (h : AltT T xs) : xs ≠ [] := by cases h <;> simp
theorem alt_one {T : List Tok} {x : ByteArray} (h : AltT T [x]) : ∃ n, T = [(2, x, n)] := by
 cases h with
 | one x n => exact ⟨n, rfl⟩
 | cons x n m h => exact absurd rfl (alt_ne h)
theorem alt_split {N' L : List Tok} {xs : List ByteArray} (h : AltT L xs) : ∀ T, L = T ++ tComma :: N' → ∃ ys zs, xs = ys ++ zs ∧ AltT T ys ∧ AltT N' zs := by
 induction h with
 | one x n =>
   intro T hT
   cases T with
   | nil =>
     simp only [List.nil_append, List.cons.injEq] at hT
     exact absurd (congrArg Prod.fst hT.1) (by show (2 : Int) ≠ 5; decide)
   | cons a T => simp at hT
 | cons x n m h ih =>
   intro T hT
   cases T with
   | nil =>
     simp only [List.nil_append, List.cons.injEq] at hT
     exact absurd (congrArg Prod.fst hT.1) (by show (2 : Int) ≠ 5; decide)
   | cons a T =>
     cases T with
     | nil =>
       simp only [List.cons_append, List.nil_append, List.cons.injEq] at hT
       obtain ⟨rfl, _, rfl⟩ := hT
       exact ⟨[x], _, rfl, .one x n, h⟩
     | cons b T =>
       simp only [List.cons_append, List.cons.injEq] at hT
       obtain ⟨rfl, rfl, hT⟩ := hT
       obtain ⟨ys, zs, h1, h2, h3⟩ := ih T hT
       exact ⟨x :: ys, zs, by rw [h1]; rfl, .cons x n m h2, h3⟩
theorem join_lex : ∀ (Cs : List (List UInt8)) (N : List Tok), Cs ≠ [] → lexS (joinB Cs) = .ok N → (joinB Cs).count 39 = 0 → ∀ xs, AltT N xs → ∃ xss : List (List ByteArray), xs = xss.flatten ∧ xss.length = Cs.length ∧ ∀ i (h : i < Cs.length) (h' : i < xss.length), ∃ T, lexS Cs[i] = .ok T ∧ AltT T xss[i]
 | [], N, h, _, _, _, _ => absurd rfl h
 | [C], N, _, h, _, xs, hx => ⟨[xs], by simp, rfl, fun i hi hi' => by
   have : i = 0 := by simp at hi; omega
   subst this
   exact ⟨N, h, hx⟩⟩
 | C :: D :: l, N, _, h, hq, xs, hx => by
   simp only [joinB] at h hq
   have hc : ∃ T, lexS C = .ok T := by
    cases hC : lexS C with
    | ok T => exact ⟨T, rfl⟩
    | err e => rw [lex_bad dlm_comma hC] at h; cases h
    | opn =>
      have p := lex_par _ C (Nat.le_refl _)
      rw [hC] at p
      simp only [Par] at p
      rw [List.count_append] at hq
      omega
   obtain ⟨T, hT⟩ := hc
   rw [lex_ok dlm_comma hT, lex_comma, lex_sp, LexO.pre_pre] at h
   obtain ⟨N', h1, h2⟩ := pre_ok h
   obtain ⟨ys, zs, g1, g2, g3⟩ := alt_split (N' := N') hx T (by rw [h2]; simp)
   have hq2 : (joinB (D :: l)).count 39 = 0 := by
    rw [List.count_append, List.count_cons_of_ne (by decide), List.count_cons_of_ne (by decide)] at hq
    omega
   obtain ⟨xss, f1, f2, f3⟩ := join_lex (D :: l) N' (by simp) h1 hq2 zs g3
   refine ⟨ys :: xss, by rw [g1, f1]; simp, by simp [f2], fun i hi hi' => ?_⟩
   cases i with
   | zero => exact ⟨T, hT, g2⟩
   | succ i => exact f3 i (by simpa using hi) (by simpa using hi')
theorem flat_len : ∀ xss : List (List ByteArray), (∀ l ∈ xss, l ≠ []) → xss.length ≤ xss.flatten.length
 | [], _ => by simp
 | l :: xss, h => by
   have := flat_len xss fun l hl => h l (by simp [hl])
   have h1 := List.length_pos_iff.2 (h l (by simp))
   simp only [List.flatten_cons, List.length_append, List.length_cons]
   omega
theorem flat_one : ∀ xss : List (List ByteArray), (∀ l ∈ xss, l ≠ []) → xss.flatten.length ≤ xss.length → xss = xss.flatten.map fun x => [x]
 | [], _, _ => rfl
 | l :: xss, h, hl => by
   have h1 := List.length_pos_iff.2 (h l (by simp))
   have h2 := flat_len xss fun l hl => h l (by simp [hl])
   simp only [List.flatten_cons, List.length_append, List.length_cons] at hl
   have ih := flat_one xss (fun l hl => h l (by simp [hl])) (by omega)
   match l, h1, hl with
   | [x], _, _ => simp only [List.flatten_cons, List.cons_append, List.nil_append, List.map_cons]; rw [← ih]
   | x :: y :: l, _, hl => simp only [List.length_cons] at hl; omega
theorem pig : ∀ (n : Nat) (l : List Nat), l.Nodup → (∀ x ∈ l, x < n) → l.length ≤ n
 | 0, l, _, h => by
   cases l with
   | nil => simp
   | cons x l => exact absurd (h x (by simp)) (by omega)
 | n + 1, l, hd, h => by
   by_cases hn : n ∈ l
   ·have h1 := pig n (l.erase n) (hd.erase n) fun x hx => by
     have h2 := (hd.mem_erase_iff).1 hx
     have := h x h2.2
     have := h2.1
     omega
    rw [List.length_erase_of_mem hn] at h1
    omega
   ·have := pig n l hd fun x hx => by
     have h1 := h x hx
     have : x ≠ n := fun e => hn (e ▸ hx)
     omega
    omega
theorem pig_all {n : Nat} {l : List Nat} (hd : l.Nodup) (h : ∀ x ∈ l, x < n) (hl : n ≤ l.length) (j : Nat) (hj : j < n) : j ∈ l := by
 refine Classical.byContradiction fun hn => ?_
 have := pig n (j :: l) (List.nodup_cons.2 ⟨hn, hd⟩) fun x hx => by
  rcases List.mem_cons.1 hx with rfl | hx
  ·exact hj
  ·exact h x hx
 simp only [List.length_cons] at this
 omega
theorem tgo_ok (cols : List Tc) : ∀ (l : List ByteArray) (s : List Int × Bool), (l.foldl (tStep cols) s).2 = false → s.2 = false ∧ (∀ n ∈ l, 0 ≤ idxP (isN n) cols ∧ idxP (isN n) cols ∉ s.1) ∧ (l.map fun n => idxP (isN n) cols).Nodup
 | [], s, h => ⟨h, by simp, by simp⟩
 | n :: l, s, h => by
   obtain ⟨h1, h2, h3⟩ := tgo_ok cols l _ h
   simp only [tStep, Bool.or_eq_false_iff, decide_eq_false_iff_not, List.any_eq_false, beq_iff_eq] at h1
   have h1' : ∀ x ∈ s.1, idxP (isN n) cols ≠ x := fun x hx => by simpa using h1.2 x hx
   refine ⟨h1.1.1, fun m hm => ?_, ?_⟩
   ·rcases List.mem_cons.1 hm with rfl | hm
    ·exact ⟨by omega, fun hx => h1' _ hx rfl⟩
    ·have := h2 m hm
     simp only [tStep, List.mem_append, not_or] at this
     exact ⟨this.1, this.2.1⟩
   ·simp only [List.map_cons]
    refine List.nodup_cons.2 ⟨fun hx => ?_, h3⟩
    obtain ⟨m, hm, he⟩ := List.mem_map.1 hx
    have := (h2 m hm).2
    simp only [tStep, List.mem_append, not_or, List.mem_singleton] at this
    exact this.2 he
theorem idx_some {cols : List Tc} {n : ByteArray} (h : 0 ≤ idxP (isN n) cols) : ∃ i, ∃ hi : i < cols.length, idxP (isN n) cols = (i : Nat) ∧ cols[i].1 = n := by
 unfold idxP at h ⊢
 cases hf : cols.findIdx? (isN n) with
 | none => rw [hf] at h; simp at h
 | some i =>
   obtain ⟨hi, hp, _⟩ := List.findIdx?_eq_some_iff_getElem.1 hf
   refine ⟨i, hi, rfl, ?_⟩
   simp only [isN, beq_iff_eq] at hp
   exact ba_ext hp
theorem lo_byte : ∀ b : UInt8, capF 97 122 (-32) (capF 65 90 32 b) = capF 97 122 (-32) b ∧ capF 65 90 32 (capF 65 90 32 b) = capF 65 90 32 b ∧ (isWb b = true → isWb (capF 65 90 32 b) = true) ∧ (clsB b = 1 → clsB (capF 65 90 32 b) = 1) := by
 have h : ((List.range 256).all fun n => (fun b : UInt8 => (capF 97 122 (-32) (capF 65 90 32 b) == capF 97 122 (-32) b) && (capF 65 90 32 (capF 65 90 32 b) == capF 65 90 32 b) && (!isWb b || isWb (capF 65 90 32 b)) && (!(clsB b == 1) || clsB (capF 65 90 32 b) == 1)) (UInt8.ofNat n)) = true := by kernel_rfl
 intro b
 have hb := List.all_eq_true.1 h b.toNat (List.mem_range.2 b.toNat_lt)
 rw [UInt8.ofNat_toNat] at hb
 simp only [Bool.and_eq_true, beq_iff_eq, Bool.or_eq_true, Bool.not_eq_true'] at hb
 obtain ⟨⟨⟨h1, h2⟩, h3⟩, h4⟩ := hb
 refine ⟨h1, h2, fun hw => ?_, fun hc => ?_⟩
 ·rcases h3 with h3 | h3
  ·rw [hw] at h3; cases h3
  ·exact h3
 ·rcases h4 with h4 | h4
  ·rw [hc] at h4; simp at h4
  ·exact h4
theorem tw_mem {p : UInt8 → Bool} : ∀ {l : List UInt8}, ∀ b ∈ l.takeWhile p, p b = true
 | [], b, h => by simp at h
 | c :: l, b, h => by
   by_cases hc : p c = true
   ·rw [List.takeWhile_cons, if_pos hc] at h
    rcases List.mem_cons.1 h with rfl | h
    ·exact hc
    ·exact tw_mem b h
   ·rw [List.takeWhile_cons, if_neg hc] at h; simp at h
theorem lex_again : ∀ (n : Nat) (a : List UInt8) (x : ByteArray) (m : Int), a.length ≤ n → lexS a = .ok [(2, x, m)] → lexS (bl x) = .ok [(2, x, 0)]
 | _, [], x, m, _, h => by rw [lexS_nil] at h; simp at h
 | 0, c :: l, x, m, hn, _ => by simp at hn
 | n + 1, c :: l, x, m, hn, h => by
   simp only [List.length_cons] at hn
   rw [lexS_cons] at h
   have one : ∀ {o : LexO} {t : Tok}, o.pre [t] = .ok [(2, x, m)] → t = (2, x, m) := fun h => by
    obtain ⟨vs, _, h2⟩ := pre_ok h
    simp only [List.cons_append, List.nil_append, List.cons.injEq] at h2
    exact h2.1.symm
   rcases clsB_in c with hc | hc | hc | hc
   ·exfalso
    by_cases h39 : c = 39
    ·subst h39
     rw [lexB_39] at h
     cases hq : quoS l with
     | none => rw [hq] at h; cases h
     | some q =>
       rw [hq] at h
       simp only at h
       split at h
       ·cases h
       ·exact absurd (congrArg Prod.fst (one h)) (by show (4 : Int) ≠ 2; decide)
    ·rw [lexB_sg hc h39] at h
     split at h
     ·cases h
     ·exact absurd (congrArg Prod.fst (one h)) (by show (5 : Int) ≠ 2; decide)
   ·rw [lexB_wd hc, wordF_eq] at h
    have hcw : isWb c = true := by simp [isWb, hc]
    have hall : ∀ b ∈ c :: l.takeWhile isWb, isWb b = true := fun b hb => by
     rcases List.mem_cons.1 hb with rfl | hb
     ·exact hcw
     ·exact tw_mem b hb
    have hw : ∃ w, c :: l.takeWhile isWb = w := ⟨_, rfl⟩
    obtain ⟨w, hw⟩ := hw
    have hwc : w = c :: w.tail := by rw [← hw]; rfl
    rw [hw] at h hall
    cases hg : wordG w with
    | none => rw [hg] at h; cases h
    | some t =>
      rw [hg] at h
      have ht := one h
      subst ht
      unfold wordG at hg
      split at hg
      ·exact absurd (congrArg Prod.fst (Option.some.inj hg)) (by show (1 : Int) ≠ 2; decide)
      ·rename_i hk
       split at hg
       ·cases hg
       ·rename_i h32
        have hx : mkB (w.map (capF 65 90 32)) = x := congrArg (fun t : Tok => t.2.1) (Option.some.inj hg)
        have hup : (w.map (capF 65 90 32)).map (capF 97 122 (-32)) = w.map (capF 97 122 (-32)) := by
         rw [List.map_map]; exact List.map_congr_left fun b _ => (lo_byte b).1
        have hlo : (w.map (capF 65 90 32)).map (capF 65 90 32) = w.map (capF 65 90 32) := by
         rw [List.map_map]; exact List.map_congr_left fun b _ => (lo_byte b).2.1
        have hwg : wordG (w.map (capF 65 90 32)) = some (2, x, 0) := by
         unfold wordG
         rw [hup, if_neg hk, if_neg (by rw [List.length_map]; exact h32), hlo, hx]
        rw [← hx, bl_mk, hwc, List.map_cons, lexS_cons, lexB_wd ((lo_byte c).2.2.2 hc), wordF_eq]
        obtain ⟨e1, e2⟩ := tw_all (p := isWb) (l := w.tail.map (capF 65 90 32)) fun b hb => by
         obtain ⟨b', hb', rfl⟩ := List.mem_map.1 hb
         exact (lo_byte b').2.2.1 (hall b' (by rw [hwc]; exact List.mem_cons_of_mem _ hb'))
        rw [e1, e2, ← List.map_cons, ← hwc, hwg, lexS_nil, hx]
        rfl
   ·exfalso
    rw [lexB_dg hc] at h
    split at h
    ·cases h
    ·split at h
     ·exact absurd (congrArg Prod.fst (one h)) (by show (3 : Int) ≠ 2; decide)
     ·cases h
   ·rw [lexB_sp hc] at h
    exact lex_again n l x m (by omega) h
theorem tgt_ok {ns : List ByteArray} {cols : List Tc} (h : (tgtS ns cols).2 ≠ 32) : (∀ n ∈ ns, 0 ≤ idxP (isN n) cols) ∧ (ns.map fun n => idxP (isN n) cols).Nodup := by
 unfold tgtS at h
 split at h
 ·exact absurd rfl h
 ·rename_i hg
  obtain ⟨_, h2, h3⟩ := tgo_ok cols ns ([], false) (by simpa [tGo] using hg)
  exact ⟨fun n hn => (h2 n hn).1, h3⟩
theorem names_own {cols : List Tc} {Cs : List ByteArray} {ns : List ByteArray} {N : List Tok} (hlen : Cs.length = cols.length) (hne : cols ≠ []) (hCmem : ∀ c ∈ Cs, ∃ k, ∃ h : k < cols.length, cols[k].1 = c) (hl : lexS (joinB (Cs.map bl)) = .ok N) (ha : AltT N ns) (ht : (tgtS ns cols).2 ≠ 32) : ns = Cs := by
 obtain ⟨hi, hd⟩ := tgt_ok ht
 have hq : (joinB (Cs.map bl)).count 39 = 0 := by
  have p := lex_par _ (joinB (Cs.map bl)) (Nat.le_refl _)
  rw [hl] at p
  exact p.2 ha.no4
 have hCne : Cs.map bl ≠ [] := fun e => by
  have := congrArg List.length e
  simp only [List.length_map, List.length_nil] at this
  rw [hlen] at this
  exact hne (List.length_eq_zero_iff.1 this)
 obtain ⟨xss, f1, f2, f3⟩ := join_lex (Cs.map bl) N hCne hl hq ns ha
 rw [List.length_map] at f2
 have hxne : ∀ l ∈ xss, l ≠ [] := fun l hl' => by
  obtain ⟨i, hi', he⟩ := List.getElem_of_mem hl'
  obtain ⟨T, _, h2⟩ := f3 i (by rw [List.length_map]; omega) hi'
  rw [he] at h2
  exact alt_ne h2
 have hnat : (ns.map fun n => (idxP (isN n) cols).toNat).Nodup := by
  have : (ns.map fun n => (idxP (isN n) cols)) = (ns.map fun n => (idxP (isN n) cols).toNat).map fun k : Nat => (k : Int) := by
   rw [List.map_map]
   refine List.map_congr_left fun n hn => ?_
   have := hi n hn
   simp only [Function.comp_apply]
   omega
  rw [this] at hd
  exact (List.pairwise_map.1 hd).imp fun {a b} h e => h (by rw [e])
 have hlt : ∀ x ∈ ns.map (fun n => (idxP (isN n) cols).toNat), x < cols.length := fun x hx => by
  obtain ⟨n, hn, rfl⟩ := List.mem_map.1 hx
  obtain ⟨i, h1, h2, _⟩ := idx_some (hi n hn)
  omega
 have hle := pig cols.length _ hnat hlt
 rw [List.length_map] at hle
 have hge := flat_len xss hxne
 rw [← f1] at hge
 have hone := flat_one xss hxne (by rw [← f1]; omega)
 rw [← f1] at hone
 have hnl : ns.length = cols.length := by omega
 have hat : ∀ i (h : i < ns.length), ∃ m, lexS (bl (Cs[i]'(by omega))) = .ok [(2, ns[i], m)] := fun i h => by
  obtain ⟨T, h1, h2⟩ := f3 i (by rw [List.length_map]; omega) (by omega)
  have hx : xss[i]'(by omega) = [ns[i]] := by
   have : xss[i]? = some [ns[i]] := by rw [hone, List.getElem?_map, List.getElem?_eq_getElem h]; rfl
   exact (List.getElem?_eq_some_iff.1 this).2
  rw [hx] at h2
  obtain ⟨m, rfl⟩ := alt_one h2
  rw [List.getElem_map] at h1
  exact ⟨m, h1⟩
 have hcov := fun j hj => pig_all hnat hlt (by rw [List.length_map]; omega) j hj
 have hall : ∀ k (h : k < cols.length), ∃ j, ∃ hj : j < ns.length, ns[j] = cols[k].1 := fun k h => by
  obtain ⟨n, hn, he⟩ := List.mem_map.1 (hcov k h)
  obtain ⟨j, hj, hnj⟩ := List.getElem_of_mem hn
  obtain ⟨i, h1, h2, h3⟩ := idx_some (hi n hn)
  obtain rfl : i = k := by omega
  exact ⟨j, hj, by rw [hnj, h3]⟩
 refine List.ext_getElem (by omega) fun i h1 h2 => ?_
 obtain ⟨m, hm⟩ := hat i h1
 obtain ⟨k, hk, hkc⟩ := hCmem _ (List.getElem_mem h2)
 obtain ⟨j, hj, hjc⟩ := hall k hk
 obtain ⟨m', hm'⟩ := hat j hj
 have hag := lex_again _ _ _ _ (Nat.le_refl _) hm'
 rw [hjc, hkc, hm] at hag
 have := (List.cons.inj (LexO.ok.inj hag)).1
 have hns : ns[i] = Cs[i] := congrArg (fun t : Tok => t.2.1) this
 exact hns
theorem allS_ok {txt : ByteArray} {ts : List Tok} (h : allS txt = .ok ts) : lexS (bl txt) = .ok ts := by
 unfold allS at h
 split at h
 ·cases h
 ·exact h
theorem ins_first {txt : ByteArray} {q : List UInt8} {us : List Tok} {rest : List UInt8} (hq : lexS q = .ok ((1, wINS, 0) :: us)) (hb : bl txt = q ++ 40 :: rest) (ts : List Tok) (h : allS txt = .ok ts) : isF ts 1 wINSERT (0, false) = true ∧ isF ts 1 wCREATE (0, false) = false := by
 have h1 := allS_ok h
 rw [hb, lex_ok dlm_open hq] at h1
 obtain ⟨vs, _, h2⟩ := pre_ok h1
 have hd : ts.drop 0 = (1, wINS, 0) :: (us ++ vs) := by rw [h2]; rfl
 exact ⟨isF_is hd rfl rfl, isF_tx hd (by simp [wINS, wCREATE, ByteArray.toList_eq])⟩
def RowOk (cols : List Tc) (r : List Va) : Prop := r.length = cols.length ∧ valsR cols r r.length ∧ ∀ v ∈ r, LitOk v
theorem range_cols (cols : List Tc) : ((List.range cols.length).map fun p => (cols.getD p (emp, 0, false, false)).1) = cols.map (·.1) := by
 refine List.ext_getElem (by simp) fun i h1 h2 => ?_
 simp only [List.length_map, List.length_range] at h1
 simp [List.getD_eq_getElem?_getD, h1]
theorem range_row {cols : List Tc} {r : List Va} (h : r.length = cols.length) : ((List.range cols.length).map fun p => r.getD p va0) = r := by
 refine List.ext_getElem (by simp [h]) fun i h1 h2 => ?_
 simp [List.getD_eq_getElem?_getD, h2]
theorem back_one {cols : List Tc} {r : List Va} {txt : ByteArray} {s : Sm} (hn : cols.length ≤ 16) (hne : cols ≠ []) (hnm : namesR cols cols.length) (hr : RowOk cols r) (hb : bl txt = q1 ++ 40 :: (joinB (r.map fun v => bl (showV v)) ++ [41])) (h : GoodI txt s) : (insS s cols).2 = 32 ∨ insS s cols = finI cols ([r], 0) := by
 obtain ⟨hl, hv, hlit⟩ := hr
 obtain ⟨ts, h1, h2, h3⟩ := h
 have hts := allS_ok h1
 have hrne : r ≠ [] := fun e => by subst e; exact hne (List.length_eq_zero_iff.1 hl.symm)
 rw [hb, lex_ok dlm_open lex_q1, lex_open, lex_vals r hrne hlit] at hts
 simp only [LexO.pre, LexO.ok.injEq] at hts
 have hs := ins_one hrne hlit (by omega) (ts := ts) (by rw [← hts]; rfl)
 rw [hs] at h2
 subst h2
 have hnms : nmsS (stmtI nT [] [r.map litX]) cols = cols.map (·.1) := by unfold nmsS; exact if_pos rfl
 exact ins_law cols r hl hnm hv hlit (List.range cols.length) (fun p hp => List.mem_range.1 hp) (fun j hj => List.mem_range.2 hj) _ rfl (by rw [hnms, range_cols]) (by rw [range_row hl]; rfl)
theorem back_two {cols : List Tc} {r : List Va} {txt : ByteArray} {s : Sm} (hn : cols.length ≤ 16) (hne : cols ≠ []) (hnm : namesR cols cols.length) (hr : RowOk cols r) (hb : bl txt = q2 ++ 40 :: (joinB ((cols.map (·.1)).reverse.map bl) ++ 41 :: (q3 ++ 40 :: (joinB (r.reverse.map fun v => bl (showV v)) ++ [41])))) (h : GoodI txt s) : (insS s cols).2 = 32 ∨ insS s cols = finI cols ([r], 0) := by
 obtain ⟨hl, hv, hlit⟩ := hr
 obtain ⟨ts, h1, h2, h3⟩ := h
 have hts := allS_ok h1
 have hrne : r.reverse ≠ [] := fun e => by
  have := congrArg List.length e
  simp only [List.length_reverse, List.length_nil] at this
  rw [hl] at this
  exact hne (List.length_eq_zero_iff.1 this)
 have hrl : ∀ v ∈ r.reverse, LitOk v := fun v hv => hlit v (List.mem_reverse.1 hv)
 rw [hb] at hts
 obtain ⟨N, hN, hsh⟩ := lex_two hrne hrl hts
 obtain ⟨ns, ha, hs⟩ := ins_two (allS_len h1) hrne hrl (by rw [List.length_reverse]; omega) hsh h3
 rw [hs] at h2
 subst h2
 have hnsne := alt_ne ha
 have hnms : nmsS (stmtI nT ns [r.reverse.map litX]) cols = ns := by unfold nmsS; exact if_neg hnsne
 by_cases ht : (tgtS ns cols).2 = 32
 ·left
  unfold insS
  rw [if_neg (fun h => h rfl), hnms, if_pos (by rw [ht]; decide)]
  exact ht
 ·have hown := names_own (Cs := (cols.map (·.1)).reverse) (by simp) hne (fun c hc => by
   obtain ⟨x, hx, rfl⟩ := List.mem_map.1 (List.mem_reverse.1 hc)
   obtain ⟨k, hk, he⟩ := List.getElem_of_mem hx
   exact ⟨k, hk, by rw [he]⟩) hN ha ht
  exact ins_law cols r hl hnm hv hlit (List.range cols.length).reverse (fun p hp => List.mem_range.1 (List.mem_reverse.1 hp)) (fun j hj => List.mem_reverse.2 (List.mem_range.2 hj)) _ rfl (by rw [hnms, hown, List.map_reverse, range_cols]) (by rw [show ((List.range cols.length).reverse.map fun p => r.getD p va0) = r.reverse by rw [List.map_reverse, range_row hl]]; rfl)
end Go.Proofs.YtcnkmandddfdmaaGreatDoor
namespace Go.Proofs.YtcnkmandddfdmaaGreatDoor
open Go.RowKit
def tIe := aa wX <| aa wbu <| aa T3 <| aa T4 <| aa T9 <| aa T33 <| aa T36 <| aa T45 <| aa T64 <| aa T67 <| aa T69 T78
def tBeg : Tok := (1, ⟨#[66, 69, 71, 73, 78]⟩, 0)
theorem all_beg : allS ⟨#[98, 101, 103, 105, 110]⟩ = .ok [tBeg] := by
 unfold allS
 rw [if_neg (by decide), lexS_C]
 kernel_rfl
theorem isF_beg {w : ByteArray} (h : (⟨#[66, 69, 71, 73, 78]⟩ : ByteArray).data.toList ≠ w.data.toList) : isF [tBeg] 1 w (0, false) = false := isF_tx (ts := [tBeg]) (k := 0) (t := tBeg) (r := []) rfl (by rw [ByteArray.toList_eq, ByteArray.toList_eq]; exact h)
theorem aparseB (σ : St) : ACalls Tryz.prog 7 [.p (.v (.string ⟨#[98, 101, 103, 105, 110]⟩))] σ fun r s => s = σ ∧ ParseR r := by
 refine ACalls.pureF ?_ rfl σ
 have hA := aallF ⟨#[98, 101, 103, 105, 110]⟩
 rw [all_beg] at hA
 simp only [allR, LexO.toks, LexO.code] at hA
 have c0 := arwF ⟨#[67, 82, 69, 65, 84, 69]⟩ [tBeg] (by decide) (0, false)
 rw [isF_beg (by decide), psF_neg (isF_beg (by decide))] at c0
 have c1 := arwF ⟨#[73, 78, 83, 69, 82, 84]⟩ [tBeg] (by decide) (0, false)
 rw [isF_beg (by decide), psF_neg (isF_beg (by decide))] at c1
 have c2 := arwF ⟨#[83, 69, 76, 69, 67, 84]⟩ [tBeg] (by decide) (0, false)
 rw [isF_beg (by decide), psF_neg (isF_beg (by decide))] at c2
 have c3 := arwF ⟨#[85, 80, 68, 65, 84, 69]⟩ [tBeg] (by decide) (0, false)
 rw [isF_beg (by decide), psF_neg (isF_beg (by decide))] at c3
 have c4 := arwF ⟨#[68, 69, 76, 69, 84, 69]⟩ [tBeg] (by decide) (0, false)
 rw [isF_beg (by decide), psF_neg (isF_beg (by decide))] at c4
 have c5 := arwF ⟨#[66, 69, 71, 73, 78]⟩ [tBeg] (by decide) (0, false)
 have hB : isF [tBeg] 1 ⟨#[66, 69, 71, 73, 78]⟩ (0, false) = true := isF_is (ts := [tBeg]) (k := 0) (t := tBeg) (r := []) rfl rfl rfl
 rw [hB, psF_pos hB] at c5
 have hS : isF [tBeg] 5 sSemi (1, false) = false := by
  unfold isF
  rw [pk_end (ts := [tBeg]) (k := 1) rfl]; rfl
 have c6 := arsF sSemi [tBeg] (by decide) (1, false)
 rw [hS, psF_neg hS] at c6
 simp only [Rs.next, sSemi] at c5 c6
 have hbd : Bd ({ kind := 7, tb := emp, nm := emp, cols := [], names := [], rows := [], items := [], src := [], wh := [], group := [], order := [], limit := -1, sets := [], hash := false }) := by constructor <;> simp [okEL]
 have hl1 : ([tBeg] : List Tok).length = 1 := rfl
 have hq : ((((1 : Nat) : Int)) != (([tBeg] : List Tok).length : Int)) = false := rfl
 have hq1 : (((1 : Int)) != ((1 : Nat) : Int)) = false := rfl
 have hq2 : ((((0 + 1 : Nat) : Int)) != ((1 : Nat) : Int)) = false := rfl
 have hq3 : ((((0 + 1 : Nat) : Int)) != (([tBeg] : List Tok).length : Int)) = false := rfl
 refine acalls_of cx_ok dr_ok Tryz.func7 (by kernel_rfl) rfl (nt := 101) (rs := [.cell 2 36, .tmp 3]) rfl rfl ?_
 repeat' first | ((with_reducible first | refine cs ?_ ?_ | refine ws ?_ ?_) <;> intro h <;> try simp only [h]) | simp only [↓wBA, tIe, convA, seval, len_nilT, hl1, hq, hq1, hq2, hq3] | ((with_reducible show ACalls _ _ _ _ _); first | refine (hA _).eq ?_ | (refine (c0 _ 1 rfl).mono ?_; rintro _ _ ⟨_, ⟨rfl, rfl⟩, rfl⟩; simp only [rdS, rdO]) | (refine (c1 _ 1 rfl).mono ?_; rintro _ _ ⟨_, ⟨rfl, rfl⟩, rfl⟩; simp only [rdS, rdO]) | (refine (c2 _ 1 rfl).mono ?_; rintro _ _ ⟨_, ⟨rfl, rfl⟩, rfl⟩; simp only [rdS, rdO]) | (refine (c3 _ 1 rfl).mono ?_; rintro _ _ ⟨_, ⟨rfl, rfl⟩, rfl⟩; simp only [rdS, rdO]) | (refine (c4 _ 1 rfl).mono ?_; rintro _ _ ⟨_, ⟨rfl, rfl⟩, rfl⟩; simp only [rdS, rdO]) | (refine (c5 _ 1 rfl).mono ?_; rintro _ _ ⟨_, ⟨rfl, rfl⟩, rfl⟩; simp only [rdS, rdO]) | (refine (c6 _ 1 rfl).mono ?_; rintro _ _ ⟨_, ⟨rfl, rfl⟩, rfl⟩; simp only [rdS, rdO]))
 refine (ACalls.aggW (m := (smC ({ kind := 7, tb := emp, nm := emp, cols := [], names := [], rows := [], items := [], src := [], wh := [], group := [], order := [], limit := -1, sets := [], hash := false })).map .p) (by simp [nleC, smC, nilSl, exC, exL, enS, enR, emp, leaf, nilA, List.map_nil, List.map_cons]) (aallE ({ kind := 7, tb := emp, nm := emp, cols := [], names := [], rows := [], items := [], src := [], wh := [], group := [], order := [], limit := -1, sets := [], hash := false }) hbd _)).mono ?_
 rintro _ _ ⟨rfl, xs, rfl, hxl, hxo⟩
 repeat' first | ((with_reducible first | refine cs ?_ ?_ | refine ws ?_ ?_) <;> intro h <;> try simp only [h]) | simp only [↓wBA, tIe, convA, seval]
 refine awp_loopN (xs.length) (fun i => [(9, intV .i64 (i : Nat)), (3, .any), (88, .any), (89, .any), (90, .any), (91, .any), (92, .any), (93, .any), (94, .any), (95, .any), (96, .any), (97, .any), (98, .any), (99, .any), (100, .any)]) (fun i => []) (fun i => True) ?_ ?_ ?_
 ·trivial
 ·skip
  simp only [wR, Nat.reduceAdd, Nat.reduceLT, reduceIte]
  simp [wW]
 ·intro i hi _
  simp only [wR, Nat.reduceAdd, Nat.reduceLT, reduceIte]
  by_cases hltx : i < xs.length
  ·have hdec := dT (i := i) (n := xs.length) hltx
   have hi0 := nnI i
   have hw := wI i (by omega)
   have hg := exL_get xs i hltx
   repeat' first | ((with_reducible first | refine cs ?_ ?_ | refine ws ?_ ?_) <;> intro h <;> try simp only [h]) | simp only [↓wBA, tIe, convA, seval, exL_len, hdec, hi0, hg, exC_len, List.length_map, hw] | ((with_reducible show ACalls _ _ _ _ _); refine (aheight xs[i] (okEL_iff.1 hxo _ (List.getElem_mem hltx)) _).eq ?_)
   ·exact ret_sl (R := ParseR) (r1 := .tup [.agg ((smC sm0).map .p), intV .i64 31]) rfl (by simp [leT, leG, leC, leA, leM, sm0, intV, tokLt, smC, nilSl, exC, exL, enS, enR, emp, leaf, nilA, List.map_nil, List.map_cons]) rfl ⟨sm0, 31, rfl, by simp [sm0], bd0⟩
   ·skip
    refine ⟨⟨i + 1, by omega, ?_⟩, by show xs.length - (i + 1) < xs.length - i; omega, ?_⟩
    ·trivial
    ·skip
     simp only [wR, Nat.reduceAdd, Nat.reduceLT, reduceIte]
     simp [wW]
  ·have hdec := dF (i := i) (n := xs.length) hltx
   repeat' first | ((with_reducible first | refine cs ?_ ?_ | refine ws ?_ ?_) <;> intro h <;> try simp only [h]) | simp only [↓wBA, tIe, convA, seval, exL_len, hdec]
   exact ret_sl (R := ParseR) (r1 := .tup [.agg ((smC ({ kind := 7, tb := emp, nm := emp, cols := [], names := [], rows := [], items := [], src := [], wh := [], group := [], order := [], limit := -1, sets := [], hash := false })).map .p), intV .i64 0]) rfl (by simp [leT, leG, leC, leA, leM, intV, tokLt, tokLtL, smC, nilSl, exC, exL, enS, enR, emp, leaf, nilA, List.map_nil, List.map_cons]) rfl ⟨{ kind := 7, tb := emp, nm := emp, cols := [], names := [], rows := [], items := [], src := [], wh := [], group := [], order := [], limit := -1, sets := [], hash := false }, 0, rfl, by simp, hbd⟩
end Go.Proofs.YtcnkmandddfdmaaGreatDoor
