/- Runs of the abstract machine, reckoned out. -/
import Derived.Test.YtcnkmandddfdmaaGreatDoorM15
set_option linter.unusedSimpArgs false
set_option linter.unusedVariables false
set_option linter.defProp false
set_option maxRecDepth 100000
set_option maxHeartbeats 32000000
namespace Go.Proofs.YtcnkmandddfdmaaGreatDoor
open Go.RowKit
def bindL {α β : Type} : List α → (α → Option (List β)) → Option (List β)
 | [], _ => some []
 | a :: l, f => match f a with
   | none => none
   | some x => match bindL l f with
     | none => none
     | some y => some (x ++ y)
def bindO {α β : Type} (x : Option (List α)) (f : α → Option (List β)) : Option (List β) := match x with
 | none => none
 | some l => bindL l f
theorem bindL_mem {α β : Type} {f : α → Option (List β)} : ∀ {l : List α} {outs : List β}, bindL l f = some outs → ∀ a ∈ l, ∃ o, f a = some o ∧ ∀ b ∈ o, b ∈ outs
 | [], outs, h, a, ha => by simp at ha
 | x :: l, outs, h, a, ha => by
   simp only [bindL] at h
   split at h
   ·simp at h
   rename_i ox hx
   split at h
   ·simp at h
   rename_i oy hy
   simp only [Option.some.injEq] at h; subst h
   rcases List.mem_cons.1 ha with rfl | ha
   ·exact ⟨ox, hx, fun b hb => List.mem_append.2 (.inl hb)⟩
   ·obtain ⟨o, h1, h2⟩ := bindL_mem hy a ha
    exact ⟨o, h1, fun b hb => List.mem_append.2 (.inr (h2 b hb))⟩
theorem bindO_mem {α β : Type} {x : Option (List α)} {f : α → Option (List β)} {outs : List β} (h : bindO x f = some outs) : ∃ l, x = some l ∧ ∀ a ∈ l, ∃ o, f a = some o ∧ ∀ b ∈ o, b ∈ outs := by
 unfold bindO at h
 split at h
 ·simp at h
 ·rename_i l; exact ⟨l, rfl, bindL_mem h⟩
def nthA : List AV → Nat → AV
 | [], _ => .tup []
 | a :: _, 0 => a
 | _ :: l, n + 1 => nthA l n
theorem nthA_eq : ∀ (l : List AV) (n : Nat), nthA l n = l.getD n (.tup [])
 | [], n => by simp [nthA]
 | a :: l, 0 => rfl
 | a :: l, n + 1 => by rw [nthA, nthA_eq l n]; simp [List.getD]
def constF (v : Value) : AV := match plain v with
 | true => .p (.v v)
 | false => .any
def evF (fr : List AV) : Operand → AV
 | .tmp t => nthA fr t
 | .const v => constF v
 | .global _ => .any
 | .func f => .fn f [] []
theorem evF_eq (fr : List AV) : evF fr = evA fr := by
 funext x
 cases x <;> simp only [evF, evA, nthA_eq, constF]
 split <;> simp_all
def someA (x : Option AV) (σ : St) : Option (AV × St) := match x with
 | some a => some (a, σ)
 | none => none
theorem someA_eq (x : Option AV) (σ : St) : someA x σ = x.map fun a => (a, σ) := by cases x <;> rfl
def opLoad (C : Ctx) (T : TypeId) (x : AV) (σ : St) : Option (AV × St) := match C.ty T with
 | some ti => someA (loadA ti x σ) σ
 | none => none
def opStore (C : Ctx) (T : TypeId) (x y : AV) (σ : St) : Option (AV × St) := match C.ty T with
 | some ti => (storeA ti x y σ).map fun s => (.tup [], s)
 | none => none
def strA : AV → Option ByteArray
 | .p (.v (.string s)) => some s
 | _ => none
theorem strA_eq {x : AV} {s : ByteArray} (h : strA x = some s) : x = .p (.v (.string s)) := by
 unfold strA at h
 split at h
 ·simp at h; rw [h]
 ·simp at h
def u8L : List UInt8 → List UInt8 → Bool
 | [], [] => true
 | a :: l, b :: m => match Nat.beq a.toNat b.toNat with
   | true => u8L l m
   | false => false
 | _, _ => false
theorem u8L_eq : ∀ (l m : List UInt8), u8L l m = (l == m)
 | [], [] => rfl
 | [], _ :: _ => rfl
 | _ :: _, [] => rfl
 | a :: l, b :: m => by
   rw [u8L, u8L_eq l m, List.cons_beq_cons]
   have : Nat.beq a.toNat b.toNat = (a == b) := by
    rw [Bool.eq_iff_iff, Nat.beq_eq, beq_iff_eq]
    exact ⟨fun h => UInt8.toNat_inj.1 h, fun h => by rw [h]⟩
   rw [this]
   cases (a == b) <;> rfl
theorem baL (bs : ByteArray) : ∀ (k i : Nat) (r : List UInt8), bs.size - i = k → ByteArray.toList.loop bs i r = r.reverse ++ bs.data.toList.drop i
 | 0, i, r, h => by
   unfold ByteArray.toList.loop
   have : bs.data.size ≤ i := by simp only [ByteArray.size] at h; omega
   rw [if_neg (by simp only [ByteArray.size]; omega), List.drop_eq_nil_of_le (by simpa using this)]; simp
 | k + 1, i, r, h => by
   unfold ByteArray.toList.loop
   have hi : i < bs.data.size := by simp only [ByteArray.size] at h; omega
   rw [if_pos (by simp only [ByteArray.size]; omega), baL bs k (i + 1) _ (by omega)]
   have : bs.data.toList.drop i = bs.data[i] :: bs.data.toList.drop (i + 1) := by
    rw [List.drop_eq_getElem_cons (by simpa using hi)]; simp
   rw [this]
   simp [ByteArray.get!, getElem!_pos bs.data i hi]
theorem ba_list (bs : ByteArray) : bs.toList = bs.data.toList := by
 unfold ByteArray.toList
 rw [baL bs _ 0 [] rfl]; simp
def binSF (op : BinOp) (x y : ByteArray) : Option Value := match op with
 | .eql => some (.bool (u8L x.data.toList y.data.toList))
 | .neq => some (.bool !(u8L x.data.toList y.data.toList))
 | op => binStr op x y
theorem binSF_eq (op : BinOp) (x y : ByteArray) : binSF op x y = binStr op x y := by
 have h : ∀ z : ByteArray, z.toList = z.data.toList := ba_list
 cases op <;> simp only [binSF, binStr, u8L_eq, h]
def wrapV (x : Option Value) : Option AV := match x with
 | some v => some (.p (.v v))
 | none => none
theorem wrapV_eq (x : Option Value) : wrapV x = x.map fun v => .p (.v v) := by cases x <;> rfl
def binII (op : BinOp) (k k' : IntKind) (a b : Int) : Option AV := match op with
 | .shl => if b < 0 then none else some (intV k (k.wrap (a * 2 ^ (min b.toNat k.bits))))
 | .shr => if b < 0 then none else some (intV k (a.fdiv (2 ^ (min b.toNat k.bits))))
 | _ => if k = k' then wrapV (binInt op k a b) else none
def binF (C : Ctx) (op : BinOp) (T : TypeId) (x y : AV) : Option AV := match intA x with
 | some (k, a) => match intA y with
   | some (k', b) => binII op k k' a b
   | none => binA C op T x y
 | none => match strA x with
   | some a => match strA y with
     | some b => wrapV (binSF op a b)
     | none => binA C op T x y
   | none => binA C op T x y
theorem binF_eq (C : Ctx) (op : BinOp) (T : TypeId) (x y : AV) : binF C op T x y = binA C op T x y := by
 unfold binF
 split
 ·rename_i k a hx
  split
  ·rename_i k' b hy
   rw [intA_eq hx, intA_eq hy]
   cases op <;> simp only [binII, binA, wrapV_eq]
  ·rfl
 ·split
  ·rename_i a hx
   split
   ·rename_i b hy
    rw [strA_eq hx, strA_eq hy]
    simp only [binA, wrapV_eq, binSF_eq]
   ·rfl
  ·rfl
def opFA (C : Ctx) (T : TypeId) (x : AV) (k : Nat) (σ : St) : Option (AV × St) := match C.kind T with
    | some (.struct fs) => match fs[k]?, x with
      | some (off, _, _), .mp t e i o => some (.mp t e i (o + off), σ)
      | some (off, _, _), .ip c o => some (.ip c (o + off), σ)
      | _, _ => none
    | _ => none
def opField (C : Ctx) (T : TypeId) (x : AV) (k : Nat) (σ : St) : Option (AV × St) := match C.kind T, x with
    | some (.struct fs), .agg l => match fs[k]? with
      | some (off, s, r) => (partA r s off l).map fun a => (a, σ)
      | none => none
    | _, _ => none
def opIxS (es : Nat) (n : Int) (x : AV) (σ : St) : Option (AV × St) := match x with
 | .ms t e i m => if e = es ∧ 0 ≤ n ∧ n < m then some (.mp t e (i + n.toNat) 0, σ) else none
 | x' => match elemsA x' with
 | some (e, ls) => if e = es ∧ 0 ≤ n then match ls[n.toNat]? with
  | some c => some (.ip c 0, σ)
  | none => none
   else none
 | none => none
def opIxB (m : Nat) (n : Int) (x : AV) (σ : St) : Option (AV × St) := if 0 ≤ n ∧ n < m then match x with
 | .mp t e j o => some (.mp t e j (o + n.toNat), σ)
 | .ip c o => some (.ip c (o + n.toNat), σ)
 | _ => none
 else none
def opIxA (m es : Nat) (n : Int) (x : AV) (σ : St) : Option (AV × St) := if 0 ≤ n ∧ n < m then match x with
 | .mp t e j o => some (.mp t e j (o + n.toNat * es), σ)
 | .ip c o => some (.ip c (o + n.toNat * es), σ)
 | _ => none
 else none
def opIA (C : Ctx) (T : TypeId) (x i : AV) (σ : St) : Option (AV × St) := match C.kind T with
 | none => none
 | some k => match intA i with
   | none => none
   | some (_, n) => match k with
     | .slice _ es _ _ => opIxS es n x σ
     | .barr m => opIxB m n x σ
     | .arr m es _ => opIxA m es n x σ
     | _ => none
def opExt (x : AV) (k : Nat) (σ : St) : Option (AV × St) := match x with
    | .tup l => match l[k]? with
      | some a => some (a, σ)
      | none => none
    | _ => none
def opNilC (x : AV) (σ : St) : Option (AV × St) := match x with
    | .ip c o => some (.ip c o, σ)
    | .mp t e i o => some (.mp t e i o, σ)
    | _ => none
def opCallF (C : Ctx) (tk : Nat) (c : Call) (ρ : Operand → AV) (σ : St) : Option (AV × St) := match c.callee with
    | .builtin b => builtinA C tk b c.argTypes.toList (c.args.toList.map ρ) σ
    | _ => none
def opConv (C : Ctx) (S T : TypeId) (x : AV) (σ : St) : Option (AV × St) := match convA C S T x with
    | some a => some (a, σ)
    | none => (convB C S T x).map fun a => (a, σ)
def aopF (C : Ctx) (tk : Nat) (op : Op) (ρ : Operand → AV) (σ : St) : Option (AV × St) := match op with
 | .move x => some (ρ x, σ)
 | .assign x => some (ρ x, σ)
 | .load T x => opLoad C T (ρ x) σ
 | .store T x y => opStore C T (ρ x) (ρ y) σ
 | .binOp op T x y _ => someA (binF C op T (ρ x) (ρ y)) σ
 | .unOp op _ x => someA (unA op (ρ x)) σ
 | .convert S T x => opConv C S T (ρ x) σ
 | .fieldAddr T x k => opFA C T (ρ x) k σ
 | .field T x k => opField C T (ρ x) k σ
 | .indexAddr T x i => opIA C T (ρ x) (ρ i) σ
 | .extract x k => opExt (ρ x) k σ
 | .nilCheck x => opNilC (ρ x) σ
 | .call c => opCallF C tk c ρ σ
 | op => aop C tk op ρ σ
theorem aopF_eq (C : Ctx) (tk : Nat) (op : Op) (ρ : Operand → AV) (σ : St) : aopF C tk op ρ σ = aop C tk op ρ σ := by
 cases op with
 | load T x => simp only [aopF, opLoad, aop]; cases C.ty T <;> simp [someA_eq]
 | binOp op T x y T' => simp only [aopF, aop, someA_eq, binF_eq]
 | unOp op T x => simp only [aopF, aop, someA_eq]
 | indexAddr T x i =>
   simp only [aopF, opIA, aop]
   cases C.kind T with
   | none => rfl
   | some k =>
     cases hi : intA (ρ i) with
     | none => cases k <;> rfl
     | some q => cases k <;> rfl
 | _ => rfl
def aopMF (C : Ctx) (pos : Option Tmp) (tk : Nat) (op : Op) (ρ : Operand → AV) (σ : St) : Option (AV × St) := match C.muts with
 | [] => aopF C tk op ρ σ
 | _ => aopM C pos tk op ρ σ
theorem aopMF_eq (C : Ctx) (pos : Option Tmp) (tk : Nat) (op : Op) (ρ : Operand → AV) (σ : St) : aopMF C pos tk op ρ σ = aopM C pos tk op ρ σ := by
 unfold aopMF
 split
 ·rename_i hm
  rw [aopF_eq]
  unfold aopM
  split
  ·split
   ·rw [hm]; rfl
   ·rfl
  ·unfold mkM; rw [hm]; rfl
  ·rfl
 ·rfl
abbrev Caller := FuncId → List AV → St → Option (List (AV × St))
def evCallF (call : Caller) (f : AV) (args : List AV) (σ : St) : Option (List (AV × St)) := match f with
 | .fn g first cap => call g (first ++ args ++ cap) σ
 | _ => none
def oneL {α : Type} (x : Option α) : Option (List α) := match x with
 | some x => some [x]
 | none => none
def evStep (call : Caller) (C : Ctx) (o : Oper) (fr : List AV) (σ : St) : Option (List (AV × St)) := match calleeOf o.op with
 | some (f, args) => evCallF call (evF fr f) (args.map (evF fr)) σ
 | none => oneL (aopMF C o.dst σ.length o.op (evF fr) σ)
def evWantJ (y : Option (Option Bool)) (want : Bool) : Option Bool := match y with
    | some (some b) => some (b == want)
    | some none => some false
    | none => none
def evWant (ops : Array Oper) (o : Oper) (fr : List AV) : Option Bool := match o.guard with
 | none => some true
 | some (j, want) => evWantJ (yieldA ops fr j) want
def setF : List AV → Nat → AV → List AV
 | [], _, _ => []
 | _ :: l, 0, x => x :: l
 | a :: l, n + 1, x => a :: setF l n x
theorem setF_eq : ∀ (l : List AV) (n : Nat) (x : AV), setF l n x = l.set n x
 | [], _, _ => rfl
 | _ :: _, 0, _ => rfl
 | a :: l, n + 1, x => by rw [setF, setF_eq l n x]; rfl
def setAF (fr : List AV) (d : Option Tmp) (r : AV) : List AV := match d with
 | some d => setF fr d r
 | none => fr
theorem setAF_eq (fr : List AV) (d : Option Tmp) (r : AV) : setAF fr d r = setA fr d r := by
 cases d <;> simp only [setAF, setA, setF_eq]
def evOp1 (call : Caller) (C : Ctx) (ops : Array Oper) (o : Oper) (next : List AV → St → Option (List (List AV × St))) (fr : List AV) (σ : St) : Option (List (List AV × St)) := match evWant ops o fr with
    | some true => bindO (evStep call C o fr σ) fun x => next (setAF fr o.dst x.1) x.2
    | some false => next (setAF fr o.dst (.tup [])) σ
    | none => none
def evOps (call : Caller) (C : Ctx) (ops : Array Oper) : List Oper → List AV → St → Option (List (List AV × St))
 | [] => fun fr σ => some [(fr, σ)]
 | o :: os => evOp1 call C ops o (evOps call C ops os)
def evDet (C : Ctx) (o : Oper) (L : List Nat) (fr : List AV) (σ : St) : Option (List Nat × AV) := match loadOf o.op with
 | some (T, x) => match loadT C T (evF fr x) σ with
   | some v => some (tokOf (evF fr x) ++ L, v)
   | none => none
 | none => if stillOp C o.op then match aopF C σ.length o.op (evF fr) σ with
  | some (r, _) => some (L, r)
  | none => none
   else none
def evPl (call : Caller) (C : Ctx) (ops : Array Oper) : Plan → List Nat → List AV → St → Option (List (List AV × St))
 | .done, L, fr, σ => some [(fr, σ)]
 | .det i p, L, fr, σ => match ops[i]? with
   | none => none
   | some o => match evWant ops o fr with
     | some true => match evDet C o L fr σ with
       | some (L', r) => evPl call C ops p L' (setAF fr o.dst r) σ
       | none => none
     | some false => evPl call C ops p L (setAF fr o.dst (.tup [])) σ
     | none => none
 | .act i p, L, fr, σ => match ops[i]? with
   | none => none
   | some o => match evWant ops o fr with
     | some true => bindO (evStep call C o fr (maskS L σ)) fun x => evPl call C ops p L (setAF fr o.dst x.1) (unmaskS L σ x.2)
     | some false => evPl call C ops p L (setAF fr o.dst (.tup [])) σ
     | none => none
 | .fin i p, L, fr, σ => match ops[i]? with
   | none => none
   | some o => match evWant ops o fr with
     | some true => bindO (evStep call C o fr σ) fun x => evPl call C ops p [] (setAF fr o.dst x.1) x.2
     | some false => evPl call C ops p [] (setAF fr o.dst (.tup [])) σ
     | none => none
 | .two i p j q, L, fr, σ => match (match ops[i]? with
   | none => none
   | some o => match evWant ops o fr with
     | some true => bindO (evStep call C o fr (maskS L σ)) fun x => evPl call C ops p L (setAF fr o.dst x.1) (unmaskS L σ x.2)
     | some false => evPl call C ops p L (setAF fr o.dst (.tup [])) σ
     | none => none), (match ops[j]? with
   | none => none
   | some o => match evWant ops o fr with
     | some true => bindO (evStep call C o fr (maskS L σ)) fun x => evPl call C ops q L (setAF fr o.dst x.1) (unmaskS L σ x.2)
     | some false => evPl call C ops q L (setAF fr o.dst (.tup [])) σ
     | none => none) with
   | some x, some y => some (x ++ y)
   | _, _ => none
def mkPlan (C : Ctx) (ops : Array Oper) : Nat → Array Bool → Option Plan
 | 0, _ => some .done
 | n + 1, listed => match Region.ready .any ops listed with
   | [] => some .done
   | i :: rd => match (i :: rd).find? (fun i => Region.free .any ops listed i && ((ops[i]?).any fun o => stillOp C o.op || isLoad o.op)) with
     | some i => match mkPlan C ops n (listed.setIfInBounds i true) with
       | some p => some (.det i p)
       | none => none
     | none => match rd with
       | [] => match mkPlan C ops n (listed.setIfInBounds i true) with
         | some p => match isAct C ops i && finB ops listed i with
           | true => some (.fin i p)
           | false => some (.act i p)
         | none => none
       | [j] => match mkPlan C ops n (listed.setIfInBounds i true), mkPlan C ops n (listed.setIfInBounds j true) with
         | some p, some q => some (.two i p j q)
         | _, _ => none
       | _ => none
def evDraw (call : Caller) (C : Ctx) (ops : Array Oper) (fr : List AV) (σ : St) : Option (List (List AV × St)) := match mkPlan C ops ops.size (Array.replicate ops.size false) with
 | some pl => if Nat.ble (planLen pl) ops.size && Region.noSelect ops && planOk C ops pl (Array.replicate ops.size false) then evPl call C ops pl [] fr σ else none
 | none => none
def mapO {α β : Type} (x : Option (List α)) (f : α → β) : Option (List β) := match x with
 | none => none
 | some l => some (l.map f)
abbrev Outs := Option (List (Exit × List AV × St))
def nrm (x : List AV × St) : Exit × List AV × St := (.normal, x.1, x.2)
def evSeqK (ev : Code → List AV → St → Outs) (y : Code) (q : Exit × List AV × St) : Outs := match q.1 with
    | .normal => ev y q.2.1 q.2.2
    | e => some [(e, q.2.1, q.2.2)]
def evCondK (ev : Code → List AV → St → Outs) (c : AV) (x y : Code) (fr : List AV) (σ : St) : Outs := match c with
    | .p (.v (.bool b)) => match b with
      | true => ev x fr σ
      | false => ev y fr σ
    | _ => none
def evBlockK (id : Nat) (q : Exit × List AV × St) : Exit × List AV × St := match q.1 with
    | .exit id' => if id' = id then (.normal, q.2.1, q.2.2) else (.exit id', q.2.1, q.2.2)
    | e => (e, q.2.1, q.2.2)
def evLoopK (ev : Code → List AV → St → Outs) (c : Code) (n : Nat) (q : Exit × List AV × St) : Outs := match q.1 with
    | .normal => match Nat.ble n q.2.2.length with
      | true => ev (.loop c) q.2.1 q.2.2
      | false => none
    | e => some [(e, q.2.1, q.2.2)]
def evC1 (call : Caller) (C : Ctx) (ev : Code → List AV → St → Outs) (c : Code) (fr : List AV) (σ : St) : Outs := match c with
 | .skip => some [(.normal, fr, σ)]
 | .region _ ops d => match d with
   | false => mapO (evOps call C ops ops.toList fr σ) nrm
   | true => mapO (evDraw call C ops fr σ) nrm
 | .seq x y => bindO (ev x fr σ) (evSeqK ev y)
 | .cond c x y => evCondK ev (evF fr c) x y fr σ
 | .block id c => mapO (ev c fr σ) (evBlockK id)
 | .loop c => bindO (ev c fr σ) (evLoopK ev c σ.length)
 | .exit id => some [(.exit id, fr, σ)]
 | .ret => some [(.ret, fr, σ)]
 | _ => none
def evCode (call : Caller) (C : Ctx) : Nat → Code → List AV → St → Outs
 | 0 => fun _ _ _ => none
 | n + 1 => evC1 call C (evCode call C n)
section
variable {P : Program} {C : Ctx} {call : Caller} {ops : Array Oper}
theorem want_true {o : Oper} {fr : List AV} {A B : Prop} (h : evWant ops o fr = some true) (hA : A) : ifWanted ops o fr A B := by
 unfold evWant at h
 unfold ifWanted
 split at h
 ·rename_i hg; rw [hg]; exact hA
 ·rename_i j want hg
  rw [hg]
  unfold evWantJ at h
  split at h
  ·rename_i b hy
   simp only [Option.some.injEq, beq_iff_eq] at h
   simp only [hy]
   exact ⟨fun _ => hA, fun h' => by rw [h] at h'; cases want <;> simp at h'⟩
  ·simp at h
  ·simp at h
theorem want_false {o : Oper} {fr : List AV} {A B : Prop} (h : evWant ops o fr = some false) (hB : B) : ifWanted ops o fr A B := by
 unfold evWant at h
 unfold ifWanted
 split at h
 ·simp at h
 ·rename_i j want hg
  rw [hg]
  unfold evWantJ at h
  split at h
  ·rename_i b hy
   simp only [Option.some.injEq, beq_eq_false_iff_ne] at h
   simp only [hy]
   exact ⟨fun h' => absurd h' h, fun _ => hB⟩
  ·rename_i hy
   simp only [hy]; exact hB
  ·simp at h
def CallOk (P : Program) (call : Caller) : Prop := ∀ g args σ outs, call g args σ = some outs → ACalls P g args σ fun r s => (r, s) ∈ outs
theorem evStep_sound (hc : CallOk P call) {o : Oper} {fr : List AV} {σ : St} {outs : List (AV × St)} (h : evStep call C o fr σ = some outs) : aStep P C o fr σ fun r s => (r, s) ∈ outs := by
 unfold evStep at h
 unfold aStep
 rw [evF_eq, aopMF_eq] at h
 split at h
 ·rename_i f args hf
  rw [hf]
  unfold evCallF at h
  split at h
  ·rename_i g first cap he
   simp only [he]
   exact hc _ _ _ _ h
  ·simp at h
 ·rename_i hf
  rw [hf]
  unfold oneL at h
  split at h
  ·rename_i x hx
   simp only [Option.some.injEq] at h; subst h
   simp only [hx, onSome]
   exact List.mem_singleton.2 rfl
  ·simp at h
theorem evOps_sound (hc : CallOk P call) : ∀ {os : List Oper} {fr : List AV} {σ : St} {outs : List (List AV × St)} {K : List AV → St → Prop}, evOps call C ops os fr σ = some outs → (∀ q ∈ outs, K q.1 q.2) → aOpsL P C ops os fr σ K
 | [], fr, σ, outs, K, h, hK => by
   simp only [evOps, Option.some.injEq] at h; subst h
   exact hK (fr, σ) (by simp)
 | o :: os, fr, σ, outs, K, h, hK => by
   simp only [evOps, evOp1, setAF_eq] at h
   split at h
   ·rename_i hw
    obtain ⟨l, h1, h2⟩ := bindO_mem h
    refine want_true hw (aStep_mono (evStep_sound hc h1) fun r s hm => ?_)
    obtain ⟨o', g1, g2⟩ := h2 _ hm
    exact evOps_sound hc g1 fun q hq => hK q (g2 q hq)
   ·rename_i hw
    exact want_false hw (evOps_sound hc h hK)
   ·simp at h
theorem aop_same {op : Op} {tk : Nat} {ρ : Operand → AV} {σ s : St} {r : AV} (hs : stillOp C op = true) (h : aop C tk op ρ σ = some (r, s)) : s = σ := by
 have key : ∀ {x : Option AV}, (x.map fun a => (a, σ)) = some (r, s) → s = σ := fun {x} h => by
  cases x <;> simp at h; exact h.2.symm
 cases op with
 | call c =>
   simp only [stillOp] at hs
   simp only [aop] at h
   split at hs
   all_goals first
    | (rename_i hc
       rw [hc] at h
       simp only [builtinA] at h
       split at h <;> first | (simp at h; done) | skip)
    | (simp at hs; done)
   all_goals first
    | (cases hl : lenA C _ _ <;> rw [hl] at h <;> simp at h; exact h.2.symm)
    | (split at h <;> simp at h; exact h.2.symm)
    | (simp_all; done)
    | skip
 | makeFunc f us vs => cases f <;> simp only [aop, Option.some.injEq, Prod.mk.injEq, reduceCtorEq] at h; exact h.2.symm
 | slice T x lo hi mx => cases mx <;> simp only [aop, reduceCtorEq] at h; exact key h
 | move x => simp only [aop, Option.some.injEq, Prod.mk.injEq] at h; exact h.2.symm
 | assign x => simp only [aop, Option.some.injEq, Prod.mk.injEq] at h; exact h.2.symm
 | binOp op T x y T' => exact key h
 | unOp op T x => exact key h
 | convert S T x =>
   simp only [aop] at h
   split at h
   ·simp at h; exact h.2.symm
   ·exact key h
 | _ =>
   first
    | (simp [stillOp] at hs; done)
    | (simp only [aop] at h
       repeat' (split at h)
       all_goals first
        | (simp at h; done)
        | (simp at h; exact h.2.symm)
        | exact key h
        | (simp only [Option.map_eq_some_iff, Prod.mk.injEq] at h; obtain ⟨_, _, _, h⟩ := h; exact h.symm))
theorem evDet_sound {o : Oper} {L L' : List Nat} {fr : List AV} {σ : St} {r : AV} {K : List Nat → AV → Prop} (h : evDet C o L fr σ = some (L', r)) (hK : K L' r) : aDet C o L fr σ K := by
 unfold evDet at h
 unfold aDet
 rw [evF_eq, aopF_eq] at h
 split at h
 ·rename_i T x hl
  simp only [hl]
  split at h
  ·rename_i v hv
   simp only [Option.some.injEq, Prod.mk.injEq] at h
   obtain ⟨rfl, rfl⟩ := h
   simp only [hv]; exact hK
  ·simp at h
 ·rename_i hl
  simp only [hl]
  split at h
  ·rename_i hs
   split at h
   ·rename_i r' s hv
    simp only [Option.some.injEq, Prod.mk.injEq] at h
    obtain ⟨rfl, rfl⟩ := h
    simp only [hv]; exact ⟨aop_same hs hv, hK⟩
   ·simp at h
  ·simp at h
theorem evPl_sound (hc : CallOk P call) : ∀ {pl : Plan} {L : List Nat} {fr : List AV} {σ : St} {outs : List (List AV × St)} {K : List AV → St → Prop}, evPl call C ops pl L fr σ = some outs → (∀ q ∈ outs, K q.1 q.2) → aPl P C ops pl L fr σ K
 | .done, L, fr, σ, outs, K, h, hK => by
   simp only [evPl, Option.some.injEq] at h; subst h
   exact hK (fr, σ) (by simp)
 | .det i p, L, fr, σ, outs, K, h, hK => by
   simp only [evPl, setAF_eq] at h
   simp only [aPl]
   split at h
   ·simp at h
   rename_i o ho
   simp only [ho]
   split at h
   ·rename_i hw
    split at h
    ·rename_i L' r hd
     exact want_true hw (evDet_sound (K := fun L' r => aPl P C ops p L' (setA fr o.dst r) σ K) hd (evPl_sound hc h hK))
    ·simp at h
   ·rename_i hw
    exact want_false hw (evPl_sound hc h hK)
   ·simp at h
 | .act i p, L, fr, σ, outs, K, h, hK => by
   simp only [evPl, setAF_eq] at h
   simp only [aPl]
   split at h
   ·simp at h
   rename_i o ho
   simp only [ho]
   split at h
   ·rename_i hw
    obtain ⟨l, h1, h2⟩ := bindO_mem h
    refine want_true hw (aStep_mono (evStep_sound hc h1) fun r s hm => ?_)
    obtain ⟨o', g1, g2⟩ := h2 _ hm
    exact evPl_sound hc g1 fun q hq => hK q (g2 q hq)
   ·rename_i hw
    exact want_false hw (evPl_sound hc h hK)
   ·simp at h
 | .fin i p, L, fr, σ, outs, K, h, hK => by
   simp only [evPl, setAF_eq] at h
   simp only [aPl]
   split at h
   ·simp at h
   rename_i o ho
   simp only [ho]
   split at h
   ·rename_i hw
    obtain ⟨l, h1, h2⟩ := bindO_mem h
    refine want_true hw (aStep_mono (evStep_sound hc h1) fun r s hm => ?_)
    obtain ⟨o', g1, g2⟩ := h2 _ hm
    exact evPl_sound hc g1 fun q hq => hK q (g2 q hq)
   ·rename_i hw
    exact want_false hw (evPl_sound hc h hK)
   ·simp at h
 | .two i p j q, L, fr, σ, outs, K, h, hK => by
   simp only [evPl, setAF_eq] at h
   simp only [aPl]
   split at h
   case h_2 => simp at h
   rename_i x y hx hy
   simp only [Option.some.injEq] at h; subst h
   constructor
   ·split at hx
    ·simp at hx
    rename_i o ho
    simp only [ho]
    split at hx
    ·rename_i hw
     obtain ⟨l, h1, h2⟩ := bindO_mem hx
     refine want_true hw (aStep_mono (evStep_sound hc h1) fun r s hm => ?_)
     obtain ⟨o', g1, g2⟩ := h2 _ hm
     exact evPl_sound hc g1 fun q hq => hK q (List.mem_append.2 (.inl (g2 q hq)))
    ·rename_i hw
     exact want_false hw (evPl_sound hc hx fun q hq => hK q (List.mem_append.2 (.inl hq)))
    ·simp at hx
   ·split at hy
    ·simp at hy
    rename_i o ho
    simp only [ho]
    split at hy
    ·rename_i hw
     obtain ⟨l, h1, h2⟩ := bindO_mem hy
     refine want_true hw (aStep_mono (evStep_sound hc h1) fun r s hm => ?_)
     obtain ⟨o', g1, g2⟩ := h2 _ hm
     exact evPl_sound hc g1 fun q hq => hK q (List.mem_append.2 (.inr (g2 q hq)))
    ·rename_i hw
     exact want_false hw (evPl_sound hc hy fun q hq => hK q (List.mem_append.2 (.inr hq)))
    ·simp at hy
theorem evDraw_sound (hc : CallOk P call) {fr : List AV} {σ : St} {outs : List (List AV × St)} {K : List AV → St → Prop} (h : evDraw call C ops fr σ = some outs) (hK : ∀ q ∈ outs, K q.1 q.2) : aDraw P C ops fr σ K := by
 unfold evDraw at h
 split at h
 ·rename_i pl hpl
  split at h
  ·rename_i hok
   simp only [Bool.and_eq_true] at hok
   exact ⟨pl, Nat.le_of_ble_eq_true hok.1.1, hok.1.2, hok.2, evPl_sound hc h hK⟩
  ·simp at h
 ·simp at h
theorem mapO_mem {α β : Type} {x : Option (List α)} {f : α → β} {outs : List β} (h : mapO x f = some outs) : ∃ l, x = some l ∧ outs = l.map f := by
 unfold mapO at h
 split at h
 ·simp at h
 ·rename_i l; simp only [Option.some.injEq] at h; exact ⟨l, rfl, h.symm⟩
theorem evCode_sound (hc : CallOk P call) : ∀ {c : Code} {n : Nat} {fr : List AV} {σ : St} {outs : List (Exit × List AV × St)} {Q : Exit → List AV → St → Prop}, evCode call C n c fr σ = some outs → (∀ q ∈ outs, Q q.1 q.2.1 q.2.2) → AWp P C (aDraw P C) c fr σ Q
 | .skip, 0, fr, σ, outs, Q, h, hQ => by simp [evCode] at h
 | .skip, n + 1, fr, σ, outs, Q, h, hQ => by
   simp only [evCode, evC1, Option.some.injEq] at h; subst h
   exact hQ (.normal, fr, σ) (by simp)
 | .exit id, 0, fr, σ, outs, Q, h, hQ => by simp [evCode] at h
 | .exit id, n + 1, fr, σ, outs, Q, h, hQ => by
   simp only [evCode, evC1, Option.some.injEq] at h; subst h
   exact hQ (.exit id, fr, σ) (by simp)
 | .ret, 0, fr, σ, outs, Q, h, hQ => by simp [evCode] at h
 | .ret, n + 1, fr, σ, outs, Q, h, hQ => by
   simp only [evCode, evC1, Option.some.injEq] at h; subst h
   exact hQ (.ret, fr, σ) (by simp)
 | .region id ops false, 0, fr, σ, outs, Q, h, hQ => by simp [evCode] at h
 | .region id ops false, n + 1, fr, σ, outs, Q, h, hQ => by
   simp only [evCode, evC1] at h
   obtain ⟨l, h1, rfl⟩ := mapO_mem h
   simp only [AWp]
   exact evOps_sound hc h1 fun q hq => hQ (.normal, q.1, q.2) (List.mem_map.2 ⟨q, hq, rfl⟩)
 | .region id ops true, 0, fr, σ, outs, Q, h, hQ => by simp [evCode] at h
 | .region id ops true, n + 1, fr, σ, outs, Q, h, hQ => by
   simp only [evCode, evC1] at h
   obtain ⟨l, h1, rfl⟩ := mapO_mem h
   simp only [AWp]
   exact evDraw_sound hc h1 fun q hq => hQ (.normal, q.1, q.2) (List.mem_map.2 ⟨q, hq, rfl⟩)
 | .seq x y, 0, fr, σ, outs, Q, h, hQ => by simp [evCode] at h
 | .seq x y, n + 1, fr, σ, outs, Q, h, hQ => by
   simp only [evCode, evC1] at h
   obtain ⟨l, h1, h2⟩ := bindO_mem h
   simp only [AWp]
   refine evCode_sound (c := x) hc h1 fun q hq => ?_
   obtain ⟨o, g1, g2⟩ := h2 q hq
   obtain ⟨e, fr', σ'⟩ := q
   cases e with
   | normal => exact evCode_sound (c := y) hc g1 fun z hz => hQ z (g2 z hz)
   | _ =>
     simp only [evSeqK, Option.some.injEq] at g1; subst g1
     exact hQ _ (g2 _ (by simp))
 | .cond c x y, 0, fr, σ, outs, Q, h, hQ => by simp [evCode] at h
 | .cond c x y, n + 1, fr, σ, outs, Q, h, hQ => by
   simp only [evCode, evC1] at h
   simp only [AWp]
   rw [evF_eq] at h
   unfold evCondK at h
   split at h
   ·rename_i b hb
    simp only [hb]
    refine ⟨fun e => ?_, fun e => ?_⟩
    ·subst e; exact evCode_sound (c := x) hc h hQ
    ·subst e; exact evCode_sound (c := y) hc h hQ
   ·simp at h
 | .block id c, 0, fr, σ, outs, Q, h, hQ => by simp [evCode] at h
 | .block id c, n + 1, fr, σ, outs, Q, h, hQ => by
   simp only [evCode, evC1] at h
   obtain ⟨l, h1, rfl⟩ := mapO_mem h
   simp only [AWp]
   refine evCode_sound (c := c) hc h1 fun q hq => ?_
   have := hQ _ (List.mem_map.2 ⟨q, hq, rfl⟩)
   obtain ⟨e, fr', σ'⟩ := q
   cases e with
   | exit id' =>
     simp only [evBlockK] at this ⊢
     split
     ·rename_i hid; simpa [hid] using this
     ·rename_i hid; simpa [hid] using this
   | _ => exact this
 | .loop c, 0, fr, σ, outs, Q, h, hQ => by simp [evCode] at h
 | .loop c, n + 1, fr, σ, outs, Q, h, hQ => by
   simp only [AWp]
   refine ⟨{ q : Nat × List AV × St // σ.length ≤ q.2.2.length ∧ ∃ o, evCode call C q.1 (.loop c) q.2.1 q.2.2 = some o ∧ ∀ z ∈ o, z ∈ outs }, fun x => x.1.2, fun x => x.1.1, ⟨(n + 1, fr, σ), Nat.le_refl _, outs, h, fun z hz => hz⟩, { z // z ∈ outs }, fun y => y.1, fun x => x.2.1, .inl ⟨rfl, rfl⟩, fun y => hQ _ y.2, ?_⟩
   rintro ⟨⟨k, fr1, σ1⟩, hl, o, ho, hsub⟩
   cases k with
   | zero => simp [evCode] at ho
   | succ k =>
     simp only [evCode, evC1] at ho
     obtain ⟨l, h1, h2⟩ := bindO_mem ho
     refine evCode_sound (c := c) hc h1 fun q hq => ?_
     obtain ⟨o2, g1, g2⟩ := h2 q hq
     obtain ⟨e, fr', σ'⟩ := q
     cases e with
     | normal =>
       simp only [evLoopK] at g1
       split at g1
       ·rename_i hb
        have hb' := Nat.le_of_ble_eq_true hb
        exact ⟨⟨(k, fr', σ'), Nat.le_trans hl hb', o2, g1, fun z hz => hsub z (g2 z hz)⟩, by simp, .inl ⟨rfl, rfl⟩⟩
       ·simp at g1
     | _ =>
       simp only [evLoopK, Option.some.injEq] at g1; subst g1
       exact ⟨⟨_, hsub _ (g2 _ (by simp))⟩, rfl, .inl ⟨rfl, rfl⟩, .inl (Nat.le_refl _)⟩
 | .rangeFunc _ _ _ _, 0, fr, σ, outs, Q, h, hQ => by simp [evCode] at h
 | .rangeFunc _ _ _ _, n + 1, fr, σ, outs, Q, h, hQ => by simp [evCode, evC1] at h
 | .scope _, 0, fr, σ, outs, Q, h, hQ => by simp [evCode] at h
 | .scope _, n + 1, fr, σ, outs, Q, h, hQ => by simp [evCode, evC1] at h
 | .label _, 0, fr, σ, outs, Q, h, hQ => by simp [evCode] at h
 | .label _, n + 1, fr, σ, outs, Q, h, hQ => by simp [evCode, evC1] at h
 | .goto _, 0, fr, σ, outs, Q, h, hQ => by simp [evCode] at h
 | .goto _, n + 1, fr, σ, outs, Q, h, hQ => by simp [evCode, evC1] at h
 | .refuse _, 0, fr, σ, outs, Q, h, hQ => by simp [evCode] at h
 | .refuse _, n + 1, fr, σ, outs, Q, h, hQ => by simp [evCode, evC1] at h
def flatG : AV → Bool
 | .agg l => l.all leaf
 | .tup _ => false
 | _ => true
def flatT : AV → Bool
 | .tup l => l.all flatG
 | a => flatG a
def okO (n : Nat) : Option Ob → Bool
 | some (.row _ ls) => ls.all (tokLtL n)
 | some (.map es) => es.all fun q => tokLt n q.2
 | _ => true
def trimO (n : Nat) (x : AV × St) : AV × St := if tokLt n (frzA x.1) && flatT x.1 && (x.2.take n).all (okO n) then (frzA x.1, x.2.take n) else x
theorem le_frzA {σ τ : St} {n : Nat} {a : AV} (h : tokLt n (frzA a) = true) (hg : ∀ l, a ≠ .agg l) (ht : ∀ l, a ≠ .tup l) : leA σ n τ a (frzA a) := by
 cases a <;> simp only [frzA] at h ⊢
 case agg l => exact absurd rfl (hg l)
 case tup l => exact absurd rfl (ht l)
 case own t e ls => exact .inr (.inr (.inl ⟨t, e, ls, rfl, rfl⟩))
 case nown t e ls => exact .inr (.inr (.inr (.inl ⟨t, e, ls, rfl, rfl⟩)))
 all_goals exact .inr (.inl ⟨rfl, h⟩)
theorem le_frzC {σ τ : St} {n : Nat} : ∀ {l : List AV}, tokLtL n (frzL l) = true → l.all leaf = true → leC σ n τ l (frzL l)
 | [], _, _ => trivial
 | a :: l, h, hl => by
   simp only [frzL, tokLtL, Bool.and_eq_true] at h
   simp only [List.all_cons, Bool.and_eq_true] at hl
   refine ⟨le_frzA h.1 (fun l e => ?_) (fun l e => ?_), by rw [leaf_frz]; exact hl.1, le_frzC h.2 hl.2⟩
   ·rw [e] at hl; simp [leaf] at hl
   ·rw [e] at hl; simp [leaf] at hl
theorem le_frzG {σ τ : St} {n : Nat} {a : AV} (h : tokLt n (frzA a) = true) (hf : flatG a = true) : leG σ n τ a (frzA a) := by
 cases a
 case agg l =>
  simp only [frzA, tokLt] at h
  exact .inr ⟨l, _, rfl, by simp only [frzA], le_frzC h hf⟩
 case tup l => simp [flatG] at hf
 all_goals exact .inl (le_frzA h (fun l e => by cases e) (fun l e => by cases e))
theorem le_frzM {σ τ : St} {n : Nat} : ∀ {l : List AV}, tokLtL n (frzL l) = true → l.all flatG = true → leM σ n τ l (frzL l)
 | [], _, _ => trivial
 | a :: l, h, hl => by
   simp only [frzL, tokLtL, Bool.and_eq_true] at h
   simp only [List.all_cons, Bool.and_eq_true] at hl
   exact ⟨le_frzG h.1 hl.1, le_frzM h.2 hl.2⟩
theorem le_frzT {σ τ : St} {n : Nat} {a : AV} (h : tokLt n (frzA a) = true) (hf : flatT a = true) : leT σ n τ a (frzA a) := by
 cases a
 case tup l =>
  simp only [frzA, tokLt] at h
  exact .inr ⟨l, _, rfl, by simp only [frzA], le_frzM h hf⟩
 all_goals exact .inl (le_frzG h hf)
theorem leS_take {σ0 τ : St} {k : Nat} : ∀ (σ : St) (n : Nat), (σ.take n).all (okO k) = true → leS σ0 k τ σ (σ.take n)
 | [], n, _ => by simp [leS]
 | s :: σ, 0, _ => by simp [leS]
 | s :: σ, n + 1, h => by
   simp only [List.take_succ_cons, List.all_cons, Bool.and_eq_true] at h ⊢
   simp only [leS]
   refine ⟨?_, leS_take σ n h.2⟩
   cases s with
   | none => simp [leO]
   | some ob => cases ob <;> simp only [leO, okO] at h ⊢ <;> simp_all <;> exact h.1
theorem trim_weak {n : Nat} {r : AV} {σ' : St} (hn : n ≤ σ'.length) : WeakE [r] σ' [(trimO n (r, σ')).1] (trimO n (r, σ')).2 ∧ n ≤ (trimO n (r, σ')).2.length := by
 unfold trimO
 split
 ·rename_i h
  simp only [Bool.and_eq_true] at h
  have e : min σ'.length (σ'.take n).length = n := by simp; omega
  refine ⟨.inr ⟨?_, ?_⟩, by simp; omega⟩
  ·rw [e]; exact ⟨le_frzT h.1.1 h.1.2, trivial⟩
  ·rw [e]; exact leS_take σ' n h.2
 ·exact ⟨.inl ⟨rfl, rfl⟩, hn⟩
def isEnd : Exit → Bool
 | .ret | .normal => true
 | _ => false
def evBody (call : Caller) (P : Program) (C : Ctx) (m : Nat) (f : FuncId) (args : List AV) (σ : St) : Option (List (AV × St)) := match P.funcs[f]? with
 | none => none
 | some fn => if fn.name == "runtime.NumGoroutine" then none else match fn.body with
   | none => none
   | some c => bindO (evCode call C m c (args ++ List.replicate (fn.ntmps - args.length) (.tup [])) σ) fun q =>
     if isEnd q.1 && Nat.ble σ.length q.2.2.length then match resA C fn.results.toList q.2.1 q.2.2 with
      | some r => some [trimO σ.length (r, q.2.2)]
      | none => none
     else none
theorem evBody_sound (hC : C.ok P) (hm : P.follows .mixedOrders = true) (hc : CallOk P call) {m : Nat} {f : FuncId} {args : List AV} {σ : St} {outs : List (AV × St)} (h : evBody call P C m f args σ = some outs) : ACalls P f args σ fun r s => (r, s) ∈ outs := by
 unfold evBody at h
 split at h
 ·simp at h
 rename_i fn hf
 split at h
 ·simp at h
 rename_i hname
 split at h
 ·simp at h
 rename_i c hb
 obtain ⟨l, h1, h2⟩ := bindO_mem h
 refine ACalls_of hC (aDraw_ok hC hm) hf (by simpa using hname) hb rfl (evCode_sound hc h1 fun q hq => ?_)
 obtain ⟨o, g1, g2⟩ := h2 q hq
 split at g1
 ·rename_i he
  simp only [Bool.and_eq_true] at he
  split at g1
  ·rename_i r hr
   simp only [Option.some.injEq] at g1; subst g1
   obtain ⟨k1, k2⟩ := trim_weak (r := r) (σ' := q.2.2) (Nat.le_of_ble_eq_true he.2)
   refine ⟨?_, r, _, _, hr, k1, k2, g2 _ (by simp)⟩
   have := he.1
   cases hq1 : q.1 <;> rw [hq1] at this <;> simp [isEnd] at this
   ·exact .inr rfl
   ·exact .inl rfl
  ·simp at g1
 ·simp at g1
mutual
def pvB : PV → PV → Bool
 | .v x, .v y => vEq x y
 | .sl e ls, .sl e' ls' => Nat.beq e e' && pvR ls ls'
 | _, _ => false
def pvR : List (List PV) → List (List PV) → Bool
 | [], [] => true
 | c :: ls, c' :: ls' => pvC c c' && pvR ls ls'
 | _, _ => false
def pvC : List PV → List PV → Bool
 | [], [] => true
 | x :: c, y :: c' => pvB x y && pvC c c'
 | _, _ => false
end
mutual
theorem pvB_eq : ∀ {x y : PV}, pvB x y = true → x = y
 | .v x, .v y, h => by simp only [pvB] at h; rw [vEq_eq h]
 | .sl e ls, .sl e' ls', h => by
   simp only [pvB, Bool.and_eq_true] at h
   rw [Nat.eq_of_beq_eq_true h.1, pvR_eq h.2]
 | .v _, .sl _ _, h => by simp [pvB] at h
 | .sl _ _, .v _, h => by simp [pvB] at h
theorem pvR_eq : ∀ {x y : List (List PV)}, pvR x y = true → x = y
 | [], [], _ => rfl
 | c :: ls, c' :: ls', h => by
   simp only [pvR, Bool.and_eq_true] at h
   rw [pvC_eq h.1, pvR_eq h.2]
 | [], _ :: _, h => by simp [pvR] at h
 | _ :: _, [], h => by simp [pvR] at h
theorem pvC_eq : ∀ {x y : List PV}, pvC x y = true → x = y
 | [], [], _ => rfl
 | c :: ls, c' :: ls', h => by
   simp only [pvC, Bool.and_eq_true] at h
   rw [pvB_eq h.1, pvC_eq h.2]
 | [], _ :: _, h => by simp [pvC] at h
 | _ :: _, [], h => by simp [pvC] at h
end
mutual
def avB : AV → AV → Bool
 | .p x, .p y => pvB x y
 | .agg l, .agg m => avL l m
 | .tup l, .tup m => avL l m
 | _, _ => false
def avL : List AV → List AV → Bool
 | [], [] => true
 | a :: l, b :: m => avB a b && avL l m
 | _, _ => false
end
mutual
theorem avB_eq : ∀ (x y : AV), avB x y = true → x = y
 | .p x, .p y, h => by simp only [avB] at h; rw [pvB_eq h]
 | .agg l, .agg m, h => by simp only [avB] at h; rw [avL_eq l m h]
 | .tup l, .tup m, h => by simp only [avB] at h; rw [avL_eq l m h]
 | .any, _, h => by simp [avB] at h
 | .own .., _, h => by simp [avB] at h
 | .nown .., _, h => by simp [avB] at h
 | .ip .., _, h => by simp [avB] at h
 | .mp .., _, h => by simp [avB] at h
 | .ms .., _, h => by simp [avB] at h
 | .fn .., _, h => by simp [avB] at h
 | .mmap .., _, h => by simp [avB] at h
 | .raw .., _, h => by simp [avB] at h
 | .p _, .any, h => by simp [avB] at h
 | .p _, .own .., h => by simp [avB] at h
 | .p _, .nown .., h => by simp [avB] at h
 | .p _, .ip .., h => by simp [avB] at h
 | .p _, .mp .., h => by simp [avB] at h
 | .p _, .ms .., h => by simp [avB] at h
 | .p _, .fn .., h => by simp [avB] at h
 | .p _, .mmap .., h => by simp [avB] at h
 | .p _, .raw .., h => by simp [avB] at h
 | .p _, .agg .., h => by simp [avB] at h
 | .p _, .tup .., h => by simp [avB] at h
 | .agg _, .any, h => by simp [avB] at h
 | .agg _, .own .., h => by simp [avB] at h
 | .agg _, .nown .., h => by simp [avB] at h
 | .agg _, .ip .., h => by simp [avB] at h
 | .agg _, .mp .., h => by simp [avB] at h
 | .agg _, .ms .., h => by simp [avB] at h
 | .agg _, .fn .., h => by simp [avB] at h
 | .agg _, .mmap .., h => by simp [avB] at h
 | .agg _, .raw .., h => by simp [avB] at h
 | .agg _, .p .., h => by simp [avB] at h
 | .agg _, .tup .., h => by simp [avB] at h
 | .tup _, .any, h => by simp [avB] at h
 | .tup _, .own .., h => by simp [avB] at h
 | .tup _, .nown .., h => by simp [avB] at h
 | .tup _, .ip .., h => by simp [avB] at h
 | .tup _, .mp .., h => by simp [avB] at h
 | .tup _, .ms .., h => by simp [avB] at h
 | .tup _, .fn .., h => by simp [avB] at h
 | .tup _, .mmap .., h => by simp [avB] at h
 | .tup _, .raw .., h => by simp [avB] at h
 | .tup _, .p .., h => by simp [avB] at h
 | .tup _, .agg .., h => by simp [avB] at h
theorem avL_eq : ∀ (x y : List AV), avL x y = true → x = y
 | [], [], _ => rfl
 | c :: ls, c' :: ls', h => by
   simp only [avL, Bool.and_eq_true] at h
   rw [avB_eq c c' h.1, avL_eq ls ls' h.2]
 | [], _ :: _, h => by simp [avL] at h
 | _ :: _, [], h => by simp [avL] at h
end
def nubA : List AV → List AV
 | [] => []
 | [a] => [a]
 | a :: l => if (nubA l).any (avB a) then nubA l else a :: nubA l
theorem nub_mem : ∀ {l : List AV} {x : AV}, x ∈ l → x ∈ nubA l
 | [], x, h => h
 | [a], x, h => by simpa [nubA] using h
 | a :: b :: l, x, h => by
   simp only [nubA]
   rcases List.mem_cons.1 h with rfl | h
   ·split
    ·rename_i ha
     obtain ⟨y, h1, h2⟩ := List.any_eq_true.1 ha
     rw [avB_eq _ _ h2]; exact h1
    ·simp
   ·split
    ·exact nub_mem h
    ·exact List.mem_cons.2 (.inr (nub_mem h))
abbrev Known := List (FuncId × List AV × AV)
def findK : Known → FuncId → List AV → Option AV
 | [], _, _ => none
 | (g, bs, r) :: k, f, args => match Nat.beq g f with
   | true => match avL bs args with
     | true => some r
     | false => findK k f args
   | false => findK k f args
def KnownOk (P : Program) (k : Known) : Prop := ∀ x ∈ k, ∀ σ, ACalls P x.1 x.2.1 σ fun r s => r = x.2.2 ∧ s = σ
theorem findK_ok : ∀ {k : Known} {f : FuncId} {args : List AV} {r : AV}, KnownOk P k → findK k f args = some r → ∀ σ, ACalls P f args σ fun r' s => r' = r ∧ s = σ
 | [], f, args, r, hk, h => by simp [findK] at h
 | (g, bs, r0) :: k, f, args, r, hk, h => by
   have hk' : KnownOk P k := fun x hx => hk x (by simp [hx])
   simp only [findK] at h
   split at h
   ·rename_i hg
    split at h
    ·rename_i ha
     simp only [Option.some.injEq] at h; subst h
     have := hk (g, bs, r0) (by simp)
     rw [← Nat.eq_of_beq_eq_true hg, ← avL_eq _ _ ha]
     exact this
    ·exact findK_ok hk' h
   ·exact findK_ok hk' h
theorem ACalls.frzArgs {f : FuncId} {args : List AV} {σ : St} {R : AV → St → Prop} (h : ACalls P f (frzL args) σ R) : ACalls P f args σ R :=
 ⟨h.1, fun M vs hM hv => h.2 M vs hM (ARepL.frz args vs hv)⟩
def evPure (σ : St) (outs : Option (List (AV × St))) : Option (List (AV × St)) := match outs with
 | some outs => match outs.all fun x => tokLt 0 (frzA x.1) with
   | true => some ((nubA (outs.map fun x => frzA x.1)).map fun r => (r, σ))
   | false => none
 | none => none
def evFnK1 (P : Program) (C : Ctx) (m : Nat) (k : Known) (call : Caller) (f : FuncId) (args args' : List AV) (σ : St) : Option (List (AV × St)) := match tokLtL 0 args' with
 | true => match findK k f args' with
   | some r => some [(r, σ)]
   | none => evPure σ (evBody call P C m f args' [])
 | false => evBody call P C m f args σ
def evFnK (P : Program) (C : Ctx) (m : Nat) (k : Known) : Nat → Caller
 | 0 => fun _ _ _ => none
 | n + 1 => fun f args σ => evFnK1 P C m k (evFnK P C m k n) f args (frzL args) σ
theorem evFnK_sound (hC : C.ok P) (hm : P.follows .mixedOrders = true) (m : Nat) {k : Known} (hk : KnownOk P k) : ∀ n, CallOk P (evFnK P C m k n)
 | 0 => fun g args σ outs h => by simp [evFnK] at h
 | n + 1 => fun g args σ outs h => by
   have hc := evFnK_sound hC hm m hk n
   simp only [evFnK, evFnK1] at h
   split at h
   ·rename_i ha
    split at h
    ·rename_i r hr
     simp only [Option.some.injEq] at h; subst h
     refine (findK_ok hk hr σ).frzArgs.mono ?_
     rintro r' s ⟨rfl, rfl⟩
     simp
    ·unfold evPure at h
     split at h
     ·rename_i o ho
      split at h
      ·rename_i hall
       simp only [Option.some.injEq] at h; subst h
       refine (ACalls.pureF (R := fun r => r ∈ nubA (o.map fun x => frzA x.1)) ((evBody_sound hC hm hc ho).mono fun r s hr => ⟨?_, nub_mem (List.mem_map.2 ⟨_, hr, rfl⟩)⟩) ha σ).frzArgs.mono ?_
       ·exact List.all_eq_true.1 hall _ hr
       ·rintro r s ⟨rfl, hr⟩
        exact List.mem_map.2 ⟨r, hr, rfl⟩
      ·simp at h
     ·simp at h
   ·exact evBody_sound hC hm hc h
def saysIt (r : AV) : Option (List (AV × St)) → Bool
 | some [(x, [])] => avB x r
 | _ => false
theorem known_cons (hC : C.ok P) (hm : P.follows .mixedOrders = true) {m n : Nat} {k : Known} (hk : KnownOk P k) {f : FuncId} {args : List AV} {r : AV} (h : saysIt r (evFnK P C m k n f args []) = true) (ha : tokLtL 0 args = true) (hr : tokLt 0 r = true) : KnownOk P ((f, args, r) :: k) := by
 intro x hx
 rcases List.mem_cons.1 hx with rfl | hx
 ·have key : evFnK P C m k n f args [] = some [(r, [])] := by
   unfold saysIt at h
   split at h
   ·rename_i x he; rw [he, avB_eq _ _ h]
   ·simp at h
  intro σ
  have h1 := evFnK_sound hC hm m hk n _ _ _ _ key
  refine (ACalls.pure (R := fun r' => r' = r) (h1.mono ?_) ha σ).mono fun r s h => ⟨h.2, h.1⟩
  intro r' s hr'
  simp only [List.mem_singleton, Prod.mk.injEq] at hr'
  obtain ⟨rfl, rfl⟩ := hr'
  exact ⟨hr, rfl⟩
 ·exact hk x hx
theorem known_nil : KnownOk P [] := fun x hx => by simp at hx
end
end Go.Proofs.YtcnkmandddfdmaaGreatDoor
