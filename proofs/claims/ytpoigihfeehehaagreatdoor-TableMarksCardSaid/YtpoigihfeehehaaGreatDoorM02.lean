/- The abstract machine's operations: what each comes to, and that a world that bears the state does the same. That a world that bears the abstract machine's state does what the abstract machine does: loads, stores, new variables, and what only computes. -/
import Derived.Test.YtpoigihfeehehaaGreatDoorM01
set_option linter.all false
set_option maxRecDepth 100000
set_option maxHeartbeats 32000000
namespace Go.Proofs.YtpoigihfeehehaaGreatDoor
open Go.RowKit
inductive TK where
 |int (k:IntKind)
 |bool
 |str
 |slice (e es eb:Nat) (ez:List Value)
 |struct (fs:List (Nat×Nat×Bool))
 |arr (n es:Nat) (er:Bool)
 |barr (n:Nat)
 |map (kd:TypeDesc) (z:Value)
 |ptr
 |other
structure TI where
 size:Nat
 row:Bool
 zero:List Value
 kind:TK
inductive EK where
 |int
 |str
 |bool
structure Ctx where
 ty:TypeId→Option TI
 muts:List Nat
 eqs:TypeId→Option (List EK)
 meth:TypeId→String→Option (FuncId×Option TypeId):=fun _ _=>none
def Ctx.kind (C:Ctx)(t:TypeId):Option TK:=match C.ty t with
 |some ti=>some ti.kind
 |none=>none
def Vi (P:Program)(t:TypeId)(s:Nat)(r:Bool):Prop:=∃ i d,P.info? t=some i∧i.size=s∧P.underlying t=some d∧d.isRow=r
def Adt (b eb:Nat):Prop:=b=eb∨(2*b≤3*eb∧b≤1000000)
def TKOk (P:Program)(d:TypeDesc):TK→Prop
 | .int k=>d= .int k
 | .bool=>d= .bool
 | .str=>d= .string
 | .slice e es eb ez=>d= .slice e∧∃ i z,P.info? e=some i∧i.size=es∧Adt i.bytes eb∧i.zero=some z∧z.cells.toList=ez∧ez.all plain=true∧ez.length=es∧0<es
 | .struct fs=>∃ fields,d= .struct fields∧fields.toList.mapM (fun f=>(P.info? f.type).map fun i=>(f.offset,i.size))=some (fs.map fun x=>(x.1,x.2.1))∧∀ (k off s:Nat) (r:Bool),fs[k]? =some (off,s,r)→∃ f:Field,fields[k]? =some f∧f.offset=off∧Vi P f.type s r∧0<s∧(r=false→s=1)
 | .arr n es er=>∃ e,d= .array n e∧Vi P e es er∧0<es∧(er=false→es=1)
 | .barr n=>∃ e i,d= .array n e∧P.underlying e=some (.int .u8)∧P.info? e=some i∧i.size=1∧2≤P.depth
 | .map kd z=>∃ K E i,d= .map K E∧P.underlying K=some kd∧P.info? E=some i∧i.zero=some z
 | .ptr=>∃ e,d= .pointer e
 | .other=>True
def TyOk (P:Program)(t:TypeId)(ti:TI):Prop:=
 ∃ i d z,P.info? t=some i∧i.size=ti.size∧P.underlying t=some d∧d.isRow=ti.row∧i.zero=some z∧z.cells.toList=ti.zero∧ti.zero.all plain=true∧ti.zero.length=ti.size∧(ti.row=false→ti.size=1)∧TKOk P d ti.kind
def EqF (P:Program):List EK→Nat→List Field→Prop
 |[],_,[]=>True
 |k::ks,n,f::fs=>f.name≠ "_" ∧f.offset=n∧Vi P f.type 1 false∧(match k with
   | .int=>∃ ik,P.underlying f.type=some (.int ik)
   | .str=>P.underlying f.type=some .string
   | .bool=>P.underlying f.type=some .bool)∧EqF P ks (n+1) fs
 |_,_,_=>False
def EqG (P:Program):Nat→List EK→List Field→Prop
 |_,ks,[]=>ks=[]
 |n,ks,f::fs=>f.name≠ "_" ∧f.offset=n∧((∃ k ks',ks=k::ks'∧Vi P f.type 1 false∧(match k with
   | .int=>∃ ik,P.underlying f.type=some (.int ik)
   | .str=>P.underlying f.type=some .string
   | .bool=>P.underlying f.type=some .bool)∧EqG P (n+1) ks' fs)∨∃ sub ks1 ks2,ks=ks1++ks2∧0<ks1.length∧P.underlying f.type=some (.struct sub)∧P.stoodInHeld f.type=false∧Vi P f.type ks1.length true∧EqF P ks1 0 sub.toList∧EqG P (n+ks1.length) ks2 fs)
def EqOk (P:Program)(t:TypeId)(ks:List EK):Prop:=∃ fields,P.underlying t=some (.struct fields)∧P.stoodInHeld t=false∧P.eqGuardType P.depth t=false∧EqG P 0 ks fields.toList
def Anj (P:Program)(t:TypeId)(name:String)(f:FuncId)(E:Option TypeId):Prop:=
 ∃ i m e,P.info? t=some i∧i.methods.find? (·.name==name)=some m∧m.path= #[]∧m.func=some (f,E.isNone)∧P.underlying t=some (.pointer e)∧∀ e',E=some e'→e'=e
def Ctx.ok (P:Program)(C:Ctx):Prop:=(∀ t ti,C.ty t=some ti→TyOk P t ti)∧(∀ t ks,C.eqs t=some ks→EqOk P t ks)∧∀ t name f E,C.meth t name=some (f,E)→Anj P t name f E
def Cu:AV→Option (List AV)
 | .agg l=>some l
 |a=>if leaf a then some [a]else none
def zB (n:Nat):List Value:=List.replicate n (.int .u8 0)
def Co (z:List Value):List AV:=z.map fun x=>.p (.v x)
def Sq:AV:=.p (.v (.slice none 0 0))
def Sr (e:Nat)(ls:List (List PV)):PV:=if ls.isEmpty then .v (.slice none 0 0)else .sl e ls
def toP:AV→Option PV
 | .p x=>some x
 | .own _ e ls=>some (.sl e ls)
 | .nown _ e ls=>some (Sr e ls)
 |_=>none
def Vj:List AV→Option (List PV)
 |[]=>some []
 |a::l=>match toP a,Vj l with
  |some x,some xs=>some (x::xs)
  |_,_=>none
def I1 (r:Bool)(s off:Nat)(l:List AV):Option AV:=
 if r then (if off=0∧s=l.length then some (.agg l)else if off+s≤l.length then some (.agg ((l.drop off).take s))else none)
 else l[off]?
def C9 (l:List AV)(off:Nat)(m:List AV):List AV:=if off=0∧m.length=l.length then m else l.take off++m++l.drop (off+m.length)
def Nr (fs:List (Nat×Nat×Bool)):List AV→List (Nat×AV)→Option (List AV)
 |l,[]=>some l
 |l,(k,a)::ps=>match fs[k]?,Cu a with
  |some (off,s,_),some m=>if m.length=s∧off+m.length≤l.length then Nr fs (C9 l off m) ps else none
  |_,_=>none
def Hc (ti:TI)(a:AV)(σ:St):Option AV:=match a with
 | .mp t e i o=>match σ[t]? with
   |some (some (.row e' ls))=>if e'=e then match ls[i]? with
     |some c=>I1 ti.row ti.size o c
     |none=>none
    else none
   |_=>none
 | .ip c o=>I1 ti.row ti.size o (c.map .p)
 |_=>none
def Q7 (ti:TI)(a x:AV)(σ:St):Option St:=match a,Cu x with
 | .mp t e i o,some m=>match σ[t]? with
   |some (some (.row e' ls))=>if e'=e∧m.length=ti.size then match ls[i]? with
     |some c=>if o+m.length≤c.length then some (σ.set t (some (.row e' (ls.set i (C9 c o m)))))else none
     |none=>none
    else none
   |_=>none
 |_,_=>none
def Bp:AV→Option (Nat×List (List PV))
 | .p (.sl e ls)=>some (e,ls)
 | .own _ e ls=>some (e,ls)
 | .nown _ e ls=>some (e,ls)
 |_=>none
def Hi:AV→Option (IntKind×Int)
 | .p (.v (.int k n))=>some (k,n)
 |_=>none
def Av (b:Bool):AV:=.p (.v (.bool b))
def Ad (k:IntKind)(n:Int):AV:=.p (.v (.int k n))
def B2 (op:BinOp)(k:IntKind)(a b:Int):Option Value:=match op with
 | .add=>some (.int k (k.wrap (a+b)))
 | .sub=>some (.int k (k.wrap (a - b)))
 | .mul=>some (.int k (k.wrap (a*b)))
 | .quo=>if b=0 then none else some (.int k (k.wrap (a.tdiv b)))
 | .rem=>if b=0 then none else some (.int k (a.tmod b))
 | .and=>some (.int k (k.wrap (BitVec.ofInt k.bits a &&& BitVec.ofInt k.bits b).toNat))
 | .or=>some (.int k (k.wrap (BitVec.ofInt k.bits a ||| BitVec.ofInt k.bits b).toNat))
 | .xor=>some (.int k (k.wrap (BitVec.ofInt k.bits a ^^^ BitVec.ofInt k.bits b).toNat))
 | .andNot=>some (.int k (k.wrap (BitVec.ofInt k.bits a &&& ~~~ BitVec.ofInt k.bits b).toNat))
 | .eql=>some (.bool (a==b))
 | .neq=>some (.bool (a != b))
 | .lss=>some (.bool (decide (a<b)))
 | .leq=>some (.bool (decide (a≤b)))
 | .gtr=>some (.bool (decide (a>b)))
 | .geq=>some (.bool (decide (a≥b)))
 |_=>none
def Oi (op:BinOp)(x y:ByteArray):Option Value:=match op with
 | .add=>if ((x.size+y.size:Nat):Int)>IntKind.i64.max then none else some (.string (x++y))
 | .eql=>some (.bool (x.toList==y.toList))
 | .neq=>some (.bool !(x.toList==y.toList))
 | .lss=>some (.bool (Op.bytesLess x.toList y.toList))
 | .leq=>some (.bool (Op.bytesLess x.toList y.toList||x.toList==y.toList))
 | .gtr=>some (.bool !(Op.bytesLess x.toList y.toList||x.toList==y.toList))
 | .geq=>some (.bool !(Op.bytesLess x.toList y.toList))
 |_=>none
def Fx:AV→Option Bool
 | .p (.v (.slice none 0 0))=>some true
 | .p (.v (.slice (some _) 0 _))=>some false
 | .p (.sl _ ls)=>if ls.isEmpty then none else some false
 | .own _ _ _| .ms .. =>some false
 | .nown _ _ ls=>some ls.isEmpty
 |_=>none
def Jp:AV→Option Bool
 | .p (.v (.pointer none))=>some true
 | .mp .. =>some false
 |_=>none
def Gk:Value→Option UInt8
 | .int .u8 n=>if 0≤n∧n<256 then some (UInt8.ofNat n.toNat)else none
 |_=>none
def Ss:AV→Option UInt8
 | .p (.v x)=>Gk x
 |_=>none
def E9:List AV→Option (List UInt8)
 |[]=>some []
 |a::l=>match Ss a,E9 l with
  |some b,some bs=>some (b::bs)
  |_,_=>none
def Fa:List (List PV)→Option (List UInt8)
 |[]=>some []
 |[.v x]::l=>match Gk x,Fa l with
  |some b,some bs=>some (b::bs)
  |_,_=>none
 |_::_=>none
def Lv (op:BinOp)(n:Nat)(l m:List AV):Option AV:=match E9 l,E9 m with
 |some bs,some cs=>if bs.length=n∧cs.length=n then (match op with
   | .eql=>some (Av (bs==cs))
   | .neq=>some (Av (!(bs==cs)))
   |_=>none)else none
 |_,_=>none
def Hj:EK→AV→AV→Option Bool
 | .int,.p (.v (.int k a)),.p (.v (.int k' b))=>if k=k' then some (a==b)else none
 | .str,.p (.v (.string a)),.p (.v (.string b))=>some (a.toList==b.toList)
 | .bool,.p (.v (.bool a)),.p (.v (.bool b))=>some (a==b)
 |_,_,_=>none
def Be:List EK→List AV→List AV→Option Bool
 |[],[],[]=>some true
 |k::ks,x::l,y::m=>match Hj k x y,Be ks l m with
  |some r,some c=>some (r&&c)
  |_,_=>none
 |_,_,_=>none
def Hz (op:BinOp)(ks:Option (List EK))(l m:List AV):Option AV:=match ks with
 |some ks=>match Be ks l m with
  |some b=>match op with
   | .eql=>some (Av b)
   | .neq=>some (Av (!b))
   |_=>none
  |none=>none
 |none=>none
def Fp (C:Ctx)(op:BinOp)(T:TypeId)(x y:AV):Option AV:=match x,y with
 | .p (.v (.int k a)),.p (.v (.int k' b))=>
   match op with
   | .shl=>if b<0 then none else some (Ad k (k.wrap (a*2 ^ (min b.toNat k.bits))))
   | .shr=>if b<0 then none else some (Ad k (a.fdiv (2 ^ (min b.toNat k.bits))))
   |_=>if k=k' then (B2 op k a b).map fun v=>.p (.v v)else none
 | .p (.v (.string a)),.p (.v (.string b))=>(Oi op a b).map fun v=>.p (.v v)
 | .p (.v (.bool a)),.p (.v (.bool b))=>match op,C.kind T with
   | .eql,some .bool=>some (Av (a==b))
   | .neq,some .bool=>some (Av (!(a==b)))
   |_,_=>none
 | .agg l,.agg m=>match C.kind T with
   |some (.barr n)=>Lv op n l m
   |_=>Hz op (C.eqs T) l m
 |x,.p (.v (.slice none 0 0))=>match op,C.kind T,Fx x with
  | .eql,some (.slice ..),some b=>some (Av b)
  | .neq,some (.slice ..),some b=>some (Av (!b))
  |_,_,_=>none
 |x,.p (.v (.pointer none))=>match op,C.kind T,Jp x with
  | .eql,some .ptr,some b=>some (Av b)
  | .neq,some .ptr,some b=>some (Av (!b))
  |_,_,_=>none
 |_,_=>none
def unA (op:UnOp)(x:AV):Option AV:=match op,x with
 | .neg,.p (.v (.int k n))=>some (Ad k (k.wrap (0 - n)))
 | .not,.p (.v (.bool b))=>some (Av !b)
 |_,_=>none
def Cv (C:Ctx)(S T:TypeId)(x:AV):Option AV:=match C.kind S,C.kind T,x with
 |some _,some (.int k),.p (.v (.int _ n))=>some (Ad k (k.wrap n))
 |some _,some .str,.p (.v (.string s))=>some (.p (.v (.string s)))
 |_,_,_=>none
def Adu (C:Ctx)(S T:TypeId)(x:AV):Option AV:=match C.kind S,C.kind T with
 |some (.slice E _ _ _),some .str=>match C.kind E with
  |some (.int .u8)=>match x with
   | .p (.v (.slice none 0 0))=>some (.p (.v (.string ⟨#[]⟩)))
   |x=>match Bp x with
    |some (1,ls)=>(Fa ls).map fun bs=>.p (.v (.string ⟨bs.toArray⟩))
    |_=>none
  |_=>none
 |some .str,some (.slice E _ _ _)=>match C.kind E with
  |some (.int .u8)=>match x with
   | .p (.v (.string s))=>some (.p (.sl 1 (s.data.toList.map fun b=>[.v (.int .u8 b.toNat)])))
   |_=>none
  |_=>none
 |_,_=>none
def Jq:List (List AV)→Option (List UInt8)
 |[]=>some []
 |[.p (.v x)]::l=>match Gk x,Jq l with
  |some b,some bs=>some (b::bs)
  |_,_=>none
 |_::_=>none
def Adv (C:Ctx)(S T:TypeId)(x:AV)(σ:St):Option (AV×St):=match C.kind S with
 |some (.slice E _ _ _)=>match C.kind E with
  |some (.int .u8)=>match x with
   | .ms t 1 i n=>match C.kind T with
     |some .str=>match σ[t]? with
      |some (some (.row 1 ls))=>if i+n≤ls.length then (Jq ((ls.drop i).take n)).map fun bs=>(.p (.v (.string ⟨bs.toArray⟩)),σ)else none
      |_=>none
     |_=>none
   | .own t 1 ls=>if S=T then match σ[t]? with
      |some (some (.right E' n))=>if E'=E∧n=ls.length∧0<n then some (.p (.sl 1 ls),σ.set t none)else none
      |_=>none
     else none
   |_=>none
  |_=>none
 |_=>none
def Qu (es:Nat):List (List AV)→List (Nat×AV)→Option (List (List AV))
 |ls,[]=>some ls
 |ls,(k,a)::ps=>match Cu a with
  |some m=>if m.length=es∧k<ls.length then Qu es (ls.set k m) ps else none
  |none=>none
def I2:List (List AV)→Option (List (List PV))
 |[]=>some []
 |c::ls=>match Vj c,I2 ls with
  |some x,some xs=>some (x::xs)
  |_,_=>none
def Ey (e:Nat):AV→Option (List (List PV))
 | .p (.v (.slice none 0 0))=>some []
 | .p (.v (.slice (some _) 0 _))=>some []
 | .p (.sl e' ls)=>if e'=e then some ls else none
 | .own _ e' ls=>if e'=e then some ls else none
 | .nown _ e' ls=>if e'=e then some ls else none
 |_=>none
def Lx (σ:St)(e:Nat):AV→Option (List (List PV))
 | .bs t e2 i o n=>if e=1 then match σ[t]? with
    |some (some (.row e' ls))=>if e'=e2 then match ls[i]? with
      |some c=>if o+n≤c.length then (Vj ((c.drop o).take n)).map fun l=>l.map fun x=>[x]else none
      |none=>none
     else none
    |_=>none
   else none
 | .ms t e' i n=>match σ[t]? with
    |some (some (.row e2 ls))=>if e'=e∧e2=e∧i+n≤ls.length then I2 ((ls.drop i).take n)else none
    |_=>none
 |y=>Ey e y
def A2 (C:Ctx)(tk:Nat)(T:TypeId)(x y:AV)(σ:St):Option (AV×St):=match C.kind T with
 |some (.slice E es eb _)=>match Lx σ es y with
  |some ms=>match x with
   | .p (.v (.slice none 0 0))=>if ms.length*eb≤140737488355328∧ms.length≤maxLen then
      (match ms with
       |[]=>some (Sq,σ)
       |m::ms'=>some (.own tk es (m::ms'),σ.put tk (.right E ((m::ms').length*es))))else none
   | .own t e ls=>if e=es∧(ls.length+ms.length)*eb≤140737488355328∧ls.length+ms.length≤maxLen then match σ[t]? with
      |some (some (.right E' n))=>if E'=E∧n=ls.length*es then some (.own t es (ls++ms),σ.set t (some (.right E ((ls++ms).length*es))))else none
      |_=>none
     else none
   | .nown t e ls=>if e=es∧(ls.length+ms.length)*eb≤140737488355328∧ls.length+ms.length≤maxLen then match σ[t]? with
      |some (some (.nright E' n))=>if E'=E∧n=ls.length*es then some (.nown t es (ls++ms),σ.set t (some (.nright E ((ls++ms).length*es))))else none
      |_=>none
     else none
   |_=>none
  |none=>none
 |_=>none
def srcM (σ:St)(e:Nat)(y:AV):Option (List (List AV)):=match Ey e y with
 |some ms=>some (ms.map fun c=>c.map .p)
 |none=>match y with
  | .ms t e' i n=>match σ[t]? with
    |some (some (.row e2 ls))=>if e'=e∧e2=e∧i+n≤ls.length then some ((ls.drop i).take n)else none
    |_=>none
  | .bs t e2 i o n=>if e=1 then match σ[t]? with
     |some (some (.row e' ls))=>if e'=e2 then match ls[i]? with
       |some c=>if o+n≤c.length then some (((c.drop o).take n).map fun a=>[a])else none
       |none=>none
      else none
     |_=>none
    else none
  |_=>none
def Da (C:Ctx)(tk:Nat)(T:TypeId)(x y:AV)(σ:St):Option (AV×St):=match C.kind T with
 |some (.slice E es eb _)=>match srcM σ es y with
  |some ms=>match x with
   | .own t e []=>if e=es∧ms.length*eb≤140737488355328∧ms.length≤maxLen then match σ[t]? with
      |some (some (.right E' 0))=>if E'=E then some (.ms tk es 0 ms.length,St.put (σ.set t none) tk (.row es ms))else none
      |_=>none
     else none
   | .p (.v (.slice none 0 0))=>if 0<ms.length∧ms.length*eb≤140737488355328∧ms.length≤maxLen then some (.ms tk es 0 ms.length,St.put σ tk (.row es ms))else none
   | .ms t e 0 h=>if e=es∧(h+ms.length)*eb≤140737488355328∧h+ms.length≤maxLen then match σ[t]? with
      |some (some (.row e2 ls))=>if e2=es∧h≤ls.length then some (.ms tk es 0 (h+ms.length),St.put (σ.set t none) tk (.row es (ls.take h++ms)))else none
      |_=>none
     else none
   |_=>none
  |none=>none
 |_=>none
def Su (C:Ctx)(pos:Bool)(tk:Nat)(T:TypeId)(l c:Operand)(ρ:Operand→AV)(σ:St):Option (AV×St):=match pos,C.kind T,Hi (ρ l),Hi (ρ c)with
 |true,some (.slice E es eb ez),some (_,n),some (_,m)=>if n=m∧0≤n∧eb*n≤140737488355328∧n≤maxLen then
   some (.ms tk es 0 n.toNat,σ.put tk (.row es (List.replicate n.toNat (Co ez))))
  else none
 |_,_,_,_=>none
def G9 (s:ByteArray):List (List PV):=s.data.toList.map fun b=>[.v (.int .u8 (b.toNat:Int))]
def Oj (C:Ctx)(tk:Nat)(T T':TypeId)(x y:AV)(σ:St):Option (AV×St):=match C.kind T,C.kind T',x,Hi y with
 |some (.slice E es eb _),some (.int _),.p (.v (.slice none 0 0)),some (_,n)=>if 0<n∧eb*n≤140737488355328∧n≤maxLen then some (.raw tk es n.toNat,σ.put tk (.right E 0))else none
 |_,_,_,_=>none
def Gm (C:Ctx)(tk:Nat)(T T':TypeId)(x y:AV)(σ:St):Option (AV×St):=match C.kind T',y with
 |some .str,.p (.v (.string s))=>A2 C tk T x (.p (.sl 1 (G9 s))) σ
 |_,_=>Oj C tk T T' x y σ
def Bh (x:Option AV)(n:Int):Option Int:=match x with
 |none=>some n
 |some a=>match Hi a with
  |some (_,i)=>some i
  |none=>none
def Bl (C:Ctx)(T:TypeId)(x:AV)(lo hi:Option AV):Option AV:=match C.kind T with
 |some (.slice _ es _ _)=>match Bp x with
  |some (e,ls)=>match Bh lo 0,Bh hi ls.length with
   |some l,some h=>if e=es∧0≤l∧l≤h∧h≤ls.length then some (.p (.sl e ((ls.take h.toNat).drop l.toNat)))else none
   |_,_=>none
  |none=>match x,Bh lo 0,Bh hi 0 with
   | .p (.v (.slice none 0 0)),some 0,some 0=>some Sq
   | .raw t e k,some 0,_=>match Bh hi k with
     |some 0=>if e=es then some (.own t e [])else none
     |_=>none
   | .ms t e i n,some 0,_=>match Bh hi n with
     |some h=>if e=es∧0≤h∧h≤n then some (.ms t e i h.toNat)else none
     |none=>none
   | .ms t e i n,some l,_=>match Bh hi n with
     |some h=>if e=es∧0≤l∧l<h∧h≤n then some (.ms t e (i+l.toNat) (h.toNat - l.toNat))else if e=es∧0≤l∧l=h∧h≤n then some (.p (.sl e []))else none
     |none=>none
   |_,_,_=>none
 |some .str=>match x with
  | .p (.v (.string s))=>match Bh lo 0,Bh hi s.size with
    |some l,some h=>if 0≤l∧l≤h∧h≤s.size then some (.p (.v (.string (s.extract l.toNat h.toNat))))else none
    |_,_=>none
  |_=>none
 |some (.barr m)=>match x,Bh lo 0,Bh hi m with
  | .mp t e i o,some l,some h=>if 0≤l∧l<h∧h≤m then some (.bs t e i (o+l.toNat) (h.toNat - l.toNat))else none
  |_,_,_=>none
 |_=>none
def Ba (C:Ctx)(T:TypeId)(x:AV):Option Nat:=match C.kind T,x with
 |some .str,.p (.v (.string s))=>some s.size
 |some (.slice ..),a=>match Bp a with
  |some (_,ls)=>some ls.length
  |none=>match a with
   | .p (.v (.slice none 0 0))=>some 0
   | .ms _ _ _ n=>some n
   | .bs _ _ _ _ n=>some n
   |_=>none
 |_,_=>none
def Dn (C:Ctx)(tk:Nat)(b:Builtin)(ts:List TypeId)(xs:List AV)(σ:St):Option (AV×St):=match b,ts,xs with
 | .append,[T,T'],[x,y]=>if T=T' then A2 C tk T x y σ else Gm C tk T T' x y σ
 | .len,[T],[x]=>(Ba C T x).map fun (n:Nat)=>(Ad .i64 (n:Int),σ)
 | .cap,[T],[x]=>match C.kind T,x with
   |some (.slice ..),.p (.v (.slice none 0 0))=>some (Ad .i64 0,σ)
   |_,_=>none
 | .min,_,[x,y]=>match Hi x,Hi y with
   |some (k,n),some (_,m)=>some (Ad k (if m<n then m else n),σ)
   |_,_=>none
 | .max,_,[x,y]=>match Hi x,Hi y with
   |some (k,n),some (_,m)=>some (Ad k (if m>n then m else n),σ)
   |_,_=>none
 |_,_,_=>none
def arrF (n es:Nat)(er:Bool):List (Nat×Nat×Bool):=(List.range n).map fun k=>(k*es,es,er)
def Vk:TypeDesc→Value→Bool
 | .string,.string _=>true
 | .int k,.int k' _=>decide (k=k')
 |_,_=>false
def Jr (kd:TypeDesc)(k:Value):List (Value×AV)→Nat→Option (Option (Nat×AV))
 |[],_=>some none
 |q::es,i=>match Instr.sameNow kd k q.1 with
  |some true=>some (some (i,q.2))
  |some false=>Jr kd k es (i+1)
  |none=>none
def zAV:Value→Option AV
 | .agg us=>if us.toList.all plain then some (.agg (Co us.toList))else none
 |v=>if plain v then some (.p (.v v))else none
def Sv (kd:TypeDesc)(z k:Value)(ok:Bool)(es:List (Value×AV)):Option AV:=if Vk kd k=true then (match Jr kd k es 0 with
    |some (some (_,a))=>some (if ok=true then .tup [a,Av true]else a)
    |some none=>(zAV z).map fun a=>if ok=true then .tup [a,Av false]else a
    |none=>none)else none
def updK (kd:TypeDesc)(k:Value)(x:AV)(es:List (Value×AV)):Option (List (Value×AV)):=if Vk kd k=true then (match Jr kd k es 0 with
    |some (some (i,_))=>some (es.set i (k,x))
    |some none=>some (es++[(k,x)])
    |none=>none)else none
def aop (C:Ctx)(tk:Nat)(op:Op)(ρ:Operand→AV)(σ:St):Option (AV×St):=match op with
 | .move x| .assign x=>some (ρ x,σ)
 | .pick c a b=>match ρ c with
   | .p (.v (.bool t))=>some (if t then ρ a else ρ b,σ)
   |_=>none
 | .alloc T=>(C.ty T).map fun ti=>(.mp tk ti.size 0 0,σ.put tk (.row ti.size [Co ti.zero]))
 | .box T x=>match C.ty T,Cu (ρ x)with
   |some ti,some l=>if l.length=ti.size then some (.mp tk ti.size 0 0,σ.put tk (.row ti.size [l]))else none
   |_,_=>none
 | .build T ps=>match C.ty T with
   |some ti=>match ti.kind with
    | .struct fs=>(Nr fs (Co ti.zero) (ps.toList.map fun q=>(q.1,ρ q.2))).map fun l=>(.agg l,σ)
    | .arr n es er=>(Nr (arrF n es er) (Co ti.zero) (ps.toList.map fun q=>(q.1,ρ q.2))).map fun l=>(.agg l,σ)
    | .barr _=>match ps.toList with
      |[]=>some (.agg (Co ti.zero),σ)
      |_::_=>none
    |_=>none
   |none=>none
 | .load T x=>match C.ty T with
   |some ti=>(Hc ti (ρ x) σ).map fun a=>(a,σ)
   |none=>none
 | .store T x y=>match C.ty T with
   |some ti=>(Q7 ti (ρ x) (ρ y) σ).map fun s=>(.tup [],s)
   |none=>none
 | .binOp op T x y _=>(Fp C op T (ρ x) (ρ y)).map fun a=>(a,σ)
 | .unOp op _ x=>(unA op (ρ x)).map fun a=>(a,σ)
 | .convert S T x=>match Cv C S T (ρ x)with
   |some a=>some (a,σ)
   |none=>match Adu C S T (ρ x)with
    |some a=>some (a,σ)
    |none=>Adv C S T (ρ x) σ
 | .fieldAddr T x k=>match C.kind T with
   |some (.struct fs)=>match fs[k]?,ρ x with
    |some (off,_,_),.mp t e i o=>some (.mp t e i (o+off),σ)
    |some (off,_,_),.ip c o=>some (.ip c (o+off),σ)
    |_,_=>none
   |_=>none
 | .field T x k=>match C.kind T,ρ x with
   |some (.struct fs),.agg l=>match fs[k]? with
    |some (off,s,r)=>(I1 r s off l).map fun a=>(a,σ)
    |none=>none
   |_,_=>none
 | .indexAddr T x i=>match C.kind T,Hi (ρ i)with
   |some (.slice _ es _ _),some (_,n)=>match ρ x with
    | .ms t e i m=>if e=es∧0≤n∧n<m then some (.mp t e (i+n.toNat) 0,σ)else none
    | .bs t e i o m=>if es=1∧0≤n∧n<m then some (.mp t e i (o+n.toNat),σ)else none
    |x'=>match Bp x' with
    |some (e,ls)=>if e=es∧0≤n then match ls[n.toNat]? with
      |some c=>some (.ip c 0,σ)
      |none=>none
     else none
    |none=>none
   |some (.barr m),some (_,n)=>if 0≤n∧n<m then match ρ x with
     | .mp t e j o=>some (.mp t e j (o+n.toNat),σ)
     | .ip c o=>some (.ip c (o+n.toNat),σ)
     |_=>none
    else none
   |some (.arr m es _),some (_,n)=>if 0≤n∧n<m then match ρ x with
     | .mp t e j o=>some (.mp t e j (o+n.toNat*es),σ)
     | .ip c o=>some (.ip c (o+n.toNat*es),σ)
     |_=>none
    else none
   |_,_=>none
 | .index T x i=>match C.kind T,ρ x,Hi (ρ i)with
   |some .str,.p (.v (.string s)),some (_,n)=>if 0≤n then match s[n.toNat]? with
     |some b=>some (Ad .u8 b.toNat,σ)
     |none=>none
    else none
   |some (.arr m es er),.agg l,some (_,n)=>if 0≤n∧n<m then (I1 er es (n.toNat*es) l).map fun a=>(a,σ)else none
   |_,_,_=>none
 | .extract x k=>match ρ x with
   | .tup l=>match l[k]? with
     |some a=>some (a,σ)
     |none=>none
   |_=>none
 | .nilCheck x=>match ρ x with
   | .ip c o=>some (.ip c o,σ)
   | .mp t e i o=>some (.mp t e i o,σ)
   |_=>none
 | .makeFunc (.func f) first cap=>some (.fn f (first.toList.map ρ) (cap.toList.map ρ),σ)
 | .buildSlice T n ps=>match C.kind T with
   |some (.slice E es _ ez)=>if n*es≤2 ^ 24 then match Qu es (List.replicate n (Co ez)) (ps.toList.map fun q=>(q.1,ρ q.2))with
     |some ls=>match I2 ls with
      |some pls=>some (.own tk es pls,σ.put tk (.right E (n*es)))
      |none=>some (.ms tk es 0 n,σ.put tk (.row es ls))
     |none=>none
    else none
   |_=>none
 | .makeSlice T l c=>match C.kind T,Hi (ρ l),Hi (ρ c)with
   |some (.slice E es eb ez),some (_,n),some (_,m)=>if n=m∧0≤n∧eb*n≤140737488355328∧n≤maxLen then
     some (.own tk es (List.replicate n.toNat (ez.map .v)),σ.put tk (.right E (n.toNat*es)))
    else none
   |_,_,_=>none
 | .makeMap T none=>match C.kind T with
   |some (.map _ _)=>some (.mmap tk,σ.put tk (.map []))
   |_=>none
 | .lookup T x ix ok=>match C.kind T,ρ ix,ρ x with
   |some (.map kd z),.p (.v k),.mmap t=>match σ[t]? with
    |some (some (.map es))=>(Sv kd z k ok es).map fun a=>(a,σ)
    |_=>none
   |some (.map kd z),.p (.v k),.p (.v (.map none))=>(Sv kd z k ok []).map fun a=>(a,σ)
   |_,_,_=>none
 | .mapUpdate T m k x=>match C.kind T,ρ k,ρ m with
   |some (.map kd _),.p (.v kv),.mmap t=>match σ[t]? with
    |some (some (.map es))=>(updK kd kv (ρ x) es).map fun es'=>(.tup [],σ.set t (some (.map es')))
    |_=>none
   |_,_,_=>none
 | .slice T x lo hi none=>(Bl C T (ρ x) (lo.map ρ) (hi.map ρ)).map fun a=>(a,σ)
 | .call c=>match c.callee with
   | .builtin b=>Dn C tk b c.argTypes.toList (c.args.toList.map ρ) σ
   |_=>none
 |_=>none
def srcC (σ:St):AV→Option (List AV)
 | .p (.v (.slice none 0 0))=>some []
 | .ms t e i n=>if e=1 then match σ[t]? with
    |some (some (.row e2 ls))=>if e2=1∧i+n≤ls.length then some ((ls.drop i).take n).flatten else none
    |_=>none
   else none
 | .bs t e i o n=>match σ[t]? with
   |some (some (.row e2 ls))=>if e2=e then match ls[i]? with
     |some c=>if o+n≤c.length then some ((c.drop o).take n)else none
     |none=>none
    else none
   |_=>none
 |y=>match Bp y with
  |some (e,ls)=>if e=1 then some (ls.flatten.map .p)else none
  |_=>none
def Qv (C:Ctx)(T:TypeId)(x y:AV)(σ:St):Option (AV×St):=match C.kind T,srcC σ y with
 |some (.slice _ 1 _ _),some cs=>match x with
  | .bs t e i o n=>match σ[t]? with
    |some (some (.row e2 ls))=>if e2=e then match ls[i]? with
      |some c=>if o+n≤c.length then some (Ad .i64 ((cs.take n).length:Nat),σ.set t (some (.row e2 (ls.set i (C9 c o (cs.take n))))))else none
      |none=>none
     else none
    |_=>none
  | .ms t e i n=>if e=1 then match σ[t]? with
     |some (some (.row e2 ls))=>if e2=1∧i+n≤ls.length then some (Ad .i64 ((cs.take n).length:Nat),σ.set t (some (.row 1 (ls.take i++(cs.take n).map (fun a=>[a])++ls.drop (i+(cs.take n).length)))))else none
     |_=>none
    else none
  |_=>none
 |_,_=>none
def delK (kd:TypeDesc)(k:Value)(es:List (Value×AV)):Option (List (Value×AV)):=if Vk kd k=true then (match Jr kd k es 0 with
    |some (some (i,_))=>some (es.eraseIdx i)
    |some none=>some es
    |none=>none)else none
def Ly (C:Ctx)(T:TypeId)(m k:AV)(σ:St):Option (AV×St):=match C.kind T,k,m with
 |some (.map kd _),.p (.v kv),.mmap t=>match σ[t]? with
  |some (some (.map es))=>(delK kd kv es).map fun es'=>(.tup [],σ.set t (some (.map es')))
  |_=>none
 |_,_,_=>none
def Jt (C:Ctx)(b:Builtin)(ts:List TypeId)(xs:List AV)(σ:St):Option (AV×St):=match b,ts,xs with
 | .copy,[T,_],[x,y]=>Qv C T x y σ
 | .delete,[T,_],[m,k]=>Ly C T m k σ
 |_,_,_=>none
def mkIA (C:Ctx)(T:TypeId)(x:AV):Option AV:=match C.kind T with
 |some .ptr=>some (.dyn T x)
 |_=>none
def asIA (C:Ctx)(T:TypeId)(ok:Bool)(x:AV):Option AV:=match C.kind T,x with
 |some .ptr,.dyn T' a=>if T'=T then some (if ok then .tup [a,Av true]else a)else none
 |_,_=>none
def Y4 (C:Ctx)(T:TypeId)(x:AV):Option AV:=match C.kind T,x with
 |some (.barr m),.bs t e i o n=>if m≤n then some (.mp t e i o)else none
 |_,_=>none
def aopX (C:Ctx)(op:Op)(ρ:Operand→AV)(σ:St):Option (AV×St):=match op with
 | .makeInterface T x=>(mkIA C T (ρ x)).map fun a=>(a,σ)
 | .typeAssert x _ T ok=>(asIA C T ok (ρ x)).map fun a=>(a,σ)
 | .sliceToArrayPointer T x=>(Y4 C T (ρ x)).map fun a=>(a,σ)
 | .call c=>match c.callee with
   | .builtin b=>Jt C b c.argTypes.toList (c.args.toList.map ρ) σ
   |_=>none
 |_=>none
inductive OpK where
 |inv (x:Operand) (name:String) (args:List Operand)
 |new
 |old
def opK:Op→OpK
 | .makeInterface .. =>.new
 | .typeAssert .. =>.new
 | .sliceToArrayPointer .. =>.new
 | .call c=>match c.callee with
   | .invoke x n=>.inv x n c.args.toList
   | .builtin .copy=>.new
   | .builtin .delete=>.new
   |_=>.old
 |_=>.old
def evA (fr:List AV):Operand→AV
 | .tmp t=>fr.getD t (.tup [])
 | .const v=>if plain v then .p (.v v)else .any
 | .global _=>.any
 | .func f=>.fn f [] []
structure Cx (M:Az)(a:Act)(fr:List AV):Prop where
 tmps:Af M fr a.tmps.toList
 defers:a.defers=[]
theorem Cx.later {M M':Az}{a:Act}{fr:List AV}(h:Cx M a fr)(hL:Later M M'):Cx M' a fr:=⟨Af.later hL _ _ h.tmps,h.defers⟩
theorem Cx.ev {M:Az}{a:Act}{fr:List AV}(h:Cx M a fr)(x:Operand):Ag M (evA fr x) (a.eval x):=by
 cases x with
 |tmp t=>
  have hl:=Af.len h.tmps
  simp only[evA,Act.eval]
  by_cases ht:t<fr.length
  ·obtain⟨u,h1,h2⟩:=h.tmps.get (QN ht)
   have h3:fr.getD t (.tup [])=fr[t]:=by simp[ht]
   have h4:a.tmps.getD t undef=u:=by
    rw[XZ]at h1
    simp[h1]
   rw[h3,h4];exact h2
  ·have h3:fr.getD t (.tup [])= .tup []:=by simp[List.getD,ZG (Nat.le_of_not_lt ht)]
   have h4:a.tmps.getD t undef=undef:=by
    have:a.tmps.size≤t:=by rw[← YK,hl];exact Nat.le_of_not_lt ht
    simp[XT this]
   rw[h3,h4];simp only[Ag,Af];exact⟨[],rfl,rfl⟩
 |const v=>
  simp only[evA,Act.eval]
  split
  ·rename_i hp;simp only[Ag,Ca];exact⟨hp,trivial⟩
  ·simp[Ag]
 |global g=>simp[evA,Ag]
 |func f=>simp only[evA,Act.eval,Ag,Af];exact⟨[],[],rfl,rfl,rfl⟩
theorem Cx.put {M:Az}{a:Act}{fr:List AV}(h:Cx M a fr){r:AV}{v:Value}(hr:Ag M r v)(d:Option Tmp):Cx M (a.put d v) (match d with|some d=>fr.set d r|none=>fr):=by
 cases d with
 |none=>exact h
 |some d=>exact⟨by simpa [Act.put]using h.tmps.set hr d,h.defers⟩
def Does (P:Program)(o:Oper)(a:Act)(M:Az)(σ:St)(r:AV)(σ':St):Prop:=
 ∃ v M',((execOp a.eval o).run P M.w= .ok (.value v) M'.w∨(v=undef∧(execOp a.eval o).run P M.w= .ok .skip M'.w))∧Ext M σ M' σ'∧Al M' σ'∧Ag M' r v
theorem Cp (b:Nat):∀ (vs:List Value) (o:Nat) (w:World) (k:Nat),k≠b→(w.setCells b o vs).heap[k]? =w.heap[k]?
 |[],o,w,k,h=>rfl
 |v::vs,o,w,k,h=>by
  rw[World.setCells,Cp b vs (o+1) _ k h,Below.heap_setCell _ _ _ _ h]
theorem setCells_size (b:Nat):∀ (vs:List Value) (o:Nat) (w:World),(w.setCells b o vs).heap.size=w.heap.size
 |[],o,w=>rfl
 |v::vs,o,w=>by rw[World.setCells,setCells_size b vs (o+1) _];simp[World.setCell]
theorem Cz (b:Nat):∀ (vs:List Value) (o:Nat) (w:World),(w.setCells b o vs).os=w.os∧(w.setCells b o vs).tape=w.tape∧(w.setCells b o vs).output=w.output
 |[],o,w=>⟨rfl,rfl,rfl⟩
 |v::vs,o,w=>by rw[World.setCells];exact Cz b vs (o+1) _
theorem Gn (b:Nat):∀ (vs:List Value) (o:Nat) (w:World) (cur:Array Value) (T:TypeId) (fr:Nat×Nat),w.heap[b]? =some (.cells cur T fr)→
 ∃ cur',(w.setCells b o vs).heap[b]? =some (.cells cur' T fr)∧cur'.size=cur.size∧∀ k,cur'[k]? =if o≤k∧k<o+vs.length∧k<cur.size then vs[k - o]? else cur[k]?
 |[],o,w,cur,T,fr,h=>⟨cur,h,rfl,fun k=>by rw[if_neg (by simp;omega)]⟩
 |v::vs,o,w,cur,T,fr,h=>by
  have h1:(w.setCell ⟨b,o,none⟩ v).heap[b]? =some (.cells (cur.setIfInBounds o v) T fr):=by
   simp[World.setCell,WI,h]
  obtain⟨cur',h2,h3,h4⟩:=Gn b vs (o+1) _ _ T fr h1
  refine⟨cur',h2,by simpa using h3,fun k=> ?_⟩
  rw[h4 k]
  simp only[Array.size_setIfInBounds,QF]
  by_cases hk:o+1≤k∧k<o+1+vs.length∧k<cur.size
  ·rw[if_pos hk,if_pos (by omega),show k - o=(k - (o+1))+1 by omega];simp
  ·rw[if_neg hk,Array.getElem?_setIfInBounds]
   by_cases he:o=k
   ·subst he
    by_cases hs:o<cur.size
    ·rw[if_pos rfl,if_pos hs,if_pos (by omega)];simp
    ·rw[if_pos rfl,if_neg hs,if_neg (by omega),XT (by omega)]
   ·rw[if_neg he,if_neg (by omega)]
theorem Adw {r:Bool}{s off:Nat}{l:List AV}{a:AV}(h:I1 r s off l=some a):(r=true∧off+s≤l.length∧a= .agg ((l.drop off).take s))∨(r=false∧l[off]? =some a):=by
 unfold I1 at h
 split at h
 ·rename_i hr
  left
  split at h
  ·rename_i h1
   obtain⟨rfl,rfl⟩:=h1
   simp at h;subst h
   exact⟨hr,by omega,by simp⟩
  ·split at h
   ·rename_i h2;simp at h;exact⟨hr,h2,h.symm⟩
   ·simp at h
 ·rename_i hr
  exact .inr ⟨by simpa using hr,h⟩
theorem Hk {l m:List AV}{off:Nat}(h:off+m.length≤l.length):C9 l off m=l.take off++m++l.drop (off+m.length):=by
 unfold C9
 split
 ·rename_i h1;obtain⟨rfl,h2⟩:=h1;simp[h2]
 ·rfl
theorem Adx {l m:List AV}{off:Nat}(h:off+m.length≤l.length):(C9 l off m).length=l.length:=by
 rw[Hk h];simp;omega
theorem Ady {l m:List AV}{off:Nat}(h:off+m.length≤l.length)(j:Nat):(C9 l off m)[j]? =if off≤j∧j<off+m.length then m[j - off]? else l[j]? :=by
 rw[Hk h,QX,YR,QZ]
 by_cases h1:j<off
 ·rw[if_pos (by omega),if_neg (by omega),QT,if_pos h1]
 ·rw[if_neg (by omega),YR]
  by_cases h2:j<off+m.length
  ·rw[if_pos (by omega),if_pos (by omega)];congr 1;omega
  ·rw[if_neg (by omega),if_neg (by omega),ZK];congr 1;omega
theorem Ju {M:Az}{a:AV}{m:List AV}{u:Value}(hc:Cu a=some m)(h:Ag M a u):m.all leaf=true∧∃ us,u.cells=us.toArray∧Af M m us:=by
 unfold Cu at hc
 split at hc
 ·simp only[QB]at hc;subst hc
  simp only[Ag]at h
  obtain⟨h0,us,rfl,h2⟩:=h
  exact⟨h0,us,rfl,h2⟩
 ·split at hc
  ·rename_i hl
   simp only[QB]at hc;subst hc
   refine⟨by simpa using hl,[u],?_,?_⟩
   ·have:=Ag.one hl h
    cases u<;>simp_all [Value.cells,Value.oneCell']
   ·simp only[Af];exact⟨u,[],rfl,h,rfl⟩
  ·simp at hc
theorem Af.ones {M:Az}{m:List AV}{us:List Value}(h:Af M m us)(hl:m.all leaf=true):∀ u∈us,u.oneCell'=true:=by
 intro u hu
 obtain⟨i,hi⟩:=YP.1 hu
 obtain⟨h1,h2⟩:=Bc.1 h
 have hlt:=(QC.1 hi).1
 have ha:m[i]? =some (m[i]'(by omega)):=QN _
 exact Ag.one (ZA.1 hl _ (XU _)) (h2 i _ u ha hi)
theorem Al.store {M:Az}{σ:St}(h:Al M σ){t e i o b:Nat}{ls:List (List AV)}{c m:List AV}{us:List Value}(ht:σ.at t (.row e ls))(hb:M.mu t=some b)(hc:ls[i]? =some c)
 (ho:o+m.length≤c.length) (hm:Af M m us) (hl:m.all leaf=true):
 ∃ M',M'.w=M.w.setCells b (i*e+o) us∧Ext M σ M' (σ.set t (some (.row e (ls.set i (C9 c o m)))))∧Al M' (σ.set t (some (.row e (ls.set i (C9 c o m))))):=by
 have htl:t<σ.length:=(QC.1 ht).1
 obtain⟨hlen,b',cur,T,hb',hh,hI,hr,hcs⟩:=h.obj t _ ht
 have:b'=b:=by rw[hb]at hb';simpa using hb'.symm
 subst this
 obtain⟨cur',h1,h2,h3⟩:=Gn b' us (i*e+o) M.w cur T (0,0) hh
 have hul:=Af.len hm
 let M':Az:={ M with w:=M.w.setCells b' (i*e+o) us }
 have hcell:∀ k q,M.I k q→M'.w.cell? ⟨k,q,none⟩=M.w.cell? ⟨k,q,none⟩:=fun k q hk=>
  World.cell?_of_block (Cp b' us _ M.w k (fun e=>hI q (e▸hk)))
 have hL:Later M M':=⟨fun _ _ h h'=>⟨h,h',rfl⟩,C5 (fun _=>rfl) (fun _=>rfl) (fun _=>rfl),fun _ _ h=>h,hcell⟩
 have hat:∀ s ob,St.at (σ.set t (some (.row e (ls.set i (C9 c o m))))) s ob→(s=t∧ob= .row e (ls.set i (C9 c o m)))∨(s≠t∧σ.at s ob):=fun s ob hs=>by
  unfold St.at at hs
  rw[QW]at hs
  split at hs
  ·rename_i e;subst e;simp[]at hs;exact .inl ⟨rfl,hs.symm⟩
  ·rename_i hne;exact .inr ⟨fun e=>hne e.symm,hs⟩
 have hE:Ext M σ M' (σ.set t (some (.row e (ls.set i (C9 c o m))))):=by
  refine⟨hL.mu,hL.own,hL.imm,hcell,fun k hk hn=>⟨Cp b' us _ M.w k (fun e=>hn t _ ht (e▸hb)),fun _ h=>h⟩,fun s ob k hs hk=> ?_,by simp[M',setCells_size],(Cz b' us _ M.w).1,(Cz b' us _ M.w).2.1,(Cz b' us _ M.w).2.2⟩
  rcases hat s ob hs with⟨rfl,rfl⟩|⟨h5,h6⟩
  ·exact .inr ⟨s,_,ht,hk⟩
  ·exact .inr ⟨s,ob,h6,hk⟩
 refine⟨M',rfl,hE,?_⟩
 ·refine⟨fun s ob hs=> ?_,fun s s' ob ob' k hs hs' hk hk'=> ?_,fun s hs=>h.fresh s (by simpa using hs),fun s k hs=>by simpa [M',setCells_size]using h.lt s k hs,fun k q hq=>by simpa [M',setCells_size]using h.imm k q hq,h.glob.ext hE⟩
  ·rcases hat s ob hs with⟨rfl,rfl⟩|⟨h5,h6⟩
   ·refine⟨hlen,b',cur',T,hb,h1,hI,?_,h2.trans hcs⟩
    intro i' c' hc'
    have hcl:=(hr i c hc).1
    rw[QW]at hc'
    split at hc'
    ·rename_i hi;subst hi
     have hil:=(QC.1 hc).1
     simp[hil]at hc';subst hc'
     refine⟨by rw[Adx ho];exact hcl,fun j x hx=> ?_⟩
     rw[Ady ho]at hx
     have hcs:∀ j,j<c.length→i*e+j<cur.size:=fun j hj=>by
      obtain⟨u,hu,_⟩:=((hr i c hc).2 j c[j] (QN hj)).2
      exact (QU.1 hu).1
     by_cases hin:o≤j∧j<o+m.length
     ·rw[if_pos hin]at hx
      refine⟨ZA.1 hl _ (QG hx),?_⟩
      obtain⟨u,hu1,hu2⟩:=hm.get hx
      refine⟨u,?_,Ag.later hL _ _ hu2⟩
      rw[h3,if_pos ⟨by omega,by omega,hcs j (by omega)⟩,show i*e+j - (i*e+o)=j - o by omega]
      exact hu1
     ·rw[if_neg hin]at hx
      obtain⟨hx1,u,hu1,hu2⟩:=(hr i c hc).2 j x hx
      refine⟨hx1,u,?_,Ag.later hL _ _ hu2⟩
      rw[h3,if_neg (by omega)]
      exact hu1
    ·rename_i hi
     refine⟨(hr i' c' hc').1,fun j x hx=> ?_⟩
     obtain⟨hx1,u,hu1,hu2⟩:=(hr i' c' hc').2 j x hx
     have hj:j<e:=by rw[← (hr i' c' hc').1];exact (QC.1 hx).1
     refine⟨hx1,u,?_,Ag.later hL _ _ hu2⟩
     rw[h3,if_neg]
     ·exact hu1
     ·rintro⟨g1,g2,_⟩
      rcases Nat.lt_or_gt_of_ne hi with hlt|hgt
      ·have:(i+1)*e≤i'*e:=ZL _ hlt
       rw[XS]at this;omega
      ·have:(i'+1)*e≤i*e:=ZL _ hgt
       rw[XS]at this;omega
   ·exact (h.obj s ob h6).later hL rfl rfl rfl fun k h7=>⟨Cp b' us _ M.w k (fun e=>h5 (h.inj s t _ _ k h6 ht h7 (e▸hb))),fun _ h=>h⟩
  ·rcases hat s ob hs with⟨rfl,rfl⟩|⟨h5,h6⟩<;>rcases hat s' ob' hs' with⟨rfl,rfl⟩|⟨h7,h8⟩
   ·rfl
   ·exact h.inj _ _ _ _ k ht h8 hk hk'
   ·exact h.inj _ _ _ _ k h6 ht hk hk'
   ·exact h.inj _ _ _ _ k h6 h8 hk hk'
