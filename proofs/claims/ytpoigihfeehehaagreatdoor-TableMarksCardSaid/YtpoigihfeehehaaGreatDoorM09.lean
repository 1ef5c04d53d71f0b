/- Code on the abstract machine: regions, tests, loops, calls; and that the world does the same. That the world does what the abstract machine does: code, functions, calls of functions that touch nothing. -/
import Derived.Test.YtpoigihfeehehaaGreatDoorM08
set_option linter.all false
set_option maxRecDepth 100000
set_option maxHeartbeats 32000000
namespace Go.Proofs.YtpoigihfeehehaaGreatDoor
open Go.RowKit
def Enters (P:Program)(f:FuncId):Prop:=∃ fn,P.funcs[f]? =some fn∧(fn.name== "runtime.NumGoroutine")=false∧fn.body.isNone=false
def Aa (P:Program)(f:FuncId)(args:List AV)(σ:St)(R:AV→St→Prop):Prop:=
 Enters P f∧∀ (M:Az) (vs:List Value),Al M σ→Af M args vs→Calls P f vs.toArray M.w fun e w'=>∃ v r σ' M',e= .returned v∧M'.w=w'∧Ext M σ M' σ'∧Al M' σ'∧Ag M' r v∧σ.length≤σ'.length∧R r σ'
theorem Aa.mono {P:Program}{f:FuncId}{args:List AV}{σ:St}{R R':AV→St→Prop}(h:Aa P f args σ R)(hr:∀ r s,R r s→R' r s):Aa P f args σ R':=
 ⟨h.1,fun M vs hM hv=>(h.2 M vs hM hv).mono fun e w' ⟨v,r,s,M',h1,h2,h3,h4,h5,h6,h7⟩=>⟨v,r,s,M',h1,h2,h3,h4,h5,h6,hr _ _ h7⟩⟩
def M6 (ops:Array Oper)(fr:List AV)(j:Nat):Option (Option Bool):=match (ops[j]?).bind (·.dst)with
 |none=>some none
 |some d=>match fr[d]? with
  |none=>some none
  |some (.p (.v (.bool b)))=>some (some b)
  |some .any=>none
  |some _=>some none
def Cg (ops:Array Oper)(o:Oper)(fr:List AV)(A B:Prop):Prop:=match o.guard with
 |none=>A
 |some (j,want)=>match M6 ops fr j with
  |some (some b)=>(b=want→A)∧(b= !want→B)
  |some none=>B
  |none=>False
def D7 (fr:List AV)(d:Option Tmp)(r:AV):List AV:=match d with
 |some d=>fr.set d r
 |none=>fr
def H2:Op→Option (Operand×List Operand)
 | .call c=>match c.callee with
   | .value f=>some (f,c.args.toList)
   |_=>none
 |_=>none
def keyM (T:TypeId)(d:Option Tmp):Nat:=T*100000+d.getD 0
def mkM (C:Ctx)(pos:Option Tmp)(tk:Nat)(T:TypeId)(l c:Operand)(ρ:Operand→AV)(σ:St):Option (AV×St):=if C.muts.contains (keyM T pos)then Su C true tk T l c ρ σ else aop C tk (.makeSlice T l c) ρ σ
def aopM (C:Ctx)(pos:Option Tmp)(tk:Nat)(op:Op)(ρ:Operand→AV)(σ:St):Option (AV×St):=match op with
 | .call c=>match c.callee,c.argTypes.toList,c.args.toList.map ρ with
   | .builtin .append,[T,T'],[x,y]=>if C.muts.contains (keyM T pos)then (if T=T' then Da C tk T x y σ else none)else aop C tk (.call c) ρ σ
   |_,_,_=>aop C tk (.call c) ρ σ
 | .makeSlice T l c=>mkM C pos tk T l c ρ σ
 |op=>aop C tk op ρ σ
def B5 (x:Option (AV×St))(K:AV→St→Prop):Prop:=match x with
 |some (r,σ')=>K r σ'
 |none=>False
def aInv (P:Program)(C:Ctx)(x:AV)(name:String)(args:List AV)(σ:St)(K:AV→St→Prop):Prop:=match x with
 | .dyn T a=>match C.meth T name with
   |some (f,none)=>Aa P f (a::args) σ K
   |some (f,some E)=>match C.ty E with
    |some ti=>match Hc ti a σ with
     |some r=>Aa P f (r::args) σ K
     |none=>False
    |none=>False
   |none=>False
 |_=>False
def Bm (P:Program)(C:Ctx)(o:Oper)(fr:List AV)(σ:St)(K:AV→St→Prop):Prop:=match H2 o.op with
 |some (f,args)=>match evA fr f with
  | .fn g first cap=>Aa P g (first++args.map (evA fr)++cap) σ K
  |_=>False
 |none=>match opK o.op with
  | .old=>B5 (aopM C o.dst σ.length o.op (evA fr) σ) K
  | .new=>B5 (aopX C o.op (evA fr) σ) K
  | .inv x name args=>aInv P C (evA fr x) name (args.map (evA fr)) σ K
def aOps (P:Program)(C:Ctx)(ops:Array Oper):List Nat→List AV→St→(List AV→St→Prop)→Prop
 |[],fr,σ,K=>K fr σ
 |i::is,fr,σ,K=>match ops[i]? with
  |none=>False
  |some o=>Cg ops o fr (Bm P C o fr σ fun r σ'=>aOps P C ops is (D7 fr o.dst r) σ' K) (aOps P C ops is (D7 fr o.dst (.tup [])) σ K)
def Fq (P:Program)(C:Ctx)(ops:Array Oper):List Oper→List AV→St→(List AV→St→Prop)→Prop
 |[],fr,σ,K=>K fr σ
 |o::os,fr,σ,K=>Cg ops o fr (Bm P C o fr σ fun r σ'=>Fq P C ops os (D7 fr o.dst r) σ' K) (Fq P C ops os (D7 fr o.dst (.tup [])) σ K)
section
variable {P:Program} {C:Ctx}
theorem By {ops:Array Oper}{o:Oper}{fr:List AV}{A A' B B':Prop}(h:Cg ops o fr A B)(hA:A→A')(hB:B→B'):Cg ops o fr A' B':=by
 unfold Cg at*
 split
 ·rename_i hg;simp only[hg]at h;exact hA h
 ·rename_i j want hg
  simp only[hg]at h
  split
  ·rename_i b hy;simp only[hy]at h;exact⟨fun e=>hA (h.1 e),fun e=>hB (h.2 e)⟩
  ·rename_i hy;simp only[hy]at h;exact hB h
  ·rename_i hy;simp only[hy]at h
theorem Df {o:Oper}{fr:List AV}{σ:St}{K K':AV→St→Prop}(h:Bm P C o fr σ K)(hK:∀ r s,K r s→K' r s):Bm P C o fr σ K':=by
 unfold Bm at*
 split
 ·rename_i f args ho
  simp only[ho]at h
  split
  ·rename_i g first cap hx;simp only[hx]at h;exact h.mono hK
  ·rename_i hx;split at h
   ·rename_i g first cap hx';exact (hx _ _ _ hx').elim
   ·exact h
 ·rename_i ho
  simp only[ho]at h
  have hone:∀ x,B5 x K→B5 x K':=fun x h=>by
   unfold B5 at*
   split
   ·rename_i r s;exact hK _ _ h
   ·exact h
  split
  ·rename_i hk;simp only[hk]at h;exact hone _ h
  ·rename_i hk;simp only[hk]at h;exact hone _ h
  ·rename_i x name args hk
   simp only[hk]at h
   unfold aInv at*
   repeat' split
   all_goals simp_all only[]
   all_goals exact h.mono hK
theorem Hn {ops:Array Oper}{K:List AV→St→Prop}:∀ (n k:Nat) (fr:List AV) (σ:St),k+n=ops.size→Fq P C ops (ops.toList.drop k) fr σ K→aOps P C ops (List.range' k n) fr σ K
 |0,k,fr,σ,hn,h=>by
  rw[YE (by simp;omega)]at h
  simpa [aOps,Fq]using h
 |n+1,k,fr,σ,hn,h=>by
  have hk:k<ops.toList.length:=by simp;omega
  rw[YB hk]at h
  simp only[Fq]at h
  rw[List.range'_succ,aOps]
  have ho:ops[k]? =some ops.toList[k]:=by rw[← XZ,QN hk]
  rw[ho]
  exact By h (fun h=>Df h fun r s h=>Hn n (k+1) _ _ (by omega) h) (fun h=>Hn n (k+1) _ _ (by omega) h)
theorem V1 {ops:Array Oper}{fr:List AV}{j:Nat}{M:Az}{a:Act}{y:Option Bool}(hF:Cx M a fr)(h:M6 ops fr j=some y):yielded ops a.tmps j=y:=by
 unfold M6 at h
 unfold yielded
 cases hd:(ops[j]?).bind (·.dst)with
 |none=>rw[hd]at h;simp at h;simp[h]
 |some d=>
  rw[hd]at h
  simp only at h
  have hlen:=hF.tmps.len
  rw[YK]at hlen
  split at h
  ·rename_i hf
   simp at h
   have:fr.length≤d:=List.getElem?_eq_none_iff.1 hf
   have:a.tmps[d]? =none:=XT (by rw[hlen];exact this)
   simp[this,h]
  ·rename_i b hf
   simp at h
   obtain⟨u,h1,h2⟩:=hF.tmps.get hf
   have:=(Cf h2).2;subst this
   rw[XZ]at h1
   simp[h1,h]
  ·simp at h
  ·rename_i x hx1 hx2 hf
   simp at h
   obtain⟨u,h1,h2⟩:=hF.tmps.get hf
   rw[XZ]at h1
   have hu:∀ b,u≠ .bool b:=fun b e=>by
    subst e
    cases x<;>simp only[Ag]at h2
    ·exact hx2 rfl
    ·rename_i x
     cases x with
     |v x=>simp only[Ca]at h2;obtain⟨_,rfl⟩:=h2;exact hx1 b rfl
     |sl e ls=>simp only[Ca]at h2;obtain⟨_,_,_,h2,_⟩|⟨_,_,_,h2,_⟩:=h2<;>cases h2
    ·obtain⟨_,_,_,h2,_⟩:=h2;cases h2
    ·obtain⟨_,_,_,⟨_,h2⟩|⟨_,_,_,h2,_⟩⟩:=h2<;>cases h2
    ·obtain⟨_,_,h2,_⟩:=h2;cases h2
    ·obtain⟨_,_,_,h2⟩:=h2;cases h2
    ·obtain⟨_,_,_,_,h2,_⟩:=h2;cases h2
    ·obtain⟨_,_,_,h2⟩:=h2;cases h2
    ·obtain⟨_,_,_,h2,_⟩:=h2;cases h2
    ·obtain⟨_,_,h2,_⟩:=h2;cases h2
    ·obtain⟨_,_,h2,_⟩:=h2;cases h2
    ·obtain⟨_,h2,_⟩:=h2;cases h2
    ·obtain⟨_,h2,_⟩:=h2;cases h2
    ·obtain⟨_,_,_,_,h2,_⟩:=h2;cases h2
   simp only[Option.bind_some,h1]
   subst h
   cases u<;>simp_all
theorem L3 {ops:Array Oper}{o:Oper}{fr:List AV}{M:Az}{a:Act}{A B:Prop}(hF:Cx M a fr)(h:Cg ops o fr A B):(Region.wanted o (yielded ops a.tmps)=true∧A)∨(Region.wanted o (yielded ops a.tmps)=false∧B):=by
 unfold Cg at h
 unfold Region.wanted
 split at h
 ·rename_i hg;exact .inl ⟨by simp[hg],h⟩
 ·rename_i j want hg
  simp only[hg]
  split at h
  ·rename_i b hy
   rw[V1 hF hy]
   by_cases e:b=want
   ·exact .inl ⟨by simp[e],h.1 e⟩
   ·exact .inr ⟨by simp[e],h.2 (by cases b<;>cases want<;>simp_all)⟩
  ·rename_i hy
   rw[V1 hF hy]
   exact .inr ⟨by simp,h⟩
  ·exact h.elim
theorem J3 (σ:St)(ob:Ob):σ.length≤(σ.put σ.length ob).length:=(St.put_len (QH _)).1
theorem Oz {T:TypeId}{x y:AV}{σ σ':St}{r:AV}(h:A2 C σ.length T x y σ=some (r,σ')):σ.length≤σ'.length:=by
 unfold A2 at h
 repeat' (split at h)
 all_goals simp only[QB,QJ,reduceCtorEq]at h
 all_goals (obtain⟨_,rfl⟩:=h;first|exact QH _|exact J3 _ _|simp)
theorem Afz {C:Ctx}{S T:TypeId}{x:AV}{σ σ':St}{r:AV}(h:Adv C S T x σ=some (r,σ')):σ.length≤σ'.length:=by
 unfold Adv at h
 repeat' (split at h)
 all_goals first
  |(simp at h;done)
  |(simp only[QQ,QJ]at h;obtain⟨_,_,_,rfl⟩:=h;exact QH _)
  |(simp only[QB,QJ]at h;obtain⟨_,rfl⟩:=h;simp)
theorem Te {op:Op}{ρ:Operand→AV}{σ σ':St}{r:AV}(h:aop C σ.length op ρ σ=some (r,σ')):σ.length≤σ'.length:=by
 have key:∀ {x:Option AV},(x.map fun a=>(a,σ))=some (r,σ')→σ.length≤σ'.length:=fun {x} hx=>by
  cases x<;>simp at hx
  rw[hx.2];exact QH _
 cases op<;>simp only[aop]at h
 case store T x y=>
  split at h
  ·simp only[QQ,QJ]at h
   obtain⟨s,hs,_,rfl⟩:=h
   unfold Q7 at hs
   repeat' (split at hs)
   all_goals simp at hs
   subst hs;simp
  ·simp at h
 case call c=>
  split at h
  ·unfold Dn at h
   split at h
   ·split at h
    ·exact Oz h
    ·unfold Gm at h
     split at h
     ·exact Oz h
     ·unfold Oj at h
      split at h
      ·split at h
       ·simp only[QB,QJ]at h
        obtain⟨_,rfl⟩:=h
        exact J3 _ _
       ·simp at h
      ·simp at h
   ·simp only[QQ,QJ]at h
    obtain⟨_,_,_,rfl⟩:=h;exact QH _
   all_goals (repeat' (split at h))
   all_goals simp only[QB,QJ,reduceCtorEq]at h
   all_goals (obtain⟨_,rfl⟩:=h;exact QH _)
  ·simp at h
 case convert S T x=>
  split at h
  ·simp only[QB,QJ]at h;obtain⟨_,rfl⟩:=h;exact QH _
  ·split at h
   ·simp only[QB,QJ]at h;obtain⟨_,rfl⟩:=h;exact QH _
   ·exact Afz h
 all_goals first
  |exact key h
  |(simp at h;done)
  |(simp only[QB,QJ]at h;obtain⟨_,rfl⟩:=h;exact QH _)
  |skip
 all_goals (repeat' (split at h))
 all_goals first
  |exact key h
  |(simp at h;done)
  |(simp only[QB,QJ]at h;obtain⟨_,rfl⟩:=h;first|exact QH _|exact J3 _ _)
  |contradiction
  |(simp only[QQ,QJ]at h;obtain⟨_,_,_,rfl⟩:=h;first|exact QH _|(simp;done)|exact J3 _ _)
theorem Aku {pos:Option Tmp}{op:Op}{ρ:Operand→AV}{σ σ':St}{r:AV}(h:aopM C pos σ.length op ρ σ=some (r,σ')):σ.length≤σ'.length:=by
 unfold aopM at h
 split at h
 ·split at h
  ·split at h
   ·split at h
    ·unfold Da at h
     repeat' (split at h)
     all_goals simp only[QB,QJ,reduceCtorEq]at h
     all_goals obtain⟨_,rfl⟩:=h
     ·exact ZO (by simp) (St.put_len (σ:=List.set σ _ none) (by simp)).1
     ·exact (St.put_len (σ:=σ) (QH _)).1
     ·exact ZO (by simp) (St.put_len (σ:=List.set σ _ none) (by simp)).1
    ·simp at h
   ·exact Te h
  ·exact Te h
 ·unfold mkM at h
  split at h
  ·unfold Su at h
   repeat' (split at h)
   all_goals simp only[QB,QJ,reduceCtorEq]at h
   all_goals obtain⟨_,rfl⟩:=h
   exact J3 _ _
  ·exact Te h
 ·exact Te h
theorem Af0 {pos:Option Tmp}{o:Oper}{a:Act}{M:Az}{σ σ':St}{r:AV}{fr:List AV}{tk:Nat}(hC:C.ok P)(hM:Al M σ)(hF:Cx M a fr)(htk:tk=σ.length)(h:aopM C pos tk o.op (evA fr) σ=some (r,σ')):Does P o a M σ r σ':=by
 unfold aopM at h
 split at h
 ·rename_i c hop
  split at h
  ·rename_i T T' x y hcal hts hxs
   split at h
   ·split at h
    ·rename_i e;subst e
     obtain⟨callee,args,argTypes⟩:=c
     simp only at hcal hts hxs
     subst hcal
     obtain⟨x',y',hargs,rfl,rfl⟩:∃ x' y',args.toList=[x',y']∧evA fr x'=x∧evA fr y'=y:=by
      match hl:args.toList,hxs with
      |[x',y'],hxs=>simp at hxs;exact⟨x',y',rfl,hxs.1,hxs.2⟩
     have h1:args= #[x',y']:=by rw[← ZV (xs:=args),hargs]
     have h2:argTypes= #[T,T]:=by rw[← ZV (xs:=argTypes),hts]
     subst h1 h2
     exact Vv hop hM hF hC htk h
    ·simp at h
   ·rw[← hop]at h;exact Ny hC hM hF htk h
  ·rw[← hop]at h;exact Ny hC hM hF htk h
 ·rename_i T l c hop
  unfold mkM at h
  split at h
  ·exact Aea hop hM hF hC htk h
  ·rw[← hop]at h;exact Ny hC hM hF htk h
 ·exact Ny hC hM hF htk h
theorem Apk {o:Oper}{a:Act}{fr:List AV}{M:Az}{σ:St}{x:Operand}{args:List Operand}{g:FuncId}{first cap:List AV}{R:AV→St→Prop}{next:Act→World→Prop}{Q:Exit→Act→World→Prop}
 (ho:H2 o.op=some (x,args)) (hM:Al M σ) (hF:Cx M a fr) (hx:evA fr x= .fn g first cap) (h:Aa P g (first++args.map (evA fr)++cap) σ R)
 (hn:∀ v r σ' M',Ext M σ M' σ'→Al M' σ'→Ag M' r v→σ.length≤σ'.length→R r σ'→next (a.put o.dst v) M'.w):o.wp P a M.w next Q:=by
 obtain⟨⟨fn,hf,hname,hbody⟩,hc⟩:=h
 have hv:=hF.ev x
 rw[hx]at hv
 simp only[Ag]at hv
 obtain⟨us,vs,hv,h1,h2⟩:=hv
 have hrun:(execOp a.eval o).run P M.w= .ok (.enter g (us++args.map a.eval++vs).toArray) M.w:=by
  unfold H2 at ho
  split at ho
  ·rename_i c hop
   split at ho
   ·rename_i f hcal
    simp only[QB,QJ]at ho
    obtain⟨rfl,rfl⟩:=ho
    have hargs:us.toArray++c.args.map a.eval++vs.toArray=(us++c.args.toList.map a.eval++vs).toArray:=by
     apply Array.ext'
     simp
    have hname':¬ fn.name= "runtime.NumGoroutine" :=by simpa using hname
    have hbody':¬ fn.body=none:=fun e=>by simp[e]at hbody
    unfold execOp
    simp[hop,resolve,hcal,hv,Deferred.ofValue,invoke,callFunc,hf,hname',hbody',hargs]
   ·simp at ho
  ·simp at ho
 unfold Oper.wp
 rw[hrun,Oper.upon_enter]
 refine (hc M _ hM ((h1.append (S4 hF args)).append h2)).mono ?_
 rintro e w' ⟨v,r,σ',M',rfl,rfl,h3,h4,h5,h6,h7⟩
 exact hn v r σ' M' h3 h4 h5 h6 h7
theorem V2 {M:Az}{σ:St}{T:TypeId}{ti:TI}{x r:AV}{u:Value}(hC:TyOk P T ti)(hM:Al M σ)(hx:Ag M x u)(h:Hc ti x σ=some r):∃ v ad,u= .pointer (some ad)∧(loadVar T ad).run P M.w= .ok v M.w∧Ag M r v:=by
 have conv:∀ ad v,(Instr.loadAt T (.pointer (some ad))).run P M.w= .ok v M.w→(loadVar T ad).run P M.w= .ok v M.w:=fun ad v h=>by simpa [Instr.loadAt,Instr.sureAddr]using h
 unfold Hc at h
 split at h
 ·rename_i t e i o'
  simp only[Ag]at hx
  obtain⟨b,hb,hbl,hx⟩:=hx
  split at h
  ·rename_i e' ls hσ
   split at h
   ·rename_i he;subst he
    split at h
    ·rename_i c hc
     obtain⟨_,b',cur,T',hb',hh,hI,hr,_⟩:=hM.obj t _ hσ
     have:b'=b:=by rw[hb]at hb';simpa using hb'.symm
     subst this
     obtain⟨us,h1,h2,h3⟩:=Ez hh hr hc
     obtain⟨v,h4,h5⟩:=Sy hC h2 h1 h h3
     exact⟨v,_,hx,conv _ _ h5,h4⟩
    ·simp at h
   ·simp at h
  ·simp at h
 ·rename_i c o'
  simp only[Ag]at hx
  obtain⟨b,off,hx,hc⟩:=hx
  obtain⟨us,h1,h2,h3⟩:=I3 hc
  obtain⟨v,h4,h5⟩:=Sy hC h2 h1 h h3
  exact⟨v,_,hx,conv _ _ h5,h4⟩
 ·simp at h
theorem Aef {T E:TypeId}{v:Value}{name:String}{f:FuncId}{w:World}{i:TypeInfo}{m:Method}(hi:P.info? T=some i)(hm:i.methods.find? (·.name==name)=some m)(hp:m.path= #[])(pr:Bool)(hf:m.func=some (f,pr))(hd:P.underlying T=some (.pointer E)){u:Value}
 (hu:(pr=true∧u=v)∨(pr=false∧∃ ad,v= .pointer (some ad)∧(loadVar E ad).run P w= .ok u w)) (n:Nat):(method (n+1) T v name).run P w= .ok (f,u) w:=by
 rcases hu with⟨rfl,rfl⟩|⟨rfl,ad,rfl,hl⟩
 ·simp[method,typeInfo,hi,hm,hp,hf,follow,receiverAt,run_underlying hd,Place.get]
 ·have hw:∀ s,(Builtin.ssaWrapNilChk_ #[T] T #[.pointer (some ad),strVal "",strVal s]).run P w= .ok (.pointer (some ad)) w:=fun s=>rfl
  simp[method,typeInfo,hi,hm,hp,hf,follow,receiverAt,run_underlying hd,Place.get,hw,asAddr,hl]
theorem Art {o:Oper}{a:Act}{fr:List AV}{M:Az}{σ:St}{x:Operand}{name:String}{args:List Operand}{K:AV→St→Prop}{next:Act→World→Prop}{Q:Exit→Act→World→Prop}(hC:C.ok P)
 (ho:opK o.op= .inv x name args) (hM:Al M σ) (hF:Cx M a fr) (h:aInv P C (evA fr x) name (args.map (evA fr)) σ K)
 (hn:∀ v r σ' M',Ext M σ M' σ'→Al M' σ'→Ag M' r v→σ.length≤σ'.length→K r σ'→next (a.put o.dst v) M'.w):o.wp P a M.w next Q:=by
 have hv:=hF.ev x
 unfold aInv at h
 split at h
 case h_2=>exact h.elim
 rename_i T y hx
 rw[hx]at hv
 simp only[Ag]at hv
 obtain⟨v,hv,hy⟩:=hv
 have key:∀ (f:FuncId) (E:Option TypeId) (r:AV) (u:Value),C.meth T name=some (f,E)→Ag M r u→((E=none∧u=v)∨∃ e,E=some e∧∃ ad,v= .pointer (some ad)∧(loadVar e ad).run P M.w= .ok u M.w)→Aa P f (r::args.map (evA fr)) σ K→o.wp P a M.w next Q:=fun f E r u hm hr hu hcl=>by
  obtain⟨i,m,e,hi,hfm,hp,hf,hd,hE⟩:=hC.2.2 T name f E hm
  obtain⟨⟨fn,hff,hname,hbody⟩,hc⟩:=hcl
  have hmet:∀ n,(method (n+1) T v name).run P M.w= .ok (f,u) M.w:=fun n=>Aef hi hfm hp E.isNone hf hd (by
   rcases hu with⟨rfl,rfl⟩|⟨e',rfl,ad,rfl,hl⟩
   ·exact .inl ⟨rfl,rfl⟩
   ·have:=hE e' rfl
    subst this
    exact .inr ⟨rfl,ad,rfl,hl⟩) n
  have hrun:(execOp a.eval o).run P M.w= .ok (.enter f (u::args.map a.eval).toArray) M.w:=by
   unfold opK at ho
   split at ho<;>try (simp at ho;done)
   rename_i c hop
   split at ho<;>try (simp at ho;done)
   rename_i x' name' hcal
   simp only[OpK.inv.injEq]at ho
   obtain⟨rfl,rfl,rfl⟩:=ho
   have hname':¬ fn.name= "runtime.NumGoroutine" :=by simpa using hname
   have hbody':¬ fn.body=none:=fun e=>by simp[e]at hbody
   have hsz:∃ k,P.types.size+Made.depth=k+1:=⟨P.types.size+Made.depth - 1,by
    have:1≤Made.depth:=by decide
    omega⟩
   obtain⟨k,hk⟩:=hsz
   have hm':=hmet k
   rw[← hk]at hm'
   have hargs: #[u]++(#[a.eval x']++c.args.map a.eval).extract 1 (#[a.eval x']++c.args.map a.eval).size=(u::c.args.toList.map a.eval).toArray:=by
    apply Array.ext'
    simp[ZF]
   unfold execOp
   simp only[hop,resolve,hcal,Sem.run_bind,Sem.run_pure,Result.andThen_ok,invoke]
   have h0:(#[a.eval x']++c.args.map a.eval)[0]? =some (.iface T v):=by rw[Array.getElem?_append_left (by simp)];simp[hv]
   simp only[h0]
   simp only[callMethod,Sem.run_bind,run_program,Result.andThen_ok,hm',callFunc,hff,hargs]
   simp[hname',hbody']
  unfold Oper.wp
  rw[hrun,Oper.upon_enter]
  refine (hc M _ hM (by simp only[Af];exact⟨u,_,rfl,hr,S4 hF args⟩)).mono ?_
  rintro e w' ⟨v,r,σ',M',rfl,rfl,h3,h4,h5,h6,h7⟩
  exact hn v r σ' M' h3 h4 h5 h6 h7
 split at h
 ·rename_i f hm
  exact key f none y v hm hy (.inl ⟨rfl,rfl⟩) h
 ·rename_i f E hm
  split at h
  case h_2=>exact h.elim
  rename_i ti hti
  split at h
  case h_2=>exact h.elim
  rename_i r hr
  obtain⟨u,ad,h1,h2,h3⟩:=V2 (hC.1 E ti hti) hM hy hr
  exact key f (some E) r u hm h3 (.inr ⟨E,rfl,ad,h1,h2⟩) h
 ·exact h.elim
theorem Aap {o:Oper}{a:Act}{fr:List AV}{M:Az}{σ:St}{K:AV→St→Prop}{next:Act→World→Prop}{Q:Exit→Act→World→Prop}(hC:C.ok P)(hM:Al M σ)(hF:Cx M a fr)(h:Bm P C o fr σ K)
 (hn:∀ v r σ' M',Ext M σ M' σ'→Al M' σ'→Ag M' r v→σ.length≤σ'.length→K r σ'→next (a.put o.dst v) M'.w):o.wp P a M.w next Q:=by
 unfold Bm at h
 split at h
 ·rename_i f args ho
  split at h
  ·rename_i g first cap hx
   exact Apk ho hM hF hx h hn
  ·exact h.elim
 ·have fin:∀ r σ',σ.length≤σ'.length→Does P o a M σ r σ'→K r σ'→o.wp P a M.w next Q:=fun r σ' hlen ⟨v,M',h3,h4,h5,h6⟩ h=>by
   unfold Oper.wp
   rcases h3 with h3|⟨rfl,h3⟩
   ·rw[h3];exact hn v r σ' M' h4 h5 h6 hlen h
   ·rw[h3];exact hn undef r σ' M' h4 h5 h6 hlen h
  split at h
  ·unfold B5 at h
   split at h
   case h_2=>exact h.elim
   rename_i r σ' h1
   exact fin r σ' (Aku h1) (Af0 hC hM hF rfl h1) h
  ·unfold B5 at h
   split at h
   case h_2=>exact h.elim
   rename_i r σ' h1
   exact fin r σ' (Akt h1) (Afw hC hM hF h1) h
  ·rename_i x name args hk
   exact Art hC hk hM hF h hn
theorem Gs {M:Az}{a:Act}{fr:List AV}(h:Cx M a fr){r:AV}{v:Value}(hr:Ag M r v)(d:Option Tmp):Cx M (a.put d v) (D7 fr d r):=h.put hr d
theorem F4 {M:Az}:Ag M (.tup []) undef:=by simp only[Ag,Af];exact⟨[],rfl,rfl⟩
theorem L6 {ops:Array Oper}{Q:Exit→Act→World→Prop}{K:List AV→St→Prop}(hC:C.ok P):∀ (is:List Nat) (a:Act) (fr:List AV) (M:Az) (σ:St),Al M σ→Cx M a fr→aOps P C ops is fr σ K→
 (∀ M' a' fr' σ',Ext M σ M' σ'→Al M' σ'→Cx M' a' fr'→σ.length≤σ'.length→K fr' σ'→Q .normal a' M'.w)→wpOps P ops Q is a M.w
 |[],a,fr,M,σ,hM,hF,h,hQ=>hQ M a fr σ (Ext.refl M σ) hM hF (QH _) h
 |i::is,a,fr,M,σ,hM,hF,h,hQ=>by
  simp only[aOps]at h
  split at h
  ·exact h.elim
  ·rename_i o ho
   simp only[wpOps,ho]
   rcases L3 hF h with⟨hw,h⟩|⟨hw,h⟩
   ·rw[if_pos hw]
    refine .inl (Aap hC hM hF h fun v r σ' M' h1 h2 h3 hlen h4=> ?_)
    exact L6 hC is _ _ M' σ' h2 (Gs (hF.later h1.later) h3 o.dst) h4 fun M'' a' fr' σ'' k1 k2 k3 kl k4=>hQ M'' a' fr' σ'' (h1.trans k1) k2 k3 (ZO hlen kl) k4
   ·rw[if_neg (by simp[hw])]
    exact L6 hC is _ _ M σ hM (Gs hF F4 o.dst) h hQ
end
def AWp (P:Program)(C:Ctx)(draw:Array Oper→List AV→St→(List AV→St→Prop)→Prop):Code→List AV→St→(Exit→List AV→St→Prop)→Prop
 | .skip,fr,σ,Q=>Q .normal fr σ
 | .region _ ops false,fr,σ,Q=>Fq P C ops ops.toList fr σ (Q .normal)
 | .region _ ops true,fr,σ,Q=>draw ops fr σ (Q .normal)
 | .seq x y,fr,σ,Q=>AWp P C draw x fr σ fun e fr' σ'=>match e with
   | .normal=>AWp P C draw y fr' σ' Q
   |e=>Q e fr' σ'
 | .cond c x y,fr,σ,Q=>match evA fr c with
   | .p (.v (.bool b))=>(b=true→AWp P C draw x fr σ Q)∧(b=false→AWp P C draw y fr σ Q)
   |_=>False
 | .block id c,fr,σ,Q=>AWp P C draw c fr σ fun e fr' σ'=>match e with
   | .exit id'=>if id'=id then Q .normal fr' σ' else Q (.exit id') fr' σ'
   |e=>Q e fr' σ'
 | .loop c,fr,σ,Q=>∃ (X:Type) (J:X→List AV×St) (m:X→Nat) (x0:X) (Y:Type) (K:Y→Exit×List AV×St),(∀ x,σ.length≤(J x).2.length)∧L0 fr σ (J x0).1 (J x0).2∧(∀ y,Q (K y).1 (K y).2.1 (K y).2.2)∧
    ∀ x,AWp P C draw c (J x).1 (J x).2 fun e fr' σ'=>match e with
      | .normal=>∃ x',m x'<m x∧L0 fr' σ' (J x').1 (J x').2
      |e=>∃ y,(K y).1=e∧L0 fr' σ' (K y).2.1 (K y).2.2∧(σ'.length≤(K y).2.2.length∨σ.length≤(K y).2.2.length)
 | .exit id,fr,σ,Q=>Q (.exit id) fr σ
 | .ret,fr,σ,Q=>Q .ret fr σ
 |_,_,_,_=>False
theorem Aeg {P:Program}{Q:Exit→Act→World→Prop}{c:Code}{X:Type}(m:X→Nat)(I:X→Act→World→Prop){x0:X}{a:Act}{w:World}(h0:I x0 a w)
 (round:∀ x a w,I x a w→c.wp P (Exit.then (fun a' w'=>∃ x',m x'<m x∧I x' a' w') Q) a w):(Code.loop c).wp P Q a w:=by
 intro b k cs
 have key:∀ n x a w,m x=n→I x a w→∃ e a' w',Q e a' w'∧Arrives P (lone (b.at a (.code c:: .inLoop c::k)) cs w) b k cs e a' w':=by
  intro n
  induction n using Nat.strongRecOn with
  |_ n ih=>
   intro x a w hn hI
   obtain⟨e,a1,w1,hq,harr⟩:=round x a w hI b (.inLoop c::k) cs
   cases e with
   |normal=>
    obtain⟨x',hlt,hI'⟩:=hq
    obtain⟨e2,a2,w2,hq2,harr2⟩:=ih (m x') (hn▸hlt) x' a1 w1 rfl hI'
    exact⟨e2,a2,w2,hq2,.of_steps (Steps.trans harr (.one step_inLoop)) harr2⟩
   |exit id=>exact⟨_,a1,w1,hq,.pass (x:=.inLoop c) rfl (fun _ _=>.inl (by simp)) harr⟩
   |goto l=>exact⟨_,a1,w1,hq,.pass (x:=.inLoop c) rfl (fun _ _=>.inl (by simp)) harr⟩
   |ret=>exact⟨_,a1,w1,hq,.pass (x:=.inLoop c) rfl (fun _ _=>.inl (by simp)) harr⟩
   |panic ch=>exact⟨_,a1,w1,hq,.pass (x:=.inLoop c) rfl (fun _ _=>.inl (by simp)) harr⟩
   |outgrown=>exact⟨_,a1,w1,hq,.pass (x:=.inLoop c) rfl (fun _ _=>.inl (by simp)) harr⟩
 obtain⟨e,a',w',hq,harr⟩:=key _ x0 a w rfl h0
 exact⟨e,a',w',hq,.of_steps (.one step_loop) harr⟩
def Ho (P:Program)(draw:Array Oper→List AV→St→(List AV→St→Prop)→Prop):Prop:=
 ∀ (id:Nat) (ops:Array Oper) (fr:List AV) (σ:St) (K:List AV→St→Prop) (M:Az) (a:Act) (Q:Exit→Act→World→Prop),draw ops fr σ K→Al M σ→Cx M a fr→
   (∀ M' a' fr' σ',Ext M σ M' σ'→Al M' σ'→Cx M' a' fr'→σ.length≤σ'.length→K fr' σ'→Q .normal a' M'.w)→(Code.region id ops true).wp P Q a M.w
theorem Ee {P:Program}{C:Ctx}{draw:Array Oper→List AV→St→(List AV→St→Prop)→Prop}(hC:C.ok P)(hD:Ho P draw):∀ (c:Code) (a:Act) (fr:List AV) (M:Az) (σ:St) (Q:Exit→Act→World→Prop) (QA:Exit→List AV→St→Prop),
 Al M σ→Cx M a fr→AWp P C draw c fr σ QA→(∀ e M' a' fr' σ',Ext M σ M' σ'→Al M' σ'→Cx M' a' fr'→σ.length≤σ'.length→QA e fr' σ'→Q e a' M'.w)→c.wp P Q a M.w
 | .skip,a,fr,M,σ,Q,QA,hM,hF,h,hQ=>wp_skip (hQ _ M a fr σ (Ext.refl M σ) hM hF (QH _) h)
 | .exit id,a,fr,M,σ,Q,QA,hM,hF,h,hQ=>wp_exit (hQ _ M a fr σ (Ext.refl M σ) hM hF (QH _) h)
 | .ret,a,fr,M,σ,Q,QA,hM,hF,h,hQ=>wp_ret (hQ _ M a fr σ (Ext.refl M σ) hM hF (QH _) h)
 | .region id ops false,a,fr,M,σ,Q,QA,hM,hF,h,hQ=>wp_region (L6 hC _ a fr M σ hM hF (by rw[List.range_eq_range'];exact Hn ops.size 0 fr σ (by omega) (by simpa [AWp]using h)) fun M' a' fr' σ' h1 h2 h3 h4 h5=>hQ _ M' a' fr' σ' h1 h2 h3 h4 h5)
 | .region id ops true,a,fr,M,σ,Q,QA,hM,hF,h,hQ=>hD id ops fr σ _ M a Q h hM hF fun M' a' fr' σ' h1 h2 h3 h4 h5=>hQ _ M' a' fr' σ' h1 h2 h3 h4 h5
 | .seq x y,a,fr,M,σ,Q,QA,hM,hF,h,hQ=>wp_seq (Ee hC hD x a fr M σ _ _ hM hF h fun e M' a' fr' σ' h1 h2 h3 h4 h5=>by
    cases e with
    |normal=>exact Ee hC hD y a' fr' M' σ' _ _ h2 h3 h5 fun e M'' a'' fr'' σ'' k1 k2 k3 k4 k5=>hQ e M'' a'' fr'' σ'' (h1.trans k1) k2 k3 (ZO h4 k4) k5
    |_=>exact hQ _ M' a' fr' σ' h1 h2 h3 h4 h5)
 | .cond c x y,a,fr,M,σ,Q,QA,hM,hF,h,hQ=>by
    simp only[AWp]at h
    split at h
    ·rename_i b hb
     have hv:=hF.ev c
     rw[hb]at hv
     exact wp_cond_split (t:=b) (Cf hv).2 (fun e=>Ee hC hD x a fr M σ Q QA hM hF (h.1 e) hQ) (fun e=>Ee hC hD y a fr M σ Q QA hM hF (h.2 e) hQ)
    ·exact h.elim
 | .block id c,a,fr,M,σ,Q,QA,hM,hF,h,hQ=>wp_block (Ee hC hD c a fr M σ _ _ hM hF h fun e M' a' fr' σ' h1 h2 h3 h4 h5=>by
    cases e with
    |exit id'=>
     simp only[Exit.inBlock]
     by_cases hid:id'=id
     ·rw[if_pos hid];simp only[hid,if_true]at h5;exact hQ _ M' a' fr' σ' h1 h2 h3 h4 h5
     ·rw[if_neg hid];simp only[hid,if_false]at h5;exact hQ _ M' a' fr' σ' h1 h2 h3 h4 h5
    |_=>exact hQ _ M' a' fr' σ' h1 h2 h3 h4 h5)
 | .loop c,a,fr,M,σ,Q,QA,hM,hF,h,hQ=>by
    obtain⟨X,J,m,x0,Y,KY,hlen,hw,hY,hround⟩:=h
    obtain⟨M0,e0,h1,h2,h3⟩:=Gr hM (Ext.refl M σ) hM hF hw (QH _) (hlen x0)
    refine Aeg m (fun x a' w'=>∃ M',M'.w=w'∧Ext M σ M' (J x).2∧Al M' (J x).2∧Cx M' a' (J x).1) (x0:=x0) ⟨M0,e0,h1,h2,h3⟩ ?_
    rintro x a' w' ⟨M',rfl,k1,k2,k3⟩
    refine Ee hC hD c a' (J x).1 M' (J x).2 _ _ k2 k3 (hround x) fun e M'' a'' fr'' σ'' q1 q2 q3 q4 q5=> ?_
    have hl:=ZO (hlen x) q4
    cases e with
    |normal=>
     obtain⟨x',hlt,hw'⟩:=q5
     obtain⟨M3,e3,g1,g2,g3⟩:=Gr hM (k1.trans q1) q2 q3 hw' hl (hlen x')
     exact⟨x',hlt,M3,e3,g1,g2,g3⟩
    |_=>
     obtain⟨y,hye,hyw,hyl⟩:=q5
     have hl2:σ.length≤(KY y).2.2.length:=hyl.elim (ZO hl) id
     obtain⟨M3,e3,g1,g2,g3⟩:=Gr hM (k1.trans q1) q2 q3 hyw hl hl2
     rw[← e3]
     have hqy:=hY y
     rw[hye]at hqy
     exact hQ _ M3 a'' _ _ g1 g2 g3 hl2 hqy
 | .rangeFunc _ _ _ _,a,fr,M,σ,Q,QA,hM,hF,h,hQ=>by simp[AWp]at h
 | .scope _,a,fr,M,σ,Q,QA,hM,hF,h,hQ=>by simp[AWp]at h
 | .label _,a,fr,M,σ,Q,QA,hM,hF,h,hQ=>by simp[AWp]at h
 | .goto _,a,fr,M,σ,Q,QA,hM,hF,h,hQ=>by simp[AWp]at h
 | .refuse _,a,fr,M,σ,Q,QA,hM,hF,h,hQ=>by simp[AWp]at h
def Y0 (C:Ctx)(fr:List AV)(σ:St):ResultVar→Option AV
 | .tmp t=>some (fr.getD t (.tup []))
 | .cell t T=>match C.ty T with
   |some ti=>Hc ti (fr.getD t (.tup [])) σ
   |none=>none
def V3 (C:Ctx)(fr:List AV)(σ:St):List ResultVar→Option (List AV)
 |[]=>some []
 |r::rs=>match Y0 C fr σ r,V3 C fr σ rs with
  |some x,some xs=>some (x::xs)
  |_,_=>none
def resA (C:Ctx)(rs:List ResultVar)(fr:List AV)(σ:St):Option AV:=match V3 C fr σ rs with
 |some [x]=>some x
 |some l=>some (.tup l)
 |none=>none
section
variable {P:Program} {C:Ctx} {M:Az} {σ:St} {a:Act} {fr:List AV}
theorem Akv {rv:ResultVar}{r:AV}(hC:C.ok P)(hM:Al M σ)(hF:Cx M a fr)(h:Y0 C fr σ rv=some r):
 ∃ v,(match rv with| .tmp t=>pure (a.tmps.getD t undef)| .cell x t=>do loadVar t (← asAddr (a.tmps.getD x undef)):Sem Value).run P M.w= .ok v M.w∧Ag M r v:=by
 cases rv with
 |tmp t=>
  simp only[Y0,QB]at h;subst h
  exact⟨_,rfl,hF.ev (.tmp t)⟩
 |cell x T=>
  simp only[Y0]at h
  split at h
  ·rename_i ti hti
   obtain⟨v,ad,h1,h2,h3⟩:=V2 (hC.1 T ti hti) hM (hF.ev (.tmp x)) h
   refine⟨v,?_,h3⟩
   have h1':a.tmps.getD x undef= .pointer (some ad):=h1
   simp only[h1',asAddr,Sem.run_bind,Sem.run_pure,Result.andThen_ok,h2]
  ·simp at h
theorem Tf (hC:C.ok P)(hM:Al M σ)(hF:Cx M a fr):∀ {rs:List ResultVar} {l:List AV},V3 C fr σ rs=some l→
 ∃ vs,(rs.mapM fun| .tmp t=>pure (a.tmps.getD t undef)| .cell x t=>do loadVar t (← asAddr (a.tmps.getD x undef)):Sem (List Value)).run P M.w= .ok vs M.w∧Af M l vs
 |[],l,h=>by
  simp only[V3,QB]at h;subst h
  exact⟨[],rfl,by simp[Af]⟩
 |rv::rs,l,h=>by
  simp only[V3]at h
  split at h
  ·rename_i x xs hx hxs
   simp only[QB]at h;subst h
   obtain⟨v,h1,h2⟩:=Akv hC hM hF hx
   obtain⟨vs,h3,h4⟩:=Tf hC hM hF hxs
   refine⟨v::vs,?_,by simp only[Af];exact⟨v,vs,rfl,h2,h4⟩⟩
   rw[List.mapM_cons,Sem.run_bind,h1,Result.andThen_ok,Sem.run_bind,h3]
   rfl
  ·simp at h
theorem Akw {fn:Func}{r:AV}(hC:C.ok P)(hM:Al M σ)(hF:Cx M a fr)(h:resA C fn.results.toList fr σ=some r):∃ v,(results fn a.tmps).run P M.w= .ok v M.w∧Ag M r v:=by
 unfold resA at h
 have key:∀ vs:List Value,(fn.results.toList.mapM fun| .tmp t=>pure (a.tmps.getD t undef)| .cell x t=>do loadVar t (← asAddr (a.tmps.getD x undef)):Sem (List Value)).run P M.w= .ok vs M.w→
  (results fn a.tmps).run P M.w= .ok (if h:vs.toArray.size=1 then vs.toArray[0]else .tuple vs.toArray) M.w:=fun vs hvs=>by
  unfold results
  rw[Sem.run_bind,Array.mapM_eq_mapM_toList,Sem.run_map]
  exact congrArg (fun z:Result (List Value)=>(z.andThen fun a w'=>Result.ok a.toArray w').andThen fun (a:Array Value) w'=>Sem.run P (pure (if h:a.size=1 then a[0]else Value.tuple a)) w') hvs
 split at h
 ·rename_i x hl
  simp only[QB]at h;subst h
  obtain⟨vs,h1,h2⟩:=Tf hC hM hF hl
  simp only[Af]at h2
  obtain⟨u,us',rfl,h3,rfl⟩:=h2
  exact⟨u,by rw[key _ h1];simp,h3⟩
 ·rename_i l hne hl
  simp only[QB]at h;subst h
  obtain⟨vs,h1,h2⟩:=Tf hC hM hF hl
  have hlen:=h2.len
  have:¬ vs.toArray.size=1:=fun e=>by
   simp at e
   have:l.length=1:=by omega
   obtain⟨x,rfl⟩:=List.length_eq_one_iff.1 this
   exact hne x rfl
  exact⟨.tuple vs.toArray,by rw[key _ h1,dif_neg this],by simp only[Ag];exact⟨vs,rfl,h2⟩⟩
 ·simp at h
theorem Af1 {draw:Array Oper→List AV→St→(List AV→St→Prop)→Prop}{f:FuncId}{fn:Func}{c:Code}{args:List AV}{R:AV→St→Prop}{nt:Nat}(hC:C.ok P)(hD:Ho P draw)(hf:P.funcs[f]? =some fn)(hname:(fn.name== "runtime.NumGoroutine")=false)(hb:fn.body=some c)(hnt:fn.ntmps - args.length=nt)
 (h:AWp P C draw c (args++List.replicate nt (.tup [])) σ fun e fr' σ'=>(e= .ret∨e= .normal)∧∃ r0 r σ'',resA C fn.results.toList fr' σ'=some r0∧L0 [r0] σ' [r] σ''∧σ.length≤σ''.length∧R r σ''):Aa P f args σ R:=by
 subst hnt
 refine⟨⟨fn,hf,hname,by simp[hb]⟩,fun M vs hM hv=>calls_of_wp hf hb ?_⟩
 have hlen:=hv.len
 refine Ee hC hD c _ _ M σ _ _ hM ?_ h fun e M' a' fr' σ' h1 h2 h3 h4 h5=> ?_
 ·refine⟨?_,rfl⟩
  have:(vs.toArray++Array.replicate (fn.ntmps - vs.toArray.size) undef).toList=vs++List.replicate (fn.ntmps - args.length) undef:=by simp[hlen]
  rw[this]
  refine hv.append (Bc.2 ⟨by simp,fun i x u hx hu=> ?_⟩)
  rw[WU]at hx hu
  split at hx
  ·simp at hx;subst hx
   rename_i hi
   rw[if_pos hi]at hu;simp at hu;subst hu
   exact F4
  ·simp at hx
 ·obtain⟨he,r0,r,σ'',g1,g2,g3,g4⟩:=h5
  obtain⟨v,k1,k2⟩:=Akw hC h2 h3 g1
  obtain⟨M'',e2,q1,q2,q3⟩:=Gr hM h1 h2 (a:=⟨#[v],[]⟩) ⟨by simp only[Af];exact⟨v,[],rfl,k2,rfl⟩,rfl⟩ g2 h4 g3
  have hr:Ag M'' r v:=by
   have:=q3.tmps
   simp only[Af]at this
   obtain⟨u,us',e,hr,_⟩:=this
   simp at e
   rw[e.1];exact hr
  have:bodyPost P fn (fun e w'=>∃ v r σ' M',e= .returned v∧M'.w=w'∧Ext M σ M' σ'∧Al M' σ'∧Ag M' r v∧σ.length≤σ'.length∧R r σ') .ret a' M'.w:=
   ⟨h3.defers,v,k1,v,r,σ'',M'',rfl,e2,q1,q2,hr,g3,g4⟩
  rcases he with rfl|rfl
  ·exact this
  ·exact this
theorem Aa.pure {f:FuncId}{args:List AV}{R:AV→Prop}(h:Aa P f args [] fun r σ'=>A0 0 r=true∧R r)(ha:Ci 0 args=true)(σ:St):Aa P f args σ fun r σ'=>σ'=σ∧R r:=by
 refine⟨h.1,fun M vs hM hv=> ?_⟩
 let M0:Az:={ M with mu:=fun _=>none,len:=fun _=>none }
 have hA:Alike 0 M M0:=⟨rfl,rfl,fun t ht=>by omega,fun t ht=>by omega,fun t ht=>by omega⟩
 have hM0:Al M0 []:=⟨fun t ob ht=>by simp[St.at]at ht,fun t t' ob ob' b ht=>by simp[St.at]at ht,fun t _=>⟨rfl,rfl⟩,fun t b hb=>by simp[M0]at hb,hM.imm,fun x hx=>by
  obtain⟨cs,T,g1,g2,_⟩:=hM.glob x hx
  exact⟨cs,T,g1,g2,fun t ob ht=>by simp[St.at]at ht⟩⟩
 refine (h.2 M0 vs hM0 (Af.alike hA _ _ ha hv)).mono ?_
 rintro e w' ⟨v,r,σ',M1,rfl,rfl,h1,h2,h3,h4,h5,h6⟩
 let M':Az:={ w:=M1.w,I:=M1.I,mu:=M.mu,len:=M.len,cap:=M.cap }
 have hL:Later M M':=⟨fun _ _ h h'=>⟨h,h',rfl⟩,C5 (fun _=>rfl) (fun _=>rfl) (fun _=>rfl),h1.imm,h1.cell⟩
 have hk:∀ b,b<M.w.heap.size→M1.w.heap[b]? =M.w.heap[b]? ∧∀ o,M1.I b o→M.I b o:=fun b hb=>h1.keep b hb fun t ob ht=>by simp[St.at]at ht
 have hE':Ext M σ M' σ:=⟨hL.mu,hL.own,hL.imm,hL.cell,fun b hb _=>hk b hb,fun t ob b h7 h8=>.inr ⟨t,ob,h7,h8⟩,h1.size,h1.os,h1.tape,h1.output⟩
 refine⟨v,r,σ,M',rfl,rfl,hE',?_,?_,QH _,rfl,h6⟩
 ·exact⟨fun t ob ht=>(hM.obj t ob ht).later hL rfl rfl rfl fun b hb=>hk b (hM.lt t b hb),hM.inj,hM.fresh,fun t b hb=>ZE (hM.lt t b hb) h1.size,h2.imm,hM.glob.ext hE'⟩
 ·exact Ag.alike (⟨rfl,rfl,fun t ht=>by omega,fun t ht=>by omega,fun t ht=>by omega⟩:Alike 0 M1 M') _ _ h5 h3
end
