/- Steps of a walk on the abstract machine. -/
import Derived.Test.YthhbnenaihkggaaGreatM11
set_option linter.unusedSimpArgs false
set_option linter.unusedVariables false
set_option linter.defProp false
set_option maxRecDepth 100000
set_option maxHeartbeats 32000000
namespace Go.Proofs.YthhbnenaihkggaaGreat
open Go.RowKit
theorem nr {α:Sort _}{a b:α}(h:a=b):a=b:=h
section
variable {P:Program} {C:Ctx} {d:Array Oper→List AV→St→(List AV→St→Prop)→Prop} {fr:List AV} {σ:St} {Q:Exit→List AV→St→Prop} {K:List AV→St→Prop} {ops:Array Oper}
def thenA (P:Program)(C:Ctx)(d:Array Oper→List AV→St→(List AV→St→Prop)→Prop)(y:Code)(Q:Exit→List AV→St→Prop)(e:Exit)(fr:List AV)(σ:St):Prop:=match e with
 | .normal=>AWp P C d y fr σ Q
 |e=>Q e fr σ
def blockA (id:Nat)(Q:Exit→List AV→St→Prop)(e:Exit)(fr:List AV)(σ:St):Prop:=match e with
 | .exit id'=>if id'=id then Q .normal fr σ else Q (.exit id') fr σ
 |e=>Q e fr σ
def condK (P:Program)(C:Ctx)(d:Array Oper→List AV→St→(List AV→St→Prop)→Prop)(c:AV)(x y:Code)(fr:List AV)(σ:St)(Q:Exit→List AV→St→Prop):Prop:=match c with
 | .p (.v (.bool b))=>(b=true→AWp P C d x fr σ Q)∧(b=false→AWp P C d y fr σ Q)
 |_=>False
theorem awp_skip:AWp P C d .skip fr σ Q=Q .normal fr σ:=nr rfl
theorem awp_seq {x y:Code}:AWp P C d (.seq x y) fr σ Q=AWp P C d x fr σ (thenA P C d y Q):=by
 simp only[AWp]
 congr 1
theorem awp_region {i:Nat}:AWp P C d (.region i ops false) fr σ Q=aOpsL P C ops ops.toList fr σ (Q .normal):=by simp only[AWp]
theorem awp_draw {i:Nat}:AWp P C d (.region i ops true) fr σ Q=d ops fr σ (Q .normal):=by simp only[AWp]
theorem awp_cond {c:Operand}{x y:Code}:AWp P C d (.cond c x y) fr σ Q=condK P C d (evA fr c) x y fr σ Q:=by
 simp only[AWp]
 rfl
theorem awp_block {id:Nat}{c:Code}:AWp P C d (.block id c) fr σ Q=AWp P C d c fr σ (blockA id Q):=by
 simp only[AWp]
 congr 1
theorem awp_exit {id:Nat}:AWp P C d (.exit id) fr σ Q=Q (.exit id) fr σ:=nr rfl
theorem awp_ret:AWp P C d .ret fr σ Q=Q .ret fr σ:=nr rfl
theorem then_normal {y:Code}:thenA P C d y Q .normal fr σ=AWp P C d y fr σ Q:=nr rfl
theorem then_exit {y:Code}{id:Nat}:thenA P C d y Q (.exit id) fr σ=Q (.exit id) fr σ:=nr rfl
theorem then_ret {y:Code}:thenA P C d y Q .ret fr σ=Q .ret fr σ:=nr rfl
theorem block_normal {id:Nat}:blockA id Q .normal fr σ=Q .normal fr σ:=nr rfl
theorem block_ret {id:Nat}:blockA id Q .ret fr σ=Q .ret fr σ:=nr rfl
theorem block_exit {id id':Nat}:blockA id Q (.exit id') fr σ=if id'=id then Q .normal fr σ else Q (.exit id') fr σ:=nr rfl
theorem cond_true {x y:Code}:condK P C d (.p (.v (.bool true))) x y fr σ Q=AWp P C d x fr σ Q:=by simp[condK]
theorem cond_false {x y:Code}:condK P C d (.p (.v (.bool false))) x y fr σ Q=AWp P C d y fr σ Q:=by simp[condK]
theorem cond_split {b:Bool}{x y:Code}(h1:b=true→AWp P C d x fr σ Q)(h2:b=false→AWp P C d y fr σ Q):condK P C d (.p (.v (.bool b))) x y fr σ Q:=⟨h1,h2⟩
theorem onSome_some {r:AV}{s:St}{K:AV→St→Prop}:onSome (some (r,s)) K=K r s:=nr rfl
theorem aops_nil:aOpsL P C ops [] fr σ K=K fr σ:=nr rfl
def kontA (P:Program)(C:Ctx)(ops:Array Oper)(os:List Oper)(dst:Option Tmp)(fr:List AV)(K:List AV→St→Prop)(r:AV)(σ:St):Prop:=aOpsL P C ops os (setA fr dst r) σ K
theorem kont_app {os:List Oper}{dst:Option Tmp}{r:AV}:kontA P C ops os dst fr K r σ=aOpsL P C ops os (setA fr dst r) σ K:=nr rfl
def wantK (P:Program)(C:Ctx)(ops:Array Oper)(y:Option (Option Bool))(want:Bool)(o:Oper)(os:List Oper)(fr:List AV)(σ:St)(K:List AV→St→Prop):Prop:=match y with
 |some (some b)=>(b=want→aStep P C o fr σ (kontA P C ops os o.dst fr K))∧(b= !want→aOpsL P C ops os (setA fr o.dst (.tup [])) σ K)
 |some none=>aOpsL P C ops os (setA fr o.dst (.tup [])) σ K
 |none=>False
theorem aops_cons {dst:Option Tmp}{op:Op}{ty:TypeId}{pos:String}{after:Array Edge}{os:List Oper}:aOpsL P C ops (⟨dst,op,ty,pos,after,none⟩::os) fr σ K=aStep P C ⟨dst,op,ty,pos,after,none⟩ fr σ (kontA P C ops os dst fr K):=nr rfl
theorem aops_guard {dst:Option Tmp}{op:Op}{ty:TypeId}{pos:String}{after:Array Edge}{os:List Oper}{j:Nat}{want:Bool}:aOpsL P C ops (⟨dst,op,ty,pos,after,some (j,want)⟩::os) fr σ K=wantK P C ops (yieldA ops fr j) want ⟨dst,op,ty,pos,after,some (j,want)⟩ os fr σ K:=nr rfl
theorem want_tt {o:Oper}{os:List Oper}:wantK P C ops (some (some true)) true o os fr σ K=aStep P C o fr σ (kontA P C ops os o.dst fr K):=by simp[wantK]
theorem want_ff {o:Oper}{os:List Oper}:wantK P C ops (some (some false)) false o os fr σ K=aStep P C o fr σ (kontA P C ops os o.dst fr K):=by simp[wantK]
theorem want_tf {o:Oper}{os:List Oper}:wantK P C ops (some (some true)) false o os fr σ K=aOpsL P C ops os (setA fr o.dst (.tup [])) σ K:=by simp[wantK]
theorem want_ft {o:Oper}{os:List Oper}:wantK P C ops (some (some false)) true o os fr σ K=aOpsL P C ops os (setA fr o.dst (.tup [])) σ K:=by simp[wantK]
theorem want_no {want:Bool}{o:Oper}{os:List Oper}:wantK P C ops (some none) want o os fr σ K=aOpsL P C ops os (setA fr o.dst (.tup [])) σ K:=nr rfl
theorem want_split {b want:Bool}{o:Oper}{os:List Oper}(h1:b=want→aStep P C o fr σ (kontA P C ops os o.dst fr K))(h2:b= !want→aOpsL P C ops os (setA fr o.dst (.tup [])) σ K):wantK P C ops (some (some b)) want o os fr σ K:=⟨h1,h2⟩
def roundA {X:Type}(J:X→List AV×St)(m:X→Nat)(x:X)(Q:Exit→List AV→St→Prop)(e:Exit)(fr':List AV)(σ':St):Prop:=match e with
 | .normal=>∃ x',m x'<m x∧WeakE fr' σ' (J x').1 (J x').2
 |e=>Q e fr' σ'
theorem aDraw_mono {fr:List AV}{σ:St}{K K':List AV→St→Prop}(hK:∀ f s,K f s→K' f s)(h:aDraw P C ops fr σ K):aDraw P C ops fr σ K':=by
 obtain⟨pl,h1,h2,h3,h4⟩:=h
 refine⟨pl,h1,h2,h3,?_⟩
 clear h1 h3
 generalize ([]:List Nat)=L at h4
 induction pl generalizing L fr σ with
 |done=>exact hK _ _ h4
 |det i p ih=>
  simp only[aPl]at h4 ⊢
  split at h4
  ·exact h4.elim
  ·refine ifWanted_mono h4 (fun h=> ?_) (fun h=>ih _ h)
   unfold aDet at h ⊢
   split at h
   ·rename_i T x hl
    split at h
    ·exact ih _ h
    ·exact h.elim
   ·split at h
    ·exact⟨h.1,ih _ h.2⟩
    ·exact h.elim
 |act i p ih=>
  simp only[aPl]at h4 ⊢
  split at h4
  ·exact h4.elim
  ·exact ifWanted_mono h4 (fun h=>aStep_mono h fun r s h=>ih _ h) (fun h=>ih _ h)
 |fin i p ih=>
  simp only[aPl]at h4 ⊢
  split at h4
  ·exact h4.elim
  ·exact ifWanted_mono h4 (fun h=>aStep_mono h fun r s h=>ih _ h) (fun h=>ih _ h)
 |two i p j q ihp ihq=>
  simp only[aPl]at h4 ⊢
  obtain⟨h4,h5⟩:=h4
  constructor
  ·split at h4
   ·exact h4.elim
   ·exact ifWanted_mono h4 (fun h=>aStep_mono h fun r s h=>ihp _ h) (fun h=>ihp _ h)
  ·split at h5
   ·exact h5.elim
   ·exact ifWanted_mono h5 (fun h=>aStep_mono h fun r s h=>ihq _ h) (fun h=>ihq _ h)
theorem aOpsL_mono {K K':List AV→St→Prop}(hK:∀ f s,K f s→K' f s):∀ {os:List Oper} {fr:List AV} {σ:St},aOpsL P C ops os fr σ K→aOpsL P C ops os fr σ K'
 |[],fr,σ,h=>hK _ _ h
 |o::os,fr,σ,h=>by
  simp only[aOpsL]at h ⊢
  exact ifWanted_mono h (fun h=>aStep_mono h fun r s h=>aOpsL_mono hK h) (fun h=>aOpsL_mono hK h)
theorem AWp_mono:∀ {c:Code} {fr:List AV} {σ:St} {Q Q':Exit→List AV→St→Prop},(∀ e f s,Q e f s→Q' e f s)→AWp P C (aDraw P C) c fr σ Q→AWp P C (aDraw P C) c fr σ Q'
 | .skip,fr,σ,Q,Q',hQ,h=>hQ _ _ _ h
 | .exit id,fr,σ,Q,Q',hQ,h=>hQ _ _ _ h
 | .ret,fr,σ,Q,Q',hQ,h=>hQ _ _ _ h
 | .region id ops false,fr,σ,Q,Q',hQ,h=>by
   simp only[AWp]at h ⊢
   exact aOpsL_mono (hQ .normal) h
 | .region id ops true,fr,σ,Q,Q',hQ,h=>by
   simp only[AWp]at h ⊢
   exact aDraw_mono (hQ .normal) h
 | .seq x y,fr,σ,Q,Q',hQ,h=>by
   simp only[AWp]at h ⊢
   refine AWp_mono (c:=x) (fun e f s h=> ?_) h
   cases e with
   |normal=>exact AWp_mono (c:=y) hQ h
   |_=>exact hQ _ _ _ h
 | .cond c x y,fr,σ,Q,Q',hQ,h=>by
   simp only[AWp]at h ⊢
   split at h
   ·exact⟨fun e=>AWp_mono (c:=x) hQ (h.1 e),fun e=>AWp_mono (c:=y) hQ (h.2 e)⟩
   ·exact h.elim
 | .block id c,fr,σ,Q,Q',hQ,h=>by
   simp only[AWp]at h ⊢
   refine AWp_mono (c:=c) (fun e f s h=> ?_) h
   cases e with
   |exit id'=>
    simp only at h ⊢
    split at h
    ·rename_i hid;simp only[hid,if_true];exact hQ _ _ _ h
    ·rename_i hid;simp only[hid,if_false];exact hQ _ _ _ h
   |_=>exact hQ _ _ _ h
 | .loop c,fr,σ,Q,Q',hQ,h=>by
   simp only[AWp]at h ⊢
   obtain⟨X,J,m,x0,Y,K,h1,h2,h3,h4⟩:=h
   exact⟨X,J,m,x0,Y,K,h1,h2,fun y=>hQ _ _ _ (h3 y),h4⟩
 | .rangeFunc _ _ _ _,fr,σ,Q,Q',hQ,h=>by simp[AWp]at h
 | .scope _,fr,σ,Q,Q',hQ,h=>by simp[AWp]at h
 | .label _,fr,σ,Q,Q',hQ,h=>by simp[AWp]at h
 | .goto _,fr,σ,Q,Q',hQ,h=>by simp[AWp]at h
 | .refuse _,fr,σ,Q,Q',hQ,h=>by simp[AWp]at h
theorem awp_loop' {c:Code}{X:Type}(J:X→List AV×St)(m:X→Nat)(x0:X)(h1:∀ x,σ.length≤(J x).2.length)(h2:WeakE fr σ (J x0).1 (J x0).2)
 (h3:∀ x,AWp P C (aDraw P C) c (J x).1 (J x).2 (roundA J m x Q)):AWp P C (aDraw P C) (.loop c) fr σ Q:=by
 refine⟨X,J,m,x0,{ z:Exit×List AV×St // Q z.1 z.2.1 z.2.2 },fun y=>y.1,h1,h2,fun y=>y.2,fun x=>AWp_mono (fun e f s h=> ?_) (h3 x)⟩
 cases e with
 |normal=>exact h
 |_=>exact⟨⟨(_,f,s),h⟩,rfl,.inl ⟨rfl,rfl⟩,.inl (Nat.le_refl _)⟩
theorem round_exit {X:Type}{J:X→List AV×St}{m:X→Nat}{x:X}{id:Nat}:roundA J m x Q (.exit id) fr σ=Q (.exit id) fr σ:=nr rfl
theorem round_ret {X:Type}{J:X→List AV×St}{m:X→Nat}{x:X}:roundA J m x Q .ret fr σ=Q .ret fr σ:=nr rfl
def retA (C:Ctx)(rs:List ResultVar)(n:Nat)(R:AV→St→Prop)(e:Exit)(fr':List AV)(σ':St):Prop:=
 (e= .ret∨e= .normal)∧∃ r0 r σ'',resA C rs fr' σ'=some r0∧WeakE [r0] σ' [r] σ''∧n≤σ''.length∧R r σ''
theorem acalls_of {f:FuncId}{fn:Func}{c:Code}{args:List AV}{R:AV→St→Prop}{nt:Nat}{rs:List ResultVar}(hC:C.ok P)(hD:DrawOk P d)(hf:P.funcs[f]? =some fn)(hname:(fn.name== "runtime.NumGoroutine")=false)(hb:fn.body=some c)(hnt:fn.ntmps - args.length=nt)(hrs:fn.results.toList=rs)
 (h:AWp P C d c (args++List.replicate nt (.tup [])) σ (retA C rs σ.length R)):ACalls P f args σ R:=by
 subst hrs
 exact ACalls_of hC hD hf hname hb hnt h
theorem step_call {dst:Option Tmp}{g:FuncId}{args:Array Operand}{ts:Array TypeId}{ty:TypeId}{pos:String}{after:Array Edge}{gd:Option (Nat×Bool)}{K:AV→St→Prop}:
 aStep P C ⟨dst,.call ⟨.value (.func g),args,ts⟩,ty,pos,after,gd⟩ fr σ K=ACalls P g (args.toList.map (evA fr)) σ K:=by
 simp[aStep,calleeOf,evA]
def dynA (P:Program)(f:AV)(args:List AV)(σ:St)(K:AV→St→Prop):Prop:=match f with
 | .fn g first cap=>ACalls P g (first++args++cap) σ K
 |_=>False
theorem step_dyn {dst:Option Tmp}{t:Tmp}{args:Array Operand}{ts:Array TypeId}{ty:TypeId}{pos:String}{after:Array Edge}{gd:Option (Nat×Bool)}{K:AV→St→Prop}:
 aStep P C ⟨dst,.call ⟨.value (.tmp t),args,ts⟩,ty,pos,after,gd⟩ fr σ K=dynA P (evA fr (.tmp t)) (args.toList.map (evA fr)) σ K:=nr rfl
theorem dyn_fn {g:FuncId}{first cap args:List AV}{K:AV→St→Prop}:dynA P (.fn g first cap) args σ K=ACalls P g (first++args++cap) σ K:=nr rfl
def builtinM (C:Ctx)(pos:Option Tmp)(tk:Nat)(b:Builtin)(ts:List TypeId)(xs:List AV)(σ:St):Option (AV×St):=match b,ts,xs with
 | .append,[T,T'],[x,y]=>if C.muts.contains (keyM T pos)then (if T=T' then appendM C tk T x y σ else none)else builtinA C tk .append [T,T'] [x,y] σ
 | .copy,ts,xs=>builtinX C .copy ts xs σ
 | .delete,ts,xs=>builtinX C .delete ts xs σ
 |b,ts,xs=>builtinA C tk b ts xs σ
theorem step_builtin {dst:Option Tmp}{b:Builtin}{args:Array Operand}{ts:Array TypeId}{ty:TypeId}{pos:String}{after:Array Edge}{gd:Option (Nat×Bool)}{K:AV→St→Prop}:
 aStep P C ⟨dst,.call ⟨.builtin b,args,ts⟩,ty,pos,after,gd⟩ fr σ K=onSome (builtinM C dst σ.length b ts.toList (args.toList.map (evA fr)) σ) K:=by
 cases b
 all_goals first
  |rfl
  |(simp only[aStep,calleeOf,opK,aopM,builtinM,aop];done)
  |(simp only[aStep,calleeOf,opK,aopM,builtinM,aop]
    generalize ts.toList=tl
    generalize args.toList.map (evA fr)=xl
    rcases tl with _|⟨T,_|⟨T',_|⟨T3,tl⟩⟩⟩<;>rcases xl with _|⟨x,_|⟨y,_|⟨x3,xl⟩⟩⟩<;>rfl)
theorem step_move {dst:Option Tmp}{ty:TypeId}{pos:String}{after:Array Edge}{gd:Option (Nat×Bool)}{K:AV→St→Prop}{x:Operand}:aStep P C ⟨dst,.move x,ty,pos,after,gd⟩ fr σ K=K (evA fr x) σ:=nr rfl
theorem step_assign {dst:Option Tmp}{ty:TypeId}{pos:String}{after:Array Edge}{gd:Option (Nat×Bool)}{K:AV→St→Prop}{x:Operand}:aStep P C ⟨dst,.assign x,ty,pos,after,gd⟩ fr σ K=K (evA fr x) σ:=nr rfl
theorem step_pick {dst:Option Tmp}{ty:TypeId}{pos:String}{after:Array Edge}{gd:Option (Nat×Bool)}{K:AV→St→Prop}{c x y:Operand}:aStep P C ⟨dst,.pick c x y,ty,pos,after,gd⟩ fr σ K=onSome (aop C σ.length (.pick c x y) (evA fr) σ) K:=nr rfl
theorem step_alloc {dst:Option Tmp}{ty:TypeId}{pos:String}{after:Array Edge}{gd:Option (Nat×Bool)}{K:AV→St→Prop}{T:TypeId}:aStep P C ⟨dst,.alloc T,ty,pos,after,gd⟩ fr σ K=onSome (aop C σ.length (.alloc T) (evA fr) σ) K:=nr rfl
theorem step_box {dst:Option Tmp}{ty:TypeId}{pos:String}{after:Array Edge}{gd:Option (Nat×Bool)}{K:AV→St→Prop}{T:TypeId}{x:Operand}:aStep P C ⟨dst,.box T x,ty,pos,after,gd⟩ fr σ K=onSome (aop C σ.length (.box T x) (evA fr) σ) K:=nr rfl
theorem step_build {dst:Option Tmp}{ty:TypeId}{pos:String}{after:Array Edge}{gd:Option (Nat×Bool)}{K:AV→St→Prop}{T:TypeId}{ps:Array (Nat×Operand)}:aStep P C ⟨dst,.build T ps,ty,pos,after,gd⟩ fr σ K=onSome (aop C σ.length (.build T ps) (evA fr) σ) K:=nr rfl
theorem step_buildSlice {dst:Option Tmp}{ty:TypeId}{pos:String}{after:Array Edge}{gd:Option (Nat×Bool)}{K:AV→St→Prop}{T:TypeId}{n:Nat}{ps:Array (Nat×Operand)}:aStep P C ⟨dst,.buildSlice T n ps,ty,pos,after,gd⟩ fr σ K=onSome (aop C σ.length (.buildSlice T n ps) (evA fr) σ) K:=nr rfl
theorem step_load {dst:Option Tmp}{ty:TypeId}{pos:String}{after:Array Edge}{gd:Option (Nat×Bool)}{K:AV→St→Prop}{T:TypeId}{x:Operand}:aStep P C ⟨dst,.load T x,ty,pos,after,gd⟩ fr σ K=onSome (aop C σ.length (.load T x) (evA fr) σ) K:=nr rfl
theorem step_store {dst:Option Tmp}{ty:TypeId}{pos:String}{after:Array Edge}{gd:Option (Nat×Bool)}{K:AV→St→Prop}{T:TypeId}{x y:Operand}:aStep P C ⟨dst,.store T x y,ty,pos,after,gd⟩ fr σ K=onSome (aop C σ.length (.store T x y) (evA fr) σ) K:=nr rfl
theorem step_nilCheck {dst:Option Tmp}{ty:TypeId}{pos:String}{after:Array Edge}{gd:Option (Nat×Bool)}{K:AV→St→Prop}{x:Operand}:aStep P C ⟨dst,.nilCheck x,ty,pos,after,gd⟩ fr σ K=onSome (aop C σ.length (.nilCheck x) (evA fr) σ) K:=nr rfl
theorem step_binOp {dst:Option Tmp}{ty:TypeId}{pos:String}{after:Array Edge}{gd:Option (Nat×Bool)}{K:AV→St→Prop}{op:BinOp}{T:TypeId}{x y:Operand}{T':TypeId}:aStep P C ⟨dst,.binOp op T x y T',ty,pos,after,gd⟩ fr σ K=onSome (aop C σ.length (.binOp op T x y T') (evA fr) σ) K:=nr rfl
theorem step_unOp {dst:Option Tmp}{ty:TypeId}{pos:String}{after:Array Edge}{gd:Option (Nat×Bool)}{K:AV→St→Prop}{op:UnOp}{T:TypeId}{x:Operand}:aStep P C ⟨dst,.unOp op T x,ty,pos,after,gd⟩ fr σ K=onSome (aop C σ.length (.unOp op T x) (evA fr) σ) K:=nr rfl
theorem step_convert {dst:Option Tmp}{ty:TypeId}{pos:String}{after:Array Edge}{gd:Option (Nat×Bool)}{K:AV→St→Prop}{S T:TypeId}{x:Operand}:aStep P C ⟨dst,.convert S T x,ty,pos,after,gd⟩ fr σ K=onSome (aop C σ.length (.convert S T x) (evA fr) σ) K:=nr rfl
theorem step_makeFunc {dst:Option Tmp}{ty:TypeId}{pos:String}{after:Array Edge}{gd:Option (Nat×Bool)}{K:AV→St→Prop}{f:Fn}{us vs:Array Operand}:aStep P C ⟨dst,.makeFunc f us vs,ty,pos,after,gd⟩ fr σ K=onSome (aop C σ.length (.makeFunc f us vs) (evA fr) σ) K:=nr rfl
theorem step_makeSlice {dst:Option Tmp}{ty:TypeId}{pos:String}{after:Array Edge}{gd:Option (Nat×Bool)}{K:AV→St→Prop}{T:TypeId}{l c:Operand}:aStep P C ⟨dst,.makeSlice T l c,ty,pos,after,gd⟩ fr σ K=onSome (mkM C dst σ.length T l c (evA fr) σ) K:=nr rfl
theorem mk_no {pos:Option Tmp}{tk:Nat}{T:TypeId}{l c:Operand}{ρ:Operand→AV}(h:C.muts.contains (keyM T pos)=false):mkM C pos tk T l c ρ σ=aop C tk (.makeSlice T l c) ρ σ:=by simp only[mkM,h,Bool.false_eq_true,if_false]
theorem mk_yes {pos:Option Tmp}{tk:Nat}{T:TypeId}{l c:Operand}{ρ:Operand→AV}(h:C.muts.contains (keyM T pos)=true):mkM C pos tk T l c ρ σ=makeM C true tk T l c ρ σ:=by simp only[mkM,h,if_true]
theorem step_makeMap {dst:Option Tmp}{ty:TypeId}{pos:String}{after:Array Edge}{gd:Option (Nat×Bool)}{K:AV→St→Prop}{T:TypeId}{x:Option Operand}:aStep P C ⟨dst,.makeMap T x,ty,pos,after,gd⟩ fr σ K=onSome (aop C σ.length (.makeMap T x) (evA fr) σ) K:=nr rfl
theorem step_lookup {dst:Option Tmp}{ty:TypeId}{pos:String}{after:Array Edge}{gd:Option (Nat×Bool)}{K:AV→St→Prop}{T:TypeId}{x i:Operand}{ok:Bool}:aStep P C ⟨dst,.lookup T x i ok,ty,pos,after,gd⟩ fr σ K=onSome (aop C σ.length (.lookup T x i ok) (evA fr) σ) K:=nr rfl
theorem step_mapUpdate {dst:Option Tmp}{ty:TypeId}{pos:String}{after:Array Edge}{gd:Option (Nat×Bool)}{K:AV→St→Prop}{T:TypeId}{m k x:Operand}:aStep P C ⟨dst,.mapUpdate T m k x,ty,pos,after,gd⟩ fr σ K=onSome (aop C σ.length (.mapUpdate T m k x) (evA fr) σ) K:=nr rfl
theorem step_slice {dst:Option Tmp}{ty:TypeId}{pos:String}{after:Array Edge}{gd:Option (Nat×Bool)}{K:AV→St→Prop}{T:TypeId}{x:Operand}{lo hi mx:Option Operand}:aStep P C ⟨dst,.slice T x lo hi mx,ty,pos,after,gd⟩ fr σ K=onSome (aop C σ.length (.slice T x lo hi mx) (evA fr) σ) K:=nr rfl
theorem step_fieldAddr {dst:Option Tmp}{ty:TypeId}{pos:String}{after:Array Edge}{gd:Option (Nat×Bool)}{K:AV→St→Prop}{T:TypeId}{x:Operand}{k:Nat}:aStep P C ⟨dst,.fieldAddr T x k,ty,pos,after,gd⟩ fr σ K=onSome (aop C σ.length (.fieldAddr T x k) (evA fr) σ) K:=nr rfl
theorem step_field {dst:Option Tmp}{ty:TypeId}{pos:String}{after:Array Edge}{gd:Option (Nat×Bool)}{K:AV→St→Prop}{T:TypeId}{x:Operand}{k:Nat}:aStep P C ⟨dst,.field T x k,ty,pos,after,gd⟩ fr σ K=onSome (aop C σ.length (.field T x k) (evA fr) σ) K:=nr rfl
theorem step_indexAddr {dst:Option Tmp}{ty:TypeId}{pos:String}{after:Array Edge}{gd:Option (Nat×Bool)}{K:AV→St→Prop}{T:TypeId}{x i:Operand}:aStep P C ⟨dst,.indexAddr T x i,ty,pos,after,gd⟩ fr σ K=onSome (aop C σ.length (.indexAddr T x i) (evA fr) σ) K:=nr rfl
theorem step_index {dst:Option Tmp}{ty:TypeId}{pos:String}{after:Array Edge}{gd:Option (Nat×Bool)}{K:AV→St→Prop}{T:TypeId}{x i:Operand}:aStep P C ⟨dst,.index T x i,ty,pos,after,gd⟩ fr σ K=onSome (aop C σ.length (.index T x i) (evA fr) σ) K:=nr rfl
theorem step_extract {dst:Option Tmp}{ty:TypeId}{pos:String}{after:Array Edge}{gd:Option (Nat×Bool)}{K:AV→St→Prop}{x:Operand}{k:Nat}:aStep P C ⟨dst,.extract x k,ty,pos,after,gd⟩ fr σ K=onSome (aop C σ.length (.extract x k) (evA fr) σ) K:=nr rfl
theorem ev_tmp {t:Tmp}:evA fr (.tmp t)=fr.getD t (.tup []):=nr rfl
theorem ev_bool {b:Bool}:evA fr (.const (.bool b))= .p (.v (.bool b)):=nr rfl
theorem ev_int {k:IntKind}{n:Int}:evA fr (.const (.int k n))= .p (.v (.int k n)):=nr rfl
theorem ev_str {s:ByteArray}:evA fr (.const (.string s))= .p (.v (.string s)):=nr rfl
theorem ev_nilslice:evA fr (.const (.slice none 0 0))= .p (.v (.slice none 0 0)):=nr rfl
theorem ev_nilptr:evA fr (.const (.pointer none))= .p (.v (.pointer none)):=nr rfl
theorem ev_func {f:FuncId}:evA fr (.func f)= .fn f [] []:=nr rfl
theorem key_some {T d:Nat}:keyM T (some d)=T*100000+d:=nr rfl
theorem bm_append {pos:Option Tmp}{tk:Nat}{T:TypeId}{x y:AV}(h:C.muts.contains (keyM T pos)=false):builtinM C pos tk .append [T,T] [x,y] σ=appendA C tk T x y σ:=by simp only[builtinM,h,Bool.false_eq_true,if_false,builtinA,if_true]
theorem bm_appendM {pos:Option Tmp}{tk:Nat}{T:TypeId}{x y:AV}(h:C.muts.contains (keyM T pos)=true):builtinM C pos tk .append [T,T] [x,y] σ=appendM C tk T x y σ:=by simp only[builtinM,h,if_true]
theorem bm_len {pos:Option Tmp}{tk:Nat}{T:TypeId}{x:AV}:builtinM C pos tk .len [T] [x] σ=(lenA C T x).map fun (n:Nat)=>(intV .i64 (n:Int),σ):=nr rfl
theorem bm_min {pos:Option Tmp}{tk:Nat}{ts:List TypeId}{k k':IntKind}{n m:Int}:builtinM C pos tk .min ts [.p (.v (.int k n)),.p (.v (.int k' m))] σ=some (intV k (if m<n then m else n),σ):=nr rfl
theorem bm_max {pos:Option Tmp}{tk:Nat}{ts:List TypeId}{k k':IntKind}{n m:Int}:builtinM C pos tk .max ts [.p (.v (.int k n)),.p (.v (.int k' m))] σ=some (intV k (if m>n then m else n),σ):=nr rfl
def detO (P:Program)(C:Ctx)(ops:Array Oper)(o:Oper)(p:Plan)(L:List Nat)(fr:List AV)(σ:St)(K:List AV→St→Prop):Prop:=aDet C o L fr σ fun L' r=>aPl P C ops p L' (setA fr o.dst r) σ K
def wantD (P:Program)(C:Ctx)(ops:Array Oper)(y:Option (Option Bool))(want:Bool)(o:Oper)(p:Plan)(L:List Nat)(fr:List AV)(σ:St)(K:List AV→St→Prop):Prop:=match y with
 |some (some b)=>(b=want→detO P C ops o p L fr σ K)∧(b= !want→aPl P C ops p L (setA fr o.dst (.tup [])) σ K)
 |some none=>aPl P C ops p L (setA fr o.dst (.tup [])) σ K
 |none=>False
def detK (P:Program)(C:Ctx)(ops:Array Oper)(oo:Option Oper)(p:Plan)(L:List Nat)(fr:List AV)(σ:St)(K:List AV→St→Prop):Prop:=match oo with
 |none=>False
 |some o=>ifWanted ops o fr (detO P C ops o p L fr σ K) (aPl P C ops p L (setA fr o.dst (.tup [])) σ K)
def kontU (P:Program)(C:Ctx)(ops:Array Oper)(p:Plan)(L:List Nat)(dst:Option Tmp)(fr:List AV)(σ:St)(K:List AV→St→Prop)(r:AV)(σ':St):Prop:=aPl P C ops p L (setA fr dst r) (unmaskS L σ σ') K
def wantU (P:Program)(C:Ctx)(ops:Array Oper)(y:Option (Option Bool))(want:Bool)(o:Oper)(p:Plan)(L:List Nat)(fr:List AV)(σ:St)(K:List AV→St→Prop):Prop:=match y with
 |some (some b)=>(b=want→aStep P C o fr (maskS L σ) (kontU P C ops p L o.dst fr σ K))∧(b= !want→aPl P C ops p L (setA fr o.dst (.tup [])) σ K)
 |some none=>aPl P C ops p L (setA fr o.dst (.tup [])) σ K
 |none=>False
def actK (P:Program)(C:Ctx)(ops:Array Oper)(oo:Option Oper)(p:Plan)(L:List Nat)(fr:List AV)(σ:St)(K:List AV→St→Prop):Prop:=match oo with
 |none=>False
 |some o=>ifWanted ops o fr (aStep P C o fr (maskS L σ) (kontU P C ops p L o.dst fr σ K)) (aPl P C ops p L (setA fr o.dst (.tup [])) σ K)
def ldK (P:Program)(C:Ctx)(ops:Array Oper)(v:Option AV)(ad:AV)(dst:Option Tmp)(p:Plan)(L:List Nat)(fr:List AV)(σ:St)(K:List AV→St→Prop):Prop:=match v with
 |some v=>aPl P C ops p (tokOf ad++L) (setA fr dst v) σ K
 |none=>False
def stK (P:Program)(C:Ctx)(ops:Array Oper)(x:Option (AV×St))(dst:Option Tmp)(p:Plan)(L:List Nat)(fr:List AV)(σ:St)(K:List AV→St→Prop):Prop:=match x with
 |some (r,s)=>s=σ∧aPl P C ops p L (setA fr dst r) σ K
 |none=>False
section
variable {p q:Plan} {L:List Nat} {dst:Option Tmp} {ty:TypeId} {pos:String} {after:Array Edge} {op:Op} {j i:Nat} {want:Bool} {o:Oper} {gd:Option (Nat×Bool)}
theorem pl_done:aPl P C ops .done L fr σ K=K fr σ:=nr rfl
theorem pl_det:aPl P C ops (.det i p) L fr σ K=detK P C ops ops[i]? p L fr σ K:=by rw[aPl];cases ops[i]? <;>rfl
theorem pl_act:aPl P C ops (.act i p) L fr σ K=actK P C ops ops[i]? p L fr σ K:=by rw[aPl];cases ops[i]? <;>rfl
theorem pl_fin:aPl P C ops (.fin i p) L fr σ K=actK P C ops ops[i]? p [] fr σ K:=by rw[aPl];cases ops[i]? <;>rfl
theorem pl_two:aPl P C ops (.two i p j q) L fr σ K=(actK P C ops ops[i]? p L fr σ K∧actK P C ops ops[j]? q L fr σ K):=by rw[aPl];cases ops[i]? <;>cases ops[j]? <;>rfl
theorem det_none:detK P C ops (some ⟨dst,op,ty,pos,after,none⟩) p L fr σ K=detO P C ops ⟨dst,op,ty,pos,after,none⟩ p L fr σ K:=nr rfl
theorem det_some:detK P C ops (some ⟨dst,op,ty,pos,after,some (j,want)⟩) p L fr σ K=wantD P C ops (yieldA ops fr j) want ⟨dst,op,ty,pos,after,some (j,want)⟩ p L fr σ K:=nr rfl
theorem act_none:actK P C ops (some ⟨dst,op,ty,pos,after,none⟩) p L fr σ K=aStep P C ⟨dst,op,ty,pos,after,none⟩ fr (maskS L σ) (kontU P C ops p L dst fr σ K):=nr rfl
theorem act_some:actK P C ops (some ⟨dst,op,ty,pos,after,some (j,want)⟩) p L fr σ K=wantU P C ops (yieldA ops fr j) want ⟨dst,op,ty,pos,after,some (j,want)⟩ p L fr σ K:=nr rfl
theorem wd_tt:wantD P C ops (some (some true)) true o p L fr σ K=detO P C ops o p L fr σ K:=by simp[wantD]
theorem wd_ff:wantD P C ops (some (some false)) false o p L fr σ K=detO P C ops o p L fr σ K:=by simp[wantD]
theorem wd_tf:wantD P C ops (some (some true)) false o p L fr σ K=aPl P C ops p L (setA fr o.dst (.tup [])) σ K:=by simp[wantD]
theorem wd_ft:wantD P C ops (some (some false)) true o p L fr σ K=aPl P C ops p L (setA fr o.dst (.tup [])) σ K:=by simp[wantD]
theorem wd_no:wantD P C ops (some none) want o p L fr σ K=aPl P C ops p L (setA fr o.dst (.tup [])) σ K:=nr rfl
theorem wu_tt:wantU P C ops (some (some true)) true o p L fr σ K=aStep P C o fr (maskS L σ) (kontU P C ops p L o.dst fr σ K):=by simp[wantU]
theorem wu_ff:wantU P C ops (some (some false)) false o p L fr σ K=aStep P C o fr (maskS L σ) (kontU P C ops p L o.dst fr σ K):=by simp[wantU]
theorem wu_tf:wantU P C ops (some (some true)) false o p L fr σ K=aPl P C ops p L (setA fr o.dst (.tup [])) σ K:=by simp[wantU]
theorem wu_ft:wantU P C ops (some (some false)) true o p L fr σ K=aPl P C ops p L (setA fr o.dst (.tup [])) σ K:=by simp[wantU]
theorem wu_no:wantU P C ops (some none) want o p L fr σ K=aPl P C ops p L (setA fr o.dst (.tup [])) σ K:=nr rfl
theorem ku_app {r:AV}{σ':St}:kontU P C ops p L dst fr σ K r σ'=aPl P C ops p L (setA fr dst r) (unmaskS L σ σ') K:=nr rfl
theorem ld_some {v ad:AV}:ldK P C ops (some v) ad dst p L fr σ K=aPl P C ops p (tokOf ad++L) (setA fr dst v) σ K:=nr rfl
theorem st_some {r:AV}:stK P C ops (some (r,σ)) dst p L fr σ K=aPl P C ops p L (setA fr dst r) σ K:=by simp[stK]
theorem do_load {T:TypeId}{x:Operand}:detO P C ops ⟨dst,.load T x,ty,pos,after,gd⟩ p L fr σ K=ldK P C ops (loadT C T (evA fr x) σ) (evA fr x) dst p L fr σ K:=nr rfl
theorem tok_mp {t e i o:Nat}:tokOf (.mp t e i o)=[t]:=nr rfl
theorem tok_ip {c:List PV}{o:Nat}:tokOf (.ip c o)=[]:=nr rfl
theorem mask_nil:maskS [] σ=σ:=nr rfl
theorem mask_cons {t:Nat}:maskS (t::L) σ=maskS L (σ.set t none):=nr rfl
theorem do_move {x:Operand}:detO P C ops ⟨dst,.move x,ty,pos,after,gd⟩ p L fr σ K=stK P C ops (aop C σ.length (.move x) (evA fr) σ) dst p L fr σ K:=nr rfl
theorem do_assign {x:Operand}:detO P C ops ⟨dst,.assign x,ty,pos,after,gd⟩ p L fr σ K=stK P C ops (aop C σ.length (.assign x) (evA fr) σ) dst p L fr σ K:=nr rfl
theorem do_pick {c x y:Operand}:detO P C ops ⟨dst,.pick c x y,ty,pos,after,gd⟩ p L fr σ K=stK P C ops (aop C σ.length (.pick c x y) (evA fr) σ) dst p L fr σ K:=nr rfl
theorem do_build {T:TypeId}{ps:Array (Nat×Operand)}:detO P C ops ⟨dst,.build T ps,ty,pos,after,gd⟩ p L fr σ K=stK P C ops (aop C σ.length (.build T ps) (evA fr) σ) dst p L fr σ K:=nr rfl
theorem do_nilCheck {x:Operand}:detO P C ops ⟨dst,.nilCheck x,ty,pos,after,gd⟩ p L fr σ K=stK P C ops (aop C σ.length (.nilCheck x) (evA fr) σ) dst p L fr σ K:=nr rfl
theorem do_binOp {op:BinOp}{T:TypeId}{x y:Operand}{T':TypeId}:detO P C ops ⟨dst,.binOp op T x y T',ty,pos,after,gd⟩ p L fr σ K=stK P C ops (aop C σ.length (.binOp op T x y T') (evA fr) σ) dst p L fr σ K:=nr rfl
theorem do_unOp {op:UnOp}{T:TypeId}{x:Operand}:detO P C ops ⟨dst,.unOp op T x,ty,pos,after,gd⟩ p L fr σ K=stK P C ops (aop C σ.length (.unOp op T x) (evA fr) σ) dst p L fr σ K:=nr rfl
theorem do_convert {S T:TypeId}{x:Operand}:detO P C ops ⟨dst,.convert S T x,ty,pos,after,gd⟩ p L fr σ K=stK P C ops (aop C σ.length (.convert S T x) (evA fr) σ) dst p L fr σ K:=nr rfl
theorem do_makeFunc {f:Fn}{us vs:Array Operand}:detO P C ops ⟨dst,.makeFunc f us vs,ty,pos,after,gd⟩ p L fr σ K=stK P C ops (aop C σ.length (.makeFunc f us vs) (evA fr) σ) dst p L fr σ K:=nr rfl
theorem do_slice {T:TypeId}{x:Operand}{lo hi mx:Option Operand}:detO P C ops ⟨dst,.slice T x lo hi mx,ty,pos,after,gd⟩ p L fr σ K=stK P C ops (aop C σ.length (.slice T x lo hi mx) (evA fr) σ) dst p L fr σ K:=nr rfl
theorem do_fieldAddr {T:TypeId}{x:Operand}{k:Nat}:detO P C ops ⟨dst,.fieldAddr T x k,ty,pos,after,gd⟩ p L fr σ K=stK P C ops (aop C σ.length (.fieldAddr T x k) (evA fr) σ) dst p L fr σ K:=nr rfl
theorem do_field {T:TypeId}{x:Operand}{k:Nat}:detO P C ops ⟨dst,.field T x k,ty,pos,after,gd⟩ p L fr σ K=stK P C ops (aop C σ.length (.field T x k) (evA fr) σ) dst p L fr σ K:=nr rfl
theorem do_indexAddr {T:TypeId}{x i:Operand}:detO P C ops ⟨dst,.indexAddr T x i,ty,pos,after,gd⟩ p L fr σ K=stK P C ops (aop C σ.length (.indexAddr T x i) (evA fr) σ) dst p L fr σ K:=nr rfl
theorem do_index {T:TypeId}{x i:Operand}:detO P C ops ⟨dst,.index T x i,ty,pos,after,gd⟩ p L fr σ K=stK P C ops (aop C σ.length (.index T x i) (evA fr) σ) dst p L fr σ K:=nr rfl
theorem do_extract {x:Operand}{k:Nat}:detO P C ops ⟨dst,.extract x k,ty,pos,after,gd⟩ p L fr σ K=stK P C ops (aop C σ.length (.extract x k) (evA fr) σ) dst p L fr σ K:=nr rfl
theorem do_call {c:Call}:detO P C ops ⟨dst,.call c,ty,pos,after,gd⟩ p L fr σ K=stK P C ops (aop C σ.length (.call c) (evA fr) σ) dst p L fr σ K:=nr rfl
end
theorem len_sl {T E es eb e:Nat}{ez:List Value}{ls:List (List PV)}(h:C.kind T=some (.slice E es eb ez)):lenA C T (.p (.sl e ls))=some ls.length:=by simp[lenA,h,elemsA]
theorem len_own {T E es eb t e:Nat}{ez:List Value}{ls:List (List PV)}(h:C.kind T=some (.slice E es eb ez)):lenA C T (.own t e ls)=some ls.length:=by simp[lenA,h,elemsA]
theorem len_nown {T E es eb t e:Nat}{ez:List Value}{ls:List (List PV)}(h:C.kind T=some (.slice E es eb ez)):lenA C T (.nown t e ls)=some ls.length:=by simp[lenA,h,elemsA]
theorem len_nil {T E es eb:Nat}{ez:List Value}(h:C.kind T=some (.slice E es eb ez)):lenA C T (.p (.v (.slice none 0 0)))=some 0:=by simp[lenA,h,elemsA]
theorem len_ms {T E es eb t e i n:Nat}{ez:List Value}(h:C.kind T=some (.slice E es eb ez)):lenA C T (.ms t e i n)=some n:=by simp[lenA,h,elemsA]
theorem len_str {T:Nat}{s:ByteArray}(h:C.kind T=some .str):lenA C T (.p (.v (.string s)))=some s.size:=by simp[lenA,h]
theorem wrap_i64 {n:Int}(h1: -9223372036854775808≤n)(h2:n≤9223372036854775807):IntKind.i64.wrap n=n:=IntWalk.i64_in _ (by omega)
theorem el_sl {e:Nat}{ls:List (List PV)}:elemsA (.p (.sl e ls))=some (e,ls):=nr rfl
theorem el_own {t e:Nat}{ls:List (List PV)}:elemsA (.own t e ls)=some (e,ls):=nr rfl
theorem el_nown {t e:Nat}{ls:List (List PV)}:elemsA (.nown t e ls)=some (e,ls):=nr rfl
theorem int_v {k:IntKind}{n:Int}:intA (.p (.v (.int k n)))=some (k,n):=nr rfl
theorem nil_nil:isNilA (.p (.v (.slice none 0 0)))=some true:=nr rfl
theorem nil_adr {ad:Addr}{c:Nat}:isNilA (.p (.v (.slice (some ad) 0 c)))=some false:=nr rfl
theorem nil_sl {e:Nat}{c:List PV}{ls:List (List PV)}:isNilA (.p (.sl e (c::ls)))=some false:=nr rfl
theorem nil_ms {t e i n:Nat}:isNilA (.ms t e i n)=some false:=nr rfl
theorem nil_own {t e:Nat}{ls:List (List PV)}:isNilA (.own t e ls)=some false:=nr rfl
theorem nil_nown {t e:Nat}{ls:List (List PV)}:isNilA (.nown t e ls)=some ls.isEmpty:=nr rfl
theorem load_ip {ti:TI}{c:List PV}{o:Nat}:loadA ti (.ip c o) σ=partA ti.row ti.size o (c.map .p):=nr rfl
theorem load_mp {ti:TI}{t e i o:Nat}:loadA ti (.mp t e i o) σ=match σ[t]? with
 |some (some (.row e' ls))=>if e'=e then match ls[i]? with
   |some c=>partA ti.row ti.size o c
   |none=>none
  else none
 |_=>none:=nr rfl
theorem part_one {s off:Nat}{l:List AV}:partA false s off l=l[off]? :=nr rfl
theorem part_row {s off:Nat}{l:List AV}:partA true s off l=if off=0∧s=l.length then some (.agg l)else if off+s≤l.length then some (.agg ((l.drop off).take s))else none:=nr rfl
theorem cells_p {x:PV}:cellsA (.p x)=some [.p x]:=nr rfl
theorem cells_own {t e:Nat}{ls:List (List PV)}:cellsA (.own t e ls)=some [.own t e ls]:=nr rfl
theorem cells_nown {t e:Nat}{ls:List (List PV)}:cellsA (.nown t e ls)=some [.nown t e ls]:=nr rfl
theorem cells_mp {t e i o:Nat}:cellsA (.mp t e i o)=some [.mp t e i o]:=nr rfl
theorem cells_bs {t e i o n:Nat}:cellsA (.bs t e i o n)=some [.bs t e i o n]:=nr rfl
theorem cells_dyn {T:TypeId}{a:AV}:cellsA (.dyn T a)=some [.dyn T a]:=nr rfl
theorem cells_ms {t e i n:Nat}:cellsA (.ms t e i n)=some [.ms t e i n]:=nr rfl
theorem cells_mmap {t:Nat}:cellsA (.mmap t)=some [.mmap t]:=nr rfl
theorem cells_ip {c:List PV}{o:Nat}:cellsA (.ip c o)=some [.ip c o]:=nr rfl
theorem cells_agg {l:List AV}:cellsA (.agg l)=some l:=nr rfl
theorem cells_fn {f:FuncId}{us vs:List AV}:cellsA (.fn f us vs)=some [.fn f us vs]:=nr rfl
theorem store_mp {ti:TI}{t e i o:Nat}{x:AV}:storeA ti (.mp t e i o) x σ=match cellsA x with
 |some m=>(match σ[t]? with
  |some (some (.row e' ls))=>if e'=e∧m.length=ti.size then match ls[i]? with
    |some c=>if o+m.length≤c.length then some (σ.set t (some (.row e' (ls.set i (spliceA c o m)))))else none
    |none=>none
   else none
  |_=>none)
 |none=>none:=by
 unfold storeA
 cases cellsA x<;>rfl
theorem step_inv {dst:Option Tmp}{x:Operand}{name:String}{args:Array Operand}{ts:Array TypeId}{ty:TypeId}{pos:String}{after:Array Edge}{gd:Option (Nat×Bool)}{K:AV→St→Prop}:
 aStep P C ⟨dst,.call ⟨.invoke x name,args,ts⟩,ty,pos,after,gd⟩ fr σ K=aInv P C (evA fr x) name (args.toList.map (evA fr)) σ K:=nr rfl
def recvK (P:Program)(f:FuncId)(x:Option AV)(args:List AV)(σ:St)(K:AV→St→Prop):Prop:=match x with
 |some r=>ACalls P f (r::args) σ K
 |none=>False
theorem recv_some {f:FuncId}{r:AV}{args:List AV}{K:AV→St→Prop}:recvK P f (some r) args σ K=ACalls P f (r::args) σ K:=nr rfl
theorem inv_ptr {T:TypeId}{a:AV}{name:String}{f:FuncId}{args:List AV}{K:AV→St→Prop}(h:C.meth T name=some (f,none)):aInv P C (.dyn T a) name args σ K=ACalls P f (a::args) σ K:=by simp only[aInv,h]
theorem inv_val {T E:TypeId}{ti:TI}{a:AV}{name:String}{f:FuncId}{args:List AV}{K:AV→St→Prop}(h:C.meth T name=some (f,some E))(h2:C.ty E=some ti):aInv P C (.dyn T a) name args σ K=recvK P f (loadA ti a σ) args σ K:=by
 simp only[aInv,h,h2,recvK]
 cases loadA ti a σ<;>rfl
theorem step_mkI {dst:Option Tmp}{T:TypeId}{x:Operand}{ty:TypeId}{pos:String}{after:Array Edge}{gd:Option (Nat×Bool)}{K:AV→St→Prop}:
 aStep P C ⟨dst,.makeInterface T x,ty,pos,after,gd⟩ fr σ K=onSome ((mkIA C T (evA fr x)).map fun a=>(a,σ)) K:=nr rfl
theorem step_asI {dst:Option Tmp}{S T:TypeId}{ok:Bool}{x:Operand}{ty:TypeId}{pos:String}{after:Array Edge}{gd:Option (Nat×Bool)}{K:AV→St→Prop}:
 aStep P C ⟨dst,.typeAssert x S T ok,ty,pos,after,gd⟩ fr σ K=onSome ((asIA C T ok (evA fr x)).map fun a=>(a,σ)) K:=nr rfl
theorem step_arrP {dst:Option Tmp}{T:TypeId}{x:Operand}{ty:TypeId}{pos:String}{after:Array Edge}{gd:Option (Nat×Bool)}{K:AV→St→Prop}:
 aStep P C ⟨dst,.sliceToArrayPointer T x,ty,pos,after,gd⟩ fr σ K=onSome ((arrPA C T (evA fr x)).map fun a=>(a,σ)) K:=nr rfl
theorem mk_ptr {T:TypeId}{x:AV}(h:C.kind T=some .ptr):mkIA C T x=some (.dyn T x):=by simp only[mkIA,h]
theorem as_ptr {T:TypeId}{a:AV}(h:C.kind T=some .ptr):asIA C T false (.dyn T a)=some a:=by simp[asIA,h]
theorem arr_bs {T t e i o n m:Nat}(h:C.kind T=some (.barr m)):arrPA C T (.bs t e i o n)=if m≤n then some (.mp t e i o)else none:=by simp only[arrPA,h]
theorem bm_copy {pos:Option Tmp}{tk:Nat}{T T':TypeId}{x y:AV}:builtinM C pos tk .copy [T,T'] [x,y] σ=copyA C T x y σ:=nr rfl
theorem bm_delete {pos:Option Tmp}{tk:Nat}{T T':TypeId}{x y:AV}:builtinM C pos tk .delete [T,T'] [x,y] σ=deleteA C T x y σ:=nr rfl
theorem len_bs {T E es eb t e i o n:Nat}{ez:List Value}(h:C.kind T=some (.slice E es eb ez)):lenA C T (.bs t e i o n)=some n:=by simp[lenA,h,elemsA]
theorem slice_arr {T m:Nat}{x:AV}{lo hi:Option AV}(h:C.kind T=some (.barr m)):sliceA C T x lo hi=match x,boundA lo 0,boundA hi m with
 | .mp t e i o,some l,some h=>if 0≤l∧l<h∧h≤m then some (.bs t e i (o+l.toNat) (h.toNat - l.toNat))else none
 |_,_,_=>none:=by
 unfold sliceA
 rw[h]
 cases x<;>first|rfl|(cases boundA lo 0<;>cases boundA hi m<;>rfl)
def nilP (k:Option TK)(n:Option Bool)(neg:Bool):Option AV:=match k,n with
 |some .ptr,some b=>some (boolV (if neg then !b else b))
 |_,_=>none
theorem bin_ptrE {T:TypeId}{x:AV}:binA C .eql T x (.p (.v (.pointer none)))=nilP (C.kind T) (ptrNil x) false:=by
 rcases hk:C.kind T with _|k
 ·unfold binA nilP;split<;>simp_all
 ·rcases hn:ptrNil x with _|b
  ·cases k<;>(unfold binA nilP;split<;>simp_all)
  ·cases k<;>cases b<;>(unfold binA nilP;split<;>simp_all)
theorem bin_ptrN {T:TypeId}{x:AV}:binA C .neq T x (.p (.v (.pointer none)))=nilP (C.kind T) (ptrNil x) true:=by
 rcases hk:C.kind T with _|k
 ·unfold binA nilP;split<;>simp_all
 ·rcases hn:ptrNil x with _|b
  ·cases k<;>(unfold binA nilP;split<;>simp_all)
  ·cases k<;>cases b<;>(unfold binA nilP;split<;>simp_all)
theorem nilP_E {b:Bool}:nilP (some .ptr) (some b) false=some (boolV b):=nr rfl
theorem nilP_N {b:Bool}:nilP (some .ptr) (some b) true=some (boolV (!b)):=nr rfl
theorem pn_mp {t e i o:Nat}:ptrNil (.mp t e i o)=some false:=nr rfl
theorem pn_nil:ptrNil (.p (.v (.pointer none)))=some true:=nr rfl
theorem tok_dyn {n:Nat}{T:TypeId}{a:AV}:tokLt n (.dyn T a)=tokLt n a:=by simp only[tokLt]
theorem tok_bs {m t e i o n:Nat}:tokLt m (.bs t e i o n)=decide (t<m):=by simp only[tokLt]
theorem tok_agg {m:Nat}{l:List AV}:tokLt m (.agg l)=tokLtL m l:=by simp only[tokLt]
theorem tok_tup {m:Nat}{l:List AV}:tokLt m (.tup l)=tokLtL m l:=by simp only[tokLt]
theorem leaf_dyn {T:TypeId}{a:AV}:leaf (.dyn T a)=true:=nr rfl
theorem leaf_bs {t e i o n:Nat}:leaf (.bs t e i o n)=true:=nr rfl
theorem srcD_p {e:Nat}{x:PV}:srcD σ e (.p x)=srcA e (.p x):=nr rfl
theorem srcD_own {t e e':Nat}{ls:List (List PV)}:srcD σ e (.own t e' ls)=srcA e (.own t e' ls):=nr rfl
theorem srcD_nown {t e e':Nat}{ls:List (List PV)}:srcD σ e (.nown t e' ls)=srcA e (.nown t e' ls):=nr rfl
theorem srcD_bs {e t e2 i o n:Nat}:srcD σ e (.bs t e2 i o n)=if e=1 then match σ[t]? with
 |some (some (.row e' ls))=>if e'=e2 then match ls[i]? with
   |some c=>if o+n≤c.length then (toPs ((c.drop o).take n)).map fun l=>l.map fun x=>[x]else none
   |none=>none
  else none
 |_=>none
 else none:=nr rfl
theorem srcD_ms {e t e' i n:Nat}:srcD σ e (.ms t e' i n)=match σ[t]? with
 |some (some (.row e2 ls))=>if e'=e∧e2=e∧i+n≤ls.length then toPss ((ls.drop i).take n)else none
 |_=>none:=nr rfl
end
end Go.Proofs.YthhbnenaihkggaaGreat
