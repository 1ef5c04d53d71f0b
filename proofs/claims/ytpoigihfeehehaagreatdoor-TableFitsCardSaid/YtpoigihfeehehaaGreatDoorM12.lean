/- Steps of a walk on the abstract machine. -/
import Derived.Test.YtpoigihfeehehaaGreatDoorM11
set_option linter.all false
set_option maxRecDepth 100000
set_option maxHeartbeats 32000000
namespace Go.Proofs.YtpoigihfeehehaaGreatDoor
open Go.RowKit
theorem nr {α:Sort _}{a b:α}(h:a=b):a=b:=h
section
variable {P:Program} {C:Ctx} {d:Array Oper→List AV→St→(List AV→St→Prop)→Prop} {fr:List AV} {σ:St} {Q:Exit→List AV→St→Prop} {K:List AV→St→Prop} {ops:Array Oper}
def Akp (P:Program)(C:Ctx)(d:Array Oper→List AV→St→(List AV→St→Prop)→Prop)(y:Code)(Q:Exit→List AV→St→Prop)(e:Exit)(fr:List AV)(σ:St):Prop:=match e with
 | .normal=>AWp P C d y fr σ Q
 |e=>Q e fr σ
def Aaj (id:Nat)(Q:Exit→List AV→St→Prop)(e:Exit)(fr:List AV)(σ:St):Prop:=match e with
 | .exit id'=>if id'=id then Q .normal fr σ else Q (.exit id') fr σ
 |e=>Q e fr σ
def Ad9 (P:Program)(C:Ctx)(d:Array Oper→List AV→St→(List AV→St→Prop)→Prop)(c:AV)(x y:Code)(fr:List AV)(σ:St)(Q:Exit→List AV→St→Prop):Prop:=match c with
 | .p (.v (.bool b))=>(b=true→AWp P C d x fr σ Q)∧(b=false→AWp P C d y fr σ Q)
 |_=>False
theorem Aak:AWp P C d .skip fr σ Q=Q .normal fr σ:=nr rfl
theorem Afx {x y:Code}:AWp P C d (.seq x y) fr σ Q=AWp P C d x fr σ (Akp P C d y Q):=by
 simp only[AWp]
 congr 1
theorem Rm {i:Nat}:AWp P C d (.region i ops false) fr σ Q=Fv P C ops ops.toList fr σ (Q .normal):=by simp only[AWp]
theorem Aal {i:Nat}:AWp P C d (.region i ops true) fr σ Q=d ops fr σ (Q .normal):=by simp only[AWp]
theorem Aam {c:Operand}{x y:Code}:AWp P C d (.cond c x y) fr σ Q=Ad9 P C d (evA fr c) x y fr σ Q:=by
 simp only[AWp]
 rfl
theorem V8 {id:Nat}{c:Code}:AWp P C d (.block id c) fr σ Q=AWp P C d c fr σ (Aaj id Q):=by
 simp only[AWp]
 congr 1
theorem Aan {id:Nat}:AWp P C d (.exit id) fr σ Q=Q (.exit id) fr σ:=nr rfl
theorem Afy:AWp P C d .ret fr σ Q=Q .ret fr σ:=nr rfl
theorem O2 {y:Code}:Akp P C d y Q .normal fr σ=AWp P C d y fr σ Q:=nr rfl
theorem V9 {y:Code}{id:Nat}:Akp P C d y Q (.exit id) fr σ=Q (.exit id) fr σ:=nr rfl
theorem Aao {y:Code}:Akp P C d y Q .ret fr σ=Q .ret fr σ:=nr rfl
theorem M4 {id:Nat}:Aaj id Q .normal fr σ=Q .normal fr σ:=nr rfl
theorem Wa {id:Nat}:Aaj id Q .ret fr σ=Q .ret fr σ:=nr rfl
theorem Rn {id id':Nat}:Aaj id Q (.exit id') fr σ=if id'=id then Q .normal fr σ else Q (.exit id') fr σ:=nr rfl
theorem Ka {x y:Code}:Ad9 P C d (.p (.v (.bool true))) x y fr σ Q=AWp P C d x fr σ Q:=by simp[Ad9]
theorem H8 {x y:Code}:Ad9 P C d (.p (.v (.bool false))) x y fr σ Q=AWp P C d y fr σ Q:=by simp[Ad9]
theorem Ro {b:Bool}{x y:Code}(h1:b=true→AWp P C d x fr σ Q)(h2:b=false→AWp P C d y fr σ Q):Ad9 P C d (.p (.v (.bool b))) x y fr σ Q:=⟨h1,h2⟩
theorem Gx {r:AV}{s:St}{K:AV→St→Prop}:B9 (some (r,s)) K=K r s:=nr rfl
theorem Aap:Fv P C ops [] fr σ K=K fr σ:=nr rfl
def Aea (P:Program)(C:Ctx)(ops:Array Oper)(os:List Oper)(dst:Option Tmp)(fr:List AV)(K:List AV→St→Prop)(r:AV)(σ:St):Prop:=Fv P C ops os (D5 fr dst r) σ K
theorem Aaq {os:List Oper}{dst:Option Tmp}{r:AV}:Aea P C ops os dst fr K r σ=Fv P C ops os (D5 fr dst r) σ K:=nr rfl
def O3 (P:Program)(C:Ctx)(ops:Array Oper)(y:Option (Option Bool))(want:Bool)(o:Oper)(os:List Oper)(fr:List AV)(σ:St)(K:List AV→St→Prop):Prop:=match y with
 |some (some b)=>(b=want→Bu P C o fr σ (Aea P C ops os o.dst fr K))∧(b= !want→Fv P C ops os (D5 fr o.dst (.tup [])) σ K)
 |some none=>Fv P C ops os (D5 fr o.dst (.tup [])) σ K
 |none=>False
theorem Wb {dst:Option Tmp}{op:Op}{ty:TypeId}{pos:String}{after:Array Edge}{os:List Oper}:Fv P C ops (⟨dst,op,ty,pos,after,none⟩::os) fr σ K=Bu P C ⟨dst,op,ty,pos,after,none⟩ fr σ (Aea P C ops os dst fr K):=nr rfl
theorem Rq {dst:Option Tmp}{op:Op}{ty:TypeId}{pos:String}{after:Array Edge}{os:List Oper}{j:Nat}{want:Bool}:Fv P C ops (⟨dst,op,ty,pos,after,some (j,want)⟩::os) fr σ K=O3 P C ops (Mz ops fr j) want ⟨dst,op,ty,pos,after,some (j,want)⟩ os fr σ K:=nr rfl
theorem Tn {o:Oper}{os:List Oper}:O3 P C ops (some (some true)) true o os fr σ K=Bu P C o fr σ (Aea P C ops os o.dst fr K):=by simp[O3]
theorem To {o:Oper}{os:List Oper}:O3 P C ops (some (some false)) false o os fr σ K=Bu P C o fr σ (Aea P C ops os o.dst fr K):=by simp[O3]
theorem Tp {o:Oper}{os:List Oper}:O3 P C ops (some (some true)) false o os fr σ K=Fv P C ops os (D5 fr o.dst (.tup [])) σ K:=by simp[O3]
theorem Tq {o:Oper}{os:List Oper}:O3 P C ops (some (some false)) true o os fr σ K=Fv P C ops os (D5 fr o.dst (.tup [])) σ K:=by simp[O3]
theorem Tr {want:Bool}{o:Oper}{os:List Oper}:O3 P C ops (some none) want o os fr σ K=Fv P C ops os (D5 fr o.dst (.tup [])) σ K:=nr rfl
theorem Rr {b want:Bool}{o:Oper}{os:List Oper}(h1:b=want→Bu P C o fr σ (Aea P C ops os o.dst fr K))(h2:b= !want→Fv P C ops os (D5 fr o.dst (.tup [])) σ K):O3 P C ops (some (some b)) want o os fr σ K:=⟨h1,h2⟩
def Rs {X:Type}(J:X→List AV×St)(m:X→Nat)(x:X)(Q:Exit→List AV→St→Prop)(e:Exit)(fr':List AV)(σ':St):Prop:=match e with
 | .normal=>∃ x',m x'<m x∧Ly fr' σ' (J x').1 (J x').2
 |e=>Q e fr' σ'
theorem Aeb {fr:List AV}{σ:St}{K K':List AV→St→Prop}(hK:∀ f s,K f s→K' f s)(h:E4 P C ops fr σ K):E4 P C ops fr σ K':=by
 obtain⟨pl,h1,h2,h3,h4⟩:=h
 refine⟨pl,h1,h2,h3,?_⟩
 clear h1 h3
 generalize ([]:List Nat)=L at h4
 induction pl generalizing L fr σ with
 |done=>exact hK _ _ h4
 |det i p ih=>
  simp only[aPl]at h4 ⊢
  split at h4
  ·exact h4.elim
  ·refine B5 h4 (fun h=> ?_) (fun h=>ih _ h)
   unfold aDet at h ⊢
   split at h
   ·rename_i T x hl
    split at h
    ·exact ih _ h
    ·exact h.elim
   ·split at h
    ·exact⟨h.1,ih _ h.2⟩
    ·exact h.elim
 |act i p ih=>
  simp only[aPl]at h4 ⊢
  split at h4
  ·exact h4.elim
  ·exact B5 h4 (fun h=>Di h fun r s h=>ih _ h) (fun h=>ih _ h)
 |fin i p ih=>
  simp only[aPl]at h4 ⊢
  split at h4
  ·exact h4.elim
  ·exact B5 h4 (fun h=>Di h fun r s h=>ih _ h) (fun h=>ih _ h)
 |two i p j q ihp ihq=>
  simp only[aPl]at h4 ⊢
  obtain⟨h4,h5⟩:=h4
  constructor
  ·split at h4
   ·exact h4.elim
   ·exact B5 h4 (fun h=>Di h fun r s h=>ihp _ h) (fun h=>ihp _ h)
  ·split at h5
   ·exact h5.elim
   ·exact B5 h5 (fun h=>Di h fun r s h=>ihq _ h) (fun h=>ihq _ h)
 |three i p j q k r ihp ihq ihr=>
  simp only[aPl]at h4 ⊢
  obtain⟨h4,h5,h6⟩:=h4
  refine⟨?_,?_,?_⟩
  ·split at h4
   ·exact h4.elim
   ·exact B5 h4 (fun h=>Di h fun r s h=>ihp _ h) (fun h=>ihp _ h)
  ·split at h5
   ·exact h5.elim
   ·exact B5 h5 (fun h=>Di h fun r s h=>ihq _ h) (fun h=>ihq _ h)
  ·split at h6
   ·exact h6.elim
   ·exact B5 h6 (fun h=>Di h fun y s h=>ihr _ h) (fun h=>ihr _ h)
theorem L6 {K K':List AV→St→Prop}(hK:∀ f s,K f s→K' f s):∀ {os:List Oper} {fr:List AV} {σ:St},Fv P C ops os fr σ K→Fv P C ops os fr σ K'
 |[],fr,σ,h=>hK _ _ h
 |o::os,fr,σ,h=>by
  simp only[Fv]at h ⊢
  exact B5 h (fun h=>Di h fun r s h=>L6 hK h) (fun h=>L6 hK h)
theorem Fh:∀ {c:Code} {fr:List AV} {σ:St} {Q Q':Exit→List AV→St→Prop},(∀ e f s,Q e f s→Q' e f s)→AWp P C (E4 P C) c fr σ Q→AWp P C (E4 P C) c fr σ Q'
 | .skip,fr,σ,Q,Q',hQ,h=>hQ _ _ _ h
 | .exit id,fr,σ,Q,Q',hQ,h=>hQ _ _ _ h
 | .ret,fr,σ,Q,Q',hQ,h=>hQ _ _ _ h
 | .region id ops false,fr,σ,Q,Q',hQ,h=>by
   simp only[AWp]at h ⊢
   exact L6 (hQ .normal) h
 | .region id ops true,fr,σ,Q,Q',hQ,h=>by
   simp only[AWp]at h ⊢
   exact Aeb (hQ .normal) h
 | .seq x y,fr,σ,Q,Q',hQ,h=>by
   simp only[AWp]at h ⊢
   refine Fh (c:=x) (fun e f s h=> ?_) h
   cases e with
   |normal=>exact Fh (c:=y) hQ h
   |_=>exact hQ _ _ _ h
 | .cond c x y,fr,σ,Q,Q',hQ,h=>by
   simp only[AWp]at h ⊢
   split at h
   ·exact⟨fun e=>Fh (c:=x) hQ (h.1 e),fun e=>Fh (c:=y) hQ (h.2 e)⟩
   ·exact h.elim
 | .block id c,fr,σ,Q,Q',hQ,h=>by
   simp only[AWp]at h ⊢
   refine Fh (c:=c) (fun e f s h=> ?_) h
   cases e with
   |exit id'=>
    simp only at h ⊢
    split at h
    ·rename_i hid;simp only[hid,if_true];exact hQ _ _ _ h
    ·rename_i hid;simp only[hid,if_false];exact hQ _ _ _ h
   |_=>exact hQ _ _ _ h
 | .loop c,fr,σ,Q,Q',hQ,h=>by
   simp only[AWp]at h ⊢
   obtain⟨X,J,m,x0,Y,K,h1,h2,h3,h4⟩:=h
   exact⟨X,J,m,x0,Y,K,h1,h2,fun y=>hQ _ _ _ (h3 y),h4⟩
 | .rangeFunc _ _ _ _,fr,σ,Q,Q',hQ,h=>by simp[AWp]at h
 | .scope _,fr,σ,Q,Q',hQ,h=>by simp[AWp]at h
 | .label _,fr,σ,Q,Q',hQ,h=>by simp[AWp]at h
 | .goto _,fr,σ,Q,Q',hQ,h=>by simp[AWp]at h
 | .refuse _,fr,σ,Q,Q',hQ,h=>by simp[AWp]at h
theorem O4 {c:Code}{X:Type}(J:X→List AV×St)(m:X→Nat)(x0:X)(h1:∀ x,σ.length≤(J x).2.length)(h2:Ly fr σ (J x0).1 (J x0).2)
 (h3:∀ x,AWp P C (E4 P C) c (J x).1 (J x).2 (Rs J m x Q)):AWp P C (E4 P C) (.loop c) fr σ Q:=by
 refine⟨X,J,m,x0,{ z:Exit×List AV×St // Q z.1 z.2.1 z.2.2 },fun y=>y.1,h1,h2,fun y=>y.2,fun x=>Fh (fun e f s h=> ?_) (h3 x)⟩
 cases e with
 |normal=>exact h
 |_=>exact⟨⟨(_,f,s),h⟩,rfl,.inl ⟨rfl,rfl⟩,.inl (Nat.le_refl _)⟩
theorem Rt {X:Type}{J:X→List AV×St}{m:X→Nat}{x:X}{id:Nat}:Rs J m x Q (.exit id) fr σ=Q (.exit id) fr σ:=nr rfl
theorem Wc {X:Type}{J:X→List AV×St}{m:X→Nat}{x:X}:Rs J m x Q .ret fr σ=Q .ret fr σ:=nr rfl
def retA (C:Ctx)(rs:List ResultVar)(n:Nat)(R:AV→St→Prop)(e:Exit)(fr':List AV)(σ':St):Prop:=
 (e= .ret∨e= .normal)∧∃ r0 r σ'',A1 C rs fr' σ'=some r0∧Ly [r0] σ' [r] σ''∧n≤σ''.length∧R r σ''
theorem Ab {f:FuncId}{fn:Func}{c:Code}{args:List AV}{R:AV→St→Prop}{nt:Nat}{rs:List ResultVar}(hC:C.ok P)(hD:Hq P d)(hf:P.funcs[f]? =some fn)(hname:(fn.name== "runtime.NumGoroutine")=false)(hb:fn.body=some c)(hnt:fn.ntmps - args.length=nt)(hrs:fn.results.toList=rs)
 (h:AWp P C d c (args++List.replicate nt (.tup [])) σ (retA C rs σ.length R)):Aa P f args σ R:=by
 subst hrs
 exact Afp hC hD hf hname hb hnt h
theorem Wd {dst:Option Tmp}{g:FuncId}{args:Array Operand}{ts:Array TypeId}{ty:TypeId}{pos:String}{after:Array Edge}{gd:Option (Nat×Bool)}{K:AV→St→Prop}:
 Bu P C ⟨dst,.call ⟨.value (.func g),args,ts⟩,ty,pos,after,gd⟩ fr σ K=Aa P g (args.toList.map (evA fr)) σ K:=by
 simp[Bu,H6,evA]
def dynA (P:Program)(f:AV)(args:List AV)(σ:St)(K:AV→St→Prop):Prop:=match f with
 | .fn g first cap=>Aa P g (first++args++cap) σ K
 |_=>False
theorem Aar {dst:Option Tmp}{t:Tmp}{args:Array Operand}{ts:Array TypeId}{ty:TypeId}{pos:String}{after:Array Edge}{gd:Option (Nat×Bool)}{K:AV→St→Prop}:
 Bu P C ⟨dst,.call ⟨.value (.tmp t),args,ts⟩,ty,pos,after,gd⟩ fr σ K=dynA P (evA fr (.tmp t)) (args.toList.map (evA fr)) σ K:=nr rfl
theorem Aas {g:FuncId}{first cap args:List AV}{K:AV→St→Prop}:dynA P (.fn g first cap) args σ K=Aa P g (first++args++cap) σ K:=nr rfl
def Cw (C:Ctx)(pos:Option Tmp)(tk:Nat)(b:Builtin)(ts:List TypeId)(xs:List AV)(σ:St):Option (AV×St):=match b,ts,xs with
 | .append,[T,T'],[x,y]=>if C.muts.contains (keyM T pos)then (if T=T' then Dd C tk T x y σ else none)else Dq C tk .append [T,T'] [x,y] σ
 | .copy,ts,xs=>Jz C .copy ts xs σ
 | .delete,ts,xs=>Jz C .delete ts xs σ
 |b,ts,xs=>Dq C tk b ts xs σ
theorem M5 {dst:Option Tmp}{b:Builtin}{args:Array Operand}{ts:Array TypeId}{ty:TypeId}{pos:String}{after:Array Edge}{gd:Option (Nat×Bool)}{K:AV→St→Prop}:
 Bu P C ⟨dst,.call ⟨.builtin b,args,ts⟩,ty,pos,after,gd⟩ fr σ K=B9 (Cw C dst σ.length b ts.toList (args.toList.map (evA fr)) σ) K:=by
 cases b
 all_goals first
  |rfl
  |(simp only[Bu,H6,opK,aopM,Cw,aop];done)
  |(simp only[Bu,H6,opK,aopM,Cw,aop]
    generalize ts.toList=tl
    generalize args.toList.map (evA fr)=xl
    rcases tl with _|⟨T,_|⟨T',_|⟨T3,tl⟩⟩⟩<;>rcases xl with _|⟨x,_|⟨y,_|⟨x3,xl⟩⟩⟩<;>rfl)
theorem We {dst:Option Tmp}{ty:TypeId}{pos:String}{after:Array Edge}{gd:Option (Nat×Bool)}{K:AV→St→Prop}{x:Operand}:Bu P C ⟨dst,.move x,ty,pos,after,gd⟩ fr σ K=K (evA fr x) σ:=nr rfl
theorem O5 {dst:Option Tmp}{ty:TypeId}{pos:String}{after:Array Edge}{gd:Option (Nat×Bool)}{K:AV→St→Prop}{x:Operand}:Bu P C ⟨dst,.assign x,ty,pos,after,gd⟩ fr σ K=K (evA fr x) σ:=nr rfl
theorem Wg {dst:Option Tmp}{ty:TypeId}{pos:String}{after:Array Edge}{gd:Option (Nat×Bool)}{K:AV→St→Prop}{c x y:Operand}:Bu P C ⟨dst,.pick c x y,ty,pos,after,gd⟩ fr σ K=B9 (aop C σ.length (.pick c x y) (evA fr) σ) K:=nr rfl
theorem Ru {dst:Option Tmp}{ty:TypeId}{pos:String}{after:Array Edge}{gd:Option (Nat×Bool)}{K:AV→St→Prop}{T:TypeId}:Bu P C ⟨dst,.alloc T,ty,pos,after,gd⟩ fr σ K=B9 (aop C σ.length (.alloc T) (evA fr) σ) K:=nr rfl
theorem Aat {dst:Option Tmp}{ty:TypeId}{pos:String}{after:Array Edge}{gd:Option (Nat×Bool)}{K:AV→St→Prop}{T:TypeId}{x:Operand}:Bu P C ⟨dst,.box T x,ty,pos,after,gd⟩ fr σ K=B9 (aop C σ.length (.box T x) (evA fr) σ) K:=nr rfl
theorem Rv {dst:Option Tmp}{ty:TypeId}{pos:String}{after:Array Edge}{gd:Option (Nat×Bool)}{K:AV→St→Prop}{T:TypeId}{ps:Array (Nat×Operand)}:Bu P C ⟨dst,.build T ps,ty,pos,after,gd⟩ fr σ K=B9 (aop C σ.length (.build T ps) (evA fr) σ) K:=nr rfl
theorem Ht {dst:Option Tmp}{ty:TypeId}{pos:String}{after:Array Edge}{gd:Option (Nat×Bool)}{K:AV→St→Prop}{T:TypeId}{n:Nat}{ps:Array (Nat×Operand)}:Bu P C ⟨dst,.buildSlice T n ps,ty,pos,after,gd⟩ fr σ K=B9 (aop C σ.length (.buildSlice T n ps) (evA fr) σ) K:=nr rfl
theorem Wh {dst:Option Tmp}{ty:TypeId}{pos:String}{after:Array Edge}{gd:Option (Nat×Bool)}{K:AV→St→Prop}{T:TypeId}{x:Operand}:Bu P C ⟨dst,.load T x,ty,pos,after,gd⟩ fr σ K=B9 (aop C σ.length (.load T x) (evA fr) σ) K:=nr rfl
theorem Rx {dst:Option Tmp}{ty:TypeId}{pos:String}{after:Array Edge}{gd:Option (Nat×Bool)}{K:AV→St→Prop}{T:TypeId}{x y:Operand}:Bu P C ⟨dst,.store T x y,ty,pos,after,gd⟩ fr σ K=B9 (aop C σ.length (.store T x y) (evA fr) σ) K:=nr rfl
theorem Kc {dst:Option Tmp}{ty:TypeId}{pos:String}{after:Array Edge}{gd:Option (Nat×Bool)}{K:AV→St→Prop}{x:Operand}:Bu P C ⟨dst,.nilCheck x,ty,pos,after,gd⟩ fr σ K=B9 (aop C σ.length (.nilCheck x) (evA fr) σ) K:=nr rfl
theorem Ry {dst:Option Tmp}{ty:TypeId}{pos:String}{after:Array Edge}{gd:Option (Nat×Bool)}{K:AV→St→Prop}{op:BinOp}{T:TypeId}{x y:Operand}{T':TypeId}:Bu P C ⟨dst,.binOp op T x y T',ty,pos,after,gd⟩ fr σ K=B9 (aop C σ.length (.binOp op T x y T') (evA fr) σ) K:=nr rfl
theorem Wi {dst:Option Tmp}{ty:TypeId}{pos:String}{after:Array Edge}{gd:Option (Nat×Bool)}{K:AV→St→Prop}{op:UnOp}{T:TypeId}{x:Operand}:Bu P C ⟨dst,.unOp op T x,ty,pos,after,gd⟩ fr σ K=B9 (aop C σ.length (.unOp op T x) (evA fr) σ) K:=nr rfl
theorem M6 {dst:Option Tmp}{ty:TypeId}{pos:String}{after:Array Edge}{gd:Option (Nat×Bool)}{K:AV→St→Prop}{S T:TypeId}{x:Operand}:Bu P C ⟨dst,.convert S T x,ty,pos,after,gd⟩ fr σ K=B9 (aop C σ.length (.convert S T x) (evA fr) σ) K:=nr rfl
theorem Ke {dst:Option Tmp}{ty:TypeId}{pos:String}{after:Array Edge}{gd:Option (Nat×Bool)}{K:AV→St→Prop}{f:Fn}{us vs:Array Operand}:Bu P C ⟨dst,.makeFunc f us vs,ty,pos,after,gd⟩ fr σ K=B9 (aop C σ.length (.makeFunc f us vs) (evA fr) σ) K:=nr rfl
theorem Ix {dst:Option Tmp}{ty:TypeId}{pos:String}{after:Array Edge}{gd:Option (Nat×Bool)}{K:AV→St→Prop}{T:TypeId}{l c:Operand}:Bu P C ⟨dst,.makeSlice T l c,ty,pos,after,gd⟩ fr σ K=B9 (mkM C dst σ.length T l c (evA fr) σ) K:=nr rfl
theorem Arq {pos:Option Tmp}{tk:Nat}{T:TypeId}{l c:Operand}{ρ:Operand→AV}(h:C.muts.contains (keyM T pos)=false):mkM C pos tk T l c ρ σ=aop C tk (.makeSlice T l c) ρ σ:=by simp only[mkM,h,Bool.false_eq_true,if_false]
theorem Am8 {pos:Option Tmp}{tk:Nat}{T:TypeId}{l c:Operand}{ρ:Operand→AV}(h:C.muts.contains (keyM T pos)=true):mkM C pos tk T l c ρ σ=Sz C true tk T l c ρ σ:=by simp only[mkM,h,if_true]
theorem M7 {dst:Option Tmp}{ty:TypeId}{pos:String}{after:Array Edge}{gd:Option (Nat×Bool)}{K:AV→St→Prop}{T:TypeId}{x:Option Operand}:Bu P C ⟨dst,.makeMap T x,ty,pos,after,gd⟩ fr σ K=B9 (aop C σ.length (.makeMap T x) (evA fr) σ) K:=nr rfl
theorem O6 {dst:Option Tmp}{ty:TypeId}{pos:String}{after:Array Edge}{gd:Option (Nat×Bool)}{K:AV→St→Prop}{T:TypeId}{x i:Operand}{ok:Bool}:Bu P C ⟨dst,.lookup T x i ok,ty,pos,after,gd⟩ fr σ K=B9 (aop C σ.length (.lookup T x i ok) (evA fr) σ) K:=nr rfl
theorem Iy {dst:Option Tmp}{ty:TypeId}{pos:String}{after:Array Edge}{gd:Option (Nat×Bool)}{K:AV→St→Prop}{T:TypeId}{m k x:Operand}:Bu P C ⟨dst,.mapUpdate T m k x,ty,pos,after,gd⟩ fr σ K=B9 (aop C σ.length (.mapUpdate T m k x) (evA fr) σ) K:=nr rfl
theorem Rz {dst:Option Tmp}{ty:TypeId}{pos:String}{after:Array Edge}{gd:Option (Nat×Bool)}{K:AV→St→Prop}{T:TypeId}{x:Operand}{lo hi mx:Option Operand}:Bu P C ⟨dst,.slice T x lo hi mx,ty,pos,after,gd⟩ fr σ K=B9 (aop C σ.length (.slice T x lo hi mx) (evA fr) σ) K:=nr rfl
theorem Iz {dst:Option Tmp}{ty:TypeId}{pos:String}{after:Array Edge}{gd:Option (Nat×Bool)}{K:AV→St→Prop}{T:TypeId}{x:Operand}{k:Nat}:Bu P C ⟨dst,.fieldAddr T x k,ty,pos,after,gd⟩ fr σ K=B9 (aop C σ.length (.fieldAddr T x k) (evA fr) σ) K:=nr rfl
theorem R1 {dst:Option Tmp}{ty:TypeId}{pos:String}{after:Array Edge}{gd:Option (Nat×Bool)}{K:AV→St→Prop}{T:TypeId}{x:Operand}{k:Nat}:Bu P C ⟨dst,.field T x k,ty,pos,after,gd⟩ fr σ K=B9 (aop C σ.length (.field T x k) (evA fr) σ) K:=nr rfl
theorem I0 {dst:Option Tmp}{ty:TypeId}{pos:String}{after:Array Edge}{gd:Option (Nat×Bool)}{K:AV→St→Prop}{T:TypeId}{x i:Operand}:Bu P C ⟨dst,.indexAddr T x i,ty,pos,after,gd⟩ fr σ K=B9 (aop C σ.length (.indexAddr T x i) (evA fr) σ) K:=nr rfl
theorem R2 {dst:Option Tmp}{ty:TypeId}{pos:String}{after:Array Edge}{gd:Option (Nat×Bool)}{K:AV→St→Prop}{T:TypeId}{x i:Operand}:Bu P C ⟨dst,.index T x i,ty,pos,after,gd⟩ fr σ K=B9 (aop C σ.length (.index T x i) (evA fr) σ) K:=nr rfl
theorem M8 {dst:Option Tmp}{ty:TypeId}{pos:String}{after:Array Edge}{gd:Option (Nat×Bool)}{K:AV→St→Prop}{x:Operand}{k:Nat}:Bu P C ⟨dst,.extract x k,ty,pos,after,gd⟩ fr σ K=B9 (aop C σ.length (.extract x k) (evA fr) σ) K:=nr rfl
theorem Am9 {t:Tmp}:evA fr (.tmp t)=fr.getD t (.tup []):=nr rfl
theorem Afz {b:Bool}:evA fr (.const (.bool b))= .p (.v (.bool b)):=nr rfl
theorem Ana {k:IntKind}{n:Int}:evA fr (.const (.int k n))= .p (.v (.int k n)):=nr rfl
theorem Anb {s:ByteArray}:evA fr (.const (.string s))= .p (.v (.string s)):=nr rfl
theorem O7:evA fr (.const (.slice none 0 0))= .p (.v (.slice none 0 0)):=nr rfl
theorem Wj:evA fr (.const (.pointer none))= .p (.v (.pointer none)):=nr rfl
theorem Af0 {f:FuncId}:evA fr (.func f)= .fn f [] []:=nr rfl
theorem Aau {T d:Nat}:keyM T (some d)=T*100000+d:=nr rfl
theorem Wk {pos:Option Tmp}{tk:Nat}{T:TypeId}{x y:AV}(h:C.muts.contains (keyM T pos)=false):Cw C pos tk .append [T,T] [x,y] σ=A5 C tk T x y σ:=by simp only[Cw,h,Bool.false_eq_true,if_false,Dq,if_true]
theorem L8 {pos:Option Tmp}{tk:Nat}{T T':TypeId}{x y:AV}(h:C.muts.contains (keyM T pos)=false)(ht:T≠T'):Cw C pos tk .append [T,T'] [x,y] σ=Gp C tk T T' x y σ:=by simp only[Cw,h,Bool.false_eq_true,if_false,Dq,if_neg ht]
theorem Af1 {tk:Nat}{T T':TypeId}{x:AV}{s:ByteArray}(h:C.kind T'=some .str):Gp C tk T T' x (.p (.v (.string s))) σ=A5 C tk T x (.p (.sl 1 (Hb s))) σ:=by simp only[Gp,h]
theorem Af2 {tk:Nat}{T T' E es eb:Nat}{ez:List Value}{k k':IntKind}{n:Nat}(hT:C.kind T=some (.slice E es eb ez))(h:C.kind T'=some (.int k'))(h0:0<n)(h1:eb*n≤140737488355328)(h2:n≤maxLen):
 Gp C tk T T' Sw (.p (.v (.int k (n:Int)))) σ=some (.raw tk es n,σ.put tk (.right E 0)):=by
 have h1':(eb:Int)*(n:Int)≤140737488355328:=by omega
 have hi:Hk (.p (.v (.int k (n:Int))))=some (k,(n:Int)):=rfl
 simp only[Gp,h,Oh,hT,Sw,hi]
 rw[if_pos ⟨by omega,h1',by omega⟩]
 simp
theorem Anc {pos:Option Tmp}{tk:Nat}{T E es eb:Nat}{ez:List Value}(hT:C.kind T=some (.slice E es eb ez)):Cw C pos tk .cap [T] [Sw] σ=some (Ad .i64 0,σ):=by simp only[Cw,Dq,hT,Sw]
theorem Af3 {T E es eb t k:Nat}{ez:List Value}{kk:IntKind}(hT:C.kind T=some (.slice E es eb ez)):Bv C T (.raw t es k) none (some (.p (.v (.int kk 0))))=some (.own t es []):=by
 simp[Bv,hT,Br,Bm,Hk]
theorem R3 {pos:Option Tmp}{tk:Nat}{T:TypeId}{x y:AV}(h:C.muts.contains (keyM T pos)=true):Cw C pos tk .append [T,T] [x,y] σ=Dd C tk T x y σ:=by simp only[Cw,h,if_true]
theorem Ane {pos:Option Tmp}{tk:Nat}{T:TypeId}{x:AV}:Cw C pos tk .len [T] [x] σ=(Bf C T x).map fun (n:Nat)=>(Ad .i64 (n:Int),σ):=nr rfl
theorem Anf {pos:Option Tmp}{tk:Nat}{ts:List TypeId}{k k':IntKind}{n m:Int}:Cw C pos tk .min ts [.p (.v (.int k n)),.p (.v (.int k' m))] σ=some (Ad k (if m<n then m else n),σ):=nr rfl
theorem Ang {pos:Option Tmp}{tk:Nat}{ts:List TypeId}{k k':IntKind}{n m:Int}:Cw C pos tk .max ts [.p (.v (.int k n)),.p (.v (.int k' m))] σ=some (Ad k (if m>n then m else n),σ):=nr rfl
def O8 (P:Program)(C:Ctx)(ops:Array Oper)(o:Oper)(p:Cv)(L:List Nat)(fr:List AV)(σ:St)(K:List AV→St→Prop):Prop:=aDet C o L fr σ fun L' r=>aPl P C ops p L' (D5 fr o.dst r) σ K
def O9 (P:Program)(C:Ctx)(ops:Array Oper)(y:Option (Option Bool))(want:Bool)(o:Oper)(p:Cv)(L:List Nat)(fr:List AV)(σ:St)(K:List AV→St→Prop):Prop:=match y with
 |some (some b)=>(b=want→O8 P C ops o p L fr σ K)∧(b= !want→aPl P C ops p L (D5 fr o.dst (.tup [])) σ K)
 |some none=>aPl P C ops p L (D5 fr o.dst (.tup [])) σ K
 |none=>False
def detK (P:Program)(C:Ctx)(ops:Array Oper)(oo:Option Oper)(p:Cv)(L:List Nat)(fr:List AV)(σ:St)(K:List AV→St→Prop):Prop:=match oo with
 |none=>False
 |some o=>Ch ops o fr (O8 P C ops o p L fr σ K) (aPl P C ops p L (D5 fr o.dst (.tup [])) σ K)
def Y5 (P:Program)(C:Ctx)(ops:Array Oper)(p:Cv)(L:List Nat)(dst:Option Tmp)(fr:List AV)(σ:St)(K:List AV→St→Prop)(r:AV)(σ':St):Prop:=aPl P C ops p L (D5 fr dst r) (Bz L σ σ') K
def Pa (P:Program)(C:Ctx)(ops:Array Oper)(y:Option (Option Bool))(want:Bool)(o:Oper)(p:Cv)(L:List Nat)(fr:List AV)(σ:St)(K:List AV→St→Prop):Prop:=match y with
 |some (some b)=>(b=want→Bu P C o fr (El L σ) (Y5 P C ops p L o.dst fr σ K))∧(b= !want→aPl P C ops p L (D5 fr o.dst (.tup [])) σ K)
 |some none=>aPl P C ops p L (D5 fr o.dst (.tup [])) σ K
 |none=>False
def actK (P:Program)(C:Ctx)(ops:Array Oper)(oo:Option Oper)(p:Cv)(L:List Nat)(fr:List AV)(σ:St)(K:List AV→St→Prop):Prop:=match oo with
 |none=>False
 |some o=>Ch ops o fr (Bu P C o fr (El L σ) (Y5 P C ops p L o.dst fr σ K)) (aPl P C ops p L (D5 fr o.dst (.tup [])) σ K)
def ldK (P:Program)(C:Ctx)(ops:Array Oper)(v:Option AV)(ad:AV)(dst:Option Tmp)(p:Cv)(L:List Nat)(fr:List AV)(σ:St)(K:List AV→St→Prop):Prop:=match v with
 |some v=>aPl P C ops p (Y3 ad++L) (D5 fr dst v) σ K
 |none=>False
def stK (P:Program)(C:Ctx)(ops:Array Oper)(x:Option (AV×St))(dst:Option Tmp)(p:Cv)(L:List Nat)(fr:List AV)(σ:St)(K:List AV→St→Prop):Prop:=match x with
 |some (r,s)=>s=σ∧aPl P C ops p L (D5 fr dst r) σ K
 |none=>False
section
variable {p q:Cv} {L:List Nat} {dst:Option Tmp} {ty:TypeId} {pos:String} {after:Array Edge} {op:Op} {j i:Nat} {want:Bool} {o:Oper} {gd:Option (Nat×Bool)}
theorem Af4:aPl P C ops .done L fr σ K=K fr σ:=nr rfl
theorem Anh:aPl P C ops (.det i p) L fr σ K=detK P C ops ops[i]? p L fr σ K:=by rw[aPl];cases ops[i]? <;>rfl
theorem Ani:aPl P C ops (.act i p) L fr σ K=actK P C ops ops[i]? p L fr σ K:=by rw[aPl];cases ops[i]? <;>rfl
theorem Anj:aPl P C ops (.fin i p) L fr σ K=actK P C ops ops[i]? p [] fr σ K:=by rw[aPl];cases ops[i]? <;>rfl
theorem Ank:aPl P C ops (.two i p j q) L fr σ K=(actK P C ops ops[i]? p L fr σ K∧actK P C ops ops[j]? q L fr σ K):=by rw[aPl];cases ops[i]? <;>cases ops[j]? <;>rfl
theorem Aav {k:Nat}{r:Cv}:aPl P C ops (.three i p j q k r) L fr σ K=(actK P C ops ops[i]? p L fr σ K∧actK P C ops ops[j]? q L fr σ K∧actK P C ops ops[k]? r L fr σ K):=by rw[aPl];cases ops[i]? <;>cases ops[j]? <;>cases ops[k]? <;>rfl
theorem Ny:detK P C ops (some ⟨dst,op,ty,pos,after,none⟩) p L fr σ K=O8 P C ops ⟨dst,op,ty,pos,after,none⟩ p L fr σ K:=nr rfl
theorem Nz:detK P C ops (some ⟨dst,op,ty,pos,after,some (j,want)⟩) p L fr σ K=O9 P C ops (Mz ops fr j) want ⟨dst,op,ty,pos,after,some (j,want)⟩ p L fr σ K:=nr rfl
theorem N0:actK P C ops (some ⟨dst,op,ty,pos,after,none⟩) p L fr σ K=Bu P C ⟨dst,op,ty,pos,after,none⟩ fr (El L σ) (Y5 P C ops p L dst fr σ K):=nr rfl
theorem N1:actK P C ops (some ⟨dst,op,ty,pos,after,some (j,want)⟩) p L fr σ K=Pa P C ops (Mz ops fr j) want ⟨dst,op,ty,pos,after,some (j,want)⟩ p L fr σ K:=nr rfl
theorem Arr:O9 P C ops (some (some true)) true o p L fr σ K=O8 P C ops o p L fr σ K:=by simp[O9]
theorem Ars:O9 P C ops (some (some false)) false o p L fr σ K=O8 P C ops o p L fr σ K:=by simp[O9]
theorem Art:O9 P C ops (some (some true)) false o p L fr σ K=aPl P C ops p L (D5 fr o.dst (.tup [])) σ K:=by simp[O9]
theorem Aru:O9 P C ops (some (some false)) true o p L fr σ K=aPl P C ops p L (D5 fr o.dst (.tup [])) σ K:=by simp[O9]
theorem Arv:O9 P C ops (some none) want o p L fr σ K=aPl P C ops p L (D5 fr o.dst (.tup [])) σ K:=nr rfl
theorem Arw:Pa P C ops (some (some true)) true o p L fr σ K=Bu P C o fr (El L σ) (Y5 P C ops p L o.dst fr σ K):=by simp[Pa]
theorem Arx:Pa P C ops (some (some false)) false o p L fr σ K=Bu P C o fr (El L σ) (Y5 P C ops p L o.dst fr σ K):=by simp[Pa]
theorem Ary:Pa P C ops (some (some true)) false o p L fr σ K=aPl P C ops p L (D5 fr o.dst (.tup [])) σ K:=by simp[Pa]
theorem Arz:Pa P C ops (some (some false)) true o p L fr σ K=aPl P C ops p L (D5 fr o.dst (.tup [])) σ K:=by simp[Pa]
theorem Ar0:Pa P C ops (some none) want o p L fr σ K=aPl P C ops p L (D5 fr o.dst (.tup [])) σ K:=nr rfl
theorem Anl {r:AV}{σ':St}:Y5 P C ops p L dst fr σ K r σ'=aPl P C ops p L (D5 fr dst r) (Bz L σ σ') K:=nr rfl
theorem Af5 {v ad:AV}:ldK P C ops (some v) ad dst p L fr σ K=aPl P C ops p (Y3 ad++L) (D5 fr dst v) σ K:=nr rfl
theorem Af6 {r:AV}:stK P C ops (some (r,σ)) dst p L fr σ K=aPl P C ops p L (D5 fr dst r) σ K:=by simp[stK]
theorem Af7 {T:TypeId}{x:Operand}:O8 P C ops ⟨dst,.load T x,ty,pos,after,gd⟩ p L fr σ K=ldK P C ops (loadT C T (evA fr x) σ) (evA fr x) dst p L fr σ K:=nr rfl
theorem Anm {t e i o:Nat}:Y3 (.mp t e i o)=[t]:=nr rfl
theorem Ann {c:List PV}{o:Nat}:Y3 (.ip c o)=[]:=nr rfl
theorem Aaw:El [] σ=σ:=nr rfl
theorem Wl {t:Nat}:El (t::L) σ=El L (σ.set t none):=nr rfl
theorem Af8 {x:Operand}:O8 P C ops ⟨dst,.move x,ty,pos,after,gd⟩ p L fr σ K=stK P C ops (aop C σ.length (.move x) (evA fr) σ) dst p L fr σ K:=nr rfl
theorem Wm {x:Operand}:O8 P C ops ⟨dst,.assign x,ty,pos,after,gd⟩ p L fr σ K=stK P C ops (aop C σ.length (.assign x) (evA fr) σ) dst p L fr σ K:=nr rfl
theorem Af9 {c x y:Operand}:O8 P C ops ⟨dst,.pick c x y,ty,pos,after,gd⟩ p L fr σ K=stK P C ops (aop C σ.length (.pick c x y) (evA fr) σ) dst p L fr σ K:=nr rfl
theorem Aax {T:TypeId}{ps:Array (Nat×Operand)}:O8 P C ops ⟨dst,.build T ps,ty,pos,after,gd⟩ p L fr σ K=stK P C ops (aop C σ.length (.build T ps) (evA fr) σ) dst p L fr σ K:=nr rfl
theorem Pb {x:Operand}:O8 P C ops ⟨dst,.nilCheck x,ty,pos,after,gd⟩ p L fr σ K=stK P C ops (aop C σ.length (.nilCheck x) (evA fr) σ) dst p L fr σ K:=nr rfl
theorem Aay {op:BinOp}{T:TypeId}{x y:Operand}{T':TypeId}:O8 P C ops ⟨dst,.binOp op T x y T',ty,pos,after,gd⟩ p L fr σ K=stK P C ops (aop C σ.length (.binOp op T x y T') (evA fr) σ) dst p L fr σ K:=nr rfl
theorem Aga {op:UnOp}{T:TypeId}{x:Operand}:O8 P C ops ⟨dst,.unOp op T x,ty,pos,after,gd⟩ p L fr σ K=stK P C ops (aop C σ.length (.unOp op T x) (evA fr) σ) dst p L fr σ K:=nr rfl
theorem R4 {S T:TypeId}{x:Operand}:O8 P C ops ⟨dst,.convert S T x,ty,pos,after,gd⟩ p L fr σ K=stK P C ops (aop C σ.length (.convert S T x) (evA fr) σ) dst p L fr σ K:=nr rfl
theorem Pd {f:Fn}{us vs:Array Operand}:O8 P C ops ⟨dst,.makeFunc f us vs,ty,pos,after,gd⟩ p L fr σ K=stK P C ops (aop C σ.length (.makeFunc f us vs) (evA fr) σ) dst p L fr σ K:=nr rfl
theorem Aaz {T:TypeId}{x:Operand}{lo hi mx:Option Operand}:O8 P C ops ⟨dst,.slice T x lo hi mx,ty,pos,after,gd⟩ p L fr σ K=stK P C ops (aop C σ.length (.slice T x lo hi mx) (evA fr) σ) dst p L fr σ K:=nr rfl
theorem M9 {T:TypeId}{x:Operand}{k:Nat}:O8 P C ops ⟨dst,.fieldAddr T x k,ty,pos,after,gd⟩ p L fr σ K=stK P C ops (aop C σ.length (.fieldAddr T x k) (evA fr) σ) dst p L fr σ K:=nr rfl
theorem Aa0 {T:TypeId}{x:Operand}{k:Nat}:O8 P C ops ⟨dst,.field T x k,ty,pos,after,gd⟩ p L fr σ K=stK P C ops (aop C σ.length (.field T x k) (evA fr) σ) dst p L fr σ K:=nr rfl
theorem Na {T:TypeId}{x i:Operand}:O8 P C ops ⟨dst,.indexAddr T x i,ty,pos,after,gd⟩ p L fr σ K=stK P C ops (aop C σ.length (.indexAddr T x i) (evA fr) σ) dst p L fr σ K:=nr rfl
theorem Aa1 {T:TypeId}{x i:Operand}:O8 P C ops ⟨dst,.index T x i,ty,pos,after,gd⟩ p L fr σ K=stK P C ops (aop C σ.length (.index T x i) (evA fr) σ) dst p L fr σ K:=nr rfl
theorem R5 {x:Operand}{k:Nat}:O8 P C ops ⟨dst,.extract x k,ty,pos,after,gd⟩ p L fr σ K=stK P C ops (aop C σ.length (.extract x k) (evA fr) σ) dst p L fr σ K:=nr rfl
theorem Agb {c:Call}:O8 P C ops ⟨dst,.call c,ty,pos,after,gd⟩ p L fr σ K=stK P C ops (aop C σ.length (.call c) (evA fr) σ) dst p L fr σ K:=nr rfl
end
theorem D7 {T E es eb e:Nat}{ez:List Value}{ls:List (List PV)}(h:C.kind T=some (.slice E es eb ez)):Bf C T (.p (.sl e ls))=some ls.length:=by simp[Bf,h,Br]
theorem C7 {T E es eb t e:Nat}{ez:List Value}{ls:List (List PV)}(h:C.kind T=some (.slice E es eb ez)):Bf C T (.own t e ls)=some ls.length:=by simp[Bf,h,Br]
theorem Ci {T E es eb t e:Nat}{ez:List Value}{ls:List (List PV)}(h:C.kind T=some (.slice E es eb ez)):Bf C T (.nown t e ls)=some ls.length:=by simp[Bf,h,Br]
theorem len_nil {T E es eb:Nat}{ez:List Value}(h:C.kind T=some (.slice E es eb ez)):Bf C T (.p (.v (.slice none 0 0)))=some 0:=by simp[Bf,h,Br]
theorem D8 {T E es eb t e i n:Nat}{ez:List Value}(h:C.kind T=some (.slice E es eb ez)):Bf C T (.ms t e i n)=some n:=by simp[Bf,h,Br]
theorem Agc {T:Nat}{s:ByteArray}(h:C.kind T=some .str):Bf C T (.p (.v (.string s)))=some s.size:=by simp[Bf,h]
theorem wrap_i64 {n:Int}(h1: -9223372036854775808≤n)(h2:n≤9223372036854775807):IntKind.i64.wrap n=n:=IntWalk.i64_in _ (by omega)
theorem Ar1 {e:Nat}{ls:List (List PV)}:Br (.p (.sl e ls))=some (e,ls):=nr rfl
theorem Ano {t e:Nat}{ls:List (List PV)}:Br (.own t e ls)=some (e,ls):=nr rfl
theorem Agd {t e:Nat}{ls:List (List PV)}:Br (.nown t e ls)=some (e,ls):=nr rfl
theorem Ar2 {k:IntKind}{n:Int}:Hk (.p (.v (.int k n)))=some (k,n):=nr rfl
theorem Age:F0 (.p (.v (.slice none 0 0)))=some true:=nr rfl
theorem Agf {ad:Addr}{c:Nat}:F0 (.p (.v (.slice (some ad) 0 c)))=some false:=nr rfl
theorem Anp {e:Nat}{c:List PV}{ls:List (List PV)}:F0 (.p (.sl e (c::ls)))=some false:=nr rfl
theorem Anq {t e i n:Nat}:F0 (.ms t e i n)=some false:=nr rfl
theorem Agg {t e:Nat}{ls:List (List PV)}:F0 (.own t e ls)=some false:=nr rfl
theorem Aa2 {t e:Nat}{ls:List (List PV)}:F0 (.nown t e ls)=some ls.isEmpty:=nr rfl
theorem Agh {ti:TI}{c:List PV}{o:Nat}:He ti (.ip c o) σ=I5 ti.row ti.size o (c.map .p):=nr rfl
theorem Agi {ti:TI}{t e i o:Nat}:He ti (.mp t e i o) σ=match σ[t]? with
 |some (some (.row e' ls))=>if e'=e then match ls[i]? with
   |some c=>I5 ti.row ti.size o c
   |none=>none
  else none
 |_=>none:=nr rfl
theorem Aa3 {s off:Nat}{l:List AV}:I5 false s off l=l[off]? :=nr rfl
theorem Aa4 {s off:Nat}{l:List AV}:I5 true s off l=if off=0∧s=l.length then some (.agg l)else if off+s≤l.length then some (.agg ((l.drop off).take s))else none:=nr rfl
theorem Agj {x:PV}:Ct (.p x)=some [.p x]:=nr rfl
theorem Wn {t e:Nat}{ls:List (List PV)}:Ct (.own t e ls)=some [.own t e ls]:=nr rfl
theorem R6 {t e:Nat}{ls:List (List PV)}:Ct (.nown t e ls)=some [.nown t e ls]:=nr rfl
theorem Aa5 {t e i o:Nat}:Ct (.mp t e i o)=some [.mp t e i o]:=nr rfl
theorem Aa6 {t e i o n:Nat}:Ct (.bs t e i o n)=some [.bs t e i o n]:=nr rfl
theorem Wo {T:TypeId}{a:AV}:Ct (.dyn T a)=some [.dyn T a]:=nr rfl
theorem Aa7 {t e i n:Nat}:Ct (.ms t e i n)=some [.ms t e i n]:=nr rfl
theorem R7 {t:Nat}:Ct (.mmap t)=some [.mmap t]:=nr rfl
theorem Aa8 {c:List PV}{o:Nat}:Ct (.ip c o)=some [.ip c o]:=nr rfl
theorem Wp {l:List AV}:Ct (.agg l)=some l:=nr rfl
theorem Aa9 {f:FuncId}{us vs:List AV}:Ct (.fn f us vs)=some [.fn f us vs]:=nr rfl
theorem Aba {ti:TI}{t e i o:Nat}{x:AV}:Re ti (.mp t e i o) x σ=match Ct x with
 |some m=>(match σ[t]? with
  |some (some (.row e' ls))=>if e'=e∧m.length=ti.size then match ls[i]? with
    |some c=>if o+m.length≤c.length then some (σ.set t (some (.row e' (ls.set i (Dc c o m)))))else none
    |none=>none
   else none
  |_=>none)
 |none=>none:=by
 unfold Re
 cases Ct x<;>rfl
theorem Abb {dst:Option Tmp}{x:Operand}{name:String}{args:Array Operand}{ts:Array TypeId}{ty:TypeId}{pos:String}{after:Array Edge}{gd:Option (Nat×Bool)}{K:AV→St→Prop}:
 Bu P C ⟨dst,.call ⟨.invoke x name,args,ts⟩,ty,pos,after,gd⟩ fr σ K=aInv P C (evA fr x) name (args.toList.map (evA fr)) σ K:=nr rfl
def Aec (P:Program)(f:FuncId)(x:Option AV)(args:List AV)(σ:St)(K:AV→St→Prop):Prop:=match x with
 |some r=>Aa P f (r::args) σ K
 |none=>False
theorem Wq {f:FuncId}{r:AV}{args:List AV}{K:AV→St→Prop}:Aec P f (some r) args σ K=Aa P f (r::args) σ K:=nr rfl
theorem Agk {T:TypeId}{a:AV}{name:String}{f:FuncId}{args:List AV}{K:AV→St→Prop}(h:C.meth T name=some (f,none)):aInv P C (.dyn T a) name args σ K=Aa P f (a::args) σ K:=by simp only[aInv,h]
theorem Y6 {T E:TypeId}{ti:TI}{a:AV}{name:String}{f:FuncId}{args:List AV}{K:AV→St→Prop}(h:C.meth T name=some (f,some E))(h2:C.ty E=some ti):aInv P C (.dyn T a) name args σ K=Aec P f (He ti a σ) args σ K:=by
 simp only[aInv,h,h2,Aec]
 cases He ti a σ<;>rfl
theorem Abc {dst:Option Tmp}{T:TypeId}{x:Operand}{ty:TypeId}{pos:String}{after:Array Edge}{gd:Option (Nat×Bool)}{K:AV→St→Prop}:
 Bu P C ⟨dst,.makeInterface T x,ty,pos,after,gd⟩ fr σ K=B9 ((mkIA C T (evA fr x)).map fun a=>(a,σ)) K:=nr rfl
theorem Abd {dst:Option Tmp}{S T:TypeId}{ok:Bool}{x:Operand}{ty:TypeId}{pos:String}{after:Array Edge}{gd:Option (Nat×Bool)}{K:AV→St→Prop}:
 Bu P C ⟨dst,.typeAssert x S T ok,ty,pos,after,gd⟩ fr σ K=B9 ((asIA C T ok (evA fr x)).map fun a=>(a,σ)) K:=nr rfl
theorem Wr {dst:Option Tmp}{T:TypeId}{x:Operand}{ty:TypeId}{pos:String}{after:Array Edge}{gd:Option (Nat×Bool)}{K:AV→St→Prop}:
 Bu P C ⟨dst,.sliceToArrayPointer T x,ty,pos,after,gd⟩ fr σ K=B9 ((Yw C T (evA fr x)).map fun a=>(a,σ)) K:=nr rfl
theorem Nb {T:TypeId}{x:AV}(h:C.kind T=some .ptr):mkIA C T x=some (.dyn T x):=by simp only[mkIA,h]
theorem Nc {T:TypeId}{a:AV}(h:C.kind T=some .ptr):asIA C T false (.dyn T a)=some a:=by simp[asIA,h]
theorem Anr {T t e i o n m:Nat}(h:C.kind T=some (.barr m)):Yw C T (.bs t e i o n)=if m≤n then some (.mp t e i o)else none:=by simp only[Yw,h]
theorem Agl {pos:Option Tmp}{tk:Nat}{T T':TypeId}{x y:AV}:Cw C pos tk .copy [T,T'] [x,y] σ=Qx C T x y σ:=nr rfl
theorem Ws {pos:Option Tmp}{tk:Nat}{T T':TypeId}{x y:AV}:Cw C pos tk .delete [T,T'] [x,y] σ=Lv C T x y σ:=nr rfl
theorem Eo {T E es eb t e i o n:Nat}{ez:List Value}(h:C.kind T=some (.slice E es eb ez)):Bf C T (.bs t e i o n)=some n:=by simp[Bf,h,Br]
theorem Wt {T m:Nat}{x:AV}{lo hi:Option AV}(h:C.kind T=some (.barr m)):Bv C T x lo hi=match x,Bm lo 0,Bm hi m with
 | .mp t e i o,some l,some h=>if 0≤l∧l<h∧h≤m then some (.bs t e i (o+l.toNat) (h.toNat - l.toNat))else none
 |_,_,_=>none:=by
 unfold Bv
 rw[h]
 cases x<;>first|rfl|(cases Bm lo 0<;>cases Bm hi m<;>rfl)
def nilP (k:Option TK)(n:Option Bool)(neg:Bool):Option AV:=match k,n with
 |some .ptr,some b=>some (Az (if neg then !b else b))
 |_,_=>none
theorem Abe {T:TypeId}{x:AV}:Fu C .eql T x (.p (.v (.pointer none)))=nilP (C.kind T) (Jv x) false:=by
 rcases hk:C.kind T with _|k
 ·unfold Fu nilP;split<;>simp_all
 ·rcases hn:Jv x with _|b
  ·cases k<;>(unfold Fu nilP;split<;>simp_all)
  ·cases k<;>cases b<;>(unfold Fu nilP;split<;>simp_all)
theorem Abf {T:TypeId}{x:AV}:Fu C .neq T x (.p (.v (.pointer none)))=nilP (C.kind T) (Jv x) true:=by
 rcases hk:C.kind T with _|k
 ·unfold Fu nilP;split<;>simp_all
 ·rcases hn:Jv x with _|b
  ·cases k<;>(unfold Fu nilP;split<;>simp_all)
  ·cases k<;>cases b<;>(unfold Fu nilP;split<;>simp_all)
theorem Ans {b:Bool}:nilP (some .ptr) (some b) false=some (Az b):=nr rfl
theorem Ant {b:Bool}:nilP (some .ptr) (some b) true=some (Az (!b)):=nr rfl
theorem Ar3 {t e i o:Nat}:Jv (.mp t e i o)=some false:=nr rfl
theorem Anu:Jv (.p (.v (.pointer none)))=some true:=nr rfl
theorem Agm {n:Nat}{T:TypeId}{a:AV}:A3 n (.dyn T a)=A3 n a:=by simp only[A3]
theorem Anv {m t e i o n:Nat}:A3 m (.bs t e i o n)=decide (t<m):=by simp only[A3]
theorem Agn {m:Nat}{l:List AV}:A3 m (.agg l)=Cj m l:=by simp only[A3]
theorem Ago {m:Nat}{l:List AV}:A3 m (.tup l)=Cj m l:=by simp only[A3]
theorem Abg {T:TypeId}{a:AV}:leaf (.dyn T a)=true:=nr rfl
theorem Agp {t e i o n:Nat}:leaf (.bs t e i o n)=true:=nr rfl
theorem Anw {e:Nat}{x:PV}:Lu σ e (.p x)=E1 e (.p x):=nr rfl
theorem Abh {t e e':Nat}{ls:List (List PV)}:Lu σ e (.own t e' ls)=E1 e (.own t e' ls):=nr rfl
theorem Wu {t e e':Nat}{ls:List (List PV)}:Lu σ e (.nown t e' ls)=E1 e (.nown t e' ls):=nr rfl
theorem Agq {e t e2 i o n:Nat}:Lu σ e (.bs t e2 i o n)=if e=1 then match σ[t]? with
 |some (some (.row e' ls))=>if e'=e2 then match ls[i]? with
   |some c=>if o+n≤c.length then (Vi ((c.drop o).take n)).map fun l=>l.map fun x=>[x]else none
   |none=>none
  else none
 |_=>none
 else none:=nr rfl
theorem Agr {e t e' i n:Nat}:Lu σ e (.ms t e' i n)=match σ[t]? with
 |some (some (.row e2 ls))=>if e'=e∧e2=e∧i+n≤ls.length then I6 ((ls.drop i).take n)else none
 |_=>none:=nr rfl
end
end Go.Proofs.YtpoigihfeehehaaGreatDoor
