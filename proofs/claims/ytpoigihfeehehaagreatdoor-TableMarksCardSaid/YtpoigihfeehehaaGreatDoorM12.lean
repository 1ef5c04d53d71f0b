/- Steps of a walk on the abstract machine. -/
import Derived.Test.YtpoigihfeehehaaGreatDoorM11
set_option linter.all false
set_option maxRecDepth 100000
set_option maxHeartbeats 32000000
namespace Go.Proofs.YtpoigihfeehehaaGreatDoor
open Go.RowKit
theorem nr {α:Sort _}{a b:α}(h:a=b):a=b:=h
section
variable {P:Program} {C:Ctx} {d:Array Oper→List AV→St→(List AV→St→Prop)→Prop} {fr:List AV} {σ:St} {Q:Exit→List AV→St→Prop} {K:List AV→St→Prop} {ops:Array Oper}
def Akz (P:Program)(C:Ctx)(d:Array Oper→List AV→St→(List AV→St→Prop)→Prop)(y:Code)(Q:Exit→List AV→St→Prop)(e:Exit)(fr:List AV)(σ:St):Prop:=match e with
 | .normal=>AWp P C d y fr σ Q
 |e=>Q e fr σ
def Aaq (id:Nat)(Q:Exit→List AV→St→Prop)(e:Exit)(fr:List AV)(σ:St):Prop:=match e with
 | .exit id'=>if id'=id then Q .normal fr σ else Q (.exit id') fr σ
 |e=>Q e fr σ
def Ael (P:Program)(C:Ctx)(d:Array Oper→List AV→St→(List AV→St→Prop)→Prop)(c:AV)(x y:Code)(fr:List AV)(σ:St)(Q:Exit→List AV→St→Prop):Prop:=match c with
 | .p (.v (.bool b))=>(b=true→AWp P C d x fr σ Q)∧(b=false→AWp P C d y fr σ Q)
 |_=>False
theorem Aar:AWp P C d .skip fr σ Q=Q .normal fr σ:=nr rfl
theorem Af9 {x y:Code}:AWp P C d (.seq x y) fr σ Q=AWp P C d x fr σ (Akz P C d y Q):=by
 simp only[AWp]
 congr 1
theorem Rf {i:Nat}:AWp P C d (.region i ops false) fr σ Q=Fq P C ops ops.toList fr σ (Q .normal):=by simp only[AWp]
theorem Aas {i:Nat}:AWp P C d (.region i ops true) fr σ Q=d ops fr σ (Q .normal):=by simp only[AWp]
theorem Aat {c:Operand}{x y:Code}:AWp P C d (.cond c x y) fr σ Q=Ael P C d (evA fr c) x y fr σ Q:=by
 simp only[AWp]
 rfl
theorem Wa {id:Nat}{c:Code}:AWp P C d (.block id c) fr σ Q=AWp P C d c fr σ (Aaq id Q):=by
 simp only[AWp]
 congr 1
theorem Aau {id:Nat}:AWp P C d (.exit id) fr σ Q=Q (.exit id) fr σ:=nr rfl
theorem Aga:AWp P C d .ret fr σ Q=Q .ret fr σ:=nr rfl
theorem O4 {y:Code}:Akz P C d y Q .normal fr σ=AWp P C d y fr σ Q:=nr rfl
theorem Wb {y:Code}{id:Nat}:Akz P C d y Q (.exit id) fr σ=Q (.exit id) fr σ:=nr rfl
theorem Aav {y:Code}:Akz P C d y Q .ret fr σ=Q .ret fr σ:=nr rfl
theorem M7 {id:Nat}:Aaq id Q .normal fr σ=Q .normal fr σ:=nr rfl
theorem Wc {id:Nat}:Aaq id Q .ret fr σ=Q .ret fr σ:=nr rfl
theorem Rh {id id':Nat}:Aaq id Q (.exit id') fr σ=if id'=id then Q .normal fr σ else Q (.exit id') fr σ:=nr rfl
theorem J5 {x y:Code}:Ael P C d (.p (.v (.bool true))) x y fr σ Q=AWp P C d x fr σ Q:=by simp[Ael]
theorem H5 {x y:Code}:Ael P C d (.p (.v (.bool false))) x y fr σ Q=AWp P C d y fr σ Q:=by simp[Ael]
theorem Ri {b:Bool}{x y:Code}(h1:b=true→AWp P C d x fr σ Q)(h2:b=false→AWp P C d y fr σ Q):Ael P C d (.p (.v (.bool b))) x y fr σ Q:=⟨h1,h2⟩
theorem Gv {r:AV}{s:St}{K:AV→St→Prop}:B5 (some (r,s)) K=K r s:=nr rfl
theorem Aaw:Fq P C ops [] fr σ K=K fr σ:=nr rfl
def Aem (P:Program)(C:Ctx)(ops:Array Oper)(os:List Oper)(dst:Option Tmp)(fr:List AV)(K:List AV→St→Prop)(r:AV)(σ:St):Prop:=Fq P C ops os (D7 fr dst r) σ K
theorem Aax {os:List Oper}{dst:Option Tmp}{r:AV}:Aem P C ops os dst fr K r σ=Fq P C ops os (D7 fr dst r) σ K:=nr rfl
def O5 (P:Program)(C:Ctx)(ops:Array Oper)(y:Option (Option Bool))(want:Bool)(o:Oper)(os:List Oper)(fr:List AV)(σ:St)(K:List AV→St→Prop):Prop:=match y with
 |some (some b)=>(b=want→Bm P C o fr σ (Aem P C ops os o.dst fr K))∧(b= !want→Fq P C ops os (D7 fr o.dst (.tup [])) σ K)
 |some none=>Fq P C ops os (D7 fr o.dst (.tup [])) σ K
 |none=>False
theorem Wd {dst:Option Tmp}{op:Op}{ty:TypeId}{pos:String}{after:Array Edge}{os:List Oper}:Fq P C ops (⟨dst,op,ty,pos,after,none⟩::os) fr σ K=Bm P C ⟨dst,op,ty,pos,after,none⟩ fr σ (Aem P C ops os dst fr K):=nr rfl
theorem Rj {dst:Option Tmp}{op:Op}{ty:TypeId}{pos:String}{after:Array Edge}{os:List Oper}{j:Nat}{want:Bool}:Fq P C ops (⟨dst,op,ty,pos,after,some (j,want)⟩::os) fr σ K=O5 P C ops (M6 ops fr j) want ⟨dst,op,ty,pos,after,some (j,want)⟩ os fr σ K:=nr rfl
theorem Ti {o:Oper}{os:List Oper}:O5 P C ops (some (some true)) true o os fr σ K=Bm P C o fr σ (Aem P C ops os o.dst fr K):=by simp[O5]
theorem Tj {o:Oper}{os:List Oper}:O5 P C ops (some (some false)) false o os fr σ K=Bm P C o fr σ (Aem P C ops os o.dst fr K):=by simp[O5]
theorem Tl {o:Oper}{os:List Oper}:O5 P C ops (some (some true)) false o os fr σ K=Fq P C ops os (D7 fr o.dst (.tup [])) σ K:=by simp[O5]
theorem Tm {o:Oper}{os:List Oper}:O5 P C ops (some (some false)) true o os fr σ K=Fq P C ops os (D7 fr o.dst (.tup [])) σ K:=by simp[O5]
theorem Tn {want:Bool}{o:Oper}{os:List Oper}:O5 P C ops (some none) want o os fr σ K=Fq P C ops os (D7 fr o.dst (.tup [])) σ K:=nr rfl
theorem Rk {b want:Bool}{o:Oper}{os:List Oper}(h1:b=want→Bm P C o fr σ (Aem P C ops os o.dst fr K))(h2:b= !want→Fq P C ops os (D7 fr o.dst (.tup [])) σ K):O5 P C ops (some (some b)) want o os fr σ K:=⟨h1,h2⟩
def Rl {X:Type}(J:X→List AV×St)(m:X→Nat)(x:X)(Q:Exit→List AV→St→Prop)(e:Exit)(fr':List AV)(σ':St):Prop:=match e with
 | .normal=>∃ x',m x'<m x∧L0 fr' σ' (J x').1 (J x').2
 |e=>Q e fr' σ'
theorem Aen {fr:List AV}{σ:St}{K K':List AV→St→Prop}(hK:∀ f s,K f s→K' f s)(h:Dh P C ops fr σ K):Dh P C ops fr σ K':=by
 obtain⟨pl,h1,h2,h3,h4⟩:=h
 refine⟨pl,h1,h2,h3,?_⟩
 clear h1 h3
 generalize ([]:List Nat)=L at h4
 induction pl generalizing L fr σ with
 |done=>exact hK _ _ h4
 |det i p ih=>
  simp only[aPl]at h4 ⊢
  split at h4
  ·exact h4.elim
  ·refine By h4 (fun h=> ?_) (fun h=>ih _ h)
   unfold aDet at h ⊢
   split at h
   ·rename_i T x hl
    split at h
    ·exact ih _ h
    ·exact h.elim
   ·split at h
    ·exact⟨h.1,ih _ h.2⟩
    ·exact h.elim
 |act i p ih=>
  simp only[aPl]at h4 ⊢
  split at h4
  ·exact h4.elim
  ·exact By h4 (fun h=>Df h fun r s h=>ih _ h) (fun h=>ih _ h)
 |fin i p ih=>
  simp only[aPl]at h4 ⊢
  split at h4
  ·exact h4.elim
  ·exact By h4 (fun h=>Df h fun r s h=>ih _ h) (fun h=>ih _ h)
 |two i p j q ihp ihq=>
  simp only[aPl]at h4 ⊢
  obtain⟨h4,h5⟩:=h4
  constructor
  ·split at h4
   ·exact h4.elim
   ·exact By h4 (fun h=>Df h fun r s h=>ihp _ h) (fun h=>ihp _ h)
  ·split at h5
   ·exact h5.elim
   ·exact By h5 (fun h=>Df h fun r s h=>ihq _ h) (fun h=>ihq _ h)
 |three i p j q k r ihp ihq ihr=>
  simp only[aPl]at h4 ⊢
  obtain⟨h4,h5,h6⟩:=h4
  refine⟨?_,?_,?_⟩
  ·split at h4
   ·exact h4.elim
   ·exact By h4 (fun h=>Df h fun r s h=>ihp _ h) (fun h=>ihp _ h)
  ·split at h5
   ·exact h5.elim
   ·exact By h5 (fun h=>Df h fun r s h=>ihq _ h) (fun h=>ihq _ h)
  ·split at h6
   ·exact h6.elim
   ·exact By h6 (fun h=>Df h fun y s h=>ihr _ h) (fun h=>ihr _ h)
theorem L9 {K K':List AV→St→Prop}(hK:∀ f s,K f s→K' f s):∀ {os:List Oper} {fr:List AV} {σ:St},Fq P C ops os fr σ K→Fq P C ops os fr σ K'
 |[],fr,σ,h=>hK _ _ h
 |o::os,fr,σ,h=>by
  simp only[Fq]at h ⊢
  exact By h (fun h=>Df h fun r s h=>L9 hK h) (fun h=>L9 hK h)
theorem En:∀ {c:Code} {fr:List AV} {σ:St} {Q Q':Exit→List AV→St→Prop},(∀ e f s,Q e f s→Q' e f s)→AWp P C (Dh P C) c fr σ Q→AWp P C (Dh P C) c fr σ Q'
 | .skip,fr,σ,Q,Q',hQ,h=>hQ _ _ _ h
 | .exit id,fr,σ,Q,Q',hQ,h=>hQ _ _ _ h
 | .ret,fr,σ,Q,Q',hQ,h=>hQ _ _ _ h
 | .region id ops false,fr,σ,Q,Q',hQ,h=>by
   simp only[AWp]at h ⊢
   exact L9 (hQ .normal) h
 | .region id ops true,fr,σ,Q,Q',hQ,h=>by
   simp only[AWp]at h ⊢
   exact Aen (hQ .normal) h
 | .seq x y,fr,σ,Q,Q',hQ,h=>by
   simp only[AWp]at h ⊢
   refine En (c:=x) (fun e f s h=> ?_) h
   cases e with
   |normal=>exact En (c:=y) hQ h
   |_=>exact hQ _ _ _ h
 | .cond c x y,fr,σ,Q,Q',hQ,h=>by
   simp only[AWp]at h ⊢
   split at h
   ·exact⟨fun e=>En (c:=x) hQ (h.1 e),fun e=>En (c:=y) hQ (h.2 e)⟩
   ·exact h.elim
 | .block id c,fr,σ,Q,Q',hQ,h=>by
   simp only[AWp]at h ⊢
   refine En (c:=c) (fun e f s h=> ?_) h
   cases e with
   |exit id'=>
    simp only at h ⊢
    split at h
    ·rename_i hid;simp only[hid,if_true];exact hQ _ _ _ h
    ·rename_i hid;simp only[hid,if_false];exact hQ _ _ _ h
   |_=>exact hQ _ _ _ h
 | .loop c,fr,σ,Q,Q',hQ,h=>by
   simp only[AWp]at h ⊢
   obtain⟨X,J,m,x0,Y,K,h1,h2,h3,h4⟩:=h
   exact⟨X,J,m,x0,Y,K,h1,h2,fun y=>hQ _ _ _ (h3 y),h4⟩
 | .rangeFunc _ _ _ _,fr,σ,Q,Q',hQ,h=>by simp[AWp]at h
 | .scope _,fr,σ,Q,Q',hQ,h=>by simp[AWp]at h
 | .label _,fr,σ,Q,Q',hQ,h=>by simp[AWp]at h
 | .goto _,fr,σ,Q,Q',hQ,h=>by simp[AWp]at h
 | .refuse _,fr,σ,Q,Q',hQ,h=>by simp[AWp]at h
theorem O6 {c:Code}{X:Type}(J:X→List AV×St)(m:X→Nat)(x0:X)(h1:∀ x,σ.length≤(J x).2.length)(h2:L0 fr σ (J x0).1 (J x0).2)
 (h3:∀ x,AWp P C (Dh P C) c (J x).1 (J x).2 (Rl J m x Q)):AWp P C (Dh P C) (.loop c) fr σ Q:=by
 refine⟨X,J,m,x0,{ z:Exit×List AV×St // Q z.1 z.2.1 z.2.2 },fun y=>y.1,h1,h2,fun y=>y.2,fun x=>En (fun e f s h=> ?_) (h3 x)⟩
 cases e with
 |normal=>exact h
 |_=>exact⟨⟨(_,f,s),h⟩,rfl,.inl ⟨rfl,rfl⟩,.inl (QH _)⟩
theorem Rm {X:Type}{J:X→List AV×St}{m:X→Nat}{x:X}{id:Nat}:Rl J m x Q (.exit id) fr σ=Q (.exit id) fr σ:=nr rfl
theorem We {X:Type}{J:X→List AV×St}{m:X→Nat}{x:X}:Rl J m x Q .ret fr σ=Q .ret fr σ:=nr rfl
def retA (C:Ctx)(rs:List ResultVar)(n:Nat)(R:AV→St→Prop)(e:Exit)(fr':List AV)(σ':St):Prop:=
 (e= .ret∨e= .normal)∧∃ r0 r σ'',resA C rs fr' σ'=some r0∧L0 [r0] σ' [r] σ''∧n≤σ''.length∧R r σ''
theorem Ab {f:FuncId}{fn:Func}{c:Code}{args:List AV}{R:AV→St→Prop}{nt:Nat}{rs:List ResultVar}(hC:C.ok P)(hD:Ho P d)(hf:P.funcs[f]? =some fn)(hname:(fn.name== "runtime.NumGoroutine")=false)(hb:fn.body=some c)(hnt:fn.ntmps - args.length=nt)(hrs:fn.results.toList=rs)
 (h:AWp P C d c (args++List.replicate nt (.tup [])) σ (retA C rs σ.length R)):Aa P f args σ R:=by
 subst hrs
 exact Af1 hC hD hf hname hb hnt h
theorem Wg {dst:Option Tmp}{g:FuncId}{args:Array Operand}{ts:Array TypeId}{ty:TypeId}{pos:String}{after:Array Edge}{gd:Option (Nat×Bool)}{K:AV→St→Prop}:
 Bm P C ⟨dst,.call ⟨.value (.func g),args,ts⟩,ty,pos,after,gd⟩ fr σ K=Aa P g (args.toList.map (evA fr)) σ K:=by
 simp[Bm,H2,evA]
def dynA (P:Program)(f:AV)(args:List AV)(σ:St)(K:AV→St→Prop):Prop:=match f with
 | .fn g first cap=>Aa P g (first++args++cap) σ K
 |_=>False
theorem Aay {dst:Option Tmp}{t:Tmp}{args:Array Operand}{ts:Array TypeId}{ty:TypeId}{pos:String}{after:Array Edge}{gd:Option (Nat×Bool)}{K:AV→St→Prop}:
 Bm P C ⟨dst,.call ⟨.value (.tmp t),args,ts⟩,ty,pos,after,gd⟩ fr σ K=dynA P (evA fr (.tmp t)) (args.toList.map (evA fr)) σ K:=nr rfl
theorem Aaz {g:FuncId}{first cap args:List AV}{K:AV→St→Prop}:dynA P (.fn g first cap) args σ K=Aa P g (first++args++cap) σ K:=nr rfl
def Ct (C:Ctx)(pos:Option Tmp)(tk:Nat)(b:Builtin)(ts:List TypeId)(xs:List AV)(σ:St):Option (AV×St):=match b,ts,xs with
 | .append,[T,T'],[x,y]=>if C.muts.contains (keyM T pos)then (if T=T' then Da C tk T x y σ else none)else Dn C tk .append [T,T'] [x,y] σ
 | .copy,ts,xs=>Jt C .copy ts xs σ
 | .delete,ts,xs=>Jt C .delete ts xs σ
 |b,ts,xs=>Dn C tk b ts xs σ
theorem M8 {dst:Option Tmp}{b:Builtin}{args:Array Operand}{ts:Array TypeId}{ty:TypeId}{pos:String}{after:Array Edge}{gd:Option (Nat×Bool)}{K:AV→St→Prop}:
 Bm P C ⟨dst,.call ⟨.builtin b,args,ts⟩,ty,pos,after,gd⟩ fr σ K=B5 (Ct C dst σ.length b ts.toList (args.toList.map (evA fr)) σ) K:=by
 cases b
 all_goals first
  |rfl
  |(simp only[Bm,H2,opK,aopM,Ct,aop];done)
  |(simp only[Bm,H2,opK,aopM,Ct,aop]
    generalize ts.toList=tl
    generalize args.toList.map (evA fr)=xl
    rcases tl with _|⟨T,_|⟨T',_|⟨T3,tl⟩⟩⟩<;>rcases xl with _|⟨x,_|⟨y,_|⟨x3,xl⟩⟩⟩<;>rfl)
theorem Wh {dst:Option Tmp}{ty:TypeId}{pos:String}{after:Array Edge}{gd:Option (Nat×Bool)}{K:AV→St→Prop}{x:Operand}:Bm P C ⟨dst,.move x,ty,pos,after,gd⟩ fr σ K=K (evA fr x) σ:=nr rfl
theorem O7 {dst:Option Tmp}{ty:TypeId}{pos:String}{after:Array Edge}{gd:Option (Nat×Bool)}{K:AV→St→Prop}{x:Operand}:Bm P C ⟨dst,.assign x,ty,pos,after,gd⟩ fr σ K=K (evA fr x) σ:=nr rfl
theorem Wi {dst:Option Tmp}{ty:TypeId}{pos:String}{after:Array Edge}{gd:Option (Nat×Bool)}{K:AV→St→Prop}{c x y:Operand}:Bm P C ⟨dst,.pick c x y,ty,pos,after,gd⟩ fr σ K=B5 (aop C σ.length (.pick c x y) (evA fr) σ) K:=nr rfl
theorem Rn {dst:Option Tmp}{ty:TypeId}{pos:String}{after:Array Edge}{gd:Option (Nat×Bool)}{K:AV→St→Prop}{T:TypeId}:Bm P C ⟨dst,.alloc T,ty,pos,after,gd⟩ fr σ K=B5 (aop C σ.length (.alloc T) (evA fr) σ) K:=nr rfl
theorem Aa0 {dst:Option Tmp}{ty:TypeId}{pos:String}{after:Array Edge}{gd:Option (Nat×Bool)}{K:AV→St→Prop}{T:TypeId}{x:Operand}:Bm P C ⟨dst,.box T x,ty,pos,after,gd⟩ fr σ K=B5 (aop C σ.length (.box T x) (evA fr) σ) K:=nr rfl
theorem Ro {dst:Option Tmp}{ty:TypeId}{pos:String}{after:Array Edge}{gd:Option (Nat×Bool)}{K:AV→St→Prop}{T:TypeId}{ps:Array (Nat×Operand)}:Bm P C ⟨dst,.build T ps,ty,pos,after,gd⟩ fr σ K=B5 (aop C σ.length (.build T ps) (evA fr) σ) K:=nr rfl
theorem Hr {dst:Option Tmp}{ty:TypeId}{pos:String}{after:Array Edge}{gd:Option (Nat×Bool)}{K:AV→St→Prop}{T:TypeId}{n:Nat}{ps:Array (Nat×Operand)}:Bm P C ⟨dst,.buildSlice T n ps,ty,pos,after,gd⟩ fr σ K=B5 (aop C σ.length (.buildSlice T n ps) (evA fr) σ) K:=nr rfl
theorem Wj {dst:Option Tmp}{ty:TypeId}{pos:String}{after:Array Edge}{gd:Option (Nat×Bool)}{K:AV→St→Prop}{T:TypeId}{x:Operand}:Bm P C ⟨dst,.load T x,ty,pos,after,gd⟩ fr σ K=B5 (aop C σ.length (.load T x) (evA fr) σ) K:=nr rfl
theorem Rq {dst:Option Tmp}{ty:TypeId}{pos:String}{after:Array Edge}{gd:Option (Nat×Bool)}{K:AV→St→Prop}{T:TypeId}{x y:Operand}:Bm P C ⟨dst,.store T x y,ty,pos,after,gd⟩ fr σ K=B5 (aop C σ.length (.store T x y) (evA fr) σ) K:=nr rfl
theorem J6 {dst:Option Tmp}{ty:TypeId}{pos:String}{after:Array Edge}{gd:Option (Nat×Bool)}{K:AV→St→Prop}{x:Operand}:Bm P C ⟨dst,.nilCheck x,ty,pos,after,gd⟩ fr σ K=B5 (aop C σ.length (.nilCheck x) (evA fr) σ) K:=nr rfl
theorem Rr {dst:Option Tmp}{ty:TypeId}{pos:String}{after:Array Edge}{gd:Option (Nat×Bool)}{K:AV→St→Prop}{op:BinOp}{T:TypeId}{x y:Operand}{T':TypeId}:Bm P C ⟨dst,.binOp op T x y T',ty,pos,after,gd⟩ fr σ K=B5 (aop C σ.length (.binOp op T x y T') (evA fr) σ) K:=nr rfl
theorem Wk {dst:Option Tmp}{ty:TypeId}{pos:String}{after:Array Edge}{gd:Option (Nat×Bool)}{K:AV→St→Prop}{op:UnOp}{T:TypeId}{x:Operand}:Bm P C ⟨dst,.unOp op T x,ty,pos,after,gd⟩ fr σ K=B5 (aop C σ.length (.unOp op T x) (evA fr) σ) K:=nr rfl
theorem M9 {dst:Option Tmp}{ty:TypeId}{pos:String}{after:Array Edge}{gd:Option (Nat×Bool)}{K:AV→St→Prop}{S T:TypeId}{x:Operand}:Bm P C ⟨dst,.convert S T x,ty,pos,after,gd⟩ fr σ K=B5 (aop C σ.length (.convert S T x) (evA fr) σ) K:=nr rfl
theorem J7 {dst:Option Tmp}{ty:TypeId}{pos:String}{after:Array Edge}{gd:Option (Nat×Bool)}{K:AV→St→Prop}{f:Fn}{us vs:Array Operand}:Bm P C ⟨dst,.makeFunc f us vs,ty,pos,after,gd⟩ fr σ K=B5 (aop C σ.length (.makeFunc f us vs) (evA fr) σ) K:=nr rfl
theorem It {dst:Option Tmp}{ty:TypeId}{pos:String}{after:Array Edge}{gd:Option (Nat×Bool)}{K:AV→St→Prop}{T:TypeId}{l c:Operand}:Bm P C ⟨dst,.makeSlice T l c,ty,pos,after,gd⟩ fr σ K=B5 (mkM C dst σ.length T l c (evA fr) σ) K:=nr rfl
theorem Arx {pos:Option Tmp}{tk:Nat}{T:TypeId}{l c:Operand}{ρ:Operand→AV}(h:C.muts.contains (keyM T pos)=false):mkM C pos tk T l c ρ σ=aop C tk (.makeSlice T l c) ρ σ:=by simp only[mkM,h,XB,if_false]
theorem Ank {pos:Option Tmp}{tk:Nat}{T:TypeId}{l c:Operand}{ρ:Operand→AV}(h:C.muts.contains (keyM T pos)=true):mkM C pos tk T l c ρ σ=Su C true tk T l c ρ σ:=by simp only[mkM,h,if_true]
theorem Na {dst:Option Tmp}{ty:TypeId}{pos:String}{after:Array Edge}{gd:Option (Nat×Bool)}{K:AV→St→Prop}{T:TypeId}{x:Option Operand}:Bm P C ⟨dst,.makeMap T x,ty,pos,after,gd⟩ fr σ K=B5 (aop C σ.length (.makeMap T x) (evA fr) σ) K:=nr rfl
theorem O8 {dst:Option Tmp}{ty:TypeId}{pos:String}{after:Array Edge}{gd:Option (Nat×Bool)}{K:AV→St→Prop}{T:TypeId}{x i:Operand}{ok:Bool}:Bm P C ⟨dst,.lookup T x i ok,ty,pos,after,gd⟩ fr σ K=B5 (aop C σ.length (.lookup T x i ok) (evA fr) σ) K:=nr rfl
theorem Iu {dst:Option Tmp}{ty:TypeId}{pos:String}{after:Array Edge}{gd:Option (Nat×Bool)}{K:AV→St→Prop}{T:TypeId}{m k x:Operand}:Bm P C ⟨dst,.mapUpdate T m k x,ty,pos,after,gd⟩ fr σ K=B5 (aop C σ.length (.mapUpdate T m k x) (evA fr) σ) K:=nr rfl
theorem Rs {dst:Option Tmp}{ty:TypeId}{pos:String}{after:Array Edge}{gd:Option (Nat×Bool)}{K:AV→St→Prop}{T:TypeId}{x:Operand}{lo hi mx:Option Operand}:Bm P C ⟨dst,.slice T x lo hi mx,ty,pos,after,gd⟩ fr σ K=B5 (aop C σ.length (.slice T x lo hi mx) (evA fr) σ) K:=nr rfl
theorem Iv {dst:Option Tmp}{ty:TypeId}{pos:String}{after:Array Edge}{gd:Option (Nat×Bool)}{K:AV→St→Prop}{T:TypeId}{x:Operand}{k:Nat}:Bm P C ⟨dst,.fieldAddr T x k,ty,pos,after,gd⟩ fr σ K=B5 (aop C σ.length (.fieldAddr T x k) (evA fr) σ) K:=nr rfl
theorem Rt {dst:Option Tmp}{ty:TypeId}{pos:String}{after:Array Edge}{gd:Option (Nat×Bool)}{K:AV→St→Prop}{T:TypeId}{x:Operand}{k:Nat}:Bm P C ⟨dst,.field T x k,ty,pos,after,gd⟩ fr σ K=B5 (aop C σ.length (.field T x k) (evA fr) σ) K:=nr rfl
theorem Iw {dst:Option Tmp}{ty:TypeId}{pos:String}{after:Array Edge}{gd:Option (Nat×Bool)}{K:AV→St→Prop}{T:TypeId}{x i:Operand}:Bm P C ⟨dst,.indexAddr T x i,ty,pos,after,gd⟩ fr σ K=B5 (aop C σ.length (.indexAddr T x i) (evA fr) σ) K:=nr rfl
theorem Ru {dst:Option Tmp}{ty:TypeId}{pos:String}{after:Array Edge}{gd:Option (Nat×Bool)}{K:AV→St→Prop}{T:TypeId}{x i:Operand}:Bm P C ⟨dst,.index T x i,ty,pos,after,gd⟩ fr σ K=B5 (aop C σ.length (.index T x i) (evA fr) σ) K:=nr rfl
theorem Nb {dst:Option Tmp}{ty:TypeId}{pos:String}{after:Array Edge}{gd:Option (Nat×Bool)}{K:AV→St→Prop}{x:Operand}{k:Nat}:Bm P C ⟨dst,.extract x k,ty,pos,after,gd⟩ fr σ K=B5 (aop C σ.length (.extract x k) (evA fr) σ) K:=nr rfl
theorem Anl {t:Tmp}:evA fr (.tmp t)=fr.getD t (.tup []):=nr rfl
theorem Agb {b:Bool}:evA fr (.const (.bool b))= .p (.v (.bool b)):=nr rfl
theorem Anm {k:IntKind}{n:Int}:evA fr (.const (.int k n))= .p (.v (.int k n)):=nr rfl
theorem Ann {s:ByteArray}:evA fr (.const (.string s))= .p (.v (.string s)):=nr rfl
theorem O9:evA fr (.const (.slice none 0 0))= .p (.v (.slice none 0 0)):=nr rfl
theorem Wl:evA fr (.const (.pointer none))= .p (.v (.pointer none)):=nr rfl
theorem Agc {f:FuncId}:evA fr (.func f)= .fn f [] []:=nr rfl
theorem Aa1 {T d:Nat}:keyM T (some d)=T*100000+d:=nr rfl
theorem Wm {pos:Option Tmp}{tk:Nat}{T:TypeId}{x y:AV}(h:C.muts.contains (keyM T pos)=false):Ct C pos tk .append [T,T] [x,y] σ=A2 C tk T x y σ:=by simp only[Ct,h,XB,if_false,Dn,if_true]
theorem Ma {pos:Option Tmp}{tk:Nat}{T T':TypeId}{x y:AV}(h:C.muts.contains (keyM T pos)=false)(ht:T≠T'):Ct C pos tk .append [T,T'] [x,y] σ=Gm C tk T T' x y σ:=by simp only[Ct,h,XB,if_false,Dn,if_neg ht]
theorem Agd {tk:Nat}{T T':TypeId}{x:AV}{s:ByteArray}(h:C.kind T'=some .str):Gm C tk T T' x (.p (.v (.string s))) σ=A2 C tk T x (.p (.sl 1 (G9 s))) σ:=by simp only[Gm,h]
theorem Age {tk:Nat}{T T' E es eb:Nat}{ez:List Value}{k k':IntKind}{n:Nat}(hT:C.kind T=some (.slice E es eb ez))(h:C.kind T'=some (.int k'))(h0:0<n)(h1:eb*n≤140737488355328)(h2:n≤maxLen):
 Gm C tk T T' Sq (.p (.v (.int k (n:Int)))) σ=some (.raw tk es n,σ.put tk (.right E 0)):=by
 have h1':(eb:Int)*(n:Int)≤140737488355328:=by omega
 have hi:Hi (.p (.v (.int k (n:Int))))=some (k,(n:Int)):=rfl
 simp only[Gm,h,Oj,hT,Sq,hi]
 rw[if_pos ⟨by omega,h1',by omega⟩]
 simp
theorem Ano {pos:Option Tmp}{tk:Nat}{T E es eb:Nat}{ez:List Value}(hT:C.kind T=some (.slice E es eb ez)):Ct C pos tk .cap [T] [Sq] σ=some (Ad .i64 0,σ):=by simp only[Ct,Dn,hT,Sq]
theorem Agf {T E es eb t k:Nat}{ez:List Value}{kk:IntKind}(hT:C.kind T=some (.slice E es eb ez)):Bl C T (.raw t es k) none (some (.p (.v (.int kk 0))))=some (.own t es []):=by
 simp[Bl,hT,Bp,Bh,Hi]
theorem Rv {pos:Option Tmp}{tk:Nat}{T:TypeId}{x y:AV}(h:C.muts.contains (keyM T pos)=true):Ct C pos tk .append [T,T] [x,y] σ=Da C tk T x y σ:=by simp only[Ct,h,if_true]
theorem Anp {pos:Option Tmp}{tk:Nat}{T:TypeId}{x:AV}:Ct C pos tk .len [T] [x] σ=(Ba C T x).map fun (n:Nat)=>(Ad .i64 (n:Int),σ):=nr rfl
theorem Anq {pos:Option Tmp}{tk:Nat}{ts:List TypeId}{k k':IntKind}{n m:Int}:Ct C pos tk .min ts [.p (.v (.int k n)),.p (.v (.int k' m))] σ=some (Ad k (if m<n then m else n),σ):=nr rfl
theorem Anr {pos:Option Tmp}{tk:Nat}{ts:List TypeId}{k k':IntKind}{n m:Int}:Ct C pos tk .max ts [.p (.v (.int k n)),.p (.v (.int k' m))] σ=some (Ad k (if m>n then m else n),σ):=nr rfl
def Pa (P:Program)(C:Ctx)(ops:Array Oper)(o:Oper)(p:Cq)(L:List Nat)(fr:List AV)(σ:St)(K:List AV→St→Prop):Prop:=aDet C o L fr σ fun L' r=>aPl P C ops p L' (D7 fr o.dst r) σ K
def Pb (P:Program)(C:Ctx)(ops:Array Oper)(y:Option (Option Bool))(want:Bool)(o:Oper)(p:Cq)(L:List Nat)(fr:List AV)(σ:St)(K:List AV→St→Prop):Prop:=match y with
 |some (some b)=>(b=want→Pa P C ops o p L fr σ K)∧(b= !want→aPl P C ops p L (D7 fr o.dst (.tup [])) σ K)
 |some none=>aPl P C ops p L (D7 fr o.dst (.tup [])) σ K
 |none=>False
def detK (P:Program)(C:Ctx)(ops:Array Oper)(oo:Option Oper)(p:Cq)(L:List Nat)(fr:List AV)(σ:St)(K:List AV→St→Prop):Prop:=match oo with
 |none=>False
 |some o=>Cg ops o fr (Pa P C ops o p L fr σ K) (aPl P C ops p L (D7 fr o.dst (.tup [])) σ K)
def Aeo (P:Program)(C:Ctx)(ops:Array Oper)(p:Cq)(L:List Nat)(dst:Option Tmp)(fr:List AV)(σ:St)(K:List AV→St→Prop)(r:AV)(σ':St):Prop:=aPl P C ops p L (D7 fr dst r) (Bu L σ σ') K
def Q0 (P:Program)(C:Ctx)(ops:Array Oper)(y:Option (Option Bool))(want:Bool)(o:Oper)(p:Cq)(L:List Nat)(fr:List AV)(σ:St)(K:List AV→St→Prop):Prop:=match y with
 |some (some b)=>(b=want→Bm P C o fr (Em L σ) (Aeo P C ops p L o.dst fr σ K))∧(b= !want→aPl P C ops p L (D7 fr o.dst (.tup [])) σ K)
 |some none=>aPl P C ops p L (D7 fr o.dst (.tup [])) σ K
 |none=>False
def actK (P:Program)(C:Ctx)(ops:Array Oper)(oo:Option Oper)(p:Cq)(L:List Nat)(fr:List AV)(σ:St)(K:List AV→St→Prop):Prop:=match oo with
 |none=>False
 |some o=>Cg ops o fr (Bm P C o fr (Em L σ) (Aeo P C ops p L o.dst fr σ K)) (aPl P C ops p L (D7 fr o.dst (.tup [])) σ K)
def ldK (P:Program)(C:Ctx)(ops:Array Oper)(v:Option AV)(ad:AV)(dst:Option Tmp)(p:Cq)(L:List Nat)(fr:List AV)(σ:St)(K:List AV→St→Prop):Prop:=match v with
 |some v=>aPl P C ops p (Zb ad++L) (D7 fr dst v) σ K
 |none=>False
def stK (P:Program)(C:Ctx)(ops:Array Oper)(x:Option (AV×St))(dst:Option Tmp)(p:Cq)(L:List Nat)(fr:List AV)(σ:St)(K:List AV→St→Prop):Prop:=match x with
 |some (r,s)=>s=σ∧aPl P C ops p L (D7 fr dst r) σ K
 |none=>False
section
variable {p q:Cq} {L:List Nat} {dst:Option Tmp} {ty:TypeId} {pos:String} {after:Array Edge} {op:Op} {j i:Nat} {want:Bool} {o:Oper} {gd:Option (Nat×Bool)}
theorem Agg:aPl P C ops .done L fr σ K=K fr σ:=nr rfl
theorem Ans:aPl P C ops (.det i p) L fr σ K=detK P C ops ops[i]? p L fr σ K:=by rw[aPl];cases ops[i]? <;>rfl
theorem Ant:aPl P C ops (.act i p) L fr σ K=actK P C ops ops[i]? p L fr σ K:=by rw[aPl];cases ops[i]? <;>rfl
theorem Anu:aPl P C ops (.fin i p) L fr σ K=actK P C ops ops[i]? p [] fr σ K:=by rw[aPl];cases ops[i]? <;>rfl
theorem Anv:aPl P C ops (.two i p j q) L fr σ K=(actK P C ops ops[i]? p L fr σ K∧actK P C ops ops[j]? q L fr σ K):=by rw[aPl];cases ops[i]? <;>cases ops[j]? <;>rfl
theorem Aa2 {k:Nat}{r:Cq}:aPl P C ops (.three i p j q k r) L fr σ K=(actK P C ops ops[i]? p L fr σ K∧actK P C ops ops[j]? q L fr σ K∧actK P C ops ops[k]? r L fr σ K):=by rw[aPl];cases ops[i]? <;>cases ops[j]? <;>cases ops[k]? <;>rfl
theorem Nz:detK P C ops (some ⟨dst,op,ty,pos,after,none⟩) p L fr σ K=Pa P C ops ⟨dst,op,ty,pos,after,none⟩ p L fr σ K:=nr rfl
theorem N0:detK P C ops (some ⟨dst,op,ty,pos,after,some (j,want)⟩) p L fr σ K=Pb P C ops (M6 ops fr j) want ⟨dst,op,ty,pos,after,some (j,want)⟩ p L fr σ K:=nr rfl
theorem N1:actK P C ops (some ⟨dst,op,ty,pos,after,none⟩) p L fr σ K=Bm P C ⟨dst,op,ty,pos,after,none⟩ fr (Em L σ) (Aeo P C ops p L dst fr σ K):=nr rfl
theorem N2:actK P C ops (some ⟨dst,op,ty,pos,after,some (j,want)⟩) p L fr σ K=Q0 P C ops (M6 ops fr j) want ⟨dst,op,ty,pos,after,some (j,want)⟩ p L fr σ K:=nr rfl
theorem Ary:Pb P C ops (some (some true)) true o p L fr σ K=Pa P C ops o p L fr σ K:=by simp[Pb]
theorem Arz:Pb P C ops (some (some false)) false o p L fr σ K=Pa P C ops o p L fr σ K:=by simp[Pb]
theorem Ar0:Pb P C ops (some (some true)) false o p L fr σ K=aPl P C ops p L (D7 fr o.dst (.tup [])) σ K:=by simp[Pb]
theorem Ar1:Pb P C ops (some (some false)) true o p L fr σ K=aPl P C ops p L (D7 fr o.dst (.tup [])) σ K:=by simp[Pb]
theorem Ar2:Pb P C ops (some none) want o p L fr σ K=aPl P C ops p L (D7 fr o.dst (.tup [])) σ K:=nr rfl
theorem Ar3:Q0 P C ops (some (some true)) true o p L fr σ K=Bm P C o fr (Em L σ) (Aeo P C ops p L o.dst fr σ K):=by simp[Q0]
theorem Ar4:Q0 P C ops (some (some false)) false o p L fr σ K=Bm P C o fr (Em L σ) (Aeo P C ops p L o.dst fr σ K):=by simp[Q0]
theorem Ar5:Q0 P C ops (some (some true)) false o p L fr σ K=aPl P C ops p L (D7 fr o.dst (.tup [])) σ K:=by simp[Q0]
theorem Ar6:Q0 P C ops (some (some false)) true o p L fr σ K=aPl P C ops p L (D7 fr o.dst (.tup [])) σ K:=by simp[Q0]
theorem Ar7:Q0 P C ops (some none) want o p L fr σ K=aPl P C ops p L (D7 fr o.dst (.tup [])) σ K:=nr rfl
theorem Anw {r:AV}{σ':St}:Aeo P C ops p L dst fr σ K r σ'=aPl P C ops p L (D7 fr dst r) (Bu L σ σ') K:=nr rfl
theorem Agh {v ad:AV}:ldK P C ops (some v) ad dst p L fr σ K=aPl P C ops p (Zb ad++L) (D7 fr dst v) σ K:=nr rfl
theorem Agi {r:AV}:stK P C ops (some (r,σ)) dst p L fr σ K=aPl P C ops p L (D7 fr dst r) σ K:=by simp[stK]
theorem Agj {T:TypeId}{x:Operand}:Pa P C ops ⟨dst,.load T x,ty,pos,after,gd⟩ p L fr σ K=ldK P C ops (loadT C T (evA fr x) σ) (evA fr x) dst p L fr σ K:=nr rfl
theorem Anx {t e i o:Nat}:Zb (.mp t e i o)=[t]:=nr rfl
theorem Anz {c:List PV}{o:Nat}:Zb (.ip c o)=[]:=nr rfl
theorem Aa3:Em [] σ=σ:=nr rfl
theorem Wn {t:Nat}:Em (t::L) σ=Em L (σ.set t none):=nr rfl
theorem Agk {x:Operand}:Pa P C ops ⟨dst,.move x,ty,pos,after,gd⟩ p L fr σ K=stK P C ops (aop C σ.length (.move x) (evA fr) σ) dst p L fr σ K:=nr rfl
theorem Wo {x:Operand}:Pa P C ops ⟨dst,.assign x,ty,pos,after,gd⟩ p L fr σ K=stK P C ops (aop C σ.length (.assign x) (evA fr) σ) dst p L fr σ K:=nr rfl
theorem Agl {c x y:Operand}:Pa P C ops ⟨dst,.pick c x y,ty,pos,after,gd⟩ p L fr σ K=stK P C ops (aop C σ.length (.pick c x y) (evA fr) σ) dst p L fr σ K:=nr rfl
theorem Aa4 {T:TypeId}{ps:Array (Nat×Operand)}:Pa P C ops ⟨dst,.build T ps,ty,pos,after,gd⟩ p L fr σ K=stK P C ops (aop C σ.length (.build T ps) (evA fr) σ) dst p L fr σ K:=nr rfl
theorem Pd {x:Operand}:Pa P C ops ⟨dst,.nilCheck x,ty,pos,after,gd⟩ p L fr σ K=stK P C ops (aop C σ.length (.nilCheck x) (evA fr) σ) dst p L fr σ K:=nr rfl
theorem Aa5 {op:BinOp}{T:TypeId}{x y:Operand}{T':TypeId}:Pa P C ops ⟨dst,.binOp op T x y T',ty,pos,after,gd⟩ p L fr σ K=stK P C ops (aop C σ.length (.binOp op T x y T') (evA fr) σ) dst p L fr σ K:=nr rfl
theorem Agm {op:UnOp}{T:TypeId}{x:Operand}:Pa P C ops ⟨dst,.unOp op T x,ty,pos,after,gd⟩ p L fr σ K=stK P C ops (aop C σ.length (.unOp op T x) (evA fr) σ) dst p L fr σ K:=nr rfl
theorem Rx {S T:TypeId}{x:Operand}:Pa P C ops ⟨dst,.convert S T x,ty,pos,after,gd⟩ p L fr σ K=stK P C ops (aop C σ.length (.convert S T x) (evA fr) σ) dst p L fr σ K:=nr rfl
theorem Pe {f:Fn}{us vs:Array Operand}:Pa P C ops ⟨dst,.makeFunc f us vs,ty,pos,after,gd⟩ p L fr σ K=stK P C ops (aop C σ.length (.makeFunc f us vs) (evA fr) σ) dst p L fr σ K:=nr rfl
theorem Aa6 {T:TypeId}{x:Operand}{lo hi mx:Option Operand}:Pa P C ops ⟨dst,.slice T x lo hi mx,ty,pos,after,gd⟩ p L fr σ K=stK P C ops (aop C σ.length (.slice T x lo hi mx) (evA fr) σ) dst p L fr σ K:=nr rfl
theorem Nc {T:TypeId}{x:Operand}{k:Nat}:Pa P C ops ⟨dst,.fieldAddr T x k,ty,pos,after,gd⟩ p L fr σ K=stK P C ops (aop C σ.length (.fieldAddr T x k) (evA fr) σ) dst p L fr σ K:=nr rfl
theorem Aa7 {T:TypeId}{x:Operand}{k:Nat}:Pa P C ops ⟨dst,.field T x k,ty,pos,after,gd⟩ p L fr σ K=stK P C ops (aop C σ.length (.field T x k) (evA fr) σ) dst p L fr σ K:=nr rfl
theorem Nf {T:TypeId}{x i:Operand}:Pa P C ops ⟨dst,.indexAddr T x i,ty,pos,after,gd⟩ p L fr σ K=stK P C ops (aop C σ.length (.indexAddr T x i) (evA fr) σ) dst p L fr σ K:=nr rfl
theorem Aa8 {T:TypeId}{x i:Operand}:Pa P C ops ⟨dst,.index T x i,ty,pos,after,gd⟩ p L fr σ K=stK P C ops (aop C σ.length (.index T x i) (evA fr) σ) dst p L fr σ K:=nr rfl
theorem Ry {x:Operand}{k:Nat}:Pa P C ops ⟨dst,.extract x k,ty,pos,after,gd⟩ p L fr σ K=stK P C ops (aop C σ.length (.extract x k) (evA fr) σ) dst p L fr σ K:=nr rfl
theorem Agn {c:Call}:Pa P C ops ⟨dst,.call c,ty,pos,after,gd⟩ p L fr σ K=stK P C ops (aop C σ.length (.call c) (evA fr) σ) dst p L fr σ K:=nr rfl
end
theorem Dv {T E es eb e:Nat}{ez:List Value}{ls:List (List PV)}(h:C.kind T=some (.slice E es eb ez)):Ba C T (.p (.sl e ls))=some ls.length:=by simp[Ba,h,Bp]
theorem C0 {T E es eb t e:Nat}{ez:List Value}{ls:List (List PV)}(h:C.kind T=some (.slice E es eb ez)):Ba C T (.own t e ls)=some ls.length:=by simp[Ba,h,Bp]
theorem Cb {T E es eb t e:Nat}{ez:List Value}{ls:List (List PV)}(h:C.kind T=some (.slice E es eb ez)):Ba C T (.nown t e ls)=some ls.length:=by simp[Ba,h,Bp]
theorem len_nil {T E es eb:Nat}{ez:List Value}(h:C.kind T=some (.slice E es eb ez)):Ba C T (.p (.v (.slice none 0 0)))=some 0:=by simp[Ba,h,Bp]
theorem Dw {T E es eb t e i n:Nat}{ez:List Value}(h:C.kind T=some (.slice E es eb ez)):Ba C T (.ms t e i n)=some n:=by simp[Ba,h,Bp]
theorem Ago {T:Nat}{s:ByteArray}(h:C.kind T=some .str):Ba C T (.p (.v (.string s)))=some s.size:=by simp[Ba,h]
theorem wrap_i64 {n:Int}(h1: -9223372036854775808≤n)(h2:n≤9223372036854775807):IntKind.i64.wrap n=n:=IntWalk.i64_in _ (by omega)
theorem Ar8 {e:Nat}{ls:List (List PV)}:Bp (.p (.sl e ls))=some (e,ls):=nr rfl
theorem An0 {t e:Nat}{ls:List (List PV)}:Bp (.own t e ls)=some (e,ls):=nr rfl
theorem Agp {t e:Nat}{ls:List (List PV)}:Bp (.nown t e ls)=some (e,ls):=nr rfl
theorem Ar9 {k:IntKind}{n:Int}:Hi (.p (.v (.int k n)))=some (k,n):=nr rfl
theorem Agq:Fx (.p (.v (.slice none 0 0)))=some true:=nr rfl
theorem Agr {ad:Addr}{c:Nat}:Fx (.p (.v (.slice (some ad) 0 c)))=some false:=nr rfl
theorem An1 {e:Nat}{c:List PV}{ls:List (List PV)}:Fx (.p (.sl e (c::ls)))=some false:=nr rfl
theorem An2 {t e i n:Nat}:Fx (.ms t e i n)=some false:=nr rfl
theorem Ags {t e:Nat}{ls:List (List PV)}:Fx (.own t e ls)=some false:=nr rfl
theorem Aa9 {t e:Nat}{ls:List (List PV)}:Fx (.nown t e ls)=some ls.isEmpty:=nr rfl
theorem Agt {ti:TI}{c:List PV}{o:Nat}:Hc ti (.ip c o) σ=I1 ti.row ti.size o (c.map .p):=nr rfl
theorem Agu {ti:TI}{t e i o:Nat}:Hc ti (.mp t e i o) σ=match σ[t]? with
 |some (some (.row e' ls))=>if e'=e then match ls[i]? with
   |some c=>I1 ti.row ti.size o c
   |none=>none
  else none
 |_=>none:=nr rfl
theorem Aba {s off:Nat}{l:List AV}:I1 false s off l=l[off]? :=nr rfl
theorem Abb {s off:Nat}{l:List AV}:I1 true s off l=if off=0∧s=l.length then some (.agg l)else if off+s≤l.length then some (.agg ((l.drop off).take s))else none:=nr rfl
theorem Agv {x:PV}:Cu (.p x)=some [.p x]:=nr rfl
theorem Wp {t e:Nat}{ls:List (List PV)}:Cu (.own t e ls)=some [.own t e ls]:=nr rfl
theorem Rz {t e:Nat}{ls:List (List PV)}:Cu (.nown t e ls)=some [.nown t e ls]:=nr rfl
theorem Abc {t e i o:Nat}:Cu (.mp t e i o)=some [.mp t e i o]:=nr rfl
theorem Abd {t e i o n:Nat}:Cu (.bs t e i o n)=some [.bs t e i o n]:=nr rfl
theorem Wq {T:TypeId}{a:AV}:Cu (.dyn T a)=some [.dyn T a]:=nr rfl
theorem Abe {t e i n:Nat}:Cu (.ms t e i n)=some [.ms t e i n]:=nr rfl
theorem R1 {t:Nat}:Cu (.mmap t)=some [.mmap t]:=nr rfl
theorem Abf {c:List PV}{o:Nat}:Cu (.ip c o)=some [.ip c o]:=nr rfl
theorem Wr {l:List AV}:Cu (.agg l)=some l:=nr rfl
theorem Abg {f:FuncId}{us vs:List AV}:Cu (.fn f us vs)=some [.fn f us vs]:=nr rfl
theorem Abh {ti:TI}{t e i o:Nat}{x:AV}:Q7 ti (.mp t e i o) x σ=match Cu x with
 |some m=>(match σ[t]? with
  |some (some (.row e' ls))=>if e'=e∧m.length=ti.size then match ls[i]? with
    |some c=>if o+m.length≤c.length then some (σ.set t (some (.row e' (ls.set i (C9 c o m)))))else none
    |none=>none
   else none
  |_=>none)
 |none=>none:=by
 unfold Q7
 cases Cu x<;>rfl
theorem Abi {dst:Option Tmp}{x:Operand}{name:String}{args:Array Operand}{ts:Array TypeId}{ty:TypeId}{pos:String}{after:Array Edge}{gd:Option (Nat×Bool)}{K:AV→St→Prop}:
 Bm P C ⟨dst,.call ⟨.invoke x name,args,ts⟩,ty,pos,after,gd⟩ fr σ K=aInv P C (evA fr x) name (args.toList.map (evA fr)) σ K:=nr rfl
def Aep (P:Program)(f:FuncId)(x:Option AV)(args:List AV)(σ:St)(K:AV→St→Prop):Prop:=match x with
 |some r=>Aa P f (r::args) σ K
 |none=>False
theorem Ws {f:FuncId}{r:AV}{args:List AV}{K:AV→St→Prop}:Aep P f (some r) args σ K=Aa P f (r::args) σ K:=nr rfl
theorem Agw {T:TypeId}{a:AV}{name:String}{f:FuncId}{args:List AV}{K:AV→St→Prop}(h:C.meth T name=some (f,none)):aInv P C (.dyn T a) name args σ K=Aa P f (a::args) σ K:=by simp only[aInv,h]
theorem Zd {T E:TypeId}{ti:TI}{a:AV}{name:String}{f:FuncId}{args:List AV}{K:AV→St→Prop}(h:C.meth T name=some (f,some E))(h2:C.ty E=some ti):aInv P C (.dyn T a) name args σ K=Aep P f (Hc ti a σ) args σ K:=by
 simp only[aInv,h,h2,Aep]
 cases Hc ti a σ<;>rfl
theorem Abj {dst:Option Tmp}{T:TypeId}{x:Operand}{ty:TypeId}{pos:String}{after:Array Edge}{gd:Option (Nat×Bool)}{K:AV→St→Prop}:
 Bm P C ⟨dst,.makeInterface T x,ty,pos,after,gd⟩ fr σ K=B5 ((mkIA C T (evA fr x)).map fun a=>(a,σ)) K:=nr rfl
theorem Abk {dst:Option Tmp}{S T:TypeId}{ok:Bool}{x:Operand}{ty:TypeId}{pos:String}{after:Array Edge}{gd:Option (Nat×Bool)}{K:AV→St→Prop}:
 Bm P C ⟨dst,.typeAssert x S T ok,ty,pos,after,gd⟩ fr σ K=B5 ((asIA C T ok (evA fr x)).map fun a=>(a,σ)) K:=nr rfl
theorem Wt {dst:Option Tmp}{T:TypeId}{x:Operand}{ty:TypeId}{pos:String}{after:Array Edge}{gd:Option (Nat×Bool)}{K:AV→St→Prop}:
 Bm P C ⟨dst,.sliceToArrayPointer T x,ty,pos,after,gd⟩ fr σ K=B5 ((Y4 C T (evA fr x)).map fun a=>(a,σ)) K:=nr rfl
theorem Ng {T:TypeId}{x:AV}(h:C.kind T=some .ptr):mkIA C T x=some (.dyn T x):=by simp only[mkIA,h]
theorem Nh {T:TypeId}{a:AV}(h:C.kind T=some .ptr):asIA C T false (.dyn T a)=some a:=by simp[asIA,h]
theorem An3 {T t e i o n m:Nat}(h:C.kind T=some (.barr m)):Y4 C T (.bs t e i o n)=if m≤n then some (.mp t e i o)else none:=by simp only[Y4,h]
theorem Agx {pos:Option Tmp}{tk:Nat}{T T':TypeId}{x y:AV}:Ct C pos tk .copy [T,T'] [x,y] σ=Qv C T x y σ:=nr rfl
theorem Wu {pos:Option Tmp}{tk:Nat}{T T':TypeId}{x y:AV}:Ct C pos tk .delete [T,T'] [x,y] σ=Ly C T x y σ:=nr rfl
theorem Ef {T E es eb t e i o n:Nat}{ez:List Value}(h:C.kind T=some (.slice E es eb ez)):Ba C T (.bs t e i o n)=some n:=by simp[Ba,h,Bp]
theorem Wv {T m:Nat}{x:AV}{lo hi:Option AV}(h:C.kind T=some (.barr m)):Bl C T x lo hi=match x,Bh lo 0,Bh hi m with
 | .mp t e i o,some l,some h=>if 0≤l∧l<h∧h≤m then some (.bs t e i (o+l.toNat) (h.toNat - l.toNat))else none
 |_,_,_=>none:=by
 unfold Bl
 rw[h]
 cases x<;>first|rfl|(cases Bh lo 0<;>cases Bh hi m<;>rfl)
def nilP (k:Option TK)(n:Option Bool)(neg:Bool):Option AV:=match k,n with
 |some .ptr,some b=>some (Av (if neg then !b else b))
 |_,_=>none
theorem Abl {T:TypeId}{x:AV}:Fp C .eql T x (.p (.v (.pointer none)))=nilP (C.kind T) (Jp x) false:=by
 rcases hk:C.kind T with _|k
 ·unfold Fp nilP;split<;>simp_all
 ·rcases hn:Jp x with _|b
  ·cases k<;>(unfold Fp nilP;split<;>simp_all)
  ·cases k<;>cases b<;>(unfold Fp nilP;split<;>simp_all)
theorem Abm {T:TypeId}{x:AV}:Fp C .neq T x (.p (.v (.pointer none)))=nilP (C.kind T) (Jp x) true:=by
 rcases hk:C.kind T with _|k
 ·unfold Fp nilP;split<;>simp_all
 ·rcases hn:Jp x with _|b
  ·cases k<;>(unfold Fp nilP;split<;>simp_all)
  ·cases k<;>cases b<;>(unfold Fp nilP;split<;>simp_all)
theorem An4 {b:Bool}:nilP (some .ptr) (some b) false=some (Av b):=nr rfl
theorem An5 {b:Bool}:nilP (some .ptr) (some b) true=some (Av (!b)):=nr rfl
theorem Asa {t e i o:Nat}:Jp (.mp t e i o)=some false:=nr rfl
theorem An6:Jp (.p (.v (.pointer none)))=some true:=nr rfl
theorem Agy {n:Nat}{T:TypeId}{a:AV}:A0 n (.dyn T a)=A0 n a:=by simp only[A0]
theorem An7 {m t e i o n:Nat}:A0 m (.bs t e i o n)=decide (t<m):=by simp only[A0]
theorem Agz {m:Nat}{l:List AV}:A0 m (.agg l)=Ci m l:=by simp only[A0]
theorem Ag0 {m:Nat}{l:List AV}:A0 m (.tup l)=Ci m l:=by simp only[A0]
theorem Abn {T:TypeId}{a:AV}:leaf (.dyn T a)=true:=nr rfl
theorem Ag1 {t e i o n:Nat}:leaf (.bs t e i o n)=true:=nr rfl
theorem An8 {e:Nat}{x:PV}:Lx σ e (.p x)=Ey e (.p x):=nr rfl
theorem Abo {t e e':Nat}{ls:List (List PV)}:Lx σ e (.own t e' ls)=Ey e (.own t e' ls):=nr rfl
theorem Ww {t e e':Nat}{ls:List (List PV)}:Lx σ e (.nown t e' ls)=Ey e (.nown t e' ls):=nr rfl
theorem Ag2 {e t e2 i o n:Nat}:Lx σ e (.bs t e2 i o n)=if e=1 then match σ[t]? with
 |some (some (.row e' ls))=>if e'=e2 then match ls[i]? with
   |some c=>if o+n≤c.length then (Vj ((c.drop o).take n)).map fun l=>l.map fun x=>[x]else none
   |none=>none
  else none
 |_=>none
 else none:=nr rfl
theorem Ag3 {e t e' i n:Nat}:Lx σ e (.ms t e' i n)=match σ[t]? with
 |some (some (.row e2 ls))=>if e'=e∧e2=e∧i+n≤ls.length then I2 ((ls.drop i).take n)else none
 |_=>none:=nr rfl
end
