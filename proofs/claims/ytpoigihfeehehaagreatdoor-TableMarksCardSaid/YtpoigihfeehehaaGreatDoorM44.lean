/- Trees, plain: how many pages there are: what each level leaves out. Trees: entries from a key on. -/
import Derived.Test.YtpoigihfeehehaaGreatDoorM43
import Derived.Test.YtpoigihfeehehaaGreatDoorM40
set_option linter.all false
set_option maxRecDepth 100000
set_option maxHeartbeats 32000000
namespace Go.Proofs.YtpoigihfeehehaaGreatDoor
open Go.RowKit
theorem Ao8 {l:List Itm}(h:∀ x∈l,x.e.k.length≤140):szL l≤150*l.length:=by
 induction l with
 |nil=>simp[Dy]
 |cons x l ih=>
  have h1:=ih fun y hy=>h y (by simp[hy])
  have h2:=h x (by simp)
  rw[B8,QF]
  have:szI x≤150:=by unfold szI;omega
  omega
def Akb:(h:Nat)→BTr h→Prop
 |0,_=>True
 |h+1,t=>∃ x r,(show NL h from t)=x::r∧x.1.k=[]
structure PgI (h:Nat)(t:BTr h):Prop where
 c0:1≤h→cn h t 0+2≤(Bj h t).length
 cj:∀ j,1≤j→j<h→cn h t j+3≤cn h t (j - 1)
 hd:Akb h t
theorem Amt {h:Nat}(t:NL h):cn (h+1) t h=t.length:=by
 rw[Qp t (QH h)]
 induction t with
 |nil=>rfl
 |cons x l ih=>rw[Ik,ih,Lk,QF];omega
theorem Yk {h:Nat}{l1 l2:NL h}{x:Ent×Nat×BTr h}{s':BTr h}{o:Option (Ent×Nat×BTr h)}(hz:Akb (h+1) (l1++x::l2:NL h)):Akb (h+1) (l1++(x.1,x.2.1,s')::(o.toList++l2):NL h):=by
 obtain⟨y,r,hy,h0⟩:=hz
 have hy:l1++x::l2=y::r:=hy
 cases l1 with
 |nil=>
  simp only[ZQ,YI]at hy
  obtain⟨rfl,rfl⟩:=hy
  exact⟨_,_,rfl,h0⟩
 |cons a l1=>
  simp only[ZN,YI]at hy
  obtain⟨rfl,rfl⟩:=hy
  exact⟨_,_,rfl,h0⟩
theorem Amu {h:Nat}{l1 l2:NL h}{x:Ent×Nat×BTr h}{s':BTr h}{e:Ent}{more':Option (Ent×Nat×BTr h)}(hz:SzT (h+1) (l1++x::l2:NL h))(he:e.k.length≤140)(hin:Ur h x.2.2 e s' more'):∀ y∈A9 (l1++(x.1,x.2.1,s')::(more'.toList++l2):NL h),y.e.k.length≤140:=fun y hy=>by
 obtain⟨y0,h1,rfl⟩:=ZP.1 hy
 simp only[QS,QP,Option.mem_toList]at h1
 rcases h1 with h1|rfl|h1|h1
 ·exact hz.2.1 y0 (by simp[h1])
 ·exact hz.2.1 x (by simp)
 ·exact Ac6 (hz.2.2 x (by simp)) he hin y0 h1
 ·exact hz.2.1 y0 (by simp[h1])
theorem Amv {h:Nat}{l:NL h}(hk:∀ y∈A9 l,y.e.k.length≤140)(hz:Akb (h+1) l):szL (A9 l)+140≤150*l.length:=by
 obtain⟨x,r,hl,h0⟩:=hz
 have hl:l=x::r:=hl
 subst hl
 rw[Dl]at hk ⊢
 have:=Ao8 fun y hy=>hk y (YG _ hy)
 rw[Ev]at this
 rw[B8,QF]
 have h1:szI ⟨x.1,x.2.1⟩=10:=by unfold szI;simp[h0]
 omega
theorem Afe {h:Nat}{t:BTr (h+1)}{t':BTr (h+1)}{e:Ent}{z:Ent×Nat×BTr (h+1)}(hz:SzT (h+1) t)(hd:Akb (h+1) t)(he:e.k.length≤140)(hi:Ur (h+1) t e t' (some z)):4≤(show NL h from t).length:=by
 obtain⟨l1,x,l2,s',more',rfl,_,hin,hs⟩:=hi
 have hk:=Amu hz he hin
 have h1:=Amv hk (Yk hd)
 rcases hs with⟨_,_,h2⟩|⟨s1,_⟩
 ·cases h2
 ·have h3:(l1++(x.1,x.2.1,s')::(more'.toList++l2):NL h).length≤(l1++x::l2:NL h).length+1:=by
   cases more'<;>simp<;>omega
  show 4≤(l1++x::l2:NL h).length
  omega
theorem Akc {t t':BTr 0}{e:Ent}{z:Ent×Nat×BTr 0}(hz:SzT 0 t)(he:e.k.length≤140)(hi:Ur 0 t e t' (some z)):3≤(Bj 0 t).length:=by
 rcases hi.2 with⟨_,_,h2⟩|⟨s1,_⟩
 ·cases h2
 ·have h1:=Ao8 (l:=B1 ((show List Ent from t).take (Iq (B1 t) e)++e::(show List Ent from t).drop (Iq (B1 t) e))) fun y hy=>by
   obtain⟨y0,h1,rfl⟩:=ZP.1 hy
   rcases QS.1 h1 with h1|h1
   ·exact hz.2 _ (ZM h1)
   ·rcases QP.1 h1 with rfl|h1
    ·exact he
    ·exact hz.2 _ (ZX h1)
  have h2:(B1 ((show List Ent from t).take (Iq (B1 t) e)++e::(show List Ent from t).drop (Iq (B1 t) e))).length=(show List Ent from t).length+1:=by
   unfold B1
   rw[QL,QE,QF,QZ,WJ];omega
  rw[h2]at h1
  show 3≤(show List Ent from t).length
  omega
theorem Uy {h h':Nat}{t:BTr h}{t':BTr h'}{e:Ent}(hp:PgI h t)(hz:SzT h t)(he:e.k.length≤140)(hr:Aah h t e h' t'):PgI h' t'∧(Bj h' t').length=(Bj h t).length+1:=by
 rcases hr with⟨rfl,hi⟩|⟨rfl,t1,n,m,x,s,hi,ht⟩
 ·have hi:Ur h' t e t' none:=hi
  obtain⟨δ,d1,d2,d3,d4,d5⟩:=Aj9 hz hi
  have hen:=Aka hi
  simp only[XD]at hen
  have e1:∀ j,j≤h'→cn h' t' j=cn h' t j+δ j:=fun j hj=>d3 j hj
  refine⟨⟨fun h1=> ?_,fun j j1 j2=> ?_,?_⟩,hen⟩
  ·rw[e1 0 (by omega),hen]
   have:=hp.c0 h1;have:=d1 0;omega
  ·rw[e1 j (by omega),e1 (j - 1) (by omega)]
   have h2:=hp.cj j j1 j2
   have h3:=d2 (j - 1)
   rw[Nat.sub_add_cancel j1]at h3
   omega
  ·cases h' with
   |zero=>trivial
   |succ h=>
    obtain⟨l1,x,l2,s',more',rfl,_,hin,hs⟩:=hi
    rcases hs with⟨_,h2,_⟩|⟨_,_,_,_,_,_,_,h2⟩
    ·have h2:t'=(l1++(x.1,x.2.1,s')::(more'.toList++l2):NL h):=h2
     rw[h2]
     exact Yk hp.hd
    ·cases h2
 ·have ht:t'=([(C4,n,t1),(x,m,s)]:NL h):=ht
  subst ht
  obtain⟨δ,d1,d2,d3,d4,d5⟩:=Aj9 hz hi
  have hen:=Aka hi
  have d4':=d4 (Option.some_ne_none _)
  have e1:∀ j,j≤h→cn (h+1) ([(C4,n,t1),(x,m,s)]:NL h) j=cn h t j+δ j:=fun j hj=>by
   rw[Qp _ hj,Ik,Ik]
   exact d3 j hj
  have e2:(Bj (h+1) ([(C4,n,t1),(x,m,s)]:NL h)).length=(Bj h t).length+1:=by
   show ([(C4,n,t1),(x,m,s)].flatMap fun x=>Bj h x.2.2).length=_
   simp only[YA,WQ,ZT,QE]
   exact hen
  refine⟨⟨fun h1=> ?_,fun j j1 j2=> ?_,⟨_,_,rfl,rfl⟩⟩,e2⟩
  ·rw[e1 0 (by omega),e2]
   cases h with
   |zero=>
    have:=Akc hz he hi
    rw[Lk 0 t,d4'];omega
   |succ h=>have:=hp.c0 (by omega);have:=d1 0;omega
  ·rw[e1 j (by omega),e1 (j - 1) (by omega)]
   have h3:=d2 (j - 1)
   rw[Nat.sub_add_cancel j1]at h3
   rcases YW j h with h4|h4
   ·have h2:=hp.cj j j1 h4
    omega
   ·obtain rfl:j=h:=by omega
    obtain⟨k,rfl⟩:∃ k,j=k+1:=⟨j - 1,by omega⟩
    have h5:=Afe hz hp.hd he hi
    have h6:=Amt (show NL k from t)
    have h7:=Lk (k+1) t
    simp only[Nat.add_sub_cancel]at h3 ⊢
    have h8:cn (k+1) t k=(show NL k from t).length:=h6
    have:=d1 (k+1)
    omega
theorem Arc:PgI 0 ([]:List Ent):=⟨fun h=>by omega,fun j h1 h2=>by omega,trivial⟩
theorem Ac7:∀ (h:Nat) (f:Nat→Nat),(∀ j,1≤j→j<h+1→f j+3≤f (j - 1))→f (h+1)=1→6*Ux f (h+1)≤f 0*f 0+3*f 0+2+6
 |0,f,hf,h1=>by
  have h1:f 1=1:=h1
  simp only[Ux]
  rw[h1]
  generalize f 0=a
  have h2:3*a≤a*a+2:=by
   rcases YW a 3 with h|h
   ·have:a=0∨a=1∨a=2:=by omega
    rcases this with rfl|rfl|rfl<;>decide
   ·have:=ZL a h
    omega
  omega
 |h+1,f,hf,h1=>by
  have ih:=Ac7 h (fun j=>f (j+1)) (fun j j1 j2=>by
   have:=hf (j+1) (by omega) (by omega)
   simp only[Nat.add_sub_cancel]at this
   rw[Nat.sub_add_cancel j1];exact this) h1
  have h3:=hf 1 (QH _) (by omega)
  have h4:Ux f (h+1+1)=f 0+Ux (fun j=>f (j+1)) (h+1):=rfl
  rw[h4]
  simp only[ZC,Nat.sub_self]at ih h3
  obtain⟨d,hd⟩:∃ d,f 0=f 1+3+d:=⟨f 0 - f 1 - 3,by omega⟩
  rw[hd]
  generalize f 1=a at*
  have e1:(a+3+d)*(a+3+d)=a*a+6*a+9+2*(a*d)+6*d+d*d:=by
   simp only[YY,Nat.mul_add,XL d a,XL d 3,XL a 3]
   omega
  rw[e1]
  have:=YS (a*d)
  have:=YS (d*d)
  omega
theorem A2f {h n:Nat}{t:BTr h}(hp:PgI h t)(h1:1≤h):6*(pgT h n t).length≤cn h t 0*cn h t 0+3*cn h t 0+2+6:=by
 obtain⟨k,rfl⟩:∃ k,h=k+1:=⟨h - 1,by omega⟩
 rw[Ao6]
 exact Ac7 k _ (fun j j1 j2=>hp.cj j j1 j2) (Lk _ _)
def Sn:Cq:=(.det 0 (.det 1 (.det 2 (.det 3 (.det 5 (.det 6 (.det 7 (.act 4 (.det 8 (.fin 9 (.fin 10 (.det 11 .done))))))))))))
def tYl:=aa wX <| aa wbu <| aa T3 <| aa T4 <| aa T29 <| aa T51 <| aa T70 <| aa T75 <| aa T188 <| aa T192 <| aa T228 <| aa T232 <| aa T234 T239
theorem Ard (k:List UInt8)(hk:k.length≤1000000)(σ:St):Aa Tryz.prog 107 [.p (.sl 1 (Ax k))] σ fun r s=>s=σ∧r= .p (.sl 1 (Ax k)):=by
 refine Aa.pureF (R:=fun r=>r= .p (.sl 1 (Ax k))) ?_ rfl σ
 cases k with
 |nil=>
  refine Aa.nilSplit ?_ fun ad c=> ?_
  ·have h:Aa Tryz.prog 107 [.p (.v (.slice none 0 0))] [] fun r s=>r= .p (.v (.slice none 0 0)):=by
    refine Ab Am An Tryz.func107 (by kernel_rfl) rfl (nt:=7) (rs:=[.tmp 2]) rfl rfl ?_
    repeat' simp only[↓wBA,tYl,seval]
    all_goals refine rtS ?_
    all_goals simp only[wRe,tYl,seval]
   refine Aa.mono (R:=fun r s=>r= .p (.sl 1 [])) ?_ ?_
   ·exact⟨h.1,fun M vs hM hv=>(h.2 M vs hM hv).mono fun e w' ⟨v,r,s,M',a1,a2,a3,a4,a5,a6,a7⟩=>by
     subst a7
     have:=(Cf a5).2
     subst this
     exact⟨_,.p (.sl 1 []),s,M',a1,a2,a3,a4,by simp only[Ag,Ca];exact .inl ⟨trivial,none,0,rfl,fun _=>rfl⟩,a6,rfl⟩⟩
   ·rintro r s rfl
    exact⟨rfl,rfl⟩
  ·have hm0:=lM (n:=0) (by omega)
   refine Ab Am An Tryz.func107 (by kernel_rfl) rfl (nt:=7) (rs:=[.tmp 2]) rfl rfl ?_
   repeat' simp only[↓wBA,tYl,seval,A2,Lx,Ey,hm0]
   all_goals refine Cc (a:=_) ?_ rfl rfl
   all_goals simp only[tYl,seval]
   all_goals simp_all [wS,Ax]
 |cons b k=>
  have hl:=Dk (b::k)
  have hc:Ax (b::k)=[Bo b]::Ax k:=rfl
  have hl1:=tL (n:=k.length+1) (by simp at hk;omega)
  have hl2:=lM (n:=k.length+1) (by simp at hk;omega)
  have hek:=Dk k
  rw[hc]
  refine Ab Am An Tryz.func107 (by kernel_rfl) rfl (nt:=7) (rs:=[.tmp 2]) rfl rfl ?_
  repeat' simp only[↓wBA,tYl,seval,A2,Lx,Ey,XK,hl1,hl2,hek]
  all_goals refine Cc (a:=_) ?_ rfl rfl
  all_goals simp only[tYl,seval]
  all_goals simp_all [wS]
def G7 (lo:List UInt8)(my:List UInt8→Bool)(e:Ent):Bool:=decide (0≤Lib.compareBytes e.k lo)&&my e.k
def Hh {α:Type}(lo:List UInt8)(my:List UInt8→Bool)(l:List (Ent×Nat×α))(i:Nat)(x:Ent):Bool:=
 (decide (0<i)&& !my x.k)||(match l[i+1]? with
  |some y=>decide (Lib.compareBytes y.1.k lo<0)
  |none=>false)
def Ir {α:Type}(lo:List UInt8)(my:List UInt8→Bool)(P:α→List Ent)(l:List (Ent×Nat×α))(i:Nat):List Ent:=match l[i]? with
 |some x=>if Hh lo my l i x.1 then []else P x.2.2
 |none=>[]
def Dm (lo:List UInt8)(my:List UInt8→Bool):(h:Nat)→BTr h→List Ent
 |0,t=>(show List Ent from t).filter (G7 lo my)
 |h+1,t=>(List.range (show NL h from t).length).flatMap (Ir lo my (Dm lo my h) (show NL h from t))
def EntP (av:AV)(l:List Ent):Prop:=(l=[]∧av= .p (.v (.slice none 0 0)))∨(l≠[]∧av= .p (.sl 3 (l.map Et)))
theorem Qq {α β:Type}(f g:α→List β)(h:∀ x,(f x).length≤(g x).length):∀ l:List α,(l.flatMap f).length≤(l.flatMap g).length
 |[]=>QH _
 |x::l=>by have:=Qq f g h l;have:=h x;simp only[YA,QE];omega
def optF {α β:Type}(f:α→List β):Option α→List β
 |some x=>f x
 |none=>[]
theorem Mu {α β:Type}(f:α→List β):∀ l:List α,(List.range l.length).flatMap (fun i=>optF f l[i]?)=l.flatMap f
 |[]=>rfl
 |x::l=>by
  rw[QF,List.range_succ_eq_map,YA,List.flatMap_map,YA]
  simp only[YT,XN]
  rw[Mu f l]
  rfl
theorem Ac8 {α:Type}(lo:List UInt8)(my:List UInt8→Bool)(P Q:α→List Ent)(hPQ:∀ x,(P x).length≤(Q x).length)(l:List (Ent×Nat×α))(n:Nat)(hn:n≤l.length):((List.range n).flatMap (Ir lo my P l)).length≤(l.flatMap fun x=>Q x.2.2).length:=by
 have h1:((List.range n).flatMap (Ir lo my P l)).length≤((List.range l.length).flatMap (Ir lo my P l)).length:=by
  have:List.range l.length=List.range n++(List.range (l.length - n)).map (n+ ·):=by
   rw[← List.range_add];congr 1;omega
  rw[this,WG,QE];omega
 have h2:=Qq (Ir lo my P l) (fun i=>optF (fun x:Ent×Nat×α=>Q x.2.2) l[i]?) (fun i=>by
  unfold Ir
  cases l[i]? with
  |none=>exact QH _
  |some x=>
   simp only[optF]
   split
   ·simp
   ·exact hPQ x.2.2) (List.range l.length)
 have h3:=Mu (fun x:Ent×Nat×α=>Q x.2.2) l
 have h4:=congrArg List.length h3
 exact ZO h1 (ZO h2 (Nat.le_of_eq h4))
theorem Yl (lo:List UInt8)(my:List UInt8→Bool):∀ (h:Nat) (t:BTr h),(Dm lo my h t).length≤(Bj h t).length
 |0,t=>by simp only[Dm,Bj];exact WS _ _
 |h+1,t=>Ac8 (α:=BTr h) lo my (Dm lo my h) (Bj h) (Yl lo my h) (show NL h from t) _ (QH _)
theorem Akd {v:Nat→List UInt8}:∀ {h n:Nat} {t:BTr h},Hg v h n t→(Bj h t).length≤49*(pgT h n t).length
 |0,n,t,ht=>by
  have:=ht.node.n
  have h1:(B1 t).length=List.length (show List Ent from t):=by unfold B1;exact QL _
  have h2:(itsT 0 t).length=(B1 t).length:=rfl
  have h3:(Bj 0 t).length=List.length (show List Ent from t):=rfl
  simp only[pgT,QF,QI]
  omega
 |h+1,n,t,ht=>by
  have hch:=ht.2
  have:∀ l:NL h,(∀ x∈l,Hg v h x.2.1 x.2.2)→(l.flatMap fun x=>Bj h x.2.2).length≤49*(flP l).length:=by
   intro l
   induction l with
   |nil=>intro _;exact QH _
   |cons x l ih=>
    intro h1
    have a1:=ih fun y hy=>h1 y (by simp[hy])
    have a2:=Akd (h1 x (by simp))
    rw[C7]
    simp only[YA,QE]
    omega
  have h2:=this _ hch
  have h3:(pgT (h+1) n t).length=(flP (show NL h from t)).length+1:=rfl
  rw[h3]
  have h4:(Bj (h+1) t).length=((show NL h from t).flatMap fun x=>Bj h x.2.2).length:=rfl
  rw[h4]
  omega
theorem Uz {q:St}{av:AV}{E T:TypeId}{e eb:Nat}{ez:List Value}{ls:List (List PV)}{tk:Nat}(hk:cx.kind T=some (.slice E e eb ez))(h:Kr q av E e ls)(hb:ls.length*eb≤140737488355328)(hb2:ls.length≤1000000):A2 cx tk T av (.p (.v (.slice none 0 0))) q=some (av,q):=by
 have c2:ls.length≤maxLen:=by unfold maxLen;omega
 have c3:0≤maxLen:=YS _
 unfold A2
 rw[hk]
 rcases h with⟨rfl,rfl⟩|⟨t,rfl,hne,ht⟩
 ·simp[Lx,Ey,c3,Sq]
 ·simp[Lx,Ey,ht,c2,hb]
  exact Tz ht
section
variable {σ:St} {b p dd l kh n:Nat} {U:Nat→Prop} {P:Ak} {v:Nat→List UInt8} {T:Nat→Bool}
def Kept (kl:List (Nat×Ob))(s:St):Prop:=∀ q∈kl,s[q.1]? =some (some q.2)
theorem Kept.fr {kl:List (Nat×Ob)}{s s':St}(h:Kept kl s){F F':Nat→Prop}(hf:Fr s s' F F')(hF:∀ q∈kl,¬ F q.1):Kept kl s':=fun q hq=>hf.get (h q hq) (hF q hq)
theorem Aa.ansY {P:Program}{f:FuncId}{args:List AV}{σ:St}{R R':AV→St→Prop}(h:Aa P f args σ R)(hk:∀ r s,R r s→∃ r',R' r' s∧∀ (M:Az) (v:Value),Ag M r v→Ag M r' v):Aa P f args σ R':=
 ⟨h.1,fun M vs hM hv=>(h.2 M vs hM hv).mono fun e w' ⟨v,r,s,M',h1,h2,h3,h4,h5,h6,h7⟩=>by
  obtain⟨r',h8,h9⟩:=hk r s h7
  exact⟨v,r',s,M',h1,h2,h3,h4,h9 _ _ h5,h6,h8⟩⟩
def EntO (av:AV)(l:List Ent):Prop:=(l=[]∧av= .p (.v (.slice none 0 0)))∨∃ t,l≠[]∧av= .own t 3 (l.map Et)
def Il (h:Nat)(t:BTr h)(lo:List UInt8)(my:List UInt8→Bool)(σ:St)(b p dd l kh:Nat)(U:Nat→Prop)(P:Ak)(v:Nat→List UInt8)(r:AV)(σ':St):Prop:=
 ∃ U' P' av,r= .tup [av,Ad .i64 0]∧Fr σ σ' U U'∧Bt σ' b p dd l kh U' P' v∧Kp P P' 0∧EntP av (Dm lo my h t)
def Ake (h:Nat)(t:BTr h)(lo:List UInt8)(my:List UInt8→Bool)(σ:St)(b p dd l kh:Nat)(U:Nat→Prop)(P:Ak)(v:Nat→List UInt8)(r:AV)(σ':St):Prop:=
 ∃ U' P' av,r= .tup [av,Ad .i64 0]∧Fr σ σ' U U'∧Bt σ' b p dd l kh U' P' v∧Kp P P' 0∧EntO av (Dm lo my h t)
theorem Ym {h:Nat}{t:BTr h}{lo:List UInt8}{my:List UInt8→Bool}{f:FuncId}{args:List AV}(hc:Aa Tryz.prog f args σ fun r σ'=>Ake h t lo my σ b p dd l kh U P v r σ'):Aa Tryz.prog f args σ fun r σ'=>Il h t lo my σ b p dd l kh U P v r σ':=by
 refine hc.ansY ?_
 rintro r s ⟨U',P',av,rfl,h1,h2,h3,h4⟩
 rcases h4 with⟨h5,rfl⟩|⟨to,h5,rfl⟩
 ·exact⟨_,⟨U',P',_,rfl,h1,h2,h3,.inl ⟨h5,rfl⟩⟩,fun M v h=>h⟩
 ·refine⟨_,⟨U',P',_,rfl,h1,h2,h3,.inr ⟨h5,rfl⟩⟩,fun M v h=> ?_⟩
  simp only[Ag,Af]at h ⊢
  obtain⟨us,e1,u1,us1,e2,e3,e4⟩:=h
  refine⟨us,e1,u1,us1,e2,?_,e4⟩
  have:=Al7 (M:=M) (t:=to) (e:=3) (u:=u1) (by simp only[Ag];exact e3)
  simpa only[Ag]using this
theorem Aff {lo:List UInt8}{lox:PV}{my:List UInt8→Bool}{g:FuncId}{caps:List AV}{kl:List (Nat×Ob)}{t:List Ent}(hB:Bt σ b p dd l kh U P v)(hb:Bud P 1)(hn:n<P.pages)(hN:D4 (v n) 2 (B1 t))(hlo:BX lox lo)(hkl:Kept kl σ)(hklU:∀ q∈kl,¬ U q.1)
 (hmy:∀ (s:St) (k:List UInt8),Kept kl s→Aa Tryz.prog g (.p (.sl 1 (Ax k))::caps) s fun r s'=>s'=s∧r=Av (my k)):
 Aa Tryz.prog 145 [.agg [.mp b 2 0 0],Ad .i64 (n:Nat),.p lox,.fn g [] caps] σ fun r σ'=>Il 0 t lo my σ b p dd l kh U P v r σ':=by
 refine Ym ?_
 have hlt:=hB.lt
 have hl49:=hN.n
 have hil:(B1 t).length=t.length:=by simp[B1]
 refine Ab Am An Tryz.func145 (by kernel_rfl) rfl (nt:=108) (rs:=[.tmp 8,.tmp 9]) rfl rfl ?_
 repeat' simp only[↓wBA,tYl,seval,wH]
 have a1:=Ap.app σ [some (Ob.row 1 [[AV.mp b 2 0 0]])]
 refine (X5 (hB.ap a1) hn hN hb).mono ?_
 rintro _ s1 ⟨U1,P1,a,rfl,f1,hB1,k1,ha,hta⟩
 have q1:=f1.len
 simp only[QE,QF,QI]at q1
 have hlt1:=hB1.lt
 have hlf:=ha.x.leaf
 have hcc:=ha.x.cells
 obtain⟨S1,hS1⟩:∃ S1,S1=s1++[some (Ob.row 2 [[AV.p (.v (.int .i64 2)),a]])]:=⟨_,rfl⟩
 have aS:Ap s1 S1:=⟨_,hS1⟩
 have hS1l:S1.length=s1.length+1:=by rw[hS1];simp
 have bN:S1[s1.length]? =some (some (Ob.row 2 [[AV.p (.v (.int .i64 2)),a]])):=by rw[hS1];simp
 have yN:=Ac bN
 have haS:NdA S1 a (B1 t):=ha.same fun j hj=>by rw[hS1,QD (ha.lt hj)]
 have hla:Ba cx 232 a=some t.length:=by
  rcases ha with⟨h0,rfl⟩|⟨_,tn,rfl,_⟩
  ·rw[← hil,h0];rfl
  ·rw[hil];exact Ahr
 have fS:Fr σ S1 U U1:=(a1.fr.trans f1).trans aS.fr
 have hBS:=hB1.ap aS
 have hkS:Kept kl S1:=hkl.fr fS hklU
 have hkU1:∀ q∈kl,¬ U1 q.1:=fun q hq e=>(fS.own q.1 e).elim (hklU q hq) fun e=>by have:=Ac (hkl q hq);omega
 repeat' simp only[↓wBA,tYl,seval,wH,c2y,hS1.symm,bN,hla]
 refine Ar (X:={ q:Nat×AV // q.1≤t.length }) (fun q=>t.length - q.1.1) (fun q=>[(12,q.1.2),(30,Ad .i64 (q.1.1:Nat))]) [8,9,13,14,15,16,17,31,32,33,34,35,36,37,38,39,40,41,42,43,44,45,46,47,48,49,50,51,52,53,54,55,56,57,58,59,60,61,62,63,64,65,66,67,68,69,70,71,72,73,74,75,76,77,78,79,80,81,82,83,84,85,86,87,88,89,90,91,92,93,94,95,96,97,98,99,100,101,102,103,104,105,106,107,108,109,110] (fun q s=>Fr S1 s (fun _=>False) (fun _=>False)∧Kr s q.1.2 192 3 (((t.take q.1.1).filter (G7 lo my)).map Et)∧(∀ j,Ch q.1.2=some j→S1.length≤j)) (⟨(0,.p (.v (.slice none 0 0))),by omega⟩) ?_ ?_ ?_ ?_
 ·simp only[wHl,wHf]
 ·exact⟨Fr.refl _ _,.inl ⟨rfl,by simp⟩,fun j hj=>by cases hj⟩
 ·rintro _ _ ⟨h,_⟩;exact h.len
 ·intro y J s hI
  simp only[wHl]
  obtain⟨⟨i,av⟩,hi⟩:=y
  obtain⟨fs,how,hown⟩:=hI
  dsimp only at*
  have ls:=fs.len
  have cN:=fs.get bN id
  have zN:=Ac cN
  have hi0:=nnI i
  have hkk:=hkS.fr fs fun _ _=>id
  have hfl:((t.take i).filter (G7 lo my)).length≤49:=by
   have h1:=WS (G7 lo my) (t.take i)
   have h2:(t.take i).length≤t.length:=by rw[QZ];omega
   omega
  by_cases hlt2:i<t.length
  ·have hdec:=dT (i:=i) (n:=t.length) hlt2
   have hw:=wI i (by omega)
   obtain⟨x,hx⟩:∃ x,t[i]? =some x:=⟨t[i],by simp⟩
   have hgx:(B1 t)[i]? =some ⟨x,0⟩:=by simp[B1,hx]
   have hgc:((B1 t).map itC)[i]? =some (itC ⟨x,0⟩):=by simp[hgx]
   rcases haS with⟨h0,_⟩|⟨_,tn,rfl,htn⟩
   ·rw[h0]at hgx;simp at hgx
   have ctn:=fs.get htn id
   have ztn:=Ac ctn
   have hif:((i:Int)<((B1 t).length:Int))=True:=eq_true (by omega)
   have hxo:x.k.length≤140:=(hN.ok _ (QG hgx)).1.1
   have hkx:Kept kl (s++[some (Ob.row 4 [itC ⟨x,0⟩])]):=fun q hq=>by rw[QD (Ac (hkk q hq))];exact hkk q hq
   have hmx:=hmy _ x.k hkx
   have hnx:(t.take (i+1)).filter (G7 lo my)=(t.take i).filter (G7 lo my)++(if G7 lo my x then [x]else []):=by
    rw[YU,hx]
    simp only[Option.toList,List.filter_append,List.filter_cons,List.filter_nil]
   have hbc:=fun s=>Ai6 (x:=.sl 1 (Ax x.k)) (.inl rfl) hlo s
   by_cases hc:0≤Lib.compareBytes x.k lo
   ·have hd:decide (Lib.compareBytes x.k lo≥0)=true:=by simpa using hc
    have hd':decide (0≤Lib.compareBytes x.k lo)=true:=by simpa using hc
    cases hm:my x.k with
    |true=>
     rw[hm]at hmx
     have ht1:G7 lo my x=true:=by unfold G7;rw[hm];simpa using hc
     rw[ht1]at hnx
     have hcl:=fun s=>Ard x.k (by omega) s
     repeat' first|simp only[↓wBA,tYl,seval,Sn,wH,wHl,hdec,hi0,hif,ctn,hgc,itC,cN,zN,hd]|((with_reducible show Aa _ _ _ _ _);first|refine (hbc _).eq ?_|refine hmx.eq ?_|refine (hcl _).eq ?_)|(with_reducible refine dQ Sn 12 (some 51) ?_)
     obtain⟨q0,hq0⟩:∃ q0,q0=s++[some (Ob.row 4 [itC ⟨x,0⟩])]++[some (Ob.right 192 3)]:=⟨_,rfl⟩
     have hql:q0.length=s.length+2:=by rw[hq0];simp
     have how1:=how.same (q':=q0) fun j hj=>by rw[hq0,QX,QD (how.lt hj)]
     obtain⟨av2,s2,e1,e2,e3,e4,e5⟩:=G3 (y:=.own (s.length+1) 3 [Et x]) (m:=[Et x]) Eh how1 rfl (by simp) (by simp only[QL,QF,QI];omega) (by simp only[QL,QF,QI];omega)
     rw[hql,hq0]at e1
     simp only[itC,Et,c0y,Ad]at e1
     repeat' simp only[↓wBA,tYl,seval,wHl,e1,hw]
     rw[if_pos rfl]at hnx
     refine⟨⟨(i+1,av2),by omega⟩,by show t.length - (i+1)<t.length - i;omega,⟨?_,?_,fun j hj=> ?_⟩,by simp only[]⟩
     ·refine⟨by omega,fun j hj hn=> ?_,fun j h=>h.elim⟩
      have hjs:j<s.length:=by omega
      rw[e4 j (by omega) fun e=>by have:=hown j e;omega,hq0,QX,QD hjs]
      exact fs.keep j hj hn
     ·dsimp only
      rw[hnx,ZH];exact e2
     ·rcases e5 j hj with h|h
      ·exact hown j h
      ·omega
    |false=>
     rw[hm]at hmx
     have ht1:G7 lo my x=false:=by unfold G7;rw[hm];simp
     rw[ht1]at hnx
     repeat' first|simp only[↓wBA,tYl,seval,wH,wHl,hdec,hi0,hif,hw,ctn,hgc,itC,cN,zN,hd]|((with_reducible show Aa _ _ _ _ _);first|refine (hbc _).eq ?_|refine hmx.eq ?_)
     rw[if_neg (by simp),ZT]at hnx
     refine⟨⟨(i+1,av),by omega⟩,by show t.length - (i+1)<t.length - i;omega,⟨fs.app _,?_,hown⟩,by simp only[]⟩
     dsimp only
     rw[hnx]
     exact how.same fun j hj=>QD (how.lt hj)
   ·have hd:decide (Lib.compareBytes x.k lo≥0)=false:=by simpa using hc
    have hd':decide (0≤Lib.compareBytes x.k lo)=false:=by simpa using hc
    have ht1:G7 lo my x=false:=by unfold G7;rw[hd'];rfl
    rw[ht1]at hnx
    repeat' first|simp only[↓wBA,tYl,seval,wH,wHl,hdec,hi0,hif,hw,ctn,hgc,itC,cN,zN,hd]|((with_reducible show Aa _ _ _ _ _);refine (hbc _).eq ?_)
    rw[if_neg (by simp),ZT]at hnx
    refine⟨⟨(i+1,av),by omega⟩,by show t.length - (i+1)<t.length - i;omega,⟨fs.app _,?_,hown⟩,by simp only[]⟩
    dsimp only
    rw[hnx]
    exact how.same fun j hj=>QD (how.lt hj)
  ·obtain rfl:i=t.length:=by omega
   have hdec:=dF (i:=t.length) (n:=t.length) hlt2
   rw[ZS]at how
   rcases how with⟨rfl,he⟩|⟨to,rfl,hne,hto⟩
   ·skip
    repeat' simp only[↓wBA,tYl,seval,wHl,hdec]
    all_goals refine rtS ?_
    all_goals simp only[wRe,tYl,seval]
    refine⟨U1,P1,_,rfl,fS.trans fs.none,hBS.frame fs fun _ _=>id,k1,.inl ⟨?_,rfl⟩⟩
    show List.filter _ _=[]
    simpa using he
   ·skip
    repeat' simp only[↓wBA,tYl,seval,wHl,hdec]
    all_goals refine rtS ?_
    all_goals simp only[wRe,tYl,seval]
    exact⟨U1,P1,_,rfl,fS.trans fs.none,hBS.frame fs fun _ _=>id,k1,.inr ⟨to,fun e=>hne (by show List.map Et (Dm lo my 0 t)=[];rw[e];rfl),rfl⟩⟩
end
