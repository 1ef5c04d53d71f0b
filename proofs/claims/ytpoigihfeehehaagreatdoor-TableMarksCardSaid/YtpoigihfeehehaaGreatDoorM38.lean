/- Bytes in order: texts compared. Trees: the plain part: order, what stands where. Trees: an entry is put in: the plain part. -/
import Derived.Lib.Bytealg
import Derived.Test.YtpoigihfeehehaaGreatDoorM14
import Derived.Test.YtpoigihfeehehaaGreatDoorM37
set_option linter.all false
set_option maxRecDepth 100000
set_option maxHeartbeats 32000000
namespace Go.Proofs.YtpoigihfeehehaaGreatDoor
open Go.RowKit
theorem Up:∀ a b:List UInt8,Lib.compareBytes b a= - Lib.compareBytes a b
 |[],[]=>rfl
 |[],_::_=>rfl
 |_::_,[]=>rfl
 |a::xs,b::ys=>by
  simp only[Lib.compareBytes]
  by_cases h1:a<b
  ·have h2:¬ b<a:=fun h=>UInt8.lt_irrefl a (UInt8.lt_trans h1 h)
   simp[h1,h2]
  ·by_cases h2:b<a
   ·simp[h1,h2]
   ·simp only[h1,h2,if_false];exact Up xs ys
theorem Qh:∀ {a b:List UInt8},Lib.compareBytes a b=0→a=b
 |[],[],_=>rfl
 |[],_::_,h=>by simp[Lib.compareBytes]at h
 |_::_,[],h=>by simp[Lib.compareBytes]at h
 |a::xs,b::ys,h=>by
  simp only[Lib.compareBytes]at h
  split at h
  ·simp at h
  ·split at h
   ·simp at h
   ·rename_i h1 h2
    have:a=b:=UInt8.le_antisymm (VJ.1 h2) (VJ.1 h1)
    rw[this,Qh h]
theorem Jf:∀ a:List UInt8,Lib.compareBytes a a=0
 |[]=>rfl
 |a::xs=>by simp only[Lib.compareBytes,UInt8.lt_irrefl,if_false];exact Jf xs
theorem Uq:∀ {a b c:List UInt8},Lib.compareBytes a b<0→Lib.compareBytes b c<0→Lib.compareBytes a c<0
 |[],[],_,h,_=>by simp[Lib.compareBytes]at h
 |[],_::_,[],_,h=>by simp[Lib.compareBytes]at h
 |[],_::_,_::_,_,_=>by simp[Lib.compareBytes]
 |_::_,[],_,h,_=>by simp[Lib.compareBytes]at h
 |_::_,_::_,[],_,h=>by simp[Lib.compareBytes]at h
 |a::xs,b::ys,c::zs,h1,h2=>by
  simp only[Lib.compareBytes]at h1 h2 ⊢
  by_cases hab:a<b
  ·by_cases hbc:b<c
   ·rw[if_pos (UInt8.lt_trans hab hbc)];decide
   ·rw[if_neg hbc]at h2
    by_cases hcb:c<b
    ·rw[if_pos hcb]at h2;simp at h2
    ·have:b=c:=UInt8.le_antisymm (VJ.1 hcb) (VJ.1 hbc)
     subst this
     rw[if_pos hab];decide
  ·rw[if_neg hab]at h1
   by_cases hba:b<a
   ·rw[if_pos hba]at h1;simp at h1
   ·have:a=b:=UInt8.le_antisymm (VJ.1 hba) (VJ.1 hab)
    subst this
    rw[if_neg hab]at h1
    by_cases hbc:a<c
    ·rw[if_pos hbc];decide
    ·rw[if_neg hbc]at h2 ⊢
     by_cases hcb:c<a
     ·rw[if_pos hcb]at h2;simp at h2
     ·rw[if_neg hcb]at h2 ⊢
      exact Uq h1 h2
def ltE (a b:Ent):Prop:=Lt a b<0
def leE (a b:Ent):Prop:=¬ ltE b a
def ltO (e:Ent):Option Ent→Prop
 |none=>True
 |some x=>ltE e x
theorem Jg {a b:Ent}:ltE a b↔Lib.compareBytes a.k b.k<0∨(a.k=b.k∧(a.p<b.p∨(a.p=b.p∧a.s<b.s))):=by
 unfold ltE Lt Vh
 by_cases h:Lib.compareBytes a.k b.k=0
 ·have e:=Qh h
  have hz:=Jf b.k
  simp only[ne_eq,not_true_eq_false,if_false,e,true_and,hz]
  rcases WC a.p b.p with h1|h1|h1
  ·have h2:(a.p:Int)<b.p:=by omega
   simp[h2,h1]
  ·have h2:¬ (a.p:Int)<b.p:=by omega
   have h3:¬ (b.p:Int)<a.p:=by omega
   rcases WC a.s b.s with g1|g1|g1
   ·have g2:(a.s:Int)<b.s:=by omega
    simp[h1,g2,g1]
   ·have g2:¬ (a.s:Int)<b.s:=by omega
    have g3:¬ (b.s:Int)<a.s:=by omega
    simp[h1,g1]
   ·have g2:¬ (a.s:Int)<b.s:=by omega
    have g3:(b.s:Int)<a.s:=by omega
    simp[h1,g2,g3];omega
  ·have h2:¬ (a.p:Int)<b.p:=by omega
   have h3:(b.p:Int)<a.p:=by omega
   simp[h2,h3];omega
 ·simp only[ne_eq,h,not_false_eq_true,if_true]
  constructor
  ·exact .inl
  ·rintro (h1|⟨h1,_⟩)
   ·exact h1
   ·exact absurd (by rw[h1];exact Jf _) h
theorem Mp (a:Ent):¬ ltE a a:=fun h=>by
 rcases Jg.1 h with h|⟨_,h⟩
 ·rw[Jf]at h;omega
 ·omega
theorem Ej {a b c:Ent}(h1:ltE a b)(h2:ltE b c):ltE a c:=by
 rw[Jg]at*
 rcases h1 with h1|⟨e1,h1⟩
 ·rcases h2 with h2|⟨e2,h2⟩
  ·exact .inl (Uq h1 h2)
  ·left;rw[← e2];exact h1
 ·rcases h2 with h2|⟨e2,h2⟩
  ·left;rw[e1];exact h2
  ·right;exact⟨e1.trans e2,by omega⟩
theorem Hy (a b:Ent):ltE a b∨a=b∨ltE b a:=by
 rw[Jg,Jg]
 have hs:=Up a.k b.k
 rcases Int.lt_trichotomy (Lib.compareBytes a.k b.k) 0 with h|h|h
 ·exact .inl (.inl h)
 ·have e:=Qh h
  rcases a with⟨ak,ap,xs⟩
  rcases b with⟨bk,bp,ys⟩
  simp only at e ⊢
  subst e
  by_cases h1:ap=bp
  ·by_cases h2:xs=ys
   ·subst h1;subst h2;exact .inr (.inl rfl)
   ·rcases Nat.lt_or_gt_of_ne h2 with h2|h2
    ·exact .inl (.inr ⟨rfl,.inr ⟨h1,h2⟩⟩)
    ·exact .inr (.inr (.inr ⟨rfl,.inr ⟨h1.symm,h2⟩⟩))
  ·rcases Nat.lt_or_gt_of_ne h1 with h2|h2
   ·exact .inl (.inr ⟨rfl,.inl h2⟩)
   ·exact .inr (.inr (.inr ⟨rfl,.inl h2⟩))
 ·exact .inr (.inr (.inl (by omega)))
theorem Aow {a b c:Ent}(h1:leE a b)(h2:ltE b c):ltE a c:=by
 rcases Hy a b with h|h|h
 ·exact Ej h h2
 ·rw[h];exact h2
 ·exact absurd h h1
theorem Aox {a b c:Ent}(h1:ltE a b)(h2:leE b c):ltE a c:=by
 rcases Hy b c with h|h|h
 ·exact Ej h1 h
 ·rw[← h];exact h1
 ·exact absurd h h2
theorem Aje {a b c:Ent}(h1:leE a b)(h2:leE b c):leE a c:=fun h=>h2 (Aox h h1)
theorem Oc (a:Ent):leE a a:=Mp a
theorem ltE.le {a b:Ent}(h:ltE a b):leE a b:=fun h'=>Mp _ (Ej h h')
theorem Ld {a b:Ent}:Lt a b=0↔a=b:=by
 constructor
 ·intro h
  rcases Hy a b with h1|h1|h1
  ·unfold ltE at h1;omega
  ·exact h1
  ·exfalso
   rw[Jg]at h1
   unfold Lt Vh at h
   have hs:=Up a.k b.k
   rcases h1 with h1|⟨e,h1⟩
   ·have:Lib.compareBytes a.k b.k≠0:=by omega
    rw[if_pos this]at h;omega
   ·rw[e,Jf]at h
    simp only[ne_eq,not_true_eq_false,if_false]at h
    rcases h1 with h1|⟨h1,h2⟩
    ·have q1:¬ (a.p:Int)<b.p:=by omega
     have q2:(b.p:Int)<a.p:=by omega
     simp[q1,q2]at h
    ·have q1:¬ (a.p:Int)<b.p:=by omega
     have q2:¬ (b.p:Int)<a.p:=by omega
     have q3:¬ (a.s:Int)<b.s:=by omega
     have q4:(b.s:Int)<a.s:=by omega
     simp[q1,q2,q3,q4]at h
 ·rintro rfl
  unfold Lt Vh
  simp[Jf]
def Qi (l:List Ent):Prop:=l.Pairwise ltE
def Iq (l:List Itm)(e:Ent):Nat:=(l.takeWhile fun x=>decide (Lt x.e e<0)).length
theorem Qj:∀ {l:List Itm} {e:Ent},Qi (l.map (·.e))→Ai8 l e (Iq l e)
 |[],e,_=>⟨QH _,fun j x h=>by simp at h⟩
 |y::l,e,h=>by
  have hp:=YJ.1 h
  obtain⟨i1,i2⟩:=Qj (e:=e) hp.2
  unfold Iq at*
  rw[List.takeWhile_cons]
  by_cases hc:Lt y.e e<0
  ·simp only[hc,decide_true,if_true]
   refine⟨by simpa using i1,fun j x hj=> ?_⟩
   cases j with
   |zero=>simp at hj;subst hj;exact⟨fun _=>hc,fun h=>by simp at h⟩
   |succ j=>
    simp at hj
    obtain⟨g1,g2⟩:=i2 j x hj
    exact⟨fun h=>g1 (by simpa using h),fun h=>g2 (by simpa using h)⟩
  ·simp only[hc,decide_false,XB,if_false,QI]
   refine⟨YS _,fun j x hj=>⟨fun h=>absurd h (VF _),fun _=> ?_⟩⟩
   cases j with
   |zero=>simp at hj;subst hj;omega
   |succ j=>
    simp at hj
    have h1:ltE y.e x.e:=hp.1 x.e (ZP.2 ⟨x,QG hj,rfl⟩)
    have h2:¬ ltE x.e e:=fun h=>hc (Ej h1 h)
    unfold ltE at h2;omega
def BTr:Nat→Type
 |0=>List Ent
 |h+1=>List (Ent×Nat×BTr h)
def B1 (l:List Ent):List Itm:=l.map fun e=>⟨e,0⟩
def A9 {α:Type}(l:List (Ent×Nat×α)):List Itm:=l.map fun x=>⟨x.1,x.2.1⟩
def Hg (v:Nat→List UInt8):(h:Nat)→Nat→BTr h→Prop
 |0,n,t=>D4 (v n) 2 (B1 t)
 |h+1,n,t=>D4 (v n) 3 (A9 (show List (Ent×Nat×BTr h) from t))∧∀ x∈(show List (Ent×Nat×BTr h) from t),Hg v h x.2.1 x.2.2
def pgT:(h:Nat)→Nat→BTr h→List Nat
 |0,n,_=>[n]
 |h+1,n,t=>n::(show List (Ent×Nat×BTr h) from t).flatMap fun x=>pgT h x.2.1 x.2.2
def Bj:(h:Nat)→BTr h→List Ent
 |0,t=>t
 |h+1,t=>(show List (Ent×Nat×BTr h) from t).flatMap fun x=>Bj h x.2.2
def OkC {α:Type}(P:Ent→Option Ent→α→Prop):Ent→Option Ent→List (Ent×Nat×α)→Prop
 |_,_,[]=>True
 |lo,hi,[x]=>P lo hi x.2.2
 |lo,hi,x::y::r=>ltE lo y.1∧ltO y.1 hi∧P lo (some y.1) x.2.2∧OkC P y.1 hi (y::r)
def Np {α:Type}(d:Bool)(lo:Ent):List (Ent×Nat×α)→Prop
 |[]=>True
 |[x]=>d=true→leE x.1 lo
 |x::y::_=>if d then leE x.1 lo else ltE x.1 y.1
def OkT (d:Bool):(h:Nat)→Ent→Option Ent→BTr h→Prop
 |0,lo,hi,t=>Qi t∧∀ e∈(show List Ent from t),leE lo e∧ltO e hi
 |h+1,lo,hi,t=>(show List (Ent×Nat×BTr h) from t)≠[]∧Np d lo (show List (Ent×Nat×BTr h) from t)∧OkC (OkT d h) lo hi (show List (Ent×Nat×BTr h) from t)
section
variable {α:Type} {P:Ent→Option Ent→α→Prop}
theorem Le {a b:Ent}{hi:Option Ent}(h1:ltE a b)(h2:ltO b hi):ltO a hi:=by
 cases hi with
 |none=>trivial
 |some x=>exact Ej h1 h2
def hiOf (l:List (Ent×Nat×α))(hi:Option Ent):Option Ent:=match l with
 |[]=>hi
 |y::_=>some y.1
theorem Ed {lo:Ent}{hi:Option Ent}{x:Ent×Nat×α}{l:List (Ent×Nat×α)}:OkC P lo hi (x::l)↔P lo (hiOf l hi) x.2.2∧∀ y r,l=y::r→ltE lo y.1∧ltO y.1 hi∧OkC P y.1 hi l:=by
 cases l with
 |nil=>simp[OkC,hiOf]
 |cons y r=>
  simp only[OkC,hiOf]
  constructor
  ·rintro⟨h1,h2,h3,h4⟩
   refine⟨h3,?_⟩
   rintro y' r' ⟨⟩
   exact⟨h1,h2,h4⟩
  ·rintro⟨h3,h⟩
   obtain⟨h1,h2,h4⟩:=h y r rfl
   exact⟨h1,h2,h3,h4⟩
theorem Jh {hi:Option Ent}{x:Ent×Nat×α}{l2:List (Ent×Nat×α)}:∀ {l1:List (Ent×Nat×α)} {lo:Ent},l1≠[]→(OkC P lo hi (l1++x::l2)↔OkC P lo (some x.1) l1∧ltE lo x.1∧ltO x.1 hi∧OkC P x.1 hi (x::l2))
 |[],_,h=>absurd rfl h
 |[a],lo,_=>by
  simp only[ZN,ZQ,OkC]
  exact⟨fun ⟨h1,h2,h3,h4⟩=>⟨h3,h1,h2,h4⟩,fun ⟨h3,h1,h2,h4⟩=>⟨h1,h2,h3,h4⟩⟩
 |a::b::r,lo,_=>by
  have ih:=Jh (hi:=hi) (x:=x) (l2:=l2) (l1:=b::r) (lo:=b.1) (by simp)
  simp only[ZN,OkC]at ih ⊢
  constructor
  ·rintro⟨h1,h2,h3,h4⟩
   obtain⟨g1,g2,g3,g4⟩:=ih.1 h4
   exact⟨⟨h1,g2,h3,g1⟩,Ej h1 g2,g3,g4⟩
  ·rintro⟨⟨h1,h2,h3,h4⟩,g2,g3,g4⟩
   exact⟨h1,Le h2 g3,h3,ih.2 ⟨h4,h2,g3,g4⟩⟩
end
def SpR {α:Type}(f:List α→List Itm)(l:List α)(t':List α)(more:Option (Ent×Nat×List α)):Prop:=
 (szL (f l)≤496∧t'=l∧more=none)∨(496<szL (f l)∧1≤C2 (f l)∧C2 (f l)<l.length∧∃ m y,(f l)[C2 (f l)]? =some y∧t'=l.take (C2 (f l))∧more=some (y.e,m,l.drop (C2 (f l))))
abbrev NL (h:Nat):=List (Ent×Nat×BTr h)
def Ur:(h:Nat)→BTr h→Ent→BTr h→Option (Ent×Nat×BTr h)→Prop
 |0,t,e,t',more=>e∉(show List Ent from t)∧SpR B1 ((show List Ent from t).take (Iq (B1 t) e)++e::(show List Ent from t).drop (Iq (B1 t) e)) t' more
 |h+1,t,e,t',more=>∃ (l1:NL h) (x:Ent×Nat×BTr h) (l2:NL h) (s':BTr h) (more':Option (Ent×Nat×BTr h)),t=(l1++x::l2:NL h)∧l1.length=belF (A9 (show NL h from t)) e (Iq (A9 (show NL h from t)) e)∧Ur h x.2.2 e s' more'∧
   SpR A9 (l1++(x.1,x.2.1,s')::(more'.toList++l2)) t' more
def Amd:(h:Nat)→BTr h→Ent→BTr h→Prop
 |0,t,e,t'=>t'=t
 |h+1,t,e,t'=>∃ (l1:NL h) (x:Ent×Nat×BTr h) (l2:NL h) (s':BTr h),t=(l1++x::l2:NL h)∧l1.length=belF (A9 (show NL h from t)) e (Iq (A9 (show NL h from t)) e)∧(Amd h x.2.2 e s'∨∃ z,Ur h x.2.2 e s' (some z))∧
   t'=(l1++(x.1,x.2.1,s')::l2:NL h)
section
variable {α:Type} {P:Ent→Option Ent→α→Prop}
def loOf (l1:List (Ent×Nat×α))(lo x:Ent):Ent:=match l1 with
 |[]=>lo
 |_::_=>x
theorem Lf {lo:Ent}{hi:Option Ent}{x:Ent×Nat×α}{l2 l1:List (Ent×Nat×α)}(h:OkC P lo hi (l1++x::l2)):P (loOf l1 lo x.1) (hiOf l2 hi) x.2.2:=by
 cases l1 with
 |nil=>exact (Ed.1 h).1
 |cons a r=>exact (Ed.1 ((Jh (by simp)).1 h).2.2.2).1
theorem Ajf {lo:Ent}{hi:Option Ent}{x:Ent×Nat×α}{l2 l1:List (Ent×Nat×α)}(h:OkC P lo hi (l1++x::l2)){s':α}(hs:P (loOf l1 lo x.1) (hiOf l2 hi) s'):OkC P lo hi (l1++(x.1,x.2.1,s')::l2):=by
 cases l1 with
 |nil=>exact Ed.2 ⟨hs,(Ed.1 h).2⟩
 |cons a r=>
  obtain⟨h1,h2,h3,h4⟩:=(Jh (by simp)).1 h
  exact (Jh (by simp)).2 ⟨h1,h2,h3,Ed.2 ⟨hs,(Ed.1 h4).2⟩⟩
theorem Ajg {lo:Ent}{hi:Option Ent}{x z:Ent×Nat×α}{l2:List (Ent×Nat×α)}(h:OkC P lo hi (x::l2)){s':α}(h1:P lo (some z.1) s')(h2:P z.1 (hiOf l2 hi) z.2.2)(h3:ltE lo z.1)(h4:ltO z.1 (hiOf l2 hi)):
 OkC P lo hi ((x.1,x.2.1,s')::z::l2):=by
 have h5:=(Ed.1 h).2
 refine Ed.2 ⟨h1,?_⟩
 rintro y r ⟨⟩
 refine⟨h3,?_,Ed.2 ⟨h2,fun y r e=> ?_⟩⟩
 ·cases l2 with
  |nil=>exact h4
  |cons y r=>exact Le h4 (h5 y r rfl).2.1
 ·subst e
  exact⟨h4,(h5 y r rfl).2.1,(h5 y r rfl).2.2⟩
theorem Aqx {lo:Ent}{hi:Option Ent}{x z:Ent×Nat×α}{l2 l1:List (Ent×Nat×α)}(h:OkC P lo hi (l1++x::l2)){s':α}(h1:P (loOf l1 lo x.1) (some z.1) s')(h2:P z.1 (hiOf l2 hi) z.2.2)(h3:ltE (loOf l1 lo x.1) z.1)(h4:ltO z.1 (hiOf l2 hi)):
 OkC P lo hi (l1++(x.1,x.2.1,s')::z::l2):=by
 cases l1 with
 |nil=>exact Ajg h h1 h2 h3 h4
 |cons a r=>
  obtain⟨g1,g2,g3,g4⟩:=(Jh (by simp)).1 h
  exact (Jh (by simp)).2 ⟨g1,g2,g3,Ajg g4 h1 h2 h3 h4⟩
theorem Acn:∀ {l:List (Ent×Nat×α)} {lo:Ent} {hi:Option Ent} {x:Ent×Nat×α},OkC P lo hi (x::l)→Qi (l.map (·.1))∧∀ y∈l,ltE lo y.1∧ltO y.1 hi
 |[],_,_,_,_=>⟨List.Pairwise.nil,fun y h=>by simp at h⟩
 |y::r,lo,hi,x,h=>by
  obtain⟨h1,h2,h3,h4⟩:=h
  obtain⟨g1,g2⟩:=Acn h4
  refine⟨YJ.2 ⟨fun z hz=> ?_,g1⟩,fun z hz=> ?_⟩
  ·obtain⟨w,hw,rfl⟩:=ZP.1 hz
   exact (g2 w hw).1
  ·rcases QP.1 hz with rfl|hz
   ·exact⟨h1,h2⟩
   ·exact⟨Ej h1 (g2 z hz).1,(g2 z hz).2⟩
theorem Ajh {d:Bool}{lo:Ent}{hi:Option Ent}{l:List (Ent×Nat×α)}(hh:Np d lo l)(h:OkC P lo hi l):Qi (l.map (·.1)):=by
 cases l with
 |nil=>exact List.Pairwise.nil
 |cons x r=>
  obtain⟨g1,g2⟩:=Acn h
  refine YJ.2 ⟨fun z hz=> ?_,g1⟩
  obtain⟨w,hw,rfl⟩:=ZP.1 hz
  cases r with
  |nil=>simp at hw
  |cons y r=>
   cases d with
   |true=>exact Aow hh (g2 w hw).1
   |false=>
    rcases QP.1 hw with rfl|hw
    ·exact hh
    ·exact Ej hh ((YJ.1 g1).1 w.1 (ZP.2 ⟨w,hw,rfl⟩))
theorem Aag {lo:Ent}{l:List (Ent×Nat×α)}:Np true lo l↔∀ x,l.head? =some x→leE x.1 lo:=by
 cases l with
 |nil=>simp[Np]
 |cons x r=>cases r<;>simp[Np]
theorem Aoy (l:List (Ent×Nat×α)):(A9 l).map (·.e)=l.map (·.1):=by simp[A9]
theorem Ev (l:List (Ent×Nat×α)):(A9 l).length=l.length:=by simp[A9]
theorem Afb (l:List Itm)(e:Ent)(k:Nat):(∃ x,l[k]? =some x∧x.e=e∧belF l e k=k)∨((∀ x,l[k]? =some x→x.e≠e)∧belF l e k=k - 1):=by
 unfold belF
 cases h:l[k]? with
 |none=>exact .inr ⟨fun x h=>by simp at h,rfl⟩
 |some x=>
  by_cases hc:Lt x.e e=0
  ·exact .inl ⟨x,rfl,Ld.1 hc,by simp[hc]⟩
  ·refine .inr ⟨fun y hy=> ?_,by simp[hc]⟩
   simp only[QB]at hy;subst hy
   exact fun h=>hc (Ld.2 h)
theorem Us {d:Bool}{lo e:Ent}{hi:Option Ent}{l:List (Ent×Nat×α)}(hne:l≠[])(hh:Np d lo l)(h:OkC P lo hi l)(h1:leE lo e)(h2:ltO e hi):
 ∃ l1 x l2,l=l1++x::l2∧l1.length=belF (A9 l) e (Iq (A9 l) e)∧leE (loOf l1 lo x.1) e∧ltO e (hiOf l2 hi):=by
 have hs:=Ajh hh h
 obtain⟨c1,c2⟩:=Qj (l:=A9 l) (e:=e) (by rw[Aoy];exact hs)
 obtain⟨k,hk⟩:∃ k,k=Iq (A9 l) e:=⟨_,rfl⟩
 rw[← hk]at c1 c2 ⊢
 rw[Ev]at c1
 have hl0:0<l.length:=XX.2 hne
 have hget:∀ (j:Nat) (x:Ent×Nat×α),l[j]? =some x→(A9 l)[j]? =some ⟨x.1,x.2.1⟩:=fun j x hj=>by simp[A9,hj]
 have hlt:∀ (i j:Nat) (x y:Ent×Nat×α),i<j→l[i]? =some x→l[j]? =some y→ltE x.1 y.1:=fun i j x y hij hi hj=>by
  have:=WH.1 hs
  obtain⟨a1,a2⟩:=QC.1 hi
  obtain⟨b1,b2⟩:=QC.1 hj
  have:=this i j (by simpa using a1) (by simpa using b1) hij
  simpa [a2,b2]using this
 obtain⟨i,hi'⟩:∃ i,i=belF (A9 l) e k:=⟨_,rfl⟩
 have hbc:=Afb (A9 l) e k
 rw[← hi']at hbc ⊢
 have hil:i<l.length:=by
  rcases hbc with⟨x,hx,_,h⟩|⟨_,h⟩
  ·have:=(QC.1 hx).1
   rw[Ev]at this;omega
  ·omega
 obtain⟨x,hx⟩:∃ x,l[i]? =some x:=⟨l[i],by simp⟩
 refine⟨l.take i,x,l.drop (i+1),?_,by rw[QZ];omega,?_,?_⟩
 ·rw[← (QC.1 hx).2,←YB hil,ZI]
 ·have hnil:i=0→loOf (l.take i) lo x.1=lo:=fun e=>by subst e;rfl
  have hcons:i≠0→loOf (l.take i) lo x.1=x.1:=fun e=>by
   obtain⟨j,rfl⟩:∃ j,i=j+1:=⟨i - 1,by omega⟩
   cases l with
   |nil=>simp at hl0
   |cons a r=>rfl
  by_cases e0:i=0
  ·rw[hnil e0];exact h1
  ·rw[hcons e0]
   rcases hbc with⟨z,hz,hze,h⟩|⟨_,h⟩
   ·rw[← h,hget i x hx]at hz
    simp only[QB]at hz
    rw[← hze,←hz];exact Oc _
   ·have:=(c2 i _ (hget i x hx)).1 (by omega)
    exact (show ltE x.1 e from this).le
 ·cases hd:l.drop (i+1)with
  |nil=>exact h2
  |cons y r=>
   have hy:l[i+1]? =some y:=by
    have:=congrArg (fun q=>q[0]?) hd
    simpa using this
   show ltE e y.1
   rcases hbc with⟨z,hz,hze,h⟩|⟨hno,h⟩
   ·rw[← h,hget i x hx]at hz
    simp only[QB]at hz
    rw[← hze,←hz];exact hlt i (i+1) x y (by omega) hx hy
   ·have h3:=(c2 (i+1) _ (hget _ y hy)).2 (by omega)
    have h4:leE e y.1:=fun h5=>by unfold ltE at h5;simp only at h3;omega
    rcases Hy e y.1 with h5|h5|h5
    ·exact h5
    ·exfalso
     by_cases hk0:k=i+1
     ·exact hno _ (by rw[hk0];exact hget _ y hy) h5.symm
     ·have hk1:k=0:=by omega
      have hi0:i=0:=by omega
      have h6:=(c2 i _ (hget i x hx)).2 (by omega)
      have h7:=hlt i (i+1) x y (by omega) hx hy
      rw[← h5]at h7
      unfold ltE at h7
      simp only at h6;omega
    ·exact absurd h5 h4
end
theorem Aco {e x:Ent}{hi:Option Ent}(h1:ltO e (some x))(h2:ltO x hi):ltO e hi:=Le (show ltE e x from h1) h2
theorem OkT.hiMono {d:Bool}:∀ {h:Nat} {lo x:Ent} {hi:Option Ent} {t:BTr h},OkT d h lo (some x) t→ltO x hi→OkT d h lo hi t
 |0,lo,x,hi,t,h,hx=>⟨h.1,fun e he=>⟨(h.2 e he).1,Aco (h.2 e he).2 hx⟩⟩
 |h+1,lo,x,hi,t,hh,hx=>by
  refine⟨hh.1,hh.2.1,?_⟩
  have:∀ (l:NL h) (lo:Ent),OkC (OkT d h) lo (some x) l→OkC (OkT d h) lo hi l:=by
   intro l
   induction l with
   |nil=>intro _ _;trivial
   |cons a r ih=>
    intro lo h
    cases r with
    |nil=>exact OkT.hiMono h hx
    |cons b r=>
     obtain⟨h1,h2,h3,h4⟩:=h
     exact⟨h1,Aco h2 hx,h3,ih b.1 h4⟩
  exact this _ _ hh.2.2
def Aji (h:Nat)(lo:Ent)(hi:Option Ent)(t':BTr h):Option (Ent×Nat×BTr h)→Prop
 |none=>OkT true h lo hi t'
 |some (x,m,s)=>OkT true h lo (some x) t'∧OkT true h x hi s∧ltE lo x∧ltO x hi
theorem Aoz {h:Nat}{lo:Ent}{hi:Option Ent}{l:NL h}{t':NL h}{more:Option (Ent×Nat×NL h)}(hne:l≠[])(hh:Np true lo l)(hc:OkC (OkT true h) lo hi l)(hs:SpR A9 l t' more):
 Aji (h+1) lo hi t' more:=by
 rcases hs with⟨_,rfl,rfl⟩|⟨_,m1,m2,m,y,hy,rfl,rfl⟩
 ·exact⟨hne,hh,hc⟩
 ·obtain⟨k,hk⟩:∃ k,k=C2 (A9 l):=⟨_,rfl⟩
  rw[← hk]at m1 m2 hy ⊢
  obtain⟨x,hx⟩:∃ x,l[k]? =some x:=⟨l[k],by simp⟩
  have hd:l.drop k=x::l.drop (k+1):=by rw[YB m2,(QC.1 hx).2]
  have hye:y.e=x.1:=by simp[A9,hx]at hy;rw[← hy]
  have hap:l=l.take k++x::l.drop (k+1):=by rw[← hd,ZI]
  have htk:l.take k≠[]:=fun e=>by
   have h0:(l.take k).length=0:=by rw[e];rfl
   rw[QZ]at h0;omega
  rw[hap]at hc
  obtain⟨g1,g2,g3,g4⟩:=(Jh htk).1 hc
  show _∧_∧_∧_
  rw[hye]
  refine⟨⟨htk,Aag.2 fun q hq=> ?_,g1⟩,⟨by rw[hd];simp,Aag.2 fun q hq=> ?_,by rw[hd];exact g4⟩,g2,g3⟩
  ·refine Aag.1 hh q ?_
   cases l with
   |nil=>exact absurd rfl hne
   |cons a r=>
    obtain⟨j,rfl⟩:∃ j,k=j+1:=⟨k - 1,by omega⟩
    simpa using hq
  ·rw[hd]at hq;simp at hq;rw[← hq];exact Oc _
theorem Aqy {lo:Ent}{hi:Option Ent}{l t':List Ent}{more:Option (Ent×Nat×List Ent)}(hc:OkT true 0 lo hi l)(hs:SpR B1 l t' more):
 Aji 0 lo hi t' more:=by
 rcases hs with⟨_,rfl,rfl⟩|⟨_,m1,m2,m,y,hy,rfl,rfl⟩
 ·exact hc
 ·obtain⟨k,hk⟩:∃ k,k=C2 (B1 l):=⟨_,rfl⟩
  rw[← hk]at m1 m2 hy ⊢
  obtain⟨x,hx⟩:∃ x,l[k]? =some x:=⟨l[k],by simp⟩
  have hye:y.e=x:=by simp[B1,hx]at hy;rw[← hy]
  show _∧_∧_∧_
  rw[hye]
  obtain⟨h1,h2⟩:=hc
  have hd:l.drop k=x::l.drop (k+1):=by rw[YB m2,(QC.1 hx).2]
  have hap:l.take k++x::l.drop (k+1)=l:=by rw[← hd,ZI]
  have hp:Qi (l.take k++x::l.drop (k+1)):=by rw[hap];exact h1
  obtain⟨p1,p2,p3⟩:=XG.1 hp
  have hxm:x∈l:=QG hx
  have htk:∃ a,a∈l.take k:=⟨l[0],by
   refine YP.2 ⟨0,?_⟩
   rw[QT];simp;omega⟩
  obtain⟨a,ha⟩:=htk
  refine⟨⟨p1,fun e he=>⟨(h2 e (ZM he)).1,p3 e he x (by simp)⟩⟩,⟨by rw[hd];exact p2,fun e he=>⟨?_,(h2 e (ZX he)).2⟩⟩,Aow (h2 a (ZM ha)).1 (p3 a ha x (by simp)),(h2 x hxm).2⟩
  rw[hd]at he
  rcases QP.1 he with rfl|he
  ·exact Oc _
  ·exact ((YJ.1 p2).1 e he).le
theorem Ame {lo e:Ent}{hi:Option Ent}{l:List Ent}(hc:OkT true 0 lo hi l)(h1:leE lo e)(h2:ltO e hi)(hn:e∉l):OkT true 0 lo hi (l.take (Iq (B1 l) e)++e::l.drop (Iq (B1 l) e):List Ent):=by
 obtain⟨g1,g2⟩:=hc
 have hie:(B1 l).map (·.e)=l:=by simp[B1,Function.comp_def]
 obtain⟨c1,c2⟩:=Qj (l:=B1 l) (e:=e) (by rw[hie];exact g1)
 obtain⟨k,hk⟩:∃ k,k=Iq (B1 l) e:=⟨_,rfl⟩
 rw[← hk]at c1 c2 ⊢
 have hget:∀ (j:Nat) (x:Ent),l[j]? =some x→(B1 l)[j]? =some ⟨x,0⟩:=fun j x hj=>by simp[B1,hj]
 have hp:Qi (l.take k++l.drop k):=by rw[ZI];exact g1
 obtain⟨p1,p2,p3⟩:=XG.1 hp
 have hlo:∀ x∈l.take k,ltE x e:=fun x hx=>by
  obtain⟨j,hj⟩:=YP.1 hx
  rw[QT]at hj
  split at hj
  ·rename_i hjk
   exact (c2 j _ (hget j x hj)).1 hjk
  ·simp at hj
 have hhi:∀ x∈l.drop k,ltE e x:=fun x hx=>by
  obtain⟨j,hj⟩:=YP.1 hx
  rw[ZK]at hj
  have:=(c2 (k+j) _ (hget _ x hj)).2 (by omega)
  rcases Hy e x with h|h|h
  ·exact h
  ·exact absurd (h▸ZX hx) hn
  ·unfold ltE at h;simp only at this;omega
 refine⟨XG.2 ⟨p1,YJ.2 ⟨hhi,p2⟩,fun a ha b hb=> ?_⟩,fun x hx=> ?_⟩
 ·rcases QP.1 hb with rfl|hb
  ·exact hlo a ha
  ·exact p3 a ha b hb
 ·rcases QS.1 hx with hx|hx
  ·exact g2 x (ZM hx)
  ·rcases QP.1 hx with rfl|hx
   ·exact⟨h1,h2⟩
   ·exact g2 x (ZX hx)
theorem Acp:∀ {h:Nat} {lo e:Ent} {hi:Option Ent} {t t':BTr h} {more:Option (Ent×Nat×BTr h)},OkT true h lo hi t→leE lo e→ltO e hi→Ur h t e t' more→
 Aji h lo hi t' more
 |0,lo,e,hi,t,t',more,hok,h1,h2,hi'=>Aqy (Ame hok h1 h2 hi'.1) hi'.2
 |h+1,lo,e,hi,t,t',more,hok,h1,h2,hi'=>by
  obtain⟨l1,x,l2,s',more',rfl,hlen,hin,hsp⟩:=hi'
  obtain⟨hne,hhd,hc⟩:=hok
  obtain⟨a1,y,a2,ha,hal,g1,g2⟩:=Us hne hhd hc h1 h2
  have hl:l1.length=a1.length:=hlen.trans hal.symm
  obtain⟨rfl,hrest⟩:=List.append_inj ha hl
  simp only[YI]at hrest
  obtain⟨rfl,rfl⟩:=hrest
  have hch:=Lf hc
  have ih:=Acp hch g1 g2 hin
  have hhd':∀ (q:NL h),Np true lo (l1++(x.1,x.2.1,s')::q):=fun q=>Aag.2 fun w hw=>by
   have:=Aag.1 hhd
   cases l1 with
   |nil=>simp at hw;rw[← hw];exact this x rfl
   |cons b r=>simp at hw;rw[← hw];exact this b rfl
  cases more' with
  |none=>exact Aoz (by simp) (hhd' _) (Ajf hc ih) hsp
  |some z=>exact Aoz (by simp) (hhd' _) (Aqx (z:=z) hc ih.1 ih.2.1 ih.2.2.1 ih.2.2.2) hsp
theorem Ajj:∀ {h:Nat} {lo e:Ent} {hi:Option Ent} {t t':BTr h},OkT true h lo hi t→leE lo e→ltO e hi→Amd h t e t'→OkT true h lo hi t'
 |0,lo,e,hi,t,t',hok,h1,h2,hf=>by rw[hf];exact hok
 |h+1,lo,e,hi,t,t',hok,h1,h2,hf=>by
  obtain⟨l1,x,l2,s',rfl,hlen,hin,rfl⟩:=hf
  obtain⟨hne,hhd,hc⟩:=hok
  obtain⟨a1,y,a2,ha,hal,g1,g2⟩:=Us hne hhd hc h1 h2
  have hl:l1.length=a1.length:=hlen.trans hal.symm
  obtain⟨rfl,hrest⟩:=List.append_inj ha hl
  simp only[YI]at hrest
  obtain⟨rfl,rfl⟩:=hrest
  have hch:=Lf hc
  have hs:OkT true h (loOf l1 lo x.1) (hiOf l2 hi) s':=by
   rcases hin with hin|⟨z,hin⟩
   ·exact Ajj hch g1 g2 hin
   ·have ih:=Acp hch g1 g2 hin
    exact ih.1.hiMono ih.2.2.2
  refine⟨by simp,Aag.2 fun w hw=> ?_,Ajf hc hs⟩
  have:=Aag.1 hhd
  cases l1 with
  |nil=>simp at hw;rw[← hw];exact this x rfl
  |cons b r=>simp at hw;rw[← hw];exact this b rfl
