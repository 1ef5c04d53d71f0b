/- The table of types that the abstract machine is given, checked against the program's own; regions by their list of operations. -/
import Derived.Test.YtpoigihfeehehaaGreatDoorM10
set_option linter.all false
set_option maxRecDepth 100000
set_option maxHeartbeats 32000000
namespace Go.Proofs.YtpoigihfeehehaaGreatDoor
open Go.RowKit
def vEqP:Value→Value→Bool
 | .bool a,.bool b=>a==b
 | .int k a,.int k' b=>decide (k=k')&&a==b
 | .string a,.string b=>a.data.toList==b.data.toList
 | .pointer none,.pointer none=>true
 | .slice none 0 0,.slice none 0 0=>true
 | .map none,.map none=>true
 | .chan none,.chan none=>true
 | .nilFunc,.nilFunc=>true
 | .nilIface,.nilIface=>true
 |_,_=>false
theorem Af4 {x y:Value}(h:vEqP x y=true):x=y:=by
 unfold vEqP at h
 split at h<;>first
  |rfl
  |(simp at h;done)
  |(simp only[QV,decide_eq_true_eq,beq_iff_eq]at h;first|(obtain⟨rfl,rfl⟩:=h;rfl)|(subst h;rfl))
  |(rename_i a b
    have h1:a.data.toList=b.data.toList:=by simpa using h
    have h2:a.data=b.data:=Array.toList_inj.1 h1
    cases a;cases b;simp_all)
def vsEq:List Value→List Value→Bool
 |[],[]=>true
 |x::xs,y::ys=>vEqP x y&&vsEq xs ys
 |_,_=>false
theorem Tg:∀ {xs ys:List Value},vsEq xs ys=true→xs=ys
 |[],[],_=>rfl
 |x::xs,y::ys,h=>by
  simp only[vsEq,QV]at h
  rw[Af4 h.1,Tg h.2]
 |[],_::_,h=>by simp[vsEq]at h
 |_::_,[],h=>by simp[vsEq]at h
def vEq:Value→Value→Bool
 | .agg us,.agg vs=>vsEq us.toList vs.toList
 |x,y=>vEqP x y
theorem Aru {x y:Value}(h:vEq x y=true):x=y:=by
 unfold vEq at h
 split at h
 ·rw[Array.toList_inj.1 (Tg h)]
 ·exact Af4 h
def rowB (P:Program)(t:TypeId)(s:Nat)(r:Bool):Bool:=match P.info? t,P.underlying t with
 |some i,some d=>i.size==s&&d.isRow==r
 |_,_=>false
theorem I6 {P:Program}{t:TypeId}{s:Nat}{r:Bool}(h:rowB P t s r=true):Vi P t s r:=by
 unfold rowB at h
 split at h
 ·rename_i i d hi hd
  simp only[QV,beq_iff_eq]at h
  exact⟨i,d,hi,h.1,hd,h.2⟩
 ·simp at h
def fieldsB (P:Program):List Field→List (Nat×Nat×Bool)→Bool
 |[],[]=>true
 |f::fl,(off,s,r)::fs=>f.offset==off&&rowB P f.type s r&&decide (0<s)&&(r||s==1)&&fieldsB P fl fs
 |_,_=>false
theorem Re {P:Program}:∀ {fl:List Field} {fs:List (Nat×Nat×Bool)},fieldsB P fl fs=true→
 fl.mapM (fun f=>(P.info? f.type).map fun i=>(f.offset,i.size))=some (fs.map fun x=>(x.1,x.2.1))∧∀ (k off s:Nat) (r:Bool),fs[k]? =some (off,s,r)→∃ f:Field,fl[k]? =some f∧f.offset=off∧Vi P f.type s r∧0<s∧(r=false→s=1)
 |[],[],_=>by simp
 |f::fl,(off,s,r)::fs,h=>by
  simp only[fieldsB,QV,beq_iff_eq,decide_eq_true_eq,WT]at h
  obtain⟨⟨⟨⟨h1,h2⟩,h3⟩,h4⟩,h5⟩:=h
  obtain⟨g1,g2⟩:=Re h5
  have hT:=I6 h2
  obtain⟨i,d,hi,hs,_⟩:=id hT
  refine⟨by simp[List.mapM_cons,hi,g1,h1,hs],fun k off' s' r' hk=> ?_⟩
  cases k with
  |zero=>
   simp at hk
   obtain⟨rfl,rfl,rfl⟩:=hk
   exact⟨f,rfl,h1,hT,h3,fun hr=>h4.resolve_left (by simp[hr])⟩
  |succ k=>simpa using g2 k off' s' r' (by simpa using hk)
 |[],_::_,h=>by simp[fieldsB]at h
 |_::_,[],h=>by simp[fieldsB]at h
def O2 (P:Program)(d:TypeDesc):TK→Bool
 | .int k=>match d with| .int k'=>decide (k=k')|_=>false
 | .bool=>match d with| .bool=>true|_=>false
 | .str=>match d with| .string=>true|_=>false
 | .slice e es eb ez=>match d with
   | .slice e'=>e'==e&&(match P.info? e with
     |some i=>i.size==es&&(i.bytes==eb||(decide (2*i.bytes≤3*eb)&&decide (i.bytes≤1000000)))&&(match i.zero with|some z=>vsEq z.cells.toList ez|none=>false)&&ez.all plain&&ez.length==es&&decide (0<es)
     |none=>false)
   |_=>false
 | .struct fs=>match d with| .struct fields=>fieldsB P fields.toList fs|_=>false
 | .arr n es er=>match d with| .array n' e=>n'==n&&rowB P e es er&&decide (0<es)&&(er||es==1)|_=>false
 | .barr n=>match d with
   | .array n' e=>n'==n&&(match P.underlying e with|some (.int k)=>decide (k= .u8)|_=>false)&&(match P.info? e with|some i=>i.size==1|none=>false)&&decide (2≤P.depth)
   |_=>false
 | .map kd z=>match d with
   | .map K E=>(match P.underlying K with|some kd'=>(match kd,kd' with| .string,.string=>true| .int k,.int k'=>decide (k=k')|_,_=>false)|none=>false)&&(match P.info? E with|some i=>(match i.zero with|some z'=>vEq z' z|none=>false)|none=>false)
   |_=>false
 | .ptr=>match d with| .pointer _=>true|_=>false
 | .other=>true
theorem Akx {P:Program}{d:TypeDesc}{k:TK}(h:O2 P d k=true):TKOk P d k:=by
 cases k with
 |int k=>simp only[O2]at h;split at h<;>simp_all [TKOk]
 |bool=>simp only[O2]at h;split at h<;>simp_all [TKOk]
 |str=>simp only[O2]at h;split at h<;>simp_all [TKOk]
 |ptr=>
  simp only[O2]at h
  split at h
  ·exact⟨_,rfl⟩
  ·simp at h
 |other=>trivial
 |map kd z=>
  simp only[O2]at h
  split at h
  ·rename_i K E
   simp only[QV]at h
   obtain⟨h1,h2⟩:=h
   split at h1
   ·rename_i kd' hK
    split at h2
    ·rename_i i hi
     split at h2
     ·rename_i z' hz
      have e1:=Aru h2
      subst e1
      refine⟨K,E,i,rfl,?_,hi,hz⟩
      split at h1
      ·exact hK
      ·simp only[decide_eq_true_eq]at h1;subst h1;exact hK
      ·simp at h1
     ·simp at h2
    ·simp at h2
   ·simp at h1
  ·simp at h
 |slice e es eb ez=>
  simp only[O2]at h
  split at h
  ·rename_i e'
   simp only[QV,beq_iff_eq]at h
   obtain⟨rfl,h⟩:=h
   split at h
   ·rename_i i hi
    simp only[QV,WT,beq_iff_eq,decide_eq_true_eq]at h
    obtain⟨⟨⟨⟨⟨h1,h2⟩,h3⟩,h4⟩,h5⟩,h6⟩:=h
    split at h3
    ·rename_i z hz
     exact⟨rfl,i,z,hi,h1,h2,hz,Tg h3,h4,h5,h6⟩
    ·simp at h3
   ·simp at h
  ·simp at h
 |struct fs=>
  simp only[O2]at h
  split at h
  ·rename_i fields
   obtain⟨h1,h2⟩:=Re h
   refine⟨fields,rfl,h1,fun k off s r hk=> ?_⟩
   obtain⟨f,g1,g2⟩:=h2 k off s r hk
   exact⟨f,by rw[XZ]at g1;exact g1,g2⟩
  ·simp at h
 |arr n es er=>
  simp only[O2]at h
  split at h
  ·rename_i n' e
   simp only[QV,beq_iff_eq,decide_eq_true_eq,WT]at h
   obtain⟨⟨⟨rfl,h1⟩,h2⟩,h3⟩:=h
   exact⟨e,rfl,I6 h1,h2,fun hr=>h3.resolve_left (by simp[hr])⟩
  ·simp at h
 |barr n=>
  simp only[O2]at h
  split at h
  ·rename_i n' e
   simp only[QV,beq_iff_eq,decide_eq_true_eq]at h
   obtain⟨⟨⟨rfl,h1⟩,h2⟩,h3⟩:=h
   split at h1
   ·rename_i k hu
    simp only[decide_eq_true_eq]at h1
    subst h1
    split at h2
    ·rename_i i hi
     exact⟨e,i,rfl,hu,hi,by simpa using h2,h3⟩
    ·simp at h2
   ·simp at h1
  ·simp at h
def tyB (P:Program)(t:TypeId)(ti:TI):Bool:=match P.info? t,P.underlying t with
 |some i,some d=>i.size==ti.size&&d.isRow==ti.row&&(match i.zero with|some z=>vsEq z.cells.toList ti.zero|none=>false)&&ti.zero.all plain&&ti.zero.length==ti.size&&(ti.row||ti.size==1)&&O2 P d ti.kind
 |_,_=>false
theorem Arv {P:Program}{t:TypeId}{ti:TI}(h:tyB P t ti=true):TyOk P t ti:=by
 unfold tyB at h
 split at h
 ·rename_i i d hi hd
  simp only[QV,beq_iff_eq,WT]at h
  obtain⟨⟨⟨⟨⟨⟨h1,h2⟩,h3⟩,h4⟩,h5⟩,h6⟩,h7⟩:=h
  split at h3
  ·rename_i z hz
   exact⟨i,d,z,hi,h1,hd,h2,hz,Tg h3,h4,h5,fun hr=>h6.resolve_left (by simp[hr]),Akx h7⟩
  ·simp at h3
 ·simp at h
def Af5 (l:List (TypeId×TI))(m:List Nat)(q:List (TypeId×List EK)):Ctx:={ ty:=fun t=>l.lookup t,muts:=m,eqs:=fun t=>q.lookup t }
def eqFB (P:Program):List EK→Nat→List Field→Bool
 |[],_,[]=>true
 |k::ks,n,f::fs=>f.name != "_" &&f.offset==n&&rowB P f.type 1 false&&(match k,P.underlying f.type with
   | .int,some (.int _)=>true
   | .str,some .string=>true
   | .bool,some .bool=>true
   |_,_=>false)&&eqFB P ks (n+1) fs
 |_,_,_=>false
theorem Af6 {P:Program}:∀ {ks:List EK} {n:Nat} {fs:List Field},eqFB P ks n fs=true→EqF P ks n fs
 |[],_,[],_=>trivial
 |k::ks,n,f::fs,h=>by
  simp only[eqFB,QV,bne_iff_ne,beq_iff_eq]at h
  obtain⟨⟨⟨⟨h1,h2⟩,h3⟩,h4⟩,h5⟩:=h
  refine⟨h1,h2,I6 h3,?_,Af6 h5⟩
  split at h4<;>simp_all
 |[],_,_::_,h=>by simp[eqFB]at h
 |_::_,_,[],h=>by simp[eqFB]at h
def eqGB (P:Program):Nat→List EK→List Field→Bool
 |_,ks,[]=>ks.isEmpty
 |n,ks,f::fs=>f.name != "_" &&f.offset==n&&(match P.underlying f.type with
   |some (.struct sub)=>decide (0<sub.size)&&decide (sub.size≤ks.length)&& !P.stoodInHeld f.type&&rowB P f.type sub.size true&&eqFB P (ks.take sub.size) 0 sub.toList&&eqGB P (n+sub.size) (ks.drop sub.size) fs
   |some (.int _)=>(match ks with| .int::ks'=>rowB P f.type 1 false&&eqGB P (n+1) ks' fs|_=>false)
   |some .string=>(match ks with| .str::ks'=>rowB P f.type 1 false&&eqGB P (n+1) ks' fs|_=>false)
   |some .bool=>(match ks with| .bool::ks'=>rowB P f.type 1 false&&eqGB P (n+1) ks' fs|_=>false)
   |_=>false)
theorem O3 {P:Program}:∀ {fs:List Field} {n:Nat} {ks:List EK},eqGB P n ks fs=true→EqG P n ks fs
 |[],n,ks,h=>by
  unfold eqGB at h
  exact List.isEmpty_iff.1 h
 |f::fs,n,ks,h=>by
  simp only[eqGB,QV,bne_iff_ne,beq_iff_eq]at h
  obtain⟨⟨h1,h2⟩,h3⟩:=h
  refine⟨h1,h2,?_⟩
  split at h3
  ·rename_i sub hd
   simp only[QV,decide_eq_true_eq,Bool.not_eq_true']at h3
   obtain⟨⟨⟨⟨⟨g1,g2⟩,g3⟩,g4⟩,g5⟩,g6⟩:=h3
   have hl:(ks.take sub.size).length=sub.size:=by rw[QZ];omega
   exact .inr ⟨sub,ks.take sub.size,ks.drop sub.size,(ZI _ _).symm,by omega,hd,g3,by rw[hl];exact I6 g4,Af6 g5,by rw[hl];exact O3 g6⟩
  ·rename_i ik hd
   split at h3
   ·rename_i ks'
    simp only[QV]at h3
    exact .inl ⟨.int,ks',rfl,I6 h3.1,⟨ik,hd⟩,O3 h3.2⟩
   ·simp at h3
  ·rename_i hd
   split at h3
   ·rename_i ks'
    simp only[QV]at h3
    exact .inl ⟨.str,ks',rfl,I6 h3.1,hd,O3 h3.2⟩
   ·simp at h3
  ·rename_i hd
   split at h3
   ·rename_i ks'
    simp only[QV]at h3
    exact .inl ⟨.bool,ks',rfl,I6 h3.1,hd,O3 h3.2⟩
   ·simp at h3
  ·simp at h3
def eqB (P:Program)(t:TypeId)(ks:List EK):Bool:=match P.underlying t with
 |some (.struct fields)=> !P.stoodInHeld t&& !P.eqGuardType P.depth t&&eqGB P 0 ks fields.toList
 |_=>false
theorem Arw {P:Program}{t:TypeId}{ks:List EK}(h:eqB P t ks=true):EqOk P t ks:=by
 unfold eqB at h
 split at h
 ·rename_i fields hd
  simp only[QV,Bool.not_eq_true']at h
  exact⟨fields,hd,h.1.1,h.1.2,O3 h.2⟩
 ·simp at h
theorem Aej {α:Type}{t:TypeId}{x:α}:∀ (l:List (TypeId×α)),l.lookup t=some x→(t,x)∈l:=fun l=>by
 induction l with
 |nil=>simp
 |cons x l ih=>
  obtain⟨t',ti'⟩:=x
  intro h
  rw[List.lookup_cons]at h
  split at h
  ·rename_i he;simp at he h;subst he h;simp
  ·simp[ih h]
theorem V8 {P:Program}{l:List (TypeId×TI)}{m:List Nat}{q:List (TypeId×List EK)}(h:l.all (fun x=>tyB P x.1 x.2)=true)(hq:q.all (fun x=>eqB P x.1 x.2)=true):(Af5 l m q).ok P:=by
 refine⟨?_,fun t ks ht=>Arw (ZA.1 hq _ (Aej q ht)),fun t n f E h=>by simp[Af5]at h⟩
 intro t ti ht
 have:∀ (l:List (TypeId×TI)),l.lookup t=some ti→(t,ti)∈l:=fun l=>by
  induction l with
  |nil=>simp
  |cons x l ih=>
   obtain⟨t',ti'⟩:=x
   intro h
   rw[List.lookup_cons]at h
   split at h
   ·rename_i he;simp at he h;subst he h;simp
   ·simp[ih h]
 exact Arv (ZA.1 h _ (this l ht))
def Apl (P:Program)(t:TypeId)(name:String)(f:FuncId)(E:Option TypeId):Bool:=match P.info? t,P.underlying t with
 |some i,some (.pointer e)=>(match i.methods.find? (·.name==name)with
  |some m=>m.path.isEmpty&&(match m.func with|some (g,p)=>g==f&&p==E.isNone|none=>false)&&(match E with|some e'=>e'==e|none=>true)
  |none=>false)
 |_,_=>false
theorem Aky {P:Program}{t:TypeId}{name:String}{f:FuncId}{E:Option TypeId}(h:Apl P t name f E=true):Anj P t name f E:=by
 unfold Apl at h
 split at h
 ·rename_i i e hi hd
  split at h
  ·rename_i m hm
   simp only[QV,Array.isEmpty_iff]at h
   obtain⟨⟨h1,h2⟩,h3⟩:=h
   split at h2
   ·rename_i g p hf
    simp only[QV,beq_iff_eq]at h2
    obtain⟨rfl,rfl⟩:=h2
    refine⟨i,m,e,hi,hm,h1,hf,hd,fun e' he=> ?_⟩
    subst he
    simpa using h3
   ·simp at h2
  ·simp at h
 ·simp at h
def Af7 (l:List (TypeId×String×FuncId×Option TypeId))(t:TypeId)(name:String):Option (FuncId×Option TypeId):=match l with
 |[]=>none
 |(t',n',f,E)::l=>if t'=t∧n'=name then some (f,E)else Af7 l t name
theorem V9 {t:TypeId}{name:String}{f:FuncId}{E:Option TypeId}:∀ (l:List (TypeId×String×FuncId×Option TypeId)),Af7 l t name=some (f,E)→(t,name,f,E)∈l
 |[],h=>by simp[Af7]at h
 |(t',n',f',E')::l,h=>by
  unfold Af7 at h
  split at h
  ·rename_i hc
   obtain⟨rfl,rfl⟩:=hc
   simp only[QB,QJ]at h
   obtain⟨rfl,rfl⟩:=h
   simp
  ·exact YG _ (V9 l h)
def Af8 (l:List (TypeId×TI))(m:List Nat)(q:List (TypeId×List EK))(me:List (TypeId×String×FuncId×Option TypeId)):Ctx:={ Af5 l m q with meth:=Af7 me }
theorem Aek {P:Program}{l:List (TypeId×TI)}{m:List Nat}{q:List (TypeId×List EK)}{me:List (TypeId×String×FuncId×Option TypeId)}(h:l.all (fun x=>tyB P x.1 x.2)=true)(hq:q.all (fun x=>eqB P x.1 x.2)=true)(hm:me.all (fun x=>Apl P x.1 x.2.1 x.2.2.1 x.2.2.2)=true):(Af8 l m q me).ok P:=
 ⟨(V8 (m:=m) h hq).1,(V8 (m:=m) h hq).2.1,fun t n f E ht=>Aky (ZA.1 hm _ (V9 me ht))⟩
