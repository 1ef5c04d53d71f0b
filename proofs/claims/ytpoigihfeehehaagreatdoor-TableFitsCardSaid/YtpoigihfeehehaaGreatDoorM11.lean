/- The table of types that the abstract machine is given, checked against the program's own; regions by their list of operations. -/
import Derived.Test.YtpoigihfeehehaaGreatDoorM10
set_option linter.all false
set_option maxRecDepth 100000
set_option maxHeartbeats 32000000
namespace Go.Proofs.YtpoigihfeehehaaGreatDoor
open Go.RowKit
open List (all_eq_true)
def vEqP:Value→Value→Bool
 | .bool a,.bool b=>a==b
 | .int k a,.int k' b=>decide (k=k')&&a==b
 | .string a,.string b=>a.data.toList==b.data.toList
 | .pointer none,.pointer none=>true
 | .slice none 0 0,.slice none 0 0=>true
 | .map none,.map none=>true
 | .chan none,.chan none=>true
 | .nilFunc,.nilFunc=>true
 | .nilIface,.nilIface=>true
 |_,_=>false
theorem Afs {x y:Value}(h:vEqP x y=true):x=y:=by
 unfold vEqP at h
 split at h<;>first
  |rfl
  |(simp at h;done)
  |(simp only[Bool.and_eq_true,decide_eq_true_eq,beq_iff_eq]at h;first|(obtain⟨rfl,rfl⟩:=h;rfl)|(subst h;rfl))
  |(rename_i a b
    have h1:a.data.toList=b.data.toList:=by simpa using h
    have h2:a.data=b.data:=Array.toList_inj.1 h1
    cases a;cases b;simp_all)
def vsEq:List Value→List Value→Bool
 |[],[]=>true
 |x::xs,y::ys=>vEqP x y&&vsEq xs ys
 |_,_=>false
theorem Tm:∀ {xs ys:List Value},vsEq xs ys=true→xs=ys
 |[],[],_=>rfl
 |x::xs,y::ys,h=>by
  simp only[vsEq,Bool.and_eq_true]at h
  rw[Afs h.1,Tm h.2]
 |[],_::_,h=>by simp[vsEq]at h
 |_::_,[],h=>by simp[vsEq]at h
def vEq:Value→Value→Bool
 | .agg us,.agg vs=>vsEq us.toList vs.toList
 |x,y=>vEqP x y
theorem Arn {x y:Value}(h:vEq x y=true):x=y:=by
 unfold vEq at h
 split at h
 ·rw[Array.toList_inj.1 (Tm h)]
 ·exact Afs h
def rowB (P:Program)(t:TypeId)(s:Nat)(r:Bool):Bool:=match P.info? t,P.underlying t with
 |some i,some d=>i.size==s&&d.isRow==r
 |_,_=>false
theorem Ja {P:Program}{t:TypeId}{s:Nat}{r:Bool}(h:rowB P t s r=true):Vh P t s r:=by
 unfold rowB at h
 split at h
 ·rename_i i d hi hd
  simp only[Bool.and_eq_true,beq_iff_eq]at h
  exact⟨i,d,hi,h.1,hd,h.2⟩
 ·simp at h
def fieldsB (P:Program):List Field→List (Nat×Nat×Bool)→Bool
 |[],[]=>true
 |f::fl,(off,s,r)::fs=>f.offset==off&&rowB P f.type s r&&decide (0<s)&&(r||s==1)&&fieldsB P fl fs
 |_,_=>false
theorem Rl {P:Program}:∀ {fl:List Field} {fs:List (Nat×Nat×Bool)},fieldsB P fl fs=true→
 fl.mapM (fun f=>(P.info? f.type).map fun i=>(f.offset,i.size))=some (fs.map fun x=>(x.1,x.2.1))∧∀ (k off s:Nat) (r:Bool),fs[k]? =some (off,s,r)→∃ f:Field,fl[k]? =some f∧f.offset=off∧Vh P f.type s r∧0<s∧(r=false→s=1)
 |[],[],_=>by simp
 |f::fl,(off,s,r)::fs,h=>by
  simp only[fieldsB,Bool.and_eq_true,beq_iff_eq,decide_eq_true_eq,Bool.or_eq_true]at h
  obtain⟨⟨⟨⟨h1,h2⟩,h3⟩,h4⟩,h5⟩:=h
  obtain⟨g1,g2⟩:=Rl h5
  have hT:=Ja h2
  obtain⟨i,d,hi,hs,_⟩:=id hT
  refine⟨by simp[List.mapM_cons,hi,g1,h1,hs],fun k off' s' r' hk=> ?_⟩
  cases k with
  |zero=>
   simp at hk
   obtain⟨rfl,rfl,rfl⟩:=hk
   exact⟨f,rfl,h1,hT,h3,fun hr=>h4.resolve_left (by simp[hr])⟩
  |succ k=>simpa using g2 k off' s' r' (by simpa using hk)
 |[],_::_,h=>by simp[fieldsB]at h
 |_::_,[],h=>by simp[fieldsB]at h
def O0 (P:Program)(d:TypeDesc):TK→Bool
 | .int k=>match d with| .int k'=>decide (k=k')|_=>false
 | .bool=>match d with| .bool=>true|_=>false
 | .str=>match d with| .string=>true|_=>false
 | .slice e es eb ez=>match d with
   | .slice e'=>e'==e&&(match P.info? e with
     |some i=>i.size==es&&(i.bytes==eb||(decide (2*i.bytes≤3*eb)&&decide (i.bytes≤1000000)))&&(match i.zero with|some z=>vsEq z.cells.toList ez|none=>false)&&ez.all plain&&ez.length==es&&decide (0<es)
     |none=>false)
   |_=>false
 | .struct fs=>match d with| .struct fields=>fieldsB P fields.toList fs|_=>false
 | .arr n es er=>match d with| .array n' e=>n'==n&&rowB P e es er&&decide (0<es)&&(er||es==1)|_=>false
 | .barr n=>match d with
   | .array n' e=>n'==n&&(match P.underlying e with|some (.int k)=>decide (k= .u8)|_=>false)&&(match P.info? e with|some i=>i.size==1|none=>false)&&decide (2≤P.depth)
   |_=>false
 | .map kd z=>match d with
   | .map K E=>(match P.underlying K with|some kd'=>(match kd,kd' with| .string,.string=>true| .int k,.int k'=>decide (k=k')|_,_=>false)|none=>false)&&(match P.info? E with|some i=>(match i.zero with|some z'=>vEq z' z|none=>false)|none=>false)
   |_=>false
 | .ptr=>match d with| .pointer _=>true|_=>false
 | .other=>true
theorem Akn {P:Program}{d:TypeDesc}{k:TK}(h:O0 P d k=true):TKOk P d k:=by
 cases k with
 |int k=>simp only[O0]at h;split at h<;>simp_all [TKOk]
 |bool=>simp only[O0]at h;split at h<;>simp_all [TKOk]
 |str=>simp only[O0]at h;split at h<;>simp_all [TKOk]
 |ptr=>
  simp only[O0]at h
  split at h
  ·exact⟨_,rfl⟩
  ·simp at h
 |other=>trivial
 |map kd z=>
  simp only[O0]at h
  split at h
  ·rename_i K E
   simp only[Bool.and_eq_true]at h
   obtain⟨h1,h2⟩:=h
   split at h1
   ·rename_i kd' hK
    split at h2
    ·rename_i i hi
     split at h2
     ·rename_i z' hz
      have e1:=Arn h2
      subst e1
      refine⟨K,E,i,rfl,?_,hi,hz⟩
      split at h1
      ·exact hK
      ·simp only[decide_eq_true_eq]at h1;subst h1;exact hK
      ·simp at h1
     ·simp at h2
    ·simp at h2
   ·simp at h1
  ·simp at h
 |slice e es eb ez=>
  simp only[O0]at h
  split at h
  ·rename_i e'
   simp only[Bool.and_eq_true,beq_iff_eq]at h
   obtain⟨rfl,h⟩:=h
   split at h
   ·rename_i i hi
    simp only[Bool.and_eq_true,Bool.or_eq_true,beq_iff_eq,decide_eq_true_eq]at h
    obtain⟨⟨⟨⟨⟨h1,h2⟩,h3⟩,h4⟩,h5⟩,h6⟩:=h
    split at h3
    ·rename_i z hz
     exact⟨rfl,i,z,hi,h1,h2,hz,Tm h3,h4,h5,h6⟩
    ·simp at h3
   ·simp at h
  ·simp at h
 |struct fs=>
  simp only[O0]at h
  split at h
  ·rename_i fields
   obtain⟨h1,h2⟩:=Rl h
   refine⟨fields,rfl,h1,fun k off s r hk=> ?_⟩
   obtain⟨f,g1,g2⟩:=h2 k off s r hk
   exact⟨f,by rw[Array.getElem?_toList]at g1;exact g1,g2⟩
  ·simp at h
 |arr n es er=>
  simp only[O0]at h
  split at h
  ·rename_i n' e
   simp only[Bool.and_eq_true,beq_iff_eq,decide_eq_true_eq,Bool.or_eq_true]at h
   obtain⟨⟨⟨rfl,h1⟩,h2⟩,h3⟩:=h
   exact⟨e,rfl,Ja h1,h2,fun hr=>h3.resolve_left (by simp[hr])⟩
  ·simp at h
 |barr n=>
  simp only[O0]at h
  split at h
  ·rename_i n' e
   simp only[Bool.and_eq_true,beq_iff_eq,decide_eq_true_eq]at h
   obtain⟨⟨⟨rfl,h1⟩,h2⟩,h3⟩:=h
   split at h1
   ·rename_i k hu
    simp only[decide_eq_true_eq]at h1
    subst h1
    split at h2
    ·rename_i i hi
     exact⟨e,i,rfl,hu,hi,by simpa using h2,h3⟩
    ·simp at h2
   ·simp at h1
  ·simp at h
def tyB (P:Program)(t:TypeId)(ti:TI):Bool:=match P.info? t,P.underlying t with
 |some i,some d=>i.size==ti.size&&d.isRow==ti.row&&(match i.zero with|some z=>vsEq z.cells.toList ti.zero|none=>false)&&ti.zero.all plain&&ti.zero.length==ti.size&&(ti.row||ti.size==1)&&O0 P d ti.kind
 |_,_=>false
theorem Aro {P:Program}{t:TypeId}{ti:TI}(h:tyB P t ti=true):TyOk P t ti:=by
 unfold tyB at h
 split at h
 ·rename_i i d hi hd
  simp only[Bool.and_eq_true,beq_iff_eq,Bool.or_eq_true]at h
  obtain⟨⟨⟨⟨⟨⟨h1,h2⟩,h3⟩,h4⟩,h5⟩,h6⟩,h7⟩:=h
  split at h3
  ·rename_i z hz
   exact⟨i,d,z,hi,h1,hd,h2,hz,Tm h3,h4,h5,fun hr=>h6.resolve_left (by simp[hr]),Akn h7⟩
  ·simp at h3
 ·simp at h
def Aft (l:List (TypeId×TI))(m:List Nat)(q:List (TypeId×List EK)):Ctx:={ ty:=fun t=>l.lookup t,muts:=m,eqs:=fun t=>q.lookup t }
def eqFB (P:Program):List EK→Nat→List Field→Bool
 |[],_,[]=>true
 |k::ks,n,f::fs=>f.name != "_" &&f.offset==n&&rowB P f.type 1 false&&(match k,P.underlying f.type with
   | .int,some (.int _)=>true
   | .str,some .string=>true
   | .bool,some .bool=>true
   |_,_=>false)&&eqFB P ks (n+1) fs
 |_,_,_=>false
theorem Afu {P:Program}:∀ {ks:List EK} {n:Nat} {fs:List Field},eqFB P ks n fs=true→EqF P ks n fs
 |[],_,[],_=>trivial
 |k::ks,n,f::fs,h=>by
  simp only[eqFB,Bool.and_eq_true,bne_iff_ne,beq_iff_eq]at h
  obtain⟨⟨⟨⟨h1,h2⟩,h3⟩,h4⟩,h5⟩:=h
  refine⟨h1,h2,Ja h3,?_,Afu h5⟩
  split at h4<;>simp_all
 |[],_,_::_,h=>by simp[eqFB]at h
 |_::_,_,[],h=>by simp[eqFB]at h
def eqGB (P:Program):Nat→List EK→List Field→Bool
 |_,ks,[]=>ks.isEmpty
 |n,ks,f::fs=>f.name != "_" &&f.offset==n&&(match P.underlying f.type with
   |some (.struct sub)=>decide (0<sub.size)&&decide (sub.size≤ks.length)&& !P.stoodInHeld f.type&&rowB P f.type sub.size true&&eqFB P (ks.take sub.size) 0 sub.toList&&eqGB P (n+sub.size) (ks.drop sub.size) fs
   |some (.int _)=>(match ks with| .int::ks'=>rowB P f.type 1 false&&eqGB P (n+1) ks' fs|_=>false)
   |some .string=>(match ks with| .str::ks'=>rowB P f.type 1 false&&eqGB P (n+1) ks' fs|_=>false)
   |some .bool=>(match ks with| .bool::ks'=>rowB P f.type 1 false&&eqGB P (n+1) ks' fs|_=>false)
   |_=>false)
theorem O1 {P:Program}:∀ {fs:List Field} {n:Nat} {ks:List EK},eqGB P n ks fs=true→EqG P n ks fs
 |[],n,ks,h=>by
  unfold eqGB at h
  exact List.isEmpty_iff.1 h
 |f::fs,n,ks,h=>by
  simp only[eqGB,Bool.and_eq_true,bne_iff_ne,beq_iff_eq]at h
  obtain⟨⟨h1,h2⟩,h3⟩:=h
  refine⟨h1,h2,?_⟩
  split at h3
  ·rename_i sub hd
   simp only[Bool.and_eq_true,decide_eq_true_eq,Bool.not_eq_true']at h3
   obtain⟨⟨⟨⟨⟨g1,g2⟩,g3⟩,g4⟩,g5⟩,g6⟩:=h3
   have hl:(ks.take sub.size).length=sub.size:=by rw[List.length_take];omega
   exact .inr ⟨sub,ks.take sub.size,ks.drop sub.size,(List.take_append_drop _ _).symm,by omega,hd,g3,by rw[hl];exact Ja g4,Afu g5,by rw[hl];exact O1 g6⟩
  ·rename_i ik hd
   split at h3
   ·rename_i ks'
    simp only[Bool.and_eq_true]at h3
    exact .inl ⟨.int,ks',rfl,Ja h3.1,⟨ik,hd⟩,O1 h3.2⟩
   ·simp at h3
  ·rename_i hd
   split at h3
   ·rename_i ks'
    simp only[Bool.and_eq_true]at h3
    exact .inl ⟨.str,ks',rfl,Ja h3.1,hd,O1 h3.2⟩
   ·simp at h3
  ·rename_i hd
   split at h3
   ·rename_i ks'
    simp only[Bool.and_eq_true]at h3
    exact .inl ⟨.bool,ks',rfl,Ja h3.1,hd,O1 h3.2⟩
   ·simp at h3
  ·simp at h3
def eqB (P:Program)(t:TypeId)(ks:List EK):Bool:=match P.underlying t with
 |some (.struct fields)=> !P.stoodInHeld t&& !P.eqGuardType P.depth t&&eqGB P 0 ks fields.toList
 |_=>false
theorem Arp {P:Program}{t:TypeId}{ks:List EK}(h:eqB P t ks=true):EqOk P t ks:=by
 unfold eqB at h
 split at h
 ·rename_i fields hd
  simp only[Bool.and_eq_true,Bool.not_eq_true']at h
  exact⟨fields,hd,h.1.1,h.1.2,O1 h.2⟩
 ·simp at h
theorem Ad7 {α:Type}{t:TypeId}{x:α}:∀ (l:List (TypeId×α)),l.lookup t=some x→(t,x)∈l:=fun l=>by
 induction l with
 |nil=>simp
 |cons x l ih=>
  obtain⟨t',ti'⟩:=x
  intro h
  rw[List.lookup_cons]at h
  split at h
  ·rename_i he;simp at he h;subst he h;simp
  ·simp[ih h]
theorem V6 {P:Program}{l:List (TypeId×TI)}{m:List Nat}{q:List (TypeId×List EK)}(h:l.all (fun x=>tyB P x.1 x.2)=true)(hq:q.all (fun x=>eqB P x.1 x.2)=true):(Aft l m q).ok P:=by
 refine⟨?_,fun t ks ht=>Arp (all_eq_true.1 hq _ (Ad7 q ht)),fun t n f E h=>by simp[Aft]at h⟩
 intro t ti ht
 have:∀ (l:List (TypeId×TI)),l.lookup t=some ti→(t,ti)∈l:=fun l=>by
  induction l with
  |nil=>simp
  |cons x l ih=>
   obtain⟨t',ti'⟩:=x
   intro h
   rw[List.lookup_cons]at h
   split at h
   ·rename_i he;simp at he h;subst he h;simp
   ·simp[ih h]
 exact Aro (all_eq_true.1 h _ (this l ht))
def Apa (P:Program)(t:TypeId)(name:String)(f:FuncId)(E:Option TypeId):Bool:=match P.info? t,P.underlying t with
 |some i,some (.pointer e)=>(match i.methods.find? (·.name==name)with
  |some m=>m.path.isEmpty&&(match m.func with|some (g,p)=>g==f&&p==E.isNone|none=>false)&&(match E with|some e'=>e'==e|none=>true)
  |none=>false)
 |_,_=>false
theorem Ako {P:Program}{t:TypeId}{name:String}{f:FuncId}{E:Option TypeId}(h:Apa P t name f E=true):Am7 P t name f E:=by
 unfold Apa at h
 split at h
 ·rename_i i e hi hd
  split at h
  ·rename_i m hm
   simp only[Bool.and_eq_true,Array.isEmpty_iff]at h
   obtain⟨⟨h1,h2⟩,h3⟩:=h
   split at h2
   ·rename_i g p hf
    simp only[Bool.and_eq_true,beq_iff_eq]at h2
    obtain⟨rfl,rfl⟩:=h2
    refine⟨i,m,e,hi,hm,h1,hf,hd,fun e' he=> ?_⟩
    subst he
    simpa using h3
   ·simp at h2
  ·simp at h
 ·simp at h
def Afv (l:List (TypeId×String×FuncId×Option TypeId))(t:TypeId)(name:String):Option (FuncId×Option TypeId):=match l with
 |[]=>none
 |(t',n',f,E)::l=>if t'=t∧n'=name then some (f,E)else Afv l t name
theorem V7 {t:TypeId}{name:String}{f:FuncId}{E:Option TypeId}:∀ (l:List (TypeId×String×FuncId×Option TypeId)),Afv l t name=some (f,E)→(t,name,f,E)∈l
 |[],h=>by simp[Afv]at h
 |(t',n',f',E')::l,h=>by
  unfold Afv at h
  split at h
  ·rename_i hc
   obtain⟨rfl,rfl⟩:=hc
   simp only[Option.some.injEq,Prod.mk.injEq]at h
   obtain⟨rfl,rfl⟩:=h
   simp
  ·exact List.mem_cons_of_mem _ (V7 l h)
def Afw (l:List (TypeId×TI))(m:List Nat)(q:List (TypeId×List EK))(me:List (TypeId×String×FuncId×Option TypeId)):Ctx:={ Aft l m q with meth:=Afv me }
theorem Ad8 {P:Program}{l:List (TypeId×TI)}{m:List Nat}{q:List (TypeId×List EK)}{me:List (TypeId×String×FuncId×Option TypeId)}(h:l.all (fun x=>tyB P x.1 x.2)=true)(hq:q.all (fun x=>eqB P x.1 x.2)=true)(hm:me.all (fun x=>Apa P x.1 x.2.1 x.2.2.1 x.2.2.2)=true):(Afw l m q me).ok P:=
 ⟨(V6 (m:=m) h hq).1,(V6 (m:=m) h hq).2.1,fun t n f E ht=>Ako (all_eq_true.1 hm _ (V7 me ht))⟩
end Go.Proofs.YtpoigihfeehehaaGreatDoor
