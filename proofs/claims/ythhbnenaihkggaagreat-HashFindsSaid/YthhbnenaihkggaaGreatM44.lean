/- Bytes in order: texts compared. Hash indexes: the document's list. Hash indexes: the document's list, walked. Hash indexes: the laws' awake and index. -/
import Derived.Lib.Bytealg
import Derived.Test.YthhbnenaihkggaaGreatM36
import Derived.Test.YthhbnenaihkggaaGreatM43
set_option linter.unusedSimpArgs false
set_option linter.unusedVariables false
set_option linter.defProp false
set_option maxRecDepth 100000
set_option maxHeartbeats 32000000
namespace Go.Proofs.YthhbnenaihkggaaGreat
open Go.RowKit
open List (length_append length_cons length_map length_nil length_take map_append map_cons map_nil take_length)
theorem cb_swap:∀ a b:List UInt8,Lib.compareBytes b a= - Lib.compareBytes a b
 |[],[]=>rfl
 |[],_::_=>rfl
 |_::_,[]=>rfl
 |a::xs,b::ys=>by
  simp only[Lib.compareBytes]
  by_cases h1:a<b
  ·have h2:¬ b<a:=fun h=>UInt8.lt_irrefl a (UInt8.lt_trans h1 h)
   simp[h1,h2]
  ·by_cases h2:b<a
   ·simp[h1,h2]
   ·simp only[h1,h2,if_false];exact cb_swap xs ys
theorem cb_zero:∀ {a b:List UInt8},Lib.compareBytes a b=0→a=b
 |[],[],_=>rfl
 |[],_::_,h=>by simp[Lib.compareBytes]at h
 |_::_,[],h=>by simp[Lib.compareBytes]at h
 |a::xs,b::ys,h=>by
  simp only[Lib.compareBytes]at h
  split at h
  ·simp at h
  ·split at h
   ·simp at h
   ·rename_i h1 h2
    have:a=b:=UInt8.le_antisymm (UInt8.not_lt.1 h2) (UInt8.not_lt.1 h1)
    rw[this,cb_zero h]
theorem cb_self:∀ a:List UInt8,Lib.compareBytes a a=0
 |[]=>rfl
 |a::xs=>by simp only[Lib.compareBytes,UInt8.lt_irrefl,if_false];exact cb_self xs
theorem cb_trans:∀ {a b c:List UInt8},Lib.compareBytes a b<0→Lib.compareBytes b c<0→Lib.compareBytes a c<0
 |[],[],_,h,_=>by simp[Lib.compareBytes]at h
 |[],_::_,[],_,h=>by simp[Lib.compareBytes]at h
 |[],_::_,_::_,_,_=>by simp[Lib.compareBytes]
 |_::_,[],_,h,_=>by simp[Lib.compareBytes]at h
 |_::_,_::_,[],_,h=>by simp[Lib.compareBytes]at h
 |a::xs,b::ys,c::zs,h1,h2=>by
  simp only[Lib.compareBytes]at h1 h2 ⊢
  by_cases hab:a<b
  ·by_cases hbc:b<c
   ·rw[if_pos (UInt8.lt_trans hab hbc)];decide
   ·rw[if_neg hbc]at h2
    by_cases hcb:c<b
    ·rw[if_pos hcb]at h2;simp at h2
    ·have:b=c:=UInt8.le_antisymm (UInt8.not_lt.1 hcb) (UInt8.not_lt.1 hbc)
     subst this
     rw[if_pos hab];decide
  ·rw[if_neg hab]at h1
   by_cases hba:b<a
   ·rw[if_pos hba]at h1;simp at h1
   ·have:a=b:=UInt8.le_antisymm (UInt8.not_lt.1 hba) (UInt8.not_lt.1 hab)
    subst this
    rw[if_neg hab]at h1
    by_cases hbc:a<c
    ·rw[if_pos hbc];decide
    ·rw[if_neg hbc]at h2 ⊢
     by_cases hcb:c<a
     ·rw[if_pos hcb]at h2;simp at h2
     ·rw[if_neg hcb]at h2 ⊢
      exact cb_trans h1 h2
theorem bytesLess_cb:∀ a b:List UInt8,Op.bytesLess a b=decide (Lib.compareBytes a b<0)
 |[],[]=>rfl
 |[],_::_=>rfl
 |_::_,[]=>rfl
 |a::xs,b::ys=>by
  simp only[Op.bytesLess,Lib.compareBytes]
  by_cases h1:a<b
  ·simp[h1]
  ·by_cases h2:b<a
   ·have:(a==b)=false:=by
     simp only[beq_eq_false_iff_ne,ne_eq];rintro rfl;exact h1 h2
    simp[h1,h2,this]
   ·have:a=b:=UInt8.le_antisymm (UInt8.not_lt.1 h2) (UInt8.not_lt.1 h1)
    subst this
    simp[UInt8.lt_irrefl,bytesLess_cb xs ys]
abbrev strS (r:List UInt8):ByteArray:=⟨r.toArray⟩
theorem strS_list (r:List UInt8):(strS r).toList=r:=by rw[ba_list]
theorem str_lss (a b:List UInt8):binStr .lss (strS a) (strS b)=some (.bool (decide (Lib.compareBytes a b<0))):=by
 simp only[binStr,strS_list,bytesLess_cb]
def ltX (a b:HEn):Prop:=Lib.compareBytes a.k b.k<0∨(a.k=b.k∧(a.p<b.p∨(a.p=b.p∧a.s<b.s)))
instance (a b:HEn):Decidable (ltX a b):=by unfold ltX;infer_instance
theorem ltX_irrefl (a:HEn):¬ ltX a a:=fun h=>by
 rcases h with h|⟨_,h⟩
 ·rw[cb_self]at h;omega
 ·omega
theorem ltX_trans {a b c:HEn}(h1:ltX a b)(h2:ltX b c):ltX a c:=by
 rcases h1 with h1|⟨e1,h1⟩
 ·rcases h2 with h2|⟨e2,h2⟩
  ·exact .inl (cb_trans h1 h2)
  ·left;rw[← e2];exact h1
 ·rcases h2 with h2|⟨e2,h2⟩
  ·left;rw[e1];exact h2
  ·right;exact⟨e1.trans e2,by omega⟩
theorem ltX_total (a b:HEn):ltX a b∨a=b∨ltX b a:=by
 have hs:=cb_swap a.k b.k
 rcases Int.lt_trichotomy (Lib.compareBytes a.k b.k) 0 with h|h|h
 ·exact .inl (.inl h)
 ·have e:=cb_zero h
  rcases a with⟨ak,ap,xs⟩
  rcases b with⟨bk,bp,ys⟩
  simp only at e
  subst e
  by_cases h1:ap=bp
  ·by_cases h2:xs=ys
   ·subst h1;subst h2;exact .inr (.inl rfl)
   ·rcases Nat.lt_or_gt_of_ne h2 with h2|h2
    ·exact .inl (.inr ⟨rfl,.inr ⟨h1,h2⟩⟩)
    ·exact .inr (.inr (.inr ⟨rfl,.inr ⟨h1.symm,h2⟩⟩))
  ·rcases Nat.lt_or_gt_of_ne h1 with h2|h2
   ·exact .inl (.inr ⟨rfl,.inl h2⟩)
   ·exact .inr (.inr (.inr ⟨rfl,.inl h2⟩))
 ·exact .inr (.inr (.inl (by omega)))
def insX (e:HEn):List HEn→List HEn
 |[]=>[e]
 |x::l=>if ltX e x then e::x::l else x::insX e l
theorem insX_perm (e:HEn):∀ l:List HEn,(insX e l).Perm (e::l)
 |[]=>List.Perm.refl _
 |x::l=>by
  unfold insX
  split
  ·exact List.Perm.refl _
  ·exact ((insX_perm e l).cons x).trans (List.Perm.swap e x l)
theorem insX_sort {e:HEn}:∀ {l:List HEn},l.Pairwise ltX→e∉l→(insX e l).Pairwise ltX
 |[],_,_=>by simp[insX]
 |x::l,h,hn=>by
  obtain⟨h1,h2⟩:=List.pairwise_cons.1 h
  unfold insX
  split
  ·rename_i hlt
   refine List.pairwise_cons.2 ⟨fun y hy=> ?_,h⟩
   rcases List.mem_cons.1 hy with rfl|hy
   ·exact hlt
   ·exact ltX_trans hlt (h1 y hy)
  ·rename_i hlt
   have hxe:ltX x e:=by
    rcases ltX_total e x with q|q|q
    ·exact absurd q hlt
    ·exact absurd (q▸List.mem_cons_self ..) hn
    ·exact q
   refine List.pairwise_cons.2 ⟨fun y hy=> ?_,insX_sort h2 fun hm=>hn (List.mem_cons_of_mem _ hm)⟩
   rcases List.mem_cons.1 ((insX_perm e l).mem_iff.1 hy)with rfl|hy
   ·exact hxe
   ·exact h1 y hy
def stepX (e:HEn)(q:List HEn×Bool)(x:HEn):List HEn×Bool:=if q.2=false∧ltX e x then (q.1++[e,x],true)else (q.1++[x],q.2)
def runX (e:HEn)(l:List HEn):List HEn×Bool:=l.foldl (stepX e) ([],false)
theorem runX_snoc (e x:HEn)(l:List HEn):runX e (l++[x])=stepX e (runX e l) x:=by simp[runX]
theorem runX_gen (e:HEn):∀ (l acc:List HEn),(l.foldl (stepX e) (acc,true)=(acc++l,true))∧(l.foldl (stepX e) (acc,false)=(acc++insX e l,true)∨(l.foldl (stepX e) (acc,false)=(acc++l,false)∧insX e l=l++[e]))
 |[],acc=>⟨by simp,.inr ⟨by simp,rfl⟩⟩
 |x::l,acc=>by
  constructor
  ·rw[List.foldl_cons]
   have:stepX e (acc,true) x=(acc++[x],true):=by simp[stepX]
   rw[this,(runX_gen e l _).1];simp
  ·rw[List.foldl_cons]
   by_cases h:ltX e x
   ·have:stepX e (acc,false) x=(acc++[e,x],true):=by simp[stepX,h]
    rw[this,(runX_gen e l _).1]
    left;simp[insX,h]
   ·have:stepX e (acc,false) x=(acc++[x],false):=by simp[stepX,h]
    rw[this]
    rcases (runX_gen e l (acc++[x])).2 with q|⟨q,q2⟩
    ·left;rw[q];simp[insX,h]
    ·right;refine⟨by rw[q];simp,by simp[insX,h,q2]⟩
theorem runX_end (e:HEn)(l:List HEn):((runX e l).2=true∧(runX e l).1=insX e l)∨((runX e l).2=false∧(runX e l).1++[e]=insX e l):=by
 unfold runX
 rcases (runX_gen e l []).2 with q|⟨q,q2⟩
 ·left;rw[q];exact⟨rfl,by simp⟩
 ·right;rw[q,q2];exact⟨rfl,by simp⟩
theorem runX_len (e:HEn)(l:List HEn):(runX e l).1.length≤l.length+1:=by
 have hi:=(insX_perm e l).length_eq
 rw[length_cons]at hi
 rcases runX_end e l with⟨_,q⟩|⟨_,q⟩
 ·rw[q];omega
 ·have:=congrArg List.length q
  rw[length_append,List.length_singleton]at this;omega
def rIns (l:List HEn)(k:List UInt8)(pg sl:Int):List HEn×Nat:=if 140<k.length then (l,4)else if okE k pg sl∧mkE k pg sl∉l then (insX (mkE k pg sl) l,0)else (l,1)
def isE (k:List UInt8)(pg sl:Int)(e:HEn):Bool:=(e.k==k)&&((e.p:Int)==pg)&&((e.s:Int)==sl)
def rFil (l:List HEn)(k:List UInt8)(pg sl:Int):List HEn:=l.filter fun e=> !isE k pg sl e
def rDel (l:List HEn)(k:List UInt8)(pg sl:Int):List HEn×Nat:=if (rFil l k pg sl).length=l.length then (l,1)else (rFil l k pg sl,0)
def rFind (l:List HEn)(k:List UInt8):List (Nat×Nat):=(l.filter fun e=>e.k==k).map fun e=>(e.p,e.s)
theorem isE_iff {k:List UInt8}{pg sl:Int}{e:HEn}(he:e.Ok):isE k pg sl e=true↔okE k pg sl∧e=mkE k pg sl:=by
 obtain⟨ek,ep,es⟩:=e
 obtain⟨h1,h2,h3⟩:=he
 simp only at h1 h2 h3
 simp only[isE,Bool.and_eq_true,beq_iff_eq,okE,mkE,HEn.mk.injEq]
 constructor
 ·rintro⟨⟨rfl,rfl⟩,rfl⟩
  refine⟨⟨h1,by omega,by omega,by omega,by omega⟩,rfl,by omega,by omega⟩
 ·rintro⟨⟨_,q2,q3,_,_⟩,rfl,q4,q5⟩
  refine⟨⟨rfl,by omega⟩,by omega⟩
theorem rIns_same {E l:List HEn}(hp:E.Perm l)(hs:l.Pairwise ltX)(k:List UInt8)(pg sl:Int):(insE E k pg sl).1=(rIns l k pg sl).2∧(insE E k pg sl).2.Perm (rIns l k pg sl).1∧(rIns l k pg sl).1.Pairwise ltX:=by
 unfold insE rIns
 by_cases h:140<k.length
 ·rw[if_pos h,if_pos h];exact⟨rfl,hp,hs⟩
 ·rw[if_neg h,if_neg h]
  by_cases h2:okE k pg sl∧mkE k pg sl∉l
  ·rw[if_pos h2,if_pos ⟨h2.1,fun q=>h2.2 (hp.mem_iff.1 q)⟩]
   exact⟨rfl,(hp.cons _).trans (insX_perm _ _).symm,insX_sort hs h2.2⟩
  ·rw[if_neg h2,if_neg (fun q=>h2 ⟨q.1,fun q'=>q.2 (hp.mem_iff.2 q')⟩)];exact⟨rfl,hp,hs⟩
theorem erase_filter {e:HEn}:∀ {l:List HEn},l.Nodup→l.erase e=l.filter fun x=> !decide (x=e)
 |[],_=>rfl
 |x::l,h=>by
  obtain⟨h1,h2⟩:=List.nodup_cons.1 h
  rw[List.erase_cons,List.filter_cons]
  by_cases hx:x=e
  ·subst hx
   simp only[BEq.rfl,if_true,decide_true,Bool.not_true,Bool.false_eq_true,if_false]
   symm
   refine List.filter_eq_self.2 fun a ha=> ?_
   have:a≠x:=fun q=>h1 (q▸ha)
   simp[this]
  ·have hb:(x==e)=false:=by simpa using hx
   rw[hb]
   simp only[Bool.false_eq_true,if_false,hx,decide_false,Bool.not_false,if_true]
   rw[erase_filter h2]
theorem rDel_same {E l:List HEn}(hp:E.Perm l)(hs:l.Pairwise ltX)(hok:∀ e∈l,e.Ok)(k:List UInt8)(pg sl:Int):(delE E k pg sl).1=(rDel l k pg sl).2∧(delE E k pg sl).2.Perm (rDel l k pg sl).1∧(rDel l k pg sl).1.Pairwise ltX:=by
 have hnd:l.Nodup:=List.Pairwise.imp (R:=ltX) (S:=fun a b=>a≠b) (fun {a b} (h:ltX a b) (e:a=b)=>ltX_irrefl a (by rw[← e]at h;exact h)) hs
 have hf:okE k pg sl→rFil l k pg sl=l.filter fun x=> !decide (x=mkE k pg sl):=fun ho=>by
  unfold rFil
  refine List.filter_congr fun e he=> ?_
  congr 1
  rw[Bool.eq_iff_iff,isE_iff (hok e he),decide_eq_true_eq]
  exact⟨fun h=>h.2,fun h=>⟨ho,h⟩⟩
 unfold delE rDel
 by_cases h:okE k pg sl∧mkE k pg sl∈l
 ·have hne:¬ (rFil l k pg sl).length=l.length:=fun q=>by
   have h9:=List.filter_eq_self.1 (List.Sublist.eq_of_length (List.filter_sublist (p:=fun e=> !isE k pg sl e) (l:=l)) q) _ h.2
   have h10:=(isE_iff (k:=k) (pg:=pg) (sl:=sl) (hok _ h.2)).2 ⟨h.1,rfl⟩
   rw[h10]at h9;cases h9
  rw[if_neg hne,if_pos ⟨h.1,hp.mem_iff.2 h.2⟩]
  refine⟨rfl,?_,hs.filter _⟩
  show (E.erase (mkE k pg sl)).Perm (rFil l k pg sl)
  rw[hf h.1,←erase_filter hnd]
  exact hp.erase _
 ·have hse:rFil l k pg sl=l:=by
   unfold rFil
   refine List.filter_eq_self.2 fun e he=> ?_
   cases hq:isE k pg sl e with
   |false=>rfl
   |true=>
    obtain⟨q1,q2⟩:=(isE_iff (hok e he)).1 hq
    exact absurd ⟨q1,q2▸he⟩ h
  rw[if_neg (fun q=>h ⟨q.1,hp.mem_iff.1 q.2⟩),if_pos (by rw[hse])]
  exact⟨rfl,hp,hs⟩
theorem leXY_antisymm {a b:Nat×Nat}(h1:leXY a b)(h2:leXY b a):a=b:=by
 obtain⟨a1,a2⟩:=a
 obtain⟨b1,b2⟩:=b
 unfold leXY at h1 h2
 simp only at h1 h2
 have e1:a1=b1:=by omega
 have e2:a2=b2:=by omega
 rw[e1,e2]
theorem rFind_sort {l:List HEn}(hs:l.Pairwise ltX)(k:List UInt8):(rFind l k).Pairwise leXY:=by
 unfold rFind
 rw[List.pairwise_map]
 have h:=(hs.filter fun e=>e.k==k)
 refine h.imp_of_mem fun {a b} ha hb hab=> ?_
 have ka:a.k=k:=by simpa using (List.mem_filter.1 ha).2
 have kb:b.k=k:=by simpa using (List.mem_filter.1 hb).2
 rcases hab with q|⟨_,q⟩
 ·rw[ka,kb,cb_self]at q;omega
 ·unfold leXY;simp only;omega
theorem rFind_eq {E l:List HEn}{k:List UInt8}{R:List (Nat×Nat)}(hp:E.Perm l)(hs:l.Pairwise ltX)(h1:R.Perm ((E.filter fun e=>e.k==k).map fun e=>(e.p,e.s)))(h2:R.Pairwise leXY):R=rFind l k:=by
 refine List.Perm.eq_of_pairwise (fun a b _ _ q1 q2=>leXY_antisymm q1 q2) h2 (rFind_sort hs k) (h1.trans ?_)
 exact (hp.filter _).map _
def pl21_10Xr:Plan:=(.det 0 (.det 1 (.det 2 (.det 3 (.det 4 (.det 5 .done))))))
def pl21_12Xr:Plan:=(.det 0 (.det 1 (.det 2 (.det 3 (.det 4 (.det 5 (.det 6 (.det 7 (.fin 8 (.det 9 .done))))))))))
def pl22_5Xr:Plan:=(.det 0 (.det 1 (.det 2 (.det 3 (.det 4 (.det 5 .done))))))
def tXr:=aa wX <| aa wbu <| aa T3 <| aa T4 <| aa T9 <| aa T28 <| aa T45 <| aa T53 T57
def rowX (e:HEn):List PV:=[.v (.string (strS e.k)),.v (.int .i64 (e.p:Nat)),.v (.int .i64 (e.s:Nat))]
def entS (k:List UInt8)(pg sl:Int):AV:=.agg [.p (.v (.string (strS k))),.p (.v (.int .i64 pg)),.p (.v (.int .i64 sl))]
def lsX (l:List HEn):PV:=nilSl 3 (l.map rowX)
theorem lsX_ne {l:List HEn}(h:l≠[]):lsX l= .sl 3 (l.map rowX):=by
 unfold lsX nilSl
 have:(l.map rowX).isEmpty=false:=by cases l with
  |nil=>exact absurd rfl h
  |cons a r=>rfl
 rw[this];rfl
theorem lsX_len (l:List HEn):lenA cx 53 (.p (lsX l))=some l.length:=by
 cases l with
 |nil=>unfold lenA;rw[ck_53];rfl
 |cons a r=>
  rw[lsX_ne (by simp)]
  unfold lenA;rw[ck_53]
  simp[elemsA]
theorem str_neq2 (a b:List UInt8):binStr .neq (strS a) (strS b)=some (.bool (!decide (a=b))):=by
 by_cases h:a=b
 ·subst h;simp[binStr]
 ·simp[binStr,h]
theorem str_size (k:List UInt8):(strS k).size=k.length:=by
 show k.toArray.size=k.length
 simp
theorem aless7 (a b:HEn)(σ:St):ACalls Tryz.prog 54 [entS a.k a.p a.s,entS b.k b.p b.s] σ fun r σ'=>σ'=σ∧r=boolV (decide (ltX a b)):=by
 refine ACalls.pureF (R:=fun r=>r=boolV (decide (ltX a b))) ?_ (by rfl) σ
 obtain⟨ak,ap,xs⟩:=a
 obtain⟨bk,bp,ys⟩:=b
 have hn:=str_neq2 ak bk
 have hl:=str_lss ak bk
 simp only[entS]
 refine acalls_of cx_ok dr_ok Tryz.func54 (by kernel_rfl) rfl (nt:=34) (rs:=[.tmp 4]) rfl rfl ?_
 by_cases hk:ak=bk
 ·have hkb:decide (ak=bk)=true:=by simp[hk]
  rw[hkb,Bool.not_true]at hn
  by_cases hp:ap=bp
  ·have hb:((ap:Int) != (bp:Int))=false:=by simp;omega
   have hr:decide (ltX ⟨ak,ap,xs⟩ ⟨bk,bp,ys⟩)=decide ((xs:Int)<(ys:Int)):=by
    unfold ltX
    simp only[hk,hp,cb_self]
    refine decide_eq_decide.2 ?_
    simp
   rw[hr]
   repeat' first|((with_reducible first|apply cs|apply ws)<;>intro h<;>try simp only[h])|simp only[↓wBA,tXr,convA,seval,hn,hb]
   all_goals refine ret_is (a:=_) ?_ rfl rfl
   all_goals simp only[↓wBA,tXr,convA,seval]
   all_goals simp_all [wS]
  ·have hb:((ap:Int) != (bp:Int))=true:=by simp;omega
   have hr:decide (ltX ⟨ak,ap,xs⟩ ⟨bk,bp,ys⟩)=decide ((ap:Int)<(bp:Int)):=by
    unfold ltX
    simp only[hk,hp,cb_self]
    refine decide_eq_decide.2 ?_
    simp
   rw[hr]
   repeat' first|((with_reducible first|apply cs|apply ws)<;>intro h<;>try simp only[h])|simp only[↓wBA,tXr,convA,seval,hn,hb]
   all_goals refine ret_is (a:=_) ?_ rfl rfl
   all_goals simp only[↓wBA,tXr,convA,seval]
   all_goals simp_all [wS]
 ·have hkb:decide (ak=bk)=false:=by simp[hk]
  rw[hkb,Bool.not_false]at hn
  have hr:decide (ltX ⟨ak,ap,xs⟩ ⟨bk,bp,ys⟩)=decide (Lib.compareBytes ak bk<0):=by
   unfold ltX
   simp only[hk,false_and,or_false]
  rw[hr]
  repeat' first|((with_reducible first|apply cs|apply ws)<;>intro h<;>try simp only[h])|simp only[↓wBA,tXr,convA,seval,hn,hl]
  all_goals refine ret_is (a:=_) ?_ rfl rfl
  all_goals simp only[↓wBA,tXr,convA,seval]
  all_goals simp_all [wS]
theorem rowX_get {l:List HEn}{i:Nat}{e:HEn}(h:l[i]? =some e):(l.map rowX)[i]? =some [.v (.string (strS e.k)),.v (.int .i64 (e.p:Nat)),.v (.int .i64 (e.s:Nat))]:=by
 rw[List.getElem?_map,h];rfl
theorem strS_eq (a b:List UInt8):((strS a).toList==(strS b).toList)=decide (a=b):=by
 rw[strS_list,strS_list]
 by_cases h:a=b
 ·subst h;simp
 ·simp[h]
theorem aref7Ins (l:List HEn)(hll:l.length≤1000)(hok:∀ e∈l,e.Ok)(k:List UInt8)(hk:k.length≤140737488351232)(pg sl:Int)(σ:St):ACalls Tryz.prog 21 [.p (lsX l),entS k pg sl] σ fun r σ'=>σ'=σ∧r= .tup [.p (lsX (rIns l k pg sl).1),intV .i64 ((rIns l k pg sl).2:Nat)]:=by
 refine ACalls.pureF (R:=fun r=>r= .tup [.p (lsX (rIns l k pg sl).1),intV .i64 ((rIns l k pg sl).2:Nat)]) ?_ (by cases l<;>rfl) σ
 have hsz:=str_size k
 have hln:=lsX_len l
 unfold rIns
 simp only[entS]
 refine acalls_of cx_ok dr_ok Tryz.func21 (by kernel_rfl) rfl (nt:=76) (rs:=[.tmp 4,.tmp 5]) rfl rfl ?_
 by_cases h1:140<k.length
 ·rw[if_pos h1]
  have e1:decide ((k.length:Int)>140)=true:=by simp only[decide_eq_true_eq];omega
  repeat' first|((with_reducible first|apply cs|apply ws|apply wd|apply wu)<;>intro h<;>try simp only[h])|simp only[↓wBA,tXr,convA,seval,pl21_10Xr,pl21_12Xr,hsz,e1]|(with_reducible first|refine dQ pl21_10Xr 6 (some 43) ?_|refine dQ pl21_12Xr 10 (some 50) ?_)
  all_goals refine ret_is (a:=_) ?_ rfl rfl
  all_goals simp only[↓wBA,tXr,convA,seval]
  all_goals simp_all [wS]
 rw[if_neg h1]
 have e1:decide ((k.length:Int)>140)=false:=by simp only[decide_eq_false_iff_not];omega
 by_cases ho:okE k pg sl
 rotate_left
 ·rw[if_neg (fun q=>ho q.1)]
  unfold okE at ho
  by_cases b1:pg<0
  ·have d1:decide (pg<0)=true:=by simp[b1]
   repeat' first|((with_reducible first|apply cs|apply ws|apply wd|apply wu)<;>intro h<;>try simp only[h])|simp only[↓wBA,tXr,convA,seval,pl21_10Xr,pl21_12Xr,hsz,e1,d1]|(with_reducible first|refine dQ pl21_10Xr 6 (some 43) ?_|refine dQ pl21_12Xr 10 (some 50) ?_)
   all_goals refine ret_is (a:=_) ?_ rfl rfl
   all_goals simp only[↓wBA,tXr,convA,seval]
   all_goals simp_all [wS]
  ·have d1:decide (pg<0)=false:=by simp only[decide_eq_false_iff_not];omega
   by_cases b2:pg>65535
   ·have d2:decide (pg>65535)=true:=by simp only[decide_eq_true_eq];omega
    repeat' first|((with_reducible first|apply cs|apply ws|apply wd|apply wu)<;>intro h<;>try simp only[h])|simp only[↓wBA,tXr,convA,seval,pl21_10Xr,pl21_12Xr,hsz,e1,d1,d2]|(with_reducible first|refine dQ pl21_10Xr 6 (some 43) ?_|refine dQ pl21_12Xr 10 (some 50) ?_)
    all_goals refine ret_is (a:=_) ?_ rfl rfl
    all_goals simp only[↓wBA,tXr,convA,seval]
    all_goals simp_all [wS]
   ·have d2:decide (pg>65535)=false:=by simp only[decide_eq_false_iff_not];omega
    by_cases b3:sl<0
    ·have d3:decide (sl<0)=true:=by simp[b3]
     repeat' first|((with_reducible first|apply cs|apply ws|apply wd|apply wu)<;>intro h<;>try simp only[h])|simp only[↓wBA,tXr,convA,seval,pl21_10Xr,pl21_12Xr,hsz,e1,d1,d2,d3]|(with_reducible first|refine dQ pl21_10Xr 6 (some 43) ?_|refine dQ pl21_12Xr 10 (some 50) ?_)
     all_goals refine ret_is (a:=_) ?_ rfl rfl
     all_goals simp only[↓wBA,tXr,convA,seval]
     all_goals simp_all [wS]
    ·have d3:decide (sl<0)=false:=by simp only[decide_eq_false_iff_not];omega
     have d4:decide (sl>65535)=true:=by simp only[decide_eq_true_eq];omega
     repeat' first|((with_reducible first|apply cs|apply ws|apply wd|apply wu)<;>intro h<;>try simp only[h])|simp only[↓wBA,tXr,convA,seval,pl21_10Xr,pl21_12Xr,hsz,e1,d1,d2,d3,d4]|(with_reducible first|refine dQ pl21_10Xr 6 (some 43) ?_|refine dQ pl21_12Xr 10 (some 50) ?_)
     all_goals refine ret_is (a:=_) ?_ rfl rfl
     all_goals simp only[↓wBA,tXr,convA,seval]
     all_goals simp_all [wS]
 have ho2:=ho.2
 have q1:pg=((mkE k pg sl).p:Int):=by unfold mkE;simp only;omega
 have q2:sl=((mkE k pg sl).s:Int):=by unfold mkE;simp only;omega
 obtain⟨e,he⟩:∃ e,e=mkE k pg sl:=⟨_,rfl⟩
 have hke:k=e.k:=by rw[he];rfl
 rw[← he]at q1 q2 ⊢
 obtain⟨R,hR⟩:∃ R,R=if okE k pg sl∧e∉l then (insX e l,0)else (l,1):=⟨_,rfl⟩
 rw[← hR]
 have hR1:e∈l→R=(l,1):=fun h=>by rw[hR,if_neg (fun q=>q.2 h)]
 have hR2:e∉l→R=(insX e l,0):=fun h=>by rw[hR,if_pos ⟨ho,h⟩]
 clear hR
 have d1:decide (pg<0)=false:=by simp only[decide_eq_false_iff_not];omega
 have d2:decide (pg>65535)=false:=by simp only[decide_eq_false_iff_not];omega
 have d3:decide (sl<0)=false:=by simp only[decide_eq_false_iff_not];omega
 have d4:decide (sl>65535)=false:=by simp only[decide_eq_false_iff_not];omega
 have hless:=fun x:HEn=>aless7 e x
 simp only[entS,←hke,←q1,←q2]at hless
 repeat' first|((with_reducible first|apply cs|apply ws|apply wd|apply wu)<;>intro h<;>try simp only[h])|simp only[↓wBA,tXr,convA,seval,pl21_10Xr,pl21_12Xr,hsz,e1,d1,d2,d3,d4]|(with_reducible first|refine dQ pl21_10Xr 6 (some 43) ?_|refine dQ pl21_12Xr 10 (some 50) ?_)
 refine awp_loopN (l.length) (fun i=>[(6,.nown 1 3 ((runX e (l.take i)).1.map rowX)),(7,boolV (runX e (l.take i)).2),(8,intV .i64 (i:Nat)),(4,.any),(5,.any),(37,.any),(38,.any),(39,.any),(40,.any),(41,.any),(42,.any),(43,.any),(44,.any),(45,.any),(46,.any),(47,.any),(48,.any),(49,.any),(50,.any),(51,.any),(52,.any),(53,.any),(54,.any),(55,.any),(56,.any),(57,.any),(58,.any),(59,.any),(60,.any),(61,.any),(62,.any),(63,.any),(64,.any),(65,.any),(66,.any),(67,.any),(68,.any),(69,.any),(70,.any)]) (fun i=>[(1,.nright 57 ((runX e (l.take i)).1.length*3))]) (fun i=>e∉l.take i) ?_ ?_ ?_
 ·simp
 ·skip
  simp only[wR,Nat.reduceAdd,Nat.reduceLT,reduceIte]
  simp[wW,runX]
 ·intro i hi hno
  simp only[wR,Nat.reduceAdd,Nat.reduceLT,reduceIte]
  have hrl:=runX_len e (l.take i)
  rw[length_take]at hrl
  by_cases hlt:i<l.length
  ·obtain⟨x,hx⟩:∃ x,l[i]? =some x:=⟨l[i],by simp⟩
   have hls:=lsX_ne (l:=l) (by rintro rfl;simp at hlt)
   have hg:=rowX_get hx
   have hdec:=dT (i:=i) (n:=l.length) hlt
   have hi0:=nnI i
   have hw:=wI i (by omega)
   have hif:((i:Int)<((l.map rowX).length:Int))=True:=eq_true (by rw[length_map];omega)
   have hif':((i:Int)<(l.length:Int))=True:=eq_true (by omega)
   have htk:l.take (i+1)=l.take i++[x]:=by rw[List.take_add_one,hx];rfl
   have hst:runX e (l.take (i+1))=stepX e (runX e (l.take i)) x:=by rw[htk,runX_snoc]
   have hlx:=hless x
   by_cases hxe:x=e
   ·have hm:e∈l:=hxe▸List.mem_of_getElem? hx
    rw[hR1 hm]
    have s1:((strS x.k).toList==(strS k).toList)=true:=by rw[hxe,←hke];simp
    have s2:((x.p:Int)==pg)=true:=by rw[hxe,←q1];simp
    have s3:((x.s:Int)==sl)=true:=by rw[hxe,←q2];simp
    repeat' first|((with_reducible first|apply cs|apply ws|apply wd|apply wu)<;>intro h<;>try simp only[h])|simp only[↓wBA,tXr,convA,seval,pl21_10Xr,pl21_12Xr,hln,hls,hg,hdec,hi0,hif,hif',s1,s2,s3,Bool.and_self]|(with_reducible first|refine dQ pl21_10Xr 6 (some 43) ?_|refine dQ pl21_12Xr 10 (some 50) ?_)
    all_goals refine ret_is (a:=_) ?_ rfl rfl
    simp only[↓wBA,tXr,convA,seval]
    simp[wS]
   ·have hq:((strS x.k).toList==(strS k).toList&&((x.p:Int)==pg&&((x.s:Int)==sl&&true)))=false:=by
     cases hb:((strS x.k).toList==(strS k).toList&&((x.p:Int)==pg&&((x.s:Int)==sl&&true)))with
     |false=>rfl
     |true=>
      rw[strS_eq]at hb
      simp only[Bool.and_eq_true,decide_eq_true_eq,beq_iff_eq,Bool.and_true]at hb
      obtain⟨b1,b2,b3⟩:=hb
      refine absurd ?_ hxe
      obtain⟨xk,xp,xs⟩:=x
      obtain⟨ek,ep,es⟩:=e
      simp only at b1 b2 b3 hke q1 q2
      simp only[HEn.mk.injEq]
      exact⟨b1.trans hke,by omega,by omega⟩
    have hno':e∉l.take (i+1):=by
     rw[htk,List.mem_append,not_or]
     exact⟨hno,by simp;exact fun h=>hxe h.symm⟩
    obtain⟨Q,hQ⟩:∃ Q,Q=runX e (l.take i):=⟨_,rfl⟩
    rw[← hQ]at hst hrl ⊢
    obtain⟨qs,qb⟩:=Q
    dsimp only at hrl
    have m1:=tL (n:=(qs.length+1)*32) (by omega)
    have m2:=lM (n:=qs.length+1) (by omega)
    have m3:=tL (n:=(qs.length+1+1)*32) (by omega)
    have m4:=lM (n:=qs.length+1+1) (by omega)
    by_cases hb:qb=false∧ltX e x
    ·obtain⟨rfl,hlt2⟩:=hb
     have hst2:stepX e (qs,false) x=(qs++[e,x],true):=by unfold stepX;rw[if_pos ⟨rfl,hlt2⟩]
     have hd:decide (ltX e x)=true:=by simp[hlt2]
     have hre:rowX e=[.v (.string (strS k)),.v (.int .i64 pg),.v (.int .i64 sl)]:=by unfold rowX;rw[← hke,←q1,←q2]
     repeat' first|((with_reducible first|apply cs|apply ws|apply wd|apply wu)<;>intro h<;>try simp only[h])|simp only[↓wBA,tXr,convA,seval,pl21_10Xr,pl21_12Xr,hln,hls,hg,hdec,hi0,hif,hif',hq,hd,hw,m1,m2,m3,m4,appendA,srcA,length_append,length_map]|((with_reducible show ACalls _ _ _ _ _);refine (hlx _).eq ?_)|(with_reducible first|refine dQ pl21_10Xr 6 (some 43) ?_|refine dQ pl21_12Xr 10 (some 50) ?_)
     all_goals refine⟨⟨i+1,by omega,hno'⟩,by show l.length - (i+1)<l.length - i;omega,?_⟩
     have hmap:(qs++[e,x]).map rowX=qs.map rowX++[[.v (.string (strS k)),.v (.int .i64 pg),.v (.int .i64 sl)]]++[[.v (.string (strS x.k)),.v (.int .i64 (x.p:Nat)),.v (.int .i64 (x.s:Nat))]]:=by
      rw[map_append,map_cons,map_cons,map_nil,hre,List.append_assoc];rfl
     have hlen2:(qs++[e,x]).length=qs.length+1+1:=by simp
     all_goals simp only[hst,hst2,hmap,hlen2]
     all_goals simp[wW]
    ·have hst2:stepX e (qs,qb) x=(qs++[x],qb):=by unfold stepX;rw[if_neg hb]
     have hmap:(qs++[x]).map rowX=qs.map rowX++[[.v (.string (strS x.k)),.v (.int .i64 (x.p:Nat)),.v (.int .i64 (x.s:Nat))]]:=by
      rw[map_append,map_cons,map_nil];rfl
     have hlen2:(qs++[x]).length=qs.length+1:=by simp
     cases qb with
     |true=>
      repeat' first|((with_reducible first|apply cs|apply ws|apply wd|apply wu)<;>intro h<;>try simp only[h])|simp only[↓wBA,tXr,convA,seval,pl21_10Xr,pl21_12Xr,hln,hls,hg,hdec,hi0,hif,hif',hq,hw,m1,m2,appendA,srcA,length_append,length_map]|(with_reducible first|refine dQ pl21_10Xr 6 (some 43) ?_|refine dQ pl21_12Xr 10 (some 50) ?_)
      all_goals refine⟨⟨i+1,by omega,hno'⟩,by show l.length - (i+1)<l.length - i;omega,?_⟩
      all_goals simp only[hst,hst2,hmap,hlen2]
      all_goals simp[wW]
     |false=>
      have hd:decide (ltX e x)=false:=by
       simp only[decide_eq_false_iff_not];exact fun h=>hb ⟨rfl,h⟩
      repeat' first|((with_reducible first|apply cs|apply ws|apply wd|apply wu)<;>intro h<;>try simp only[h])|simp only[↓wBA,tXr,convA,seval,pl21_10Xr,pl21_12Xr,hln,hls,hg,hdec,hi0,hif,hif',hq,hd,hw,m1,m2,appendA,srcA,length_append,length_map]|((with_reducible show ACalls _ _ _ _ _);refine (hlx _).eq ?_)|(with_reducible first|refine dQ pl21_10Xr 6 (some 43) ?_|refine dQ pl21_12Xr 10 (some 50) ?_)
      all_goals refine⟨⟨i+1,by omega,hno'⟩,by show l.length - (i+1)<l.length - i;omega,?_⟩
      all_goals simp only[hst,hst2,hmap,hlen2]
      all_goals simp[wW]
  ·obtain rfl:i=l.length:=by omega
   have hdec:=dF (i:=l.length) (n:=l.length) hlt
   rw[take_length]at hno hrl
   simp only[take_length]
   rw[hR2 hno]
   have hend:=runX_end e l
   obtain⟨Q,hQ⟩:∃ Q,Q=runX e l:=⟨_,rfl⟩
   rw[← hQ]at hend hrl ⊢
   obtain⟨qs,qb⟩:=Q
   dsimp only at hrl hend
   have m1:=tL (n:=(qs.length+1)*32) (by omega)
   have m2:=lM (n:=qs.length+1) (by omega)
   rcases hend with⟨rfl,h5⟩|⟨rfl,h5⟩
   ·skip
    repeat' first|((with_reducible first|apply cs|apply ws|apply wd|apply wu)<;>intro h<;>try simp only[h])|simp only[↓wBA,tXr,convA,seval,pl21_10Xr,pl21_12Xr,hln,hdec]|(with_reducible first|refine dQ pl21_10Xr 6 (some 43) ?_|refine dQ pl21_12Xr 10 (some 50) ?_)
    rw[← h5]
    all_goals refine ret_is (a:=_) ?_ rfl rfl
    simp only[↓wBA,tXr,convA,seval]
    simp[wS,lsX]
    exact .inl ⟨1,3,_,⟨rfl,rfl,rfl⟩,by simp⟩
   ·skip
    repeat' first|((with_reducible first|apply cs|apply ws|apply wd|apply wu)<;>intro h<;>try simp only[h])|simp only[↓wBA,tXr,convA,seval,pl21_10Xr,pl21_12Xr,hln,hdec,m1,m2,appendA,srcA,length_append,length_map]|(with_reducible first|refine dQ pl21_10Xr 6 (some 43) ?_|refine dQ pl21_12Xr 10 (some 50) ?_)
    have hre:rowX e=[.v (.string (strS k)),.v (.int .i64 pg),.v (.int .i64 sl)]:=by unfold rowX;rw[← hke,←q1,←q2]
    rw[← h5]
    have hmap:(qs++[e]).map rowX=qs.map rowX++[[.v (.string (strS k)),.v (.int .i64 pg),.v (.int .i64 sl)]]:=by
     rw[map_append,map_cons,map_nil,hre]
    unfold lsX
    rw[hmap]
    all_goals refine ret_is (a:=_) ?_ rfl rfl
    simp only[↓wBA,tXr,convA,seval]
    simp[wS]
def ridP (q:Nat×Nat):List PV:=[.v (.int .i64 (q.1:Nat)),.v (.int .i64 (q.2:Nat))]
def ridV (R:List (Nat×Nat)):PV:=nilSl 2 (R.map ridP)
theorem aref7Del (l:List HEn)(hll:l.length≤1000)(k:List UInt8)(pg sl:Int)(σ:St):ACalls Tryz.prog 22 [.p (lsX l),entS k pg sl] σ fun r σ'=>σ'=σ∧r= .tup [.p (lsX (rDel l k pg sl).1),intV .i64 ((rDel l k pg sl).2:Nat)]:=by
 refine ACalls.pureF (R:=fun r=>r= .tup [.p (lsX (rDel l k pg sl).1),intV .i64 ((rDel l k pg sl).2:Nat)]) ?_ (by cases l<;>rfl) σ
 have hln:=lsX_len l
 unfold rDel
 simp only[entS]
 refine acalls_of cx_ok dr_ok Tryz.func22 (by kernel_rfl) rfl (nt:=32) (rs:=[.tmp 4,.tmp 5]) rfl rfl ?_
 repeat' first|((with_reducible first|apply cs|apply ws|apply wd|apply wu)<;>intro h<;>try simp only[h])|simp only[↓wBA,tXr,convA,seval,pl22_5Xr]|(with_reducible refine dQ pl22_5Xr 6 (some 14) ?_)
 refine awp_loopN (l.length) (fun i=>[(6,.nown 1 3 ((rFil (l.take i) k pg sl).map rowX)),(7,intV .i64 (i:Nat)),(8,.any),(9,.any),(10,.any),(11,.any),(12,.any),(13,.any),(14,.any),(15,.any),(16,.any),(17,.any),(18,.any),(19,.any),(20,.any),(21,.any),(22,.any),(23,.any),(24,.any),(25,.any),(26,.any)]) (fun i=>[(1,.nright 57 ((rFil (l.take i) k pg sl).length*3))]) (fun i=>True) ?_ ?_ ?_
 ·trivial
 ·skip
  simp only[wR,Nat.reduceAdd,Nat.reduceLT,reduceIte]
  simp[wW,rFil]
 ·intro i hi _
  simp only[wR,Nat.reduceAdd,Nat.reduceLT,reduceIte]
  have hrl:(rFil (l.take i) k pg sl).length≤i:=Nat.le_trans (List.length_filter_le _ _) (by rw[length_take];omega)
  by_cases hlt:i<l.length
  ·obtain⟨x,hx⟩:∃ x,l[i]? =some x:=⟨l[i],by simp⟩
   have hls:=lsX_ne (l:=l) (by rintro rfl;simp at hlt)
   have hg:=rowX_get hx
   have hdec:=dT (i:=i) (n:=l.length) hlt
   have hi0:=nnI i
   have hw:=wI i (by omega)
   have hif:((i:Int)<((l.map rowX).length:Int))=True:=eq_true (by rw[length_map];omega)
   have hif':((i:Int)<(l.length:Int))=True:=eq_true (by omega)
   have htk:l.take (i+1)=l.take i++[x]:=by rw[List.take_add_one,hx];rfl
   have hst:rFil (l.take (i+1)) k pg sl=rFil (l.take i) k pg sl++(if isE k pg sl x then []else [x]):=by
    rw[htk];unfold rFil;rw[List.filter_append]
    congr 1
    cases hb:isE k pg sl x<;>simp[hb]
   have hqe:((strS x.k).toList==(strS k).toList&&((x.p:Int)==pg&&((x.s:Int)==sl&&true)))=isE k pg sl x:=by
    rw[strS_eq,Bool.and_true]
    unfold isE
    rw[Bool.and_assoc]
    congr 1
    by_cases h:x.k=k<;>simp[h]
   obtain⟨qs,hQ⟩:∃ Q,Q=rFil (l.take i) k pg sl:=⟨_,rfl⟩
   rw[← hQ]at hst hrl ⊢
   have m1:=tL (n:=(qs.length+1)*32) (by omega)
   have m2:=lM (n:=qs.length+1) (by omega)
   cases hb:isE k pg sl x with
   |true=>
    rw[hb]at hqe hst
    rw[if_pos rfl,List.append_nil]at hst
    repeat' first|((with_reducible first|apply cs|apply ws|apply wd|apply wu)<;>intro h<;>try simp only[h])|simp only[↓wBA,tXr,convA,seval,pl22_5Xr,hln,hls,hg,hdec,hi0,hif,hif',hqe,hw,Bool.not_true]|(with_reducible refine dQ pl22_5Xr 6 (some 14) ?_)
    all_goals refine⟨⟨i+1,by omega,trivial⟩,by show l.length - (i+1)<l.length - i;omega,?_⟩
    all_goals simp only[hst]
    all_goals simp[wW]
   |false=>
    rw[hb]at hqe hst
    rw[if_neg (by simp)]at hst
    have hmap:(qs++[x]).map rowX=qs.map rowX++[[.v (.string (strS x.k)),.v (.int .i64 (x.p:Nat)),.v (.int .i64 (x.s:Nat))]]:=by
     rw[map_append,map_cons,map_nil];rfl
    have hlen2:(qs++[x]).length=qs.length+1:=by simp
    repeat' first|((with_reducible first|apply cs|apply ws|apply wd|apply wu)<;>intro h<;>try simp only[h])|simp only[↓wBA,tXr,convA,seval,pl22_5Xr,hln,hls,hg,hdec,hi0,hif,hif',hqe,hw,Bool.not_false,m1,m2,appendA,srcA,length_append,length_map]|(with_reducible refine dQ pl22_5Xr 6 (some 14) ?_)
    all_goals refine⟨⟨i+1,by omega,trivial⟩,by show l.length - (i+1)<l.length - i;omega,?_⟩
    all_goals simp only[hst,hmap,hlen2]
    all_goals simp[wW]
  ·obtain rfl:i=l.length:=by omega
   have hdec:=dF (i:=l.length) (n:=l.length) hlt
   simp only[take_length]
   obtain⟨qs,hQ⟩:∃ Q,Q=rFil l k pg sl:=⟨_,rfl⟩
   rw[← hQ]
   by_cases he:qs.length=l.length
   ·have hb:((qs.length:Int)==(l.length:Int))=true:=by simp;omega
    simp only[if_pos he]
    repeat' first|((with_reducible first|apply cs|apply ws|apply wd|apply wu)<;>intro h<;>try simp only[h])|simp only[↓wBA,tXr,convA,seval,pl22_5Xr,hln,hdec,hb,length_map]|(with_reducible refine dQ pl22_5Xr 6 (some 14) ?_)
    all_goals refine ret_is (a:=_) ?_ rfl rfl
    simp only[↓wBA,tXr,convA,seval]
    simp[wS]
   ·have hb:((qs.length:Int)==(l.length:Int))=false:=by simp;omega
    simp only[if_neg he]
    repeat' first|((with_reducible first|apply cs|apply ws|apply wd|apply wu)<;>intro h<;>try simp only[h])|simp only[↓wBA,tXr,convA,seval,pl22_5Xr,hln,hdec,hb,length_map]|(with_reducible refine dQ pl22_5Xr 6 (some 14) ?_)
    all_goals refine ret_is (a:=_) ?_ rfl rfl
    simp only[↓wBA,tXr,convA,seval]
    simp[wS,lsX]
    exact .inl ⟨1,3,_,⟨rfl,rfl,rfl⟩,by simp⟩
theorem aref8Find (l:List HEn)(hll:l.length≤1000)(key:List UInt8)(σ:St):ACalls Tryz.prog 23 [.p (lsX l),.p (.v (.string (strS key)))] σ fun r σ'=>σ'=σ∧r= .p (ridV (rFind l key)):=by
 refine ACalls.pureF (R:=fun r=>r= .p (ridV (rFind l key))) ?_ (by cases l<;>rfl) σ
 have hln:=lsX_len l
 refine acalls_of cx_ok dr_ok Tryz.func23 (by kernel_rfl) rfl (nt:=27) (rs:=[.tmp 4]) rfl rfl ?_
 repeat' first|((with_reducible first|apply cs|apply ws)<;>intro h<;>try simp only[h])|simp only[↓wBA,tXr,convA,seval]
 refine awp_loopN (l.length) (fun i=>[(5,.nown 0 2 ((rFind (l.take i) key).map ridP)),(6,intV .i64 (i:Nat)),(7,.any),(8,.any),(9,.any),(10,.any),(11,.any),(12,.any),(13,.any),(14,.any),(15,.any),(16,.any),(17,.any),(18,.any),(19,.any),(20,.any),(21,.any),(22,.any),(23,.any),(24,.any),(25,.any),(26,.any),(27,.any)]) (fun i=>[(0,.nright 45 ((rFind (l.take i) key).length*2))]) (fun i=>True) ?_ ?_ ?_
 ·trivial
 ·skip
  simp only[wR,Nat.reduceAdd,Nat.reduceLT,reduceIte]
  simp[wW,rFind]
 ·intro i hi _
  simp only[wR,Nat.reduceAdd,Nat.reduceLT,reduceIte]
  have hrl:(rFind (l.take i) key).length≤i:=by
   unfold rFind;rw[length_map]
   exact Nat.le_trans (List.length_filter_le _ _) (by rw[length_take];omega)
  by_cases hlt:i<l.length
  ·obtain⟨x,hx⟩:∃ x,l[i]? =some x:=⟨l[i],by simp⟩
   have hls:=lsX_ne (l:=l) (by rintro rfl;simp at hlt)
   have hg:=rowX_get hx
   have hdec:=dT (i:=i) (n:=l.length) hlt
   have hi0:=nnI i
   have hw:=wI i (by omega)
   have hif:((i:Int)<((l.map rowX).length:Int))=True:=eq_true (by rw[length_map];omega)
   have hif':((i:Int)<(l.length:Int))=True:=eq_true (by omega)
   have htk:l.take (i+1)=l.take i++[x]:=by rw[List.take_add_one,hx];rfl
   have hst:rFind (l.take (i+1)) key=rFind (l.take i) key++(if x.k=key then [(x.p,x.s)]else []):=by
    rw[htk];unfold rFind;rw[List.filter_append,map_append]
    congr 1
    by_cases hb:x.k=key<;>simp[hb]
   obtain⟨qs,hQ⟩:∃ Q,Q=rFind (l.take i) key:=⟨_,rfl⟩
   rw[← hQ]at hst hrl ⊢
   have m1:=tL (n:=(qs.length+1)*16) (by omega)
   have m2:=lM (n:=qs.length+1) (by omega)
   by_cases hb:x.k=key
   ·have hse:=str_same x.k
    rw[hb]at hse hg
    rw[if_pos hb]at hst
    have hmap:(qs++[(x.p,x.s)]).map ridP=qs.map ridP++[[.v (.int .i64 (x.p:Nat)),.v (.int .i64 (x.s:Nat))]]:=by
     rw[map_append,map_cons,map_nil];rfl
    have hlen2:(qs++[(x.p,x.s)]).length=qs.length+1:=by simp
    repeat' first|((with_reducible first|apply cs|apply ws)<;>intro h<;>try simp only[h])|simp only[↓wBA,tXr,convA,seval,hln,hls,hg,hdec,hi0,hif,hif',hse,hw,m1,m2,appendA,srcA,length_append,length_map]
    all_goals refine⟨⟨i+1,by omega,trivial⟩,by show l.length - (i+1)<l.length - i;omega,?_⟩
    all_goals simp only[hst,hmap,hlen2]
    all_goals simp[wW]
   ·have hse:=str_not hb
    rw[if_neg hb,List.append_nil]at hst
    repeat' first|((with_reducible first|apply cs|apply ws)<;>intro h<;>try simp only[h])|simp only[↓wBA,tXr,convA,seval,hln,hls,hg,hdec,hi0,hif,hif',hse,hw]
    all_goals refine⟨⟨i+1,by omega,trivial⟩,by show l.length - (i+1)<l.length - i;omega,?_⟩
    all_goals simp only[hst]
    all_goals simp[wW]
  ·obtain rfl:i=l.length:=by omega
   have hdec:=dF (i:=l.length) (n:=l.length) hlt
   simp only[take_length]
   obtain⟨qs,hQ⟩:∃ Q,Q=rFind l key:=⟨_,rfl⟩
   rw[← hQ]
   repeat' first|((with_reducible first|apply cs|apply ws)<;>intro h<;>try simp only[h])|simp only[↓wBA,tXr,convA,seval,hln,hdec]
   all_goals refine ret_is (a:=_) ?_ rfl rfl
   simp only[↓wBA,tXr,convA,seval]
   simp[wS,ridV]
   exact .inl ⟨0,2,_,⟨rfl,rfl,rfl⟩,by simp⟩
def tXm:=aa wX <| aa wbu <| aa T3 <| aa T23 <| aa T25 <| aa T28 <| aa T29 <| aa T36 <| aa T39 T45
theorem leXY_eq {R S:List (Nat×Nat)}(hp:R.Perm S)(h1:R.Pairwise leXY)(h2:S.Pairwise leXY):R=S:=List.Perm.eq_of_pairwise (fun _ _ _ _ a b=>leXY_antisymm a b) h1 h2 hp
theorem aawake8 (σ:St):ACalls Tryz.prog 7 [] σ fun r σ'=>Ap σ σ'∧r=boolV true:=by
 refine acalls_of cx_ok dr_ok Tryz.func7 (by kernel_rfl) rfl (nt:=77) (rs:=[.tmp 0]) rfl rfl ?_
 repeat' first|((with_reducible first|apply cs|apply ws)<;>intro h<;>try simp only[h])|simp only[↓wBA,tXm,convA,seval,wH]
 refine (adnew 800 (by omega) σ).mono ?_
 rintro _ s1 ⟨dd,Fd,rfl,a1,hd,hFd⟩
 repeat' first|((with_reducible first|apply cs|apply ws)<;>intro h<;>try simp only[h])|simp only[↓wBA,tXm,convA,seval,wH]
 refine (adnew 4000 (by omega) s1).mono ?_
 rintro _ s2 ⟨dl,Fl,rfl,a2,hl,hFl⟩
 have hd2:=hd.ap a2
 have l1:=a1.len
 have l2:=a2.len
 repeat' first|((with_reducible first|apply cs|apply ws)<;>intro h<;>try simp only[h])|simp only[↓wBA,tXm,convA,seval,wH]
 refine (aopenN2 hd2 hl (fun t h1 h2=>by have:=hd.lt t h1;have:=hFl t h2;omega) (by omega) (by omega) 4 (by omega) (by omega)).mono ?_
 rintro _ s3 ⟨p,l,kh,G,P,rfl,a3,hP,p1,p2,p3,p4,p5,p6,p7,p8,p9⟩
 have l3:=a3.len
 have hGσ:∀ t,G t→σ.length≤t:=fun t ht=>by
  rcases p9 t ht with h|h|h
  ·exact hFd t h
  ·have:=hFl t h;omega
  ·omega
 have hpg:P.pages=100:=by rw[p1];rfl
 have hbud:Bud P 1000000:=⟨by omega,by rw[p7];simp,by omega⟩
 repeat' first|((with_reducible first|apply cs|apply ws)<;>intro h<;>try simp only[h])|simp only[↓wBA,tXm,convA,seval,wH]|((with_reducible show ACalls _ _ _ _ _);refine (abBatch hP).mono ?_;rintro _ s4 ⟨rfl,a4,h4⟩)
 have l4:=a4.len
 refine (ahxMake h4 hpg (by rw[p8];exact tk_new (by omega)) (by omega) (by omega) (hbud.mono (by omega))).mono ?_
 rintro r s5 ⟨U5,P5,v5,T5,m,bs5,rfl,f5,k5,h5,_⟩
 have l5:=f5.len
 have hu8:=ck_5
 repeat' first|((with_reducible first|apply cs|apply ws)<;>intro h<;>try simp only[h])|simp only[↓wBA,tXm,convA,seval,wH,convB,convC,hu8]
 have i1:=ahxIns (h5.ap (Ap.app s5 [none])) (by omega) (by omega) (by decide) (hbud.kp k5 (by omega)) [97] 2 1
 rw[show insE [] [97] 2 1=(0,[⟨[97],2,1⟩]) by decide]at i1
 refine i1.mono ?_
 rintro _ s6 ⟨rfl,U6,P6,v6,T6,bs6,f6,k6,_,h6⟩
 have l6:=f6.len
 simp only[length_append,length_cons,length_nil]at l6
 have kk6:=k5.trans k6
 repeat' first|((with_reducible first|apply cs|apply ws)<;>intro h<;>try simp only[h])|simp only[↓wBA,tXm,convA,seval,wH,convB,convC,hu8]
 have i2:=ahxIns (h6.ap (Ap.app s6 [none])) (by omega) (by omega) (by decide) (hbud.kp kk6 (by omega)) [97] 1 5
 rw[show insE [⟨[97],2,1⟩] [97] 1 5=(0,[⟨[97],1,5⟩,⟨[97],2,1⟩]) by decide]at i2
 refine i2.mono ?_
 rintro _ s7 ⟨rfl,U7,P7,v7,T7,bs7,f7,k7,_,h7⟩
 have l7:=f7.len
 simp only[length_append,length_cons,length_nil]at l7
 have kk7:=kk6.trans k7
 repeat' first|((with_reducible first|apply cs|apply ws)<;>intro h<;>try simp only[h])|simp only[↓wBA,tXm,convA,seval,wH,convB,convC,hu8]
 have i3:=ahxFind (h7.ap (Ap.app s7 [none])) (by omega) (hbud.kp kk7 (by omega)) [97] (by simp)
 refine i3.mono ?_
 rintro _ s8 ⟨av,R,U8,P8,rfl,hmu,hR1,hR2,f8,k8,h8,hms⟩
 have l8:=f8.len
 simp only[length_append,length_cons,length_nil]at l8
 have kk8:=kk7.trans k8
 obtain rfl:R=[(1,5),(2,1)]:=leXY_eq (hR1.trans (by decide)) hR2 (by simp[leXY])
 obtain⟨t,rfl,_,ht⟩:∃ t,av= .ms t 2 0 2∧_∧s8[t]? =some (some (.row 2 (([(1,5),(2,1)]:List (Nat×Nat)).map ridC))):=by
  rcases hmu with⟨_,h⟩|h
  ·cases h
  ·exact h
 have hins:∀ {s:St},Ap s8 s→ACalls Tryz.prog 16 [.mp s3.length 2 0 0,intV .i64 (m:Nat),.p (.sl 1 [[.v (.int .u8 97)]]),.agg [intV .i64 2,intV .i64 1]] s fun q σ'=>q=intV .i64 1∧∃ U',Fr s σ' U8 U':=fun {s} ha=>by
  have i4:=ahxIns (h8.ap ha) (by omega) (by omega) (by decide) (hbud.kp kk8 (by omega)) [97] 2 1
  rw[show insE [⟨[97],1,5⟩,⟨[97],2,1⟩] [97] 2 1=(1,[⟨[97],1,5⟩,⟨[97],2,1⟩]) by decide]at i4
  exact i4.mono fun q s' ⟨h1,U',_,_,_,_,f,_⟩=>⟨h1,U',f⟩
 have yt:=at_lt ht
 have g1:(ridC (1,5))[1]? =some (intV .i64 5):=rfl
 repeat' first|((with_reducible first|apply cs|apply ws)<;>intro h<;>try simp only[h])|simp only[↓wBA,tXm,convA,seval,wH,convB,convC,hu8,ht,yt,g1,beq_self_eq_true]
 refine (hins (Ap.app _ _)).mono ?_
 rintro _ s10 ⟨rfl,U10,f10⟩
 have l10:=f10.len
 simp only[length_append,length_cons,length_nil]at l10
 repeat' first|((with_reducible first|apply cs|apply ws)<;>intro h<;>try simp only[h])|simp only[↓wBA,tXm,convA,seval,wH,beq_self_eq_true,Bool.and_self]
 all_goals refine ret_st ?_ (by first|exact Nat.le_refl _|(simp only[List.length_set,length_append];omega)|omega)
 all_goals simp only[resA.eq_1,resL.eq_1,resL.eq_2,resV.eq_1,resV.eq_2,↓wBA,tXm,convA,seval,wH]
 exact Ap.of_fr ((((a1.trans a2).trans a3).trans a4).fr (F:=fun t=>t=s3.length∨G t) |>.trans (f5.trans ((Ap.app s5 [none]).fr.trans (f6.trans ((Ap.app s6 [none]).fr.trans (f7.trans ((Ap.app s7 [none]).fr.trans (f8.trans ((Ap.app s8 [none]).fr.trans f10))))))))) fun t ht=>ht.elim (fun e=>by omega) (hGσ t)
end Go.Proofs.YthhbnenaihkggaaGreat
