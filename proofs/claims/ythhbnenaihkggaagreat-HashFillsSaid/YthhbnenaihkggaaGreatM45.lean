/- Hash indexes: the laws' index. A function that touches no object is handed rows that are written (Bw's second half, above the pool's own copy of its first). Hash indexes: places compared. Loops: the ways out told together. Hash indexes: HashOrder. Hash indexes: arguments of the laws. -/
import Derived.Test.YthhbnenaihkggaaGreatM44
import Derived.Test.YthhbnenaihkggaaGreatM14
import Derived.Test.YthhbnenaihkggaaGreatM30
import Derived.Test.YthhbnenaihkggaaGreatM20
set_option linter.unusedSimpArgs false
set_option linter.unusedVariables false
set_option linter.defProp false
set_option maxRecDepth 100000
set_option maxHeartbeats 32000000
namespace Go.Proofs.YthhbnenaihkggaaGreat
open Go.RowKit
open List (getElem?_map length_map)
def tXn:=aa wX <| aa wbu <| aa T3 <| aa T22 <| aa T23 <| aa T25 <| aa T29 <| aa T36 <| aa T39 T45
def entAt (K:List (List UInt8))(j:Nat):List HEn:=match K[j]? with
 |some r=>if r.length≤140 then [⟨r,3,j⟩]else []
 |none=>[]
def keysP (K:List (List UInt8)):List (List PV):=K.map fun r=>[.sl 1 (encB r)]
def turnF (turned:Bool)(n j:Nat):Nat:=if turned then n - 1 - j else j
theorem turn_perm (turned:Bool)(n:Nat):((List.range n).map (turnF turned n)).Perm (List.range n):=by
 cases turned with
 |false=>
  have:(List.range n).map (turnF false n)=List.range n:=by
   conv=>rhs;rw[← List.map_id (List.range n)]
   exact List.map_congr_left fun j _=>by simp[turnF]
  rw[this]
 |true=>
  have:(List.range n).map (turnF true n)=(List.range n).reverse:=by
   apply List.ext_getElem?
   intro i
   by_cases hi:i<n
   ·rw[getElem?_map,List.getElem?_range hi,List.getElem?_reverse (by simpa using hi),List.length_range,List.getElem?_range (by omega)]
    simp[turnF]
   ·rw[List.getElem?_eq_none (by simp;omega),List.getElem?_eq_none (by simp;omega)]
  rw[this]
  exact List.reverse_perm _
def IndexR (K:List (List UInt8))(σ:St)(r:AV)(σ':St):Prop:=∃ b root p dd l kh U P v T bs E,r= .tup [.mp b 2 0 0,intV .i64 (root:Nat)]∧Ap σ σ'∧HxS σ' b p dd l kh root U P v T bs E 600 60∧(∀ q,U q→σ.length≤q)∧Bud P 1000∧E.Perm ((List.range (min K.length 60)).flatMap (entAt K))
theorem axindex {K:List (List UInt8)}{x:PV}(hx:x= .sl 1 (keysP K)∨(K=[]∧x= .v (.slice none 0 0)))(hKl:K.length≤140737488351232)(turned:Bool)(σ:St):ACalls Tryz.prog 8 [.p x,boolV turned] σ fun r σ'=>IndexR K σ r σ':=by
 have hlx:lenA cx 22 (.p x)=some K.length:=by
  rcases hx with rfl|⟨rfl,rfl⟩
  ·unfold lenA;rw[ck_22];simp[elemsA,keysP]
  ·unfold lenA;rw[ck_22];rfl
 obtain⟨n,hn⟩:∃ n,n=min K.length 60:=⟨_,rfl⟩
 have hmin:(if (60:Int)<(K.length:Int)then (60:Int)else (K.length:Int))=((n:Nat):Int):=by split<;>omega
 refine acalls_of cx_ok dr_ok Tryz.func8 (by kernel_rfl) rfl (nt:=52) (rs:=[.tmp 4,.tmp 5]) rfl rfl ?_
 repeat' first|((with_reducible first|apply cs|apply ws)<;>intro h<;>try simp only[h])|simp only[↓wBA,tXn,convA,seval,wH]
 refine (adnew 4800 (by omega) σ).mono ?_
 rintro _ s1 ⟨dd,Fd,rfl,a1,hd,hFd⟩
 repeat' first|((with_reducible first|apply cs|apply ws)<;>intro h<;>try simp only[h])|simp only[↓wBA,tXn,convA,seval,wH]
 refine (adnew 30000 (by omega) s1).mono ?_
 rintro _ s2 ⟨dl,Fl,rfl,a2,hl,hFl⟩
 have hd2:=hd.ap a2
 have l1:=a1.len
 have l2:=a2.len
 repeat' first|((with_reducible first|apply cs|apply ws)<;>intro h<;>try simp only[h])|simp only[↓wBA,tXn,convA,seval,wH]
 refine (aopenN2 hd2 hl (fun t h1 h2=>by have:=hd.lt t h1;have:=hFl t h2;omega) (by omega) (by omega) 6 (by omega) (by omega)).mono ?_
 rintro _ s3 ⟨p,l,kh,G,P,rfl,a3,hP,p1,p2,p3,p4,p5,p6,p7,p8,p9⟩
 have l3:=a3.len
 have hGσ:∀ t,G t→σ.length≤t:=fun t ht=>by
  rcases p9 t ht with h|h|h
  ·exact hFd t h
  ·have:=hFl t h;omega
  ·omega
 have hpg:P.pages=600:=by rw[p1];rfl
 have hbud:Bud P 1000000:=⟨by omega,by rw[p7];simp,by omega⟩
 repeat' first|((with_reducible first|apply cs|apply ws)<;>intro h<;>try simp only[h])|simp only[↓wBA,tXn,convA,seval,wH]|((with_reducible show ACalls _ _ _ _ _);refine (abBatch hP).mono ?_;rintro _ s4 ⟨rfl,a4,h4⟩)
 have l4:=a4.len
 refine (ahxMake h4 hpg (by rw[p8];exact tk_new (by omega)) (by omega) (by omega) (hbud.mono (by omega))).mono ?_
 rintro r s5 ⟨U5,P5,v5,T5,m,bs5,rfl,f5,k5,h5,_⟩
 have l5:=f5.len
 have hb5:=hbud.kp (k:=1000) k5 (by omega)
 have hf5:Fr σ s5 (fun t=>t=s3.length∨G t) U5:=(((a1.trans a2).trans a3).trans a4).fr.trans f5
 repeat' first|((with_reducible first|apply cs|apply ws)<;>intro h<;>try simp only[h])|simp only[↓wBA,tXn,convA,seval,wH,hlx,hmin]
 refine awp_loopS (X:={ i:Nat // i≤n }) (fun i=>n - i.1) (fun i=>[(12,intV .i64 (i.1:Nat))]) [13,32,33,34,35,36,37,38,39,40,41,42,43,44,45,46,47,48,49,50,51] (fun i s=>s5.length≤s.length∧∃ U' P' v' T' bs E,Fr σ s (fun t=>t=s3.length∨G t) U'∧HxS s s3.length p dd l kh m U' P' v' T' bs E 600 i.1∧Bud P' 1000∧E.Perm (((List.range i.1).map (turnF turned n)).flatMap (entAt K))) (⟨0,by omega⟩) ?_ ?_ ?_ ?_
 ·simp only[wHl,wHf]
 ·exact⟨Nat.le_refl _,U5,P5,v5,T5,bs5,[],hf5,h5,hb5,by simp⟩
 ·rintro _ _ ⟨h,_⟩;exact h
 ·intro y J q hI
  simp only[wHl]
  obtain⟨i,hi⟩:=y
  obtain⟨hq,U6,P6,v6,T6,bs6,E6,f6,h6,hb6,hE6⟩:=hI
  dsimp only at*
  by_cases hlt:i<n
  ·have e1:=dT (i:=i) (n:=n) hlt
   obtain⟨k,hk⟩:∃ k,k=turnF turned n i:=⟨_,rfl⟩
   have hkn:k<n:=by rw[hk];unfold turnF;split<;>omega
   obtain⟨r,hr⟩:∃ r,K[k]? =some r:=⟨K[k]'(by omega),by simp⟩
   obtain rfl:x= .sl 1 (keysP K):=by
    rcases hx with h|⟨h,_⟩
    ·exact h
    ·rw[h]at hr;simp at hr
   have hg:(keysP K)[k]? =some [.sl 1 (encB r)]:=by unfold keysP;rw[getElem?_map,hr];rfl
   have hk0:=nnI k
   have hkl:((k:Int)<((keysP K).length:Int))=True:=eq_true (by unfold keysP;rw[length_map];omega)
   have hw:=wI i (by omega)
   have hw1:IntKind.i64.wrap ((n:Int) - 1)=((n - 1:Nat):Int):=by rw[wrap_i64 (by omega) (by omega)];omega
   have hw2:IntKind.i64.wrap (((n - 1:Nat):Int) - (i:Int))=((n - 1 - i:Nat):Int):=by rw[wrap_i64 (by omega) (by omega)];omega
   have hroom:6+2*i+roomF (i / 8+1)<600:=by
    have:roomF (i / 8+1)≤roomF 8:=roomF_mono (by omega)
    have:roomF 8=231:=by decide
    omega
   have i1:=ahxIns h6 (by omega) (by omega) hroom (hb6.mono (by omega)) r 3 (k:Nat)
   have hnew:insE E6 r 3 (k:Nat)=(if r.length≤140 then 0 else 4,entAt K k++E6):=by
    unfold insE entAt
    rw[hr]
    by_cases hl:r.length≤140
    ·have hok:okE r 3 (k:Nat):=⟨hl,by omega,by omega,by omega,by omega⟩
     have hmk:mkE r 3 (k:Nat)=⟨r,3,k⟩:=rfl
     have hno:(⟨r,3,k⟩:HEn)∉E6:=fun hm=>by
      have hm2:=hE6.mem_iff.1 hm
      obtain⟨j',hj',hm3⟩:=List.mem_flatMap.1 hm2
      obtain⟨j,hj,rfl⟩:=List.mem_map.1 hj'
      have hji:=List.mem_range.1 hj
      unfold entAt at hm3
      split at hm3
      ·split at hm3
       ·simp only[List.mem_singleton,HEn.mk.injEq]at hm3
        have h9:=hm3.2.2
        rw[hk]at h9
        unfold turnF at h9
        split at h9<;>omega
       ·simp at hm3
      ·simp at hm3
     rw[if_neg (by omega),hmk,if_pos ⟨hok,hno⟩]
     simp[hl]
    ·rw[if_pos (by omega)]
     simp[hl]
   rw[hnew]at i1
   have hperm:(entAt K k++E6).Perm (((List.range (i+1)).map (turnF turned n)).flatMap (entAt K)):=by
    rw[List.range_succ,List.map_append,List.flatMap_append]
    simp only[List.map_cons,List.map_nil,List.flatMap_cons,List.flatMap_nil,List.append_nil]
    rw[← hk]
    exact (List.perm_append_comm).trans (hE6.append_right _)
   have hG6:∀ t,(t=s3.length∨G t)→σ.length≤t:=fun t ht=>ht.elim (fun e=>by omega) (hGσ t)
   cases turned with
   |false=>
    have hki:k=i:=by rw[hk];rfl
    rw[hki]at hg hk0 hkl i1
    repeat' first|((with_reducible first|apply cs|apply ws)<;>intro h<;>try simp only[h])|simp only[↓wBA,tXn,convA,seval,wH,wHl,e1,hg,hk0,hkl,hw]
    refine i1.mono ?_
    rintro _ s7 ⟨_,U7,P7,v7,T7,bs7,f7,k7,_,h7⟩
    have l7:=f7.len
    repeat' first|((with_reducible first|apply cs|apply ws)<;>intro h<;>try simp only[h])|simp only[↓wBA,tXn,convA,seval,wH,wHl,hw]
    exact⟨⟨i+1,by omega⟩,by show n - (i+1)<n - i;omega,⟨by omega,U7,P7,v7,T7,bs7,_,f6.trans f7,h7,hb6.kp k7 (by omega),by have h9:=hperm;rw[hki]at h9;exact h9⟩,by simp only[wHl,wHf]⟩
   |true=>
    have hki:k=n - 1 - i:=by rw[hk];rfl
    rw[hki]at hg hk0 hkl i1
    repeat' first|((with_reducible first|apply cs|apply ws)<;>intro h<;>try simp only[h])|simp only[↓wBA,tXn,convA,seval,wH,wHl,e1,hg,hk0,hkl,hw,hw1,hw2]
    refine i1.mono ?_
    rintro _ s7 ⟨_,U7,P7,v7,T7,bs7,f7,k7,_,h7⟩
    have l7:=f7.len
    repeat' first|((with_reducible first|apply cs|apply ws)<;>intro h<;>try simp only[h])|simp only[↓wBA,tXn,convA,seval,wH,wHl,hw]
    exact⟨⟨i+1,by omega⟩,by show n - (i+1)<n - i;omega,⟨by omega,U7,P7,v7,T7,bs7,_,f6.trans f7,h7,hb6.kp k7 (by omega),by have h9:=hperm;rw[hki]at h9;exact h9⟩,by simp only[wHl,wHf]⟩
  ·obtain rfl:i=n:=by omega
   have e1:=dF (i:=i) (n:=i) hlt
   repeat' first|((with_reducible first|apply cs|apply ws)<;>intro h<;>try simp only[h])|simp only[↓wBA,tXn,convA,seval,wH,wHl,e1]
   all_goals refine ret_st ?_ (by first|exact Nat.le_refl _|(simp only[List.length_set,List.length_append];omega)|omega)
   all_goals simp only[resA.eq_1,resL.eq_1,resL.eq_2,resV.eq_1,resV.eq_2,↓wBA,tXn,convA,seval,wH]
   have hG6:∀ t,(t=s3.length∨G t)→σ.length≤t:=fun t ht=>ht.elim (fun e=>by omega) (hGσ t)
   refine⟨s3.length,m,p,dd,l,kh,U6,P6,v6,T6,bs6,E6,rfl,Ap.of_fr f6 hG6,h6.more (by omega),fun t ht=>(f6.own t ht).elim (hG6 t) id,hb6,hE6.trans ?_⟩
   rw[← hn]
   exact (turn_perm turned i).flatMap_right _
theorem Rd.rep {M:View}{σ:St}(hM:Match M σ):∀ (k:Nat) {a:AV} {x:PV} {u:Value},Rd σ k a x→ARep M a u→PRep M.w (allI M.w) x u
 |0,a,x,u,h,hu=>by
  have hp:∀ p,PRep M.w M.I p u→PRep M.w (allI M.w) p u:=fun p h=>PRep.later (fun b o h=>hM.imm b o h) (fun _ _ _=>rfl) _ _ h
  rcases h with rfl|⟨t,e,ls,rfl,rfl⟩|⟨t,e,ls,rfl,rfl⟩
  ·simp only[ARep]at hu;exact hp _ hu
  ·exact hp _ (toP_rep (M:=M) (x:=.own t e ls) rfl hu)
  ·exact hp _ (toP_rep (M:=M) (x:=.nown t e ls) rfl hu)
 |k+1,a,x,u,h,hu=>by
  rcases h with h|⟨t,e,i,n,ls,pls,rfl,rfl,ht,hin,hpl,hg⟩
  ·exact Rd.rep hM k h hu
  ·obtain⟨_,b,cur,T,hb,hh,hI,hr,hcs⟩:=hM.obj t _ ht
   simp only[ARep]at hu
   obtain⟨b',cap,hb',_,rfl,hn,hf⟩:=hu
   have:b'=b:=by rw[hb]at hb';simpa using hb'.symm
   subst this
   simp only[PRep]
   refine .inr ⟨b',i*e,cap,by rw[hpl],by omega,PRepR.of_get fun j c hj=> ?_⟩
   obtain⟨c0,h1,h2,h3⟩:=hg j c hj
   obtain⟨h4,h5⟩:=hr (i+j) c0 h1
   refine⟨by rw[← h2,h4],PRepC.of_get fun q y hy=> ?_⟩
   obtain⟨a0,h6,h7⟩:=h3 q y hy
   obtain⟨_,v,h8,h9⟩:=h5 q a0 h6
   refine⟨v,?_,hM.lt t b' hb,Rd.rep hM k h7 h9⟩
   rw[cell_of_row _ _ _ _ _ _ hh,←Nat.add_mul];exact h8
def noMem:AV→Bool
 | .p (.v x)=>plain x
 | .tup l=>l.all fun a=>match a with
   | .p (.v x)=>plain x
   |_=>false
 |_=>false
def RdA (σ:St)(k:Nat)(a b:AV):Prop:=(∃ x,Rd σ k a x∧b= .p x)∨∃ l:List PV,a= .agg (l.map .p)∧b=a
def RdL (σ:St)(k:Nat):List AV→List AV→Prop
 |[],[]=>True
 |a::l,b::m=>RdA σ k a b∧RdL σ k l m
 |_,_=>False
theorem agg_rep {M M':View}(hi:∀ b o,M.I b o→M'.I b o)(hw:M'.w=M.w):∀ (l:List PV) (us:List Value),ARepL M (l.map .p) us→ARepL M' (l.map .p) us
 |[],us,h=>by simpa [ARepL]using h
 |x::l,us,h=>by
  simp only[List.map_cons,ARepL]at h ⊢
  obtain⟨u,us',h1,h2,h3⟩:=h
  refine⟨u,us',h1,?_,agg_rep hi hw l us' h3⟩
  simp only[ARep]at h2 ⊢
  rw[hw]
  exact PRep.later hi (fun _ _ _=>rfl) _ _ h2
theorem RdL.rep {M M0:View}{σ:St}(hM:Match M σ)(hw:M0.w=M.w)(hI:M0.I=allI M.w){k:Nat}:∀ {l m:List AV} {us:List Value},RdL σ k l m→ARepL M l us→ARepL M0 m us
 |[],[],us,_,h=>by simpa [ARepL]using h
 |a::l,b::m,us,h,hu=>by
  simp only[RdL]at h
  simp only[ARepL]at hu ⊢
  obtain⟨u,us',h1,h2,h3⟩:=hu
  refine⟨u,us',h1,?_,RdL.rep hM hw hI h.2 h3⟩
  rcases h.1 with⟨x,hx,rfl⟩|⟨l,rfl,rfl⟩
  ·simp only[ARep];rw[hw,hI];exact hx.rep hM k h2
  ·simp only[ARep]at h2 ⊢
   obtain⟨g0,us,g1,g2⟩:=h2
   exact⟨g0,us,g1,agg_rep (fun b o h=>by rw[hI];exact hM.imm b o h) hw l us g2⟩
 |[],_::_,_,h,_=>by simp[RdL]at h
 |_::_,[],_,h,_=>by simp[RdL]at h
theorem noMem_rep {M M':View}{a:AV}{u:Value}(h:noMem a=true)(hu:ARep M a u):ARep M' a u:=by
 unfold noMem at h
 split at h
 ·simpa only[ARep,PRep]using hu
 ·rename_i l
  simp only[ARep]at hu ⊢
  obtain⟨us,h1,h2⟩:=hu
  refine⟨us,h1,?_⟩
  clear h1
  induction l generalizing us with
  |nil=>simpa [ARepL]using h2
  |cons x l ih=>
   simp only[List.all_cons,Bool.and_eq_true]at h
   simp only[ARepL]at h2 ⊢
   obtain⟨v,us',h3,h4,h5⟩:=h2
   refine⟨v,us',h3,?_,ih h.2 us' h5⟩
   have h1:=h.1
   split at h1
   ·simpa only[ARep,PRep]using h4
   ·simp at h1
 ·simp at h
theorem ACalls.borrow {P:Program}{f:FuncId}{args args':List AV}{R:AV→Prop}(k:Nat){σ:St}(h:ACalls P f args' [] fun r _=>noMem r=true∧R r)(hr:RdL σ k args args'):ACalls P f args σ fun r σ'=>σ'=σ∧R r:=by
 refine⟨h.1,fun M vs hM hv=> ?_⟩
 let M0:View:={ M with I:=allI M.w,mu:=fun _=>none,len:=fun _=>none }
 have hM0:Match M0 []:=⟨fun t ob ht=>by simp[St.at]at ht,fun t t' ob ob' b ht=>by simp[St.at]at ht,fun t _=>⟨rfl,rfl⟩,fun t b hb=>by simp[M0]at hb,fun b o h=>h,fun x hx=>by
  obtain⟨cs,T,g1,g2,_⟩:=hM.glob x hx
  exact⟨cs,T,g1,g2,fun t ob ht=>by simp[St.at]at ht⟩⟩
 refine (h.2 M0 vs hM0 (RdL.rep (M0:=M0) hM rfl rfl hr hv)).mono ?_
 rintro e w' ⟨v,r,σ',M1,rfl,rfl,h1,h2,h3,h4,h5,h6⟩
 have hk:∀ b,b<M.w.heap.size→M1.w.heap[b]? =M.w.heap[b]? :=fun b hb=>(h1.keep b hb fun t ob ht=>by simp[St.at]at ht).1
 let M':View:={ M with w:=M1.w }
 have hcell:∀ b o,M.I b o→M1.w.cell? ⟨b,o,none⟩=M.w.cell? ⟨b,o,none⟩:=fun b o hb=>World.cell?_of_block (hk b (hM.imm b o hb))
 have hL:Later M M':=⟨fun _ _ h h'=>⟨h,h',rfl⟩,own_same (fun _=>rfl) (fun _=>rfl) (fun _=>rfl),fun _ _ h=>h,hcell⟩
 have hE':Ext M σ M' σ:=⟨hL.mu,hL.own,hL.imm,hL.cell,fun b hb _=>⟨hk b hb,fun _ h=>h⟩,fun t ob b h7 h8=>.inr ⟨t,ob,h7,h8⟩,h1.size,h1.os,h1.tape,h1.output⟩
 refine⟨v,r,σ,M',rfl,rfl,hE',?_,noMem_rep h5 h3,Nat.le_refl _,rfl,h6⟩
 exact⟨fun t ob ht=>(hM.obj t ob ht).later hL rfl rfl rfl fun b hb=>⟨hk b (hM.lt t b hb),fun _ h=>h⟩,hM.inj,hM.fresh,fun t b hb=>Nat.lt_of_lt_of_le (hM.lt t b hb) h1.size,fun b o h=>Nat.lt_of_lt_of_le (hM.imm b o h) h1.size,hM.glob.ext hE'⟩
def pl10_6Xu:Plan:=(.det 0 (.det 1 (.det 2 (.det 3 (.det 4 (.det 5 (.det 6 (.det 7 (.det 8 .done)))))))))
def tXu:=aa wX <| aa wbu <| aa T3 <| aa T28 T45
theorem ridV_ne {R:List (Nat×Nat)}(h:R≠[]):ridV R= .sl 2 (R.map ridP):=by
 unfold ridV nilSl
 have:(R.map ridP).isEmpty=false:=by cases R with
  |nil=>exact absurd rfl h
  |cons a r=>rfl
 rw[this];rfl
theorem ridV_len (R:List (Nat×Nat)):lenA cx 28 (.p (ridV R))=some R.length:=by
 cases R with
 |nil=>unfold lenA;rw[ck_28];rfl
 |cons a r=>
  rw[ridV_ne (by simp)]
  unfold lenA;rw[ck_28]
  simp[elemsA]
theorem ridP_get {R:List (Nat×Nat)}{i:Nat}{q:Nat×Nat}(h:R[i]? =some q):(R.map ridP)[i]? =some [.v (.int .i64 (q.1:Nat)),.v (.int .i64 (q.2:Nat))]:=by
 rw[getElem?_map,h];rfl
theorem asameP (A B:List (Nat×Nat))(hA:A.length≤1000)(σ:St):ACalls Tryz.prog 10 [.p (ridV A),.p (ridV B)] σ fun r σ'=>σ'=σ∧r=boolV (decide (A=B)):=by
 refine ACalls.pureF (R:=fun r=>r=boolV (decide (A=B))) ?_ (by cases A<;>cases B<;>rfl) σ
 have hlA:=ridV_len A
 have hlB:=ridV_len B
 refine acalls_of cx_ok dr_ok Tryz.func10 (by kernel_rfl) rfl (nt:=24) (rs:=[.tmp 4]) rfl rfl ?_
 by_cases hl:A.length=B.length
 rotate_left
 ·have hne:decide (A=B)=false:=by simp only[decide_eq_false_iff_not];exact fun e=>hl (by rw[e])
  have hb:((A.length:Int) != (B.length:Int))=true:=by simp;omega
  rw[hne]
  repeat' first|((with_reducible first|apply cs|apply ws|apply wd|apply wu)<;>intro h<;>try simp only[h])|simp only[↓wBA,tXu,convA,seval,pl10_6Xu,hlA,hlB,hb]|(with_reducible refine dQ pl10_6Xu 9 (some 17) ?_)
  all_goals refine ret_is (a:=_) ?_ rfl rfl
  all_goals simp only[↓wBA,tXu,convA,seval]
  all_goals simp_all [wS]
 have hb:((A.length:Int) != (B.length:Int))=false:=by simp;omega
 repeat' first|((with_reducible first|apply cs|apply ws|apply wd|apply wu)<;>intro h<;>try simp only[h])|simp only[↓wBA,tXu,convA,seval,pl10_6Xu,hlA,hlB,hb]|(with_reducible refine dQ pl10_6Xu 9 (some 17) ?_)
 refine awp_loopN (A.length) (fun i=>[(5,intV .i64 (i:Nat)),(4,.any),(11,.any),(12,.any),(13,.any),(14,.any),(15,.any),(16,.any),(17,.any),(18,.any),(19,.any),(20,.any),(21,.any),(22,.any),(23,.any),(24,.any),(25,.any)]) (fun i=>[]) (fun i=>A.take i=B.take i) ?_ ?_ ?_
 ·simp
 ·skip
  simp only[wR,Nat.reduceAdd,Nat.reduceLT,reduceIte]
  simp[wW]
 ·intro i hi hno
  simp only[wR,Nat.reduceAdd,Nat.reduceLT,reduceIte]
  by_cases hlt:i<A.length
  ·obtain⟨⟨a1,a2⟩,ha⟩:∃ x,A[i]? =some x:=⟨A[i],by simp⟩
   obtain⟨⟨b1,b2⟩,hb2⟩:∃ x,B[i]? =some x:=⟨B[i]'(by omega),by simp⟩
   have hsA:=ridV_ne (R:=A) (by rintro rfl;simp at hlt)
   have hsB:=ridV_ne (R:=B) (by rintro rfl;simp at hb2)
   have gA:=ridP_get ha
   have gB:=ridP_get hb2
   have hdec:=dT (i:=i) (n:=A.length) hlt
   have hi0:=nnI i
   have hw:=wI i (by omega)
   have iA:((i:Int)<((A.map ridP).length:Int))=True:=eq_true (by rw[length_map];omega)
   have iB:((i:Int)<((B.map ridP).length:Int))=True:=eq_true (by rw[length_map];omega)
   have iA':((i:Int)<(A.length:Int))=True:=eq_true (by omega)
   have iB':((i:Int)<(B.length:Int))=True:=eq_true (by omega)
   have hq:(((a1:Nat):Int)==((b1:Nat):Int)&&(((a2:Nat):Int)==((b2:Nat):Int)&&true))=decide ((a1,a2)=(b1,b2)):=by
    by_cases h1:a1=b1<;>by_cases h2:a2=b2<;>simp[h1,h2]<;>omega
   by_cases he:((a1,a2):Nat×Nat)=(b1,b2)
   ·have hq':(((a1:Nat):Int)==((b1:Nat):Int)&&(((a2:Nat):Int)==((b2:Nat):Int)&&true))=true:=by rw[hq];simp only[he,decide_true]
    have hno':A.take (i+1)=B.take (i+1):=by rw[List.take_add_one,List.take_add_one,ha,hb2,hno,he]
    repeat' first|((with_reducible first|apply cs|apply ws|apply wd|apply wu)<;>intro h<;>try simp only[h])|simp only[↓wBA,tXu,convA,seval,pl10_6Xu,hlA,hlB,hsA,hsB,gA,gB,hdec,hi0,iA,iB,iA',iB',hq',Bool.not_true,hw]|(with_reducible refine dQ pl10_6Xu 9 (some 17) ?_)
    all_goals refine⟨⟨i+1,by omega,hno'⟩,by show A.length - (i+1)<A.length - i;omega,?_⟩
    all_goals simp[wW]
   ·have hq':(((a1:Nat):Int)==((b1:Nat):Int)&&(((a2:Nat):Int)==((b2:Nat):Int)&&true))=false:=by rw[hq];simp only[he,decide_false]
    have hne:decide (A=B)=false:=by
     simp only[decide_eq_false_iff_not]
     intro e
     rw[e,hb2]at ha
     exact he (Option.some.inj ha).symm
    simp only[hne]
    repeat' first|((with_reducible first|apply cs|apply ws|apply wd|apply wu)<;>intro h<;>try simp only[h])|simp only[↓wBA,tXu,convA,seval,pl10_6Xu,hlA,hlB,hsA,hsB,gA,gB,hdec,hi0,iA,iB,iA',iB',hq',Bool.not_false]|(with_reducible refine dQ pl10_6Xu 9 (some 17) ?_)
    all_goals refine ret_is (a:=_) ?_ rfl rfl
    simp only[↓wBA,tXu,convA,seval]
    simp[wS]
  ·obtain rfl:i=A.length:=by omega
   have hdec:=dF (i:=A.length) (n:=A.length) hlt
   have he:A=B:=by
    rw[List.take_length]at hno
    rw[hno,hl,List.take_length]
   have hed:decide (A=B)=true:=by simp[he]
   simp only[hed]
   repeat' first|((with_reducible first|apply cs|apply ws|apply wd|apply wu)<;>intro h<;>try simp only[h])|simp only[↓wBA,tXu,convA,seval,pl10_6Xu,hlA,hlB,hdec]|(with_reducible refine dQ pl10_6Xu 9 (some 17) ?_)
   all_goals refine ret_is (a:=_) ?_ rfl rfl
   simp only[↓wBA,tXu,convA,seval]
   simp[wS]
theorem mut_rd {σ:St}{a:AV}{A:List (Nat×Nat)}(h:MutR σ a 2 (A.map ridC)):Rd σ 1 a (ridV A):=by
 rcases h with⟨rfl,h⟩|⟨t,rfl,h1,h2⟩
 ·have:A=[]:=by simpa using h
  subst this
  exact .inl (.inl rfl)
 ·have hA:A≠[]:=fun e=>h1 (by rw[e];rfl)
  refine .inr ⟨t,2,0,_,_,A.map ridP,rfl,ridV_ne hA,h2,by omega,by simp,fun j c hc=> ?_⟩
  rw[getElem?_map]at hc
  cases hq:A[j]? with
  |none=>rw[hq]at hc;cases hc
  |some q=>
   rw[hq]at hc
   simp only[Option.map_some,Option.some.injEq]at hc
   subst hc
   refine⟨ridC q,by rw[Nat.zero_add,getElem?_map,hq];rfl,rfl,fun k y hy=> ?_⟩
   match k,hy with
   |0,hy=>simp[ridP]at hy;subst hy;exact⟨_,rfl,.inl rfl⟩
   |1,hy=>simp[ridP]at hy;subst hy;exact⟨_,rfl,.inl rfl⟩
   |k+2,hy=>simp[ridP]at hy
theorem asame {σ:St}{a b:AV}{A B:List (Nat×Nat)}(ha:Rd σ 1 a (ridV A))(hb:Rd σ 1 b (ridV B))(hA:A.length≤1000):ACalls Tryz.prog 10 [a,b] σ fun r σ'=>σ'=σ∧r=boolV (decide (A=B)):=
 ACalls.borrow 1 (args':=[.p (ridV A),.p (ridV B)]) (R:=fun r=>r=boolV (decide (A=B))) ((asameP A B hA []).mono (by rintro r s ⟨_,rfl⟩;exact⟨rfl,rfl⟩)) ⟨.inl ⟨_,ha,rfl⟩,.inl ⟨_,hb,rfl⟩,trivial⟩
theorem weak3 {P:Program}{f:FuncId}{x y a c:AV}{zs:List AV}{σ:St}{R:AV→St→Prop}(h:∀ M u,ARep M a u→ARep M c u)(hc:ACalls P f (x::y::c::zs) σ R):ACalls P f (x::y::a::zs) σ R:=
 ⟨hc.1,fun M vs hM hv=>hc.2 M vs hM (by
  simp only[ARepL]at hv ⊢
  obtain⟨u1,us1,rfl,h1,u2,us2,rfl,h2,u3,us3,rfl,h3,h4⟩:=hv
  exact⟨_,_,rfl,h1,_,_,rfl,h2,_,_,rfl,h M _ h3,h4⟩)⟩
theorem own_pX {M:View}{t e:Nat}{ls:List (List PV)}{u:Value}(h:ARep M (.own t e ls) u):ARep M (.p (.sl e ls)) u:=by
 simp only[ARep,PRep]at h ⊢
 obtain⟨b,cap,n,h1,h2,h3,h4,_⟩:=h
 exact .inr ⟨b,0,cap,h1,h2,h4⟩
def outS {X:Type}(fr:List AV)(D:X→List (Nat×AV))(Js:List Nat)(I:X→St→Prop)(id:Nat)(Q:Exit→List AV→St→Prop)(e:Exit)(f:List AV)(s:St):Prop:=match e with
 | .exit id'=>if id'=id then ∃ x,I x s∧f=fS fr (D x) Js fun t=>f.getD t .any else Q (.exit id') f s
 |e=>Q e f s
section
variable {P:Program} {C:Ctx} {fr f:List AV} {σ s:St} {Q:Exit→List AV→St→Prop} {c:Code} {X:Type} {D:X→List (Nat×AV)} {Js:List Nat} {I:X→St→Prop} {id:Nat}
theorem outS_exit {id':Nat}:outS fr D Js I id Q (.exit id') f s=if id'=id then ∃ x,I x s∧f=fS fr (D x) Js fun t=>f.getD t .any else Q (.exit id') f s:=nr rfl
theorem outS_ret:outS fr D Js I id Q .ret f s=Q .ret f s:=nr rfl
theorem outS_normal:outS fr D Js I id Q .normal f s=Q .normal f s:=nr rfl
theorem awp_outS (D:X→List (Nat×AV))(Js:List Nat)(I:X→St→Prop)(id:Nat){d:Array Oper→List AV→St→(List AV→St→Prop)→Prop}(hd:d=aDraw P C)(h:AWp P C d c fr σ (outS fr D Js I id Q))(hk:∀ x J s,I x s→Q (.exit id) (fS fr (D x) Js J) s):AWp P C d c fr σ Q:=by
 subst hd
 refine AWp_mono (fun e f s g=> ?_) h
 cases e with
 |exit id'=>
  rw[outS_exit]at g
  by_cases e:id'=id
  ·rw[if_pos e]at g
   obtain⟨x,g1,g2⟩:=g
   rw[e,g2];exact hk x _ s g1
  ·rw[if_neg e]at g;exact g
 |_=>exact g
end
theorem wOu:(type_of% @outS_exit)∧(type_of% @outS_ret)∧(type_of% @outS_normal):=⟨@outS_exit,@outS_ret,@outS_normal⟩
def tXw:=aa wX <| aa wbu <| aa T3 <| aa T4 <| aa T22 <| aa T23 <| aa T25 <| aa T28 T29
theorem HxS.frame {σ s:St}{b p dd l kh root np ins:Nat}{U K K':Nat→Prop}{P:PoolV}{v:Nat→List UInt8}{T:Nat→Bool}{bs:List (List Nat)}{E:List HEn}(h:HxS σ b p dd l kh root U P v T bs E np ins)(f:Fr σ s K K')(hd:∀ t,U t→K t→False):HxS s b p dd l kh root U P v T bs E np ins:=⟨h.bt.frame f hd,h.pg,h.tk,h.t0,h.ix,h.few,h.many,h.le,h.cn,h.only⟩
theorem Bud.kp0 {P P':PoolV}{k:Nat}(h:Bud P k)(hk:Kp P P' 0):Bud P' k:=h.kp hk (by omega)
theorem keysP_get {K:List (List UInt8)}{i:Nat}{r:List UInt8}(h:K[i]? =some r):(keysP K)[i]? =some [.sl 1 (encB r)]:=by unfold keysP;rw[getElem?_map,h];rfl
theorem keysP_len (K:List (List UInt8)):(keysP K).length=K.length:=by simp[keysP]
theorem ahashOrder (K:List (List UInt8))(hK:∀ r∈K,r.length≤140737488351232)(hKl:K.length≤140737488351232)(ask:List UInt8)(hask:ask.length≤140737488351232)(σ:St):ACalls Tryz.prog 3 [.p (.sl 1 (keysP K)),.p (.sl 1 (encB ask))] σ fun r σ'=>r=boolV true:=by
 have hkl:=keysP_len K
 have hlk:lenA cx 22 (.p (.sl 1 (keysP K)))=some K.length:=by
  unfold lenA;rw[ck_22];simp[elemsA,hkl]
 refine acalls_of cx_ok dr_ok Tryz.func3 (by kernel_rfl) rfl (nt:=123) (rs:=[.tmp 4]) rfl rfl ?_
 repeat' first|((with_reducible first|apply cs|apply ws)<;>intro h<;>try simp only[h])|simp only[↓wBA,tXw,convA,seval,wH]|((with_reducible show ACalls _ _ _ _ _);refine (aawake8 _).mono ?_;rintro _ s0 ⟨a0,rfl⟩)
 have l0:=a0.len
 refine (axindex (K:=K) (.inl rfl) hKl false _).mono ?_
 rintro _ s1 ⟨b1,root1,p1,dd1,lg1,kh1,U1,P1,v1,T1,bs1,E1,rfl,a1,h1,hU1,hb1,hE1⟩
 have l1:=a1.len
 repeat' first|((with_reducible first|apply cs|apply ws)<;>intro h<;>try simp only[h])|simp only[↓wBA,tXw,convA,seval,wH]
 refine (axindex (K:=K) (.inl rfl) hKl true _).mono ?_
 rintro _ s2 ⟨b2,root2,p2,dd2,lg2,kh2,U2,P2,v2,T2,bs2,E2,rfl,a2,h2,hU2,hb2,hE2⟩
 have l2:=a2.len
 have h12:=h1.ap a2
 have hlt1:=h1.bt.lt
 have hdj:∀ t,U1 t→U2 t→False:=fun t q1 q2=>by have:=hlt1 t q1;have:=hU2 t q2;omega
 have hEE:E1.Perm E2:=hE1.trans hE2.symm
 repeat' first|((with_reducible first|apply cs|apply ws)<;>intro h<;>try simp only[h])|simp only[↓wBA,tXw,convA,seval,wH]
 obtain⟨S,hS⟩:∃ S,S=s2++[some (Ob.right 23 1)]:=⟨_,rfl⟩
 have aS:Ap s2 S:=⟨_,hS⟩
 have lS:S.length=s2.length+1:=by rw[hS];simp
 have gS:S[s2.length]? =some (some (Ob.right 23 1)):=by rw[hS];simp
 simp only[hS.symm]
 refine awp_outS (X:={ q:Nat×AV // q.1≤62+K.length }) (fun q=>[(9,q.1.2),(10,intV .i64 (q.1.1:Nat))]) [40,41,42,43,44,45,46,47,48,49,50,51,52,53,54,55,56,57,58,59,60] (fun q s=>S.length≤s.length∧Ap s2 s∧(∀ t,ownOf q.1.2=some t→s2.length≤t)∧∃ A:List (List UInt8),OwnR s q.1.2 23 1 (keysP A)∧A≠[]∧A.length≤61∧A.length≤q.1.1+1∧∀ r∈A,r.length≤140737488351232) 0 rfl ?_ ?_
 ·skip
  refine awp_loopS (X:={ q:Nat×AV // q.1≤62+K.length }) (fun q=>60 - q.1.1) (fun q=>[(9,q.1.2),(10,intV .i64 (q.1.1:Nat))]) [40,41,42,43,44,45,46,47,48,49,50,51,52,53,54,55,56,57,58,59,60] (fun q s=>S.length≤s.length∧Ap s2 s∧(∀ t,ownOf q.1.2=some t→s2.length≤t)∧∃ A:List (List UInt8),OwnR s q.1.2 23 1 (keysP A)∧A≠[]∧A.length≤61∧A.length≤q.1.1+1∧∀ r∈A,r.length≤140737488351232) (⟨(0,.own s2.length 1 [[.sl 1 (encB ask)]]),by simp⟩) ?_ ?_ ?_ ?_
  ·simp only[wHl,wHf]
  ·refine⟨Nat.le_refl _,aS,fun t ht=> ?_,[ask],.inr ⟨s2.length,rfl,by simp[keysP],by simp only[keysP_len];exact gS⟩,by simp,by simp,by simp,by simpa using hask⟩
   simp only[ownOf,Option.some.injEq]at ht;omega
  ·rintro _ _ ⟨h,_⟩;exact h
  ·intro y J s hI
   simp only[wHl]
   obtain⟨⟨i,av⟩,hi⟩:=y
   obtain⟨hsl,ap,how,A,hA,hA0,hAl,hAi,hAr⟩:=hI
   dsimp only at*
   have hav:=hA.cells
   by_cases hlt:i<K.length∧i<60
   ·have e1:=dT (i:=i) (n:=K.length) hlt.1
    have e2:decide ((i:Int)<60)=true:=by simp only[decide_eq_true_eq];omega
    obtain⟨r,hr⟩:∃ r,K[i]? =some r:=⟨K[i]'hlt.1,by simp[hlt.1]⟩
    have hg:=keysP_get hr
    have hi0:=nnI i
    have hif:((i:Int)<((keysP K).length:Int))=True:=eq_true (by rw[hkl];omega)
    have hif':((i:Int)<(K.length:Int))=True:=eq_true (by omega)
    have hw:=wI i (by omega)
    have hq1:(K.length:Int).tdiv 12=((K.length / 12:Nat):Int):=by rw[Int.tdiv_eq_ediv_of_nonneg (by omega)];omega
    have hq2:IntKind.i64.wrap ((K.length / 12:Nat):Int)=((K.length / 12:Nat):Int):=wrap_i64 (by omega) (by omega)
    obtain⟨j,hj⟩:∃ j,j=i+1+K.length / 12:=⟨_,rfl⟩
    have hq3:IntKind.i64.wrap (((i+1:Nat):Int)+((K.length / 12:Nat):Int))=((j:Nat):Int):=by rw[wrap_i64 (by omega) (by omega)];omega
    obtain⟨Q,hQ⟩:∃ Q,Q=s++[some (Ob.right 23 1)]:=⟨_,rfl⟩
    have aQ:Ap s Q:=⟨_,hQ⟩
    have lQ:Q.length=s.length+1:=by rw[hQ];simp
    obtain⟨av2,Q2,g1,g2,g3,g4,g5⟩:=app_own (q:=Q) (y:=.own s.length 1 [[.sl 1 (encB r)]]) (m:=[[.sl 1 (encB r)]]) ck_22 (hA.same fun t ht=>by rw[hQ];exact List.getElem?_append_left (hA.lt ht)) rfl (by simp) (by simp only[keysP_len,List.length_cons,List.length_nil];omega) (by simp only[keysP_len,List.length_cons,List.length_nil];omega)
    rw[lQ]at g1 g3 g4 g5
    rw[hQ]at g1
    repeat' first|((with_reducible first|apply cs|apply ws)<;>intro h<;>try simp only[h])|simp only[↓wBA,tXw,convA,seval,wH,wHl,wOu,hlk,e1,e2,hg,hi0,hif,hif',g1,hw,hq1,hq2,hq3,hav]
    have a2s:=ap.len
    refine⟨⟨(j,av2),by show j≤62+K.length;omega⟩,by show 60 - j<60 - i;omega,⟨by omega,Ap.of_keep (by omega) fun t ht=> ?_,fun t ht=> ?_,A++[r],?_,by simp,by simp;omega,by simp;omega,fun x hx=> ?_⟩,by simp only[wHl,wHf]⟩
    ·rw[g4 t (by omega) (fun e=>by have:=how t e;omega),hQ,List.getElem?_append_left (by omega)]
     exact ap.get' ht
    ·rcases g5 t ht with h9|h9
     ·exact how t h9
     ·omega
    ·have:keysP (A++[r])=keysP A++[[.sl 1 (encB r)]]:=by simp[keysP]
     rw[this];exact g2
    ·rcases List.mem_append.1 hx with hx|hx
     ·exact hAr x hx
     ·simp at hx;subst hx;exact hK _ (List.mem_of_getElem? hr)
   ·by_cases hl1:i<K.length
    ·have e1:=dT (i:=i) (n:=K.length) hl1
     have e2:decide ((i:Int)<60)=false:=by simp only[decide_eq_false_iff_not];omega
     repeat' first|((with_reducible first|apply cs|apply ws)<;>intro h<;>try simp only[h])|simp only[↓wBA,tXw,convA,seval,wH,wHl,wOu,hlk,e1,e2]
     exact⟨⟨(i,av),hi⟩,⟨hsl,ap,how,A,hA,hA0,hAl,hAi,hAr⟩,by simp only[wHl,wHf]⟩
    ·have e1:=dF (i:=i) (n:=K.length) hl1
     repeat' first|((with_reducible first|apply cs|apply ws)<;>intro h<;>try simp only[h])|simp only[↓wBA,tXw,convA,seval,wH,wHl,wOu,hlk,e1]
     exact⟨⟨(i,av),hi⟩,⟨hsl,ap,how,A,hA,hA0,hAl,hAi,hAr⟩,by simp only[wHl,wHf]⟩
 ·intro y J s hI
  simp only[wHl]
  obtain⟨⟨i,av⟩,hi⟩:=y
  obtain⟨hsl,ap,how,A,hA,hA0,hAl,hAi,hAr⟩:=hI
  dsimp only at*
  obtain⟨ta,rfl,hta,hra⟩:∃ t,av= .own t 1 (keysP A)∧keysP A≠[]∧s[t]? =some (some (.right 23 ((keysP A).length*1))):=by
   rcases hA with⟨_,h⟩|h
   ·exact absurd (by simpa [keysP]using h) hA0
   ·exact h
  have hAk:=keysP_len A
  have asl:=ap.len
  repeat' first|((with_reducible first|apply cs|apply ws)<;>intro h<;>try simp only[h])|simp only[↓wBA,tXw,convA,seval,wH,wHl,wOu]
  refine awp_loopS (X:={ i:Nat // i≤A.length }) (fun i=>A.length - i.1) (fun i=>[(11,intV .i64 (i.1:Nat))]) [4,12,13,14,15,61,62,63,64,65,66,67,68,69,70,71,72,73,74,75,76,77,78,79,80,81,82,83,84,85,86,87,88,89,90,91,92,93,94,95,96,97,98] (fun i q=>s.length≤q.length∧∃ V1 R1 V2 R2,HxS q b1 p1 dd1 lg1 kh1 root1 V1 R1 v1 T1 bs1 E1 600 60∧HxS q b2 p2 dd2 lg2 kh2 root2 V2 R2 v2 T2 bs2 E2 600 60∧(∀ t,V1 t→V2 t→False)∧Bud R1 1000∧Bud R2 1000) (⟨0,by omega⟩) ?_ ?_ ?_ ?_
  ·simp only[wHl,wHf]
  ·exact⟨Nat.le_refl _,U1,P1,U2,P2,h12.ap ap,h2.ap ap,hdj,hb1,hb2⟩
  ·rintro _ _ ⟨h,_⟩;exact h
  ·intro y J2 q hI2
   simp only[wHl]
   obtain⟨j,hj⟩:=y
   obtain⟨hql,V1,R1,V2,R2,k1,k2,kdj,kb1,kb2⟩:=hI2
   dsimp only at*
   have hj0:=nnI j
   have hwj:=wI j (by omega)
   by_cases hlt:j<A.length
   ·have e1:=dT (i:=j) (n:=A.length) hlt
    obtain⟨r,hr⟩:∃ r,A[j]? =some r:=⟨A[j],by simp⟩
    have hg:=keysP_get hr
    have hif:((j:Int)<((keysP A).length:Int))=True:=eq_true (by rw[hAk];omega)
    have hif':((j:Int)<(A.length:Int))=True:=eq_true (by omega)
    have hrl:=hAr r (List.mem_of_getElem? hr)
    repeat' first|((with_reducible first|apply cs|apply ws)<;>intro h<;>try simp only[h])|simp only[↓wBA,tXw,convA,seval,wH,wHl,hAk,e1,hg,hj0,hif,hif']
    refine (ahxFind k1 (by omega) (kb1.mono (by omega)) r hrl).mono ?_
    rintro _ s3 ⟨av1,L1,V1',R1',rfl,m1,p1',o1,f3,kp3,k1',hm1⟩
    have l3:=f3.len
    have hlt2:=k2.bt.lt
    have k2':=k2.frame f3 fun t x1 x2=>kdj t x2 x1
    have kdj':∀ t,V1' t→V2 t→False:=fun t x1 x2=>(f3.own t x1).elim (fun e=>kdj t e x2) fun e=>by have:=hlt2 t x2;omega
    repeat' first|((with_reducible first|apply cs|apply ws)<;>intro h<;>try simp only[h])|simp only[↓wBA,tXw,convA,seval,wH,wHl,hAk,e1,hg,hj0,hif,hif']
    refine (ahxFind k2' (by omega) (kb2.mono (by omega)) r hrl).mono ?_
    rintro _ s4 ⟨av2,L2,V2',R2',rfl,m2,p2',o2,f4,kp4,k2'',hm2⟩
    have l4:=f4.len
    have hlt1':=k1'.bt.lt
    have k1'':=k1'.frame f4 fun t x1 x2=>kdj' t x1 x2
    have kdj'':∀ t,V1' t→V2' t→False:=fun t x1 x2=>(f4.own t x2).elim (fun e=>kdj' t x1 e) fun e=>by have:=hlt1' t x1;omega
    have m1':MutR s4 av1 2 (L1.map ridC):=m1.same fun t ht=>f4.keep t (m1.lt ht) fun e=>by have:=hlt2 t e;have:=(hm1 t ht).1;omega
    have hLL:L1=L2:=leXY_eq (p1'.trans (((hEE.filter _).map _).trans p2'.symm)) o1 o2
    have hL1:L1.length≤1000:=by
     have:=p1'.length_eq
     rw[length_map]at this
     have h8:=List.length_filter_le (fun e:HEn=>e.k==r) E1
     have h9:=(k1.lens (by omega)).2
     omega
    have hs:=asame (mut_rd m1') (mut_rd m2) hL1
    rw[hLL]at hs
    simp only[decide_true]at hs
    have c1v:leaf av1=true∧cellsA av1=some [av1]:=by rcases m1 with⟨rfl,_⟩|⟨t,rfl,_⟩<;>exact⟨rfl,rfl⟩
    have c2v:leaf av2=true∧cellsA av2=some [av2]:=by rcases m2 with⟨rfl,_⟩|⟨t,rfl,_⟩<;>exact⟨rfl,rfl⟩
    repeat' first|((with_reducible first|apply cs|apply ws)<;>intro h<;>try simp only[h])|simp only[↓wBA,tXw,convA,seval,wH,wHl,c1v.1,c1v.2,c2v.1,c2v.2,hwj]|((with_reducible show ACalls _ _ _ _ _);refine hs.eq ?_)
    exact⟨⟨j+1,by omega⟩,by show A.length - (j+1)<A.length - j;omega,⟨by omega,V1',R1',V2',R2',k1'',k2'',kdj'',kb1.kp0 kp3,kb2.kp0 kp4⟩,by simp only[wHl,wHf]⟩
   ·obtain rfl:j=A.length:=by omega
    have e1:=dF (i:=A.length) (n:=A.length) hlt
    have n1:decide (((bs1.length:Nat):Int)≥1)=true:=by have:=k1.ix.n1;simp only[decide_eq_true_eq];omega
    have n2:decide (((bs2.length:Nat):Int)≥1)=true:=by have:=k2.ix.n1;simp only[decide_eq_true_eq];omega
    repeat' first|((with_reducible first|apply cs|apply ws)<;>intro h<;>try simp only[h])|simp only[↓wBA,tXw,convA,seval,wH,wHl,hAk,e1]
    refine (ahxBuckets k1 (by omega) (kb1.mono (by omega))).mono ?_
    rintro _ s3 ⟨rfl,V1',R1',f3,kp3,k1'⟩
    have l3:=f3.len
    have k2':=k2.frame f3 fun t x1 x2=>kdj t x2 x1
    repeat' first|((with_reducible first|apply cs|apply ws)<;>intro h<;>try simp only[h])|simp only[↓wBA,tXw,convA,seval,wH,wHl]
    refine (ahxBuckets k2' (by omega) (kb2.mono (by omega))).mono ?_
    rintro _ s4 ⟨rfl,V2',R2',f4,kp4,k2''⟩
    have l4:=f4.len
    repeat' first|((with_reducible first|apply cs|apply ws)<;>intro h<;>try simp only[h])|simp only[↓wBA,tXw,convA,seval,wH,wHl,n1,n2,beq_self_eq_true]
    all_goals refine ret_st ?_ (by first|exact Nat.le_refl _|(simp only[List.length_set,List.length_append];omega)|omega)
    all_goals simp only[resA.eq_1,resL.eq_1,resL.eq_2,resV.eq_1,resV.eq_2,↓wBA,tXw,convA,seval,wH]
theorem keys_sh {x:PV}(h:HasSh (.sl 24 [.sl 1 [.int .u8]]) x):∃ K:List (List UInt8),x= .sl 1 (keysP K)∧K.length≤140737488351232∧∀ r∈K,r.length≤140737488351232:=by
 rw[HasSh]at h
 obtain⟨ls,rfl,hl,hc⟩:=h
 have key:∀ ls:List (List PV),(∀ c∈ls,HasShL [.sl 1 [.int .u8]] c)→∃ K:List (List UInt8),ls=keysP K∧∀ r∈K,r.length≤140737488351232:=by
  intro ls
  induction ls with
  |nil=>intro _;exact⟨[],rfl,by simp⟩
  |cons c ls ih=>
   intro hc
   have:=hc c (by simp)
   rw[HasShL]at this
   obtain⟨x1,c',rfl,h1,h2⟩:=this
   rw[HasShL]at h2
   subst h2
   obtain⟨r,rfl,hr⟩:=bytes_sh2 h1
   obtain⟨K,rfl,hK⟩:=ih fun c h=>hc c (by simp[h])
   exact⟨r::K,rfl,fun q hq=>by rcases List.mem_cons.1 hq with rfl|hq;exact hr;exact hK q hq⟩
 obtain⟨K,rfl,hK⟩:=key ls hc
 exact⟨K,rfl,by rw[keysP_len]at hl;omega,hK⟩
theorem order_law (x y:PV)(u v:Value)(W:World)(hx:HasSh (.sl 24 [.sl 1 [.int .u8]]) x)(hr:PRep W (inH W) x u)(hy:HasSh (.sl 1 [.int .u8]) y)(hs:PRep W (inH W) y v):
 Calls Tryz.prog 3 #[u,v] W fun e W'=>e= .returned (.bool true)∧Below W.heap.size W W':=by
 obtain⟨K,rfl,h1,h2⟩:=keys_sh hx
 obtain⟨ask,rfl,h3⟩:=bytes_sh2 hy
 exact law_calls2 (W:=W) (vs:=[u,v]) (ahashOrder K h2 h1 ask h3 []) (by
  simp only[ARepL]
  exact⟨_,_,rfl,(by simp only[ARep];exact hr),_,_,rfl,(by simp only[ARep];exact hs),rfl⟩)
end Go.Proofs.YthhbnenaihkggaaGreat
