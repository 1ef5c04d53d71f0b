/- More of the page's contracts on the machine: Set, Drop, Kind, a record that may be written. Trees: what compares entries. Trees: entries, items, nodes on pages: the plain part. Trees: what compares entries, on the machine. -/
import Derived.Test.YtockimhceppkbaaGreatM17
import Derived.Test.YtockimhceppkbaaGreatM18
import Derived.Test.YtockimhceppkbaaGreatM29
import Derived.Lib.Bytealg
import Derived.Laws.Externs
set_option linter.unusedSimpArgs false
set_option linter.unusedVariables false
set_option linter.defProp false
set_option maxRecDepth 100000
set_option maxHeartbeats 32000000
namespace Go.Proofs.YtockimhceppkbaaGreat
open Go.RowKit
open List (length_append length_cons length_set map_cons)
def bRow (r:List UInt8):List (List AV):=r.map fun b=>[.p (byteP b)]
theorem akind (l:List UInt8)(hl:l.length=512)(σ:St):ACalls Tryz.prog 71 [pageA l] σ fun r σ'=>σ'=σ∧r=intV .i64 (kindL l):=
 ACalls.of_calls (en _ (by kernel_rfl)) fun M vs hM hv=>by
  obtain⟨u,rfl,h1⟩:=rep1 hv
  rw[page_rep h1]
  exact (kind_any l _ hl).mono fun e w' ⟨h1,h2⟩=>⟨_,_,fun _ _=>False,h1,h2,fun _ _ h=>h.elim,rep_mk rfl,rfl⟩
theorem run_loadB {P:Program}{w:World}:∀ (l:List UInt8) (a:Addr) (acc:ByteArray),(∀ j u,(bytesL l)[j]? =some u→w.cell? (a.add j)=some u)→
 (Extern.Bytes.loadBytes a l.length acc).run P w= .ok ⟨acc.data++l.toArray⟩ w
 |[],a,acc,_=>by simp[Extern.Bytes.loadBytes]
 |x::l,a,acc,h=>by
  have h0:=h 0 (.int .u8 x.toNat) rfl
  have ih:=run_loadB (P:=P) l (a.add 1) (acc.push x) (fun j y hj=>by
   rw[Addr.add_add,Nat.add_comm]
   exact h (j+1) y (by simpa [bytesL]using hj))
  have e0:a.add 0=a:=by cases a with|mk b o k=>cases k<;>simp[Addr.add]
  rw[e0]at h0
  have hx:((x.toNat:Int)).toNat.toUInt8=x:=by simp
  simp only[length_cons,Extern.Bytes.loadBytes,Sem.run_bind,run_load,h0,Result.andThen,hx]
  rw[ih]
  simp[ByteArray.push]
theorem run_bytesOf {P:Program}{w:World}{v:Value}{r:List UInt8}(h:ByteS w v r):(Extern.Bytes.bytesOf v).run P w= .ok ⟨r.toArray⟩ w:=by
 obtain⟨ao,c,rfl,h⟩:=h
 rcases h with⟨rfl,hr,_⟩|⟨ad,rfl,h⟩
 ·have:r=[]:=by simpa [bytesL]using hr
  subst this
  simp[Extern.Bytes.bytesOf]
  try rfl
 ·simp only[Extern.Bytes.bytesOf]
  rw[run_loadB r ad .empty h]
  simp
  try rfl
theorem run_cmpB {P:Program}{w:World}{u v:Value}{a b:List UInt8}(hu:ByteS w u a)(hv:ByteS w v b):
 (Extern.BytealgCompare.compare #[u,v]).run P w= .ok (.int .i64 (Lib.compareBytes a b)) w:=by
 change Sem.run P (do pure (goInt (Extern.BytealgCompare.cmp (← Extern.Bytes.bytesOf u) (← Extern.Bytes.bytesOf v)))) w=_
 simp only[Sem.run_bind,run_bytesOf hu,run_bytesOf hv,Sem.run_pure,Result.andThen]
 rw[Lib.cmp_eq]
 rfl
theorem bcmp_any (a b:List UInt8)(u v:Value)(w:World)(hu:ByteS w u a)(hv:ByteS w v b):
 Calls Tryz.prog 50 #[u,v] w fun e w'=>e= .returned (.int .i64 (Lib.compareBytes a b))∧w'=w:=by
 go_enter Tryz.func50,Tryz.ntmps50
 go_wp2
 rw[run_callFunc_extern Tryz.func87 (by kernel_rfl) (by kernel_rfl) (by kernel_rfl) (e:=Extern.BytealgCompare.compare) (by kernel_rfl),run_cmpB hu hv]
 simp only[Result.andThen]
 rw[Oper.upon_value]
 go_wp2
 go_ret
 exact⟨rfl,rfl⟩
theorem abcmp {x y:PV}{a b:List UInt8}(hx:BX x a)(hy:BX y b)(σ:St):ACalls Tryz.prog 50 [.p x,.p y] σ fun r s=>s=σ∧r=intV .i64 (Lib.compareBytes a b):=
 ACalls.of_calls (en _ (by kernel_rfl)) fun M vs hM hv=>by
  obtain⟨u,v,rfl,h1,h2⟩:=rep2 hv
  exact (bcmp_any a b u v _ (hx.bytes h1) (hy.bytes h2)).mono fun e w' ⟨h1,h2⟩=>⟨_,_,fun _ _=>False,h1,by rw[h2];exact Below.refl _ _,fun _ _ h=>h.elim,rep_mk rfl,rfl⟩
def nm2 (k:Nat):List UInt8:=[UInt8.ofNat k,UInt8.ofNat (k / 256)]
theorem nm2_dec {k:Nat}(h:k<65536):(UInt8.ofNat k).toNat+256*(UInt8.ofNat (k / 256)).toNat=k:=by
 rw[UInt8.toNat_ofNat',UInt8.toNat_ofNat'];omega
theorem snoc_ind {α:Type}{P:List α→Prop}(h0:P [])(h1:∀ l x,P l→P (l++[x])):∀ l,P l:=fun l=>by
 have h:∀ m:List α,P m.reverse:=fun m=>by
  induction m with
  |nil=>exact h0
  |cons x m ih=>rw[List.reverse_cons];exact h1 _ _ ih
 have:=h l.reverse
 rwa [List.reverse_reverse]at this
structure Ent where
 k:List UInt8
 p:Nat
 s:Nat
def Ent.ok (e:Ent):Prop:=e.k.length≤140∧e.p<65536∧e.s<65536
structure Itm where
 e:Ent
 c:Nat
def Itm.ok (x:Itm):Prop:=x.e.ok∧x.c<65536
def recI (x:Itm):List UInt8:=nm2 x.c++nm2 x.e.p++nm2 x.e.s++x.e.k
theorem recI_len (x:Itm):(recI x).length=x.e.k.length+6:=by simp[recI,nm2]
def entP (e:Ent):List PV:=[.sl 1 (encB e.k),.v (.int .i64 (e.p:Nat)),.v (.int .i64 (e.s:Nat))]
def itP (x:Itm):List PV:=[.sl 1 (encB x.e.k),.v (.int .i64 (x.e.p:Nat)),.v (.int .i64 (x.e.s:Nat)),.v (.int .i64 (x.c:Nat))]
def entA (e:Ent):AV:=.agg [.p (.sl 1 (encB e.k)),intV .i64 (e.p:Nat),intV .i64 (e.s:Nat)]
def itC (x:Itm):List AV:=[.p (.sl 1 (encB x.e.k)),intV .i64 (x.e.p:Nat),intV .i64 (x.e.s:Nat),intV .i64 (x.c:Nat)]
theorem itC_P (x:Itm):(itP x).map .p=itC x:=rfl
def szI (x:Itm):Nat:=x.e.k.length+10
def szL (l:List Itm):Nat:=(l.map szI).sum
theorem szL_cons (x:Itm)(l:List Itm):szL (x::l)=szI x+szL l:=by simp[szL]
theorem szL_app (l m:List Itm):szL (l++m)=szL l+szL m:=by simp[szL]
theorem szL_nil:szL []=0:=rfl
theorem szI_le {x:Itm}(h:x.ok):szI x≤150:=by have:=h.1.1;unfold szI;omega
theorem szL_len:∀ l:List Itm,10*l.length≤szL l
 |[]=>Nat.le_refl _
 |x::l=>by have:=szL_len l;rw[szL_cons];unfold szI;simp only[length_cons];omega
def slI (l:List Itm):List (Option (List UInt8)):=l.map fun x=>some (recI x)
theorem cost_slI:∀ l:List Itm,costL (slI l)=szL l
 |[]=>rfl
 |x::l=>by
  have:=cost_slI l
  rw[szL_cons,←this]
  simp only[slI,costL,lens,map_cons,List.sum_cons,length_cons,recLen,recI_len,szI]
  omega
theorem free_slI:∀ l:List Itm,freeL (slI l)=l.length
 |[]=>rfl
 |x::l=>by
  have:=free_slI l
  unfold freeL at this ⊢
  rw[slI,map_cons,List.findIdx_cons]
  show (slI l).findIdx _+1=_
  rw[this];rfl
theorem put_slI (l:List Itm)(x:Itm):putL (slI l) (freeL (slI l)) (recI x)=slI (l++[x]):=by
 rw[free_slI]
 unfold putL
 rw[if_pos (by simp[slI])]
 simp[slI]
def fitS (q:List UInt8×Bool)(x:Itm):List UInt8×Bool:=if q.2 then ((addL q.1 (recI x)).1,(addL q.1 (recI x)).2.2)else q
def fitF (kd:Nat)(l:List Itm):List UInt8×Bool:=l.foldl fitS (newL (kd:Int),true)
theorem fitF_snoc (kd:Nat)(l:List Itm)(x:Itm):fitF kd (l++[x])=fitS (fitF kd l) x:=by simp[fitF]
theorem fitF_len (kd:Nat):∀ l:List Itm,(fitF kd l).1.length=512:=by
 refine snoc_ind ?_ ?_
 ·exact length_newL _
 ·intro l x ih
  rw[fitF_snoc];unfold fitS
  split
  ·exact length_addL _ _
  ·exact ih
structure NodeP (pg:List UInt8)(kd:Nat)(l:List Itm):Prop where
 pg:Pg pg kd (slI l)
 kd:kd=2∨kd=3
 ok:∀ x∈l,x.ok
theorem NodeP.sz {pg:List UInt8}{kd:Nat}{l:List Itm}(h:NodeP pg kd l):szL l≤496:=by
 have:=h.pg.cost;rwa [cost_slI]at this
theorem NodeP.n {pg:List UInt8}{kd:Nat}{l:List Itm}(h:NodeP pg kd l):l.length≤49:=by
 have:=h.sz;have:=szL_len l;omega
theorem fit_pg (kd:Nat)(hk:kd=2∨kd=3):∀ l:List Itm,(∀ x∈l,x.ok)→if szL l≤496 then (fitF kd l).2=true∧Pg (fitF kd l).1 kd (slI l)else (fitF kd l).2=false:=by
 refine snoc_ind ?_ ?_
 ·intro _
  rw[if_pos (by rw[szL_nil];omega)]
  refine⟨rfl,?_⟩
  have:=Pg.new (kd:Int)
  have e:(kd:Int) % 256=kd:=by omega
  rw[e]at this
  exact this
 ·intro l x ih h
  have ih:=ih fun y hy=>h y (by simp[hy])
  have hx:=h x (by simp)
  have hr:(recI x).length≤400:=by rw[recI_len];have:=hx.1.1;omega
  rw[fitF_snoc]
  by_cases hs:szL l≤496
  ·rw[if_pos hs]at ih
   obtain⟨h1,h2⟩:=ih
   unfold fitS
   rw[if_pos h1]
   by_cases hs2:szL (l++[x])≤496
   ·rw[if_pos hs2]
    have:=h2.add (recI x) hr (by rw[put_slI,cost_slI];exact hs2)
    rw[put_slI]at this
    exact⟨this.2.1,this.2.2⟩
   ·rw[if_neg hs2]
    rw[h2.add_not (recI x) (.inr (by rw[put_slI,cost_slI];omega))]
  ·rw[if_neg hs]at ih
   rw[if_neg (by rw[szL_app];omega)]
   unfold fitS
   rw[if_neg (by rw[ih];simp)]
   exact ih
theorem fit_yes {kd:Nat}(hk:kd=2∨kd=3){l:List Itm}(h:∀ x∈l,x.ok)(hs:szL l≤496):(fitF kd l).2=true∧NodeP (fitF kd l).1 kd l:=by
 have:=fit_pg kd hk l h
 rw[if_pos hs]at this
 exact⟨this.1,this.2,hk,h⟩
theorem fit_no {kd:Nat}(hk:kd=2∨kd=3){l:List Itm}(h:∀ x∈l,x.ok)(hs:¬ szL l≤496):(fitF kd l).2=false:=by
 have:=fit_pg kd hk l h
 rwa [if_neg hs]at this
def halfF (all:Nat):List Itm→Nat→Nat→Nat
 |[],n,i=>i
 |x::l,n,i=>if 2*n<all then halfF all l (n+szI x) (i+1)else i
def midF (l:List Itm):Nat:=halfF (szL l) l 0 0
theorem halfF_spec (all:Nat):∀ (l pre:List Itm) (n i:Nat),i=pre.length→n=szL pre→all=szL (pre++l)→(pre=[]∨2*szL pre.dropLast<all)→
 ∃ j,halfF all l n i=j∧j≤(pre++l).length∧all≤2*szL ((pre++l).take j)∧(j=0∨2*szL ((pre++l).take (j - 1))<all)
 |[],pre,n,i,hi,hn,ha,hp=>by
  refine⟨i,rfl,by simp[hi],?_,?_⟩
  ·rw[hi];simp at ha ⊢;omega
  ·rcases hp with rfl|hp
   ·left;simpa using hi
   ·right
    rw[hi]
    simp only[List.append_nil]
    rw[← List.dropLast_eq_take];exact hp
 |x::l,pre,n,i,hi,hn,ha,hp=>by
  unfold halfF
  split
  ·rename_i h
   obtain⟨j,h1,h2,h3,h4⟩:=halfF_spec all l (pre++[x]) (n+szI x) (i+1) (by simp[hi]) (by rw[szL_app,szL_cons,szL_nil];omega) (by rw[ha];simp) (.inr (by rw[List.dropLast_concat];omega))
   exact⟨j,h1,by simpa using h2,by simpa using h3,by simpa using h4⟩
  ·rename_i h
   refine⟨i,rfl,by simp[hi],?_,?_⟩
   ·rw[hi,List.take_left']
    ·omega
    ·rfl
   ·rcases hp with rfl|hp
    ·left;simpa using hi
    ·right
     rw[hi]
     have hne:pre≠[]:=fun e=>by subst e;simp[szL]at hp hn;subst hn;omega
     have hpl:0<pre.length:=List.length_pos_iff.2 hne
     rw[List.take_append_of_le_length (by omega),←List.dropLast_eq_take];exact hp
theorem mid_spec (l:List Itm):midF l≤l.length∧szL l≤2*szL (l.take (midF l))∧(midF l=0∨2*szL (l.take (midF l - 1))<szL l):=by
 obtain⟨j,h1,h2,h3,h4⟩:=halfF_spec (szL l) l [] 0 0 rfl rfl rfl (.inl rfl)
 unfold midF
 rw[h1]
 exact⟨by simpa using h2,by simpa using h3,by simpa using h4⟩
def pl46_1Yb:Plan:=(.det 0 (.det 1 (.det 2 (.det 3 (.det 5 (.det 6 (.det 7 (.det 8 (.det 9 (.det 10 (.det 12 (.det 13 (.det 14 (.det 15 (.det 16 (.det 17 (.act 4 (.act 11 (.fin 18 (.fin 19 (.fin 20 (.det 21 .done))))))))))))))))))))))
def pl65_5Yb:Plan:=(.det 0 (.det 1 (.det 2 (.det 3 (.det 4 (.det 5 (.fin 6 (.det 7 .done))))))))
def pl65_8Yb:Plan:=(.det 0 (.det 1 (.det 2 (.det 3 (.det 4 (.det 5 (.det 6 (.det 7 (.det 8 (.det 9 (.det 10 (.fin 11 (.det 12 (.det 13 (.det 14 (.det 15 .done))))))))))))))))
def tYb:=aa wX <| aa wbu <| aa T3 <| aa T4 <| aa T35 <| aa T37 <| aa T48 <| aa T53 <| aa T90 <| aa T92 <| aa T97 <| aa T139 T182
def allJ (w:World):Nat→Nat→Prop:=fun b _=>b<w.heap.size
theorem ACalls.borrowS {P:Program}{f:FuncId}{args args':List AV}{R:AV→Prop}{σ:St}(h:ACalls P f args' [] fun r _=>R r)(hR:∀ r,R r→∀ (M M':View) (u:Value),ARep M r u→ARep M' r u)
 (hr:∀ (M:View) (vs:List Value),Match M σ→ARepL M args vs→ARepL { M with I:=allJ M.w,mu:=fun _=>none,len:=fun _=>none } args' vs):ACalls P f args σ fun r σ'=>σ'=σ∧R r:=by
 refine⟨h.1,fun M vs hM hv=> ?_⟩
 let M0:View:={ M with I:=allJ M.w,mu:=fun _=>none,len:=fun _=>none }
 have hM0:Match M0 []:=⟨fun t ob ht=>by simp[St.at]at ht,fun t t' ob ob' b ht=>by simp[St.at]at ht,fun t _=>⟨rfl,rfl⟩,fun t b hb=>by simp[M0]at hb,fun b o h=>h,fun x hx=>by
  obtain⟨cs,T,g1,g2,_⟩:=hM.glob x hx
  exact⟨cs,T,g1,g2,fun t ob ht=>by simp[St.at]at ht⟩⟩
 refine (h.2 M0 vs hM0 (hr M vs hM hv)).mono ?_
 rintro e w' ⟨v,r,σ',M1,rfl,rfl,h1,h2,h3,h4,h6⟩
 have hk:∀ b,b<M.w.heap.size→M1.w.heap[b]? =M.w.heap[b]? :=fun b hb=>(h1.keep b hb fun t ob ht=>by simp[St.at]at ht).1
 let M':View:={ M with w:=M1.w }
 have hcell:∀ b o,M.I b o→M1.w.cell? ⟨b,o,none⟩=M.w.cell? ⟨b,o,none⟩:=fun b o hb=>World.cell?_of_block (hk b (hM.imm b o hb))
 have hL:Later M M':=⟨fun _ _ h h'=>⟨h,h',rfl⟩,own_same (fun _=>rfl) (fun _=>rfl) (fun _=>rfl),fun _ _ h=>h,hcell⟩
 have hE':Ext M σ M' σ:=⟨hL.mu,hL.own,hL.imm,hL.cell,fun b hb _=>⟨hk b hb,fun _ h=>h⟩,fun t ob b h7 h8=>.inr ⟨t,ob,h7,h8⟩,h1.size,h1.os,h1.tape,h1.output⟩
 refine⟨v,r,σ,M',rfl,rfl,hE',?_,hR r h6 M1 M' v h3,Nat.le_refl _,rfl,h6⟩
 exact⟨fun t ob ht=>(hM.obj t ob ht).later hL rfl rfl rfl fun b hb=>⟨hk b (hM.lt t b hb),fun _ h=>h⟩,hM.inj,hM.fresh,fun t b hb=>Nat.lt_of_lt_of_le (hM.lt t b hb) h1.size,fun b o h=>Nat.lt_of_lt_of_le (hM.imm b o h) h1.size,hM.glob.ext hE'⟩
def cmpI (a b:Int):Int:=if a<b then -1 else if b<a then 1 else 0
def cmpE (a b:Ent):Int:=if Lib.compareBytes a.k b.k≠0 then Lib.compareBytes a.k b.k else if cmpI a.p b.p≠0 then cmpI a.p b.p else cmpI a.s b.s
theorem acmpi (a b:Int)(σ:St):ACalls Tryz.prog 83 [intV .i64 a,intV .i64 b] σ fun r s=>s=σ∧r=intV .i64 (cmpI a b):=by
 have hn:∀ x:Int,∀ σ,ACalls Tryz.prog 111 [intV .i64 x] σ fun r s=>s=σ∧r=boolV false:=fun x σ=>by
  refine ACalls.pureF (R:=fun r=>r=boolV false) ?_ rfl σ
  have e0:(x != x)=false:=by simp
  refine acalls_of cx_ok dr_ok Tryz.func111 (by kernel_rfl) rfl (nt:=5) (rs:=[.tmp 2]) rfl rfl ?_
  repeat' first|((with_reducible first|apply cs|apply ws)<;>intro h<;>try simp only[h])|simp only[↓wBA,tYb,convA,seval,e0]
  all_goals refine ret_is (a:=_) ?_ rfl rfl
  all_goals simp only[↓wBA,tYb,convA,seval]
  all_goals simp_all [wS,e0]
 refine ACalls.pureF (R:=fun r=>r=intV .i64 (cmpI a b)) ?_ rfl σ
 refine acalls_of cx_ok dr_ok Tryz.func83 (by kernel_rfl) rfl (nt:=18) (rs:=[.tmp 4]) rfl rfl ?_
 by_cases h1:a<b
 ·have e1:decide (a<b)=true:=by simpa using h1
  have e2:cmpI a b= -1:=by unfold cmpI;rw[if_pos h1]
  rw[e2]
  repeat' first|((with_reducible first|apply cs|apply ws)<;>intro h<;>try simp only[h])|simp only[↓wBA,tYb,convA,seval,e1]|((with_reducible show ACalls _ _ _ _ _);first|refine (hn a _).eq ?_|refine (hn b _).eq ?_)
  all_goals refine ret_is (a:=_) ?_ rfl rfl
  all_goals simp only[↓wBA,tYb,convA,seval]
  all_goals simp_all [wS]
 ·have e1:decide (a<b)=false:=by simpa using h1
  by_cases h2:b<a
  ·have e3:decide (a>b)=true:=by simpa using h2
   have e4:decide (b<a)=true:=by simpa using h2
   have e2:cmpI a b=1:=by unfold cmpI;rw[if_neg h1,if_pos h2]
   rw[e2]
   repeat' first|((with_reducible first|apply cs|apply ws)<;>intro h<;>try simp only[h])|simp only[↓wBA,tYb,convA,seval,e1,e3,e4]|((with_reducible show ACalls _ _ _ _ _);first|refine (hn a _).eq ?_|refine (hn b _).eq ?_)
   all_goals refine ret_is (a:=_) ?_ rfl rfl
   all_goals simp only[↓wBA,tYb,convA,seval]
   all_goals simp_all [wS]
  ·have e3:decide (a>b)=false:=by simpa using h2
   have e4:decide (b<a)=false:=by simpa using h2
   have e2:cmpI a b=0:=by unfold cmpI;rw[if_neg h1,if_neg h2]
   rw[e2]
   repeat' first|((with_reducible first|apply cs|apply ws)<;>intro h<;>try simp only[h])|simp only[↓wBA,tYb,convA,seval,e1,e3,e4]|((with_reducible show ACalls _ _ _ _ _);first|refine (hn a _).eq ?_|refine (hn b _).eq ?_)
   all_goals refine ret_is (a:=_) ?_ rfl rfl
   all_goals simp only[↓wBA,tYb,convA,seval]
   all_goals simp_all [wS]
def orF:List Int→Int
 |[]=>0
 |x::l=>if x=0 then orF l else x
theorem orF_get:∀ (l:List Int) (i:Nat) (x:Int),(∀ j,j<i→l[j]? =some 0)→l[i]? =some x→x≠0→orF l=x
 |[],i,x,_,h,_=>by simp at h
 |y::l,0,x,_,h,hx=>by simp at h;subst h;unfold orF;rw[if_neg hx]
 |y::l,i+1,x,h0,h,hx=>by
  have:=h0 0 (by omega)
  simp at this;subst this
  unfold orF;rw[if_pos rfl]
  exact orF_get l i x (fun j hj=>by have:=h0 (j+1) (by omega);simpa using this) (by simpa using h) hx
theorem orF_zero:∀ (l:List Int),(∀ j,j<l.length→l[j]? =some 0)→orF l=0
 |[],_=>rfl
 |y::l,h=>by
  have:=h 0 (by simp)
  simp at this;subst this
  unfold orF;rw[if_pos rfl]
  exact orF_zero l fun j hj=>by have:=h (j+1) (by simpa using hj);simpa using this
def intP (l:List Int):List (List PV):=l.map fun x=>[.v (.int .i64 x)]
theorem intP_get (l:List Int)(i:Nat)(x:Int)(h:l[i]? =some x):(intP l)[i]? =some [.v (.int .i64 x)]:=by simp[intP,h]
theorem intP_len (l:List Int):(intP l).length=l.length:=by simp[intP]
theorem acmpor (l:List Int)(hl:l.length≤100)(σ:St):ACalls Tryz.prog 82 [.p (.sl 1 (intP l))] σ fun r s=>s=σ∧r=intV .i64 (orF l):=by
 refine ACalls.pureF (R:=fun r=>r=intV .i64 (orF l)) ?_ rfl σ
 refine acalls_of cx_ok dr_ok Tryz.func82 (by kernel_rfl) rfl (nt:=17) (rs:=[.tmp 2]) rfl rfl ?_
 repeat' first|((with_reducible first|apply cs|apply ws)<;>intro h<;>try simp only[h])|simp only[↓wBA,tYb,convA,seval,intP_len]
 refine awp_loopN (l.length) (fun i=>[(8,intV .i64 (i:Nat)),(2,.any),(5,.any),(9,.any),(10,.any),(11,.any),(12,.any),(13,.any),(14,.any),(15,.any),(16,.any)]) (fun i=>[]) (fun i=>∀ j,j<i→l[j]? =some 0) ?_ ?_ ?_
 ·intro j hj;omega
 ·skip
  simp only[wR,Nat.reduceAdd,Nat.reduceLT,reduceIte]
  simp[wW]
 ·intro i hi hI
  simp only[wR,Nat.reduceAdd,Nat.reduceLT,reduceIte]
  by_cases hlt:i<l.length
  ·have hdec:=dT (i:=i) (n:=l.length) (by omega)
   have hi0:=nnI i
   have hw:=wI i (by omega)
   obtain⟨x,hx⟩:∃ x,l[i]? =some x:=⟨l[i],by simp⟩
   have hg:=intP_get l i x hx
   by_cases h0:x=0
   ·subst h0
    repeat' first|((with_reducible first|apply cs|apply ws)<;>intro h<;>try simp only[h])|simp only[↓wBA,tYb,convA,seval,intP_len,hdec,hi0,hg,hw]
    refine⟨⟨i+1,by omega,?_⟩,by show l.length - (i+1)<l.length - i;omega,?_⟩
    ·intro j hj
     by_cases e:j=i
     ·subst e;exact hx
     ·exact hI j (by omega)
    ·skip
     simp only[wR,Nat.reduceAdd,Nat.reduceLT,reduceIte]
     simp[wW]
   ·have e1:(x != 0)=true:=by simpa using h0
    have hor:=orF_get l i x hI hx h0
    rw[hor]
    repeat' first|((with_reducible first|apply cs|apply ws)<;>intro h<;>try simp only[h])|simp only[↓wBA,tYb,convA,seval,intP_len,hdec,hi0,hg,hw,e1]
    all_goals refine ret_is (a:=_) ?_ rfl rfl
    all_goals simp only[↓wBA,tYb,convA,seval]
    all_goals simp_all [wS]
  ·obtain rfl:i=l.length:=by omega
   have hdec:decide ((l.length:Int)<(l.length:Int))=false:=by simp
   have hor:=orF_zero l hI
   rw[hor]
   repeat' first|((with_reducible first|apply cs|apply ws)<;>intro h<;>try simp only[h])|simp only[↓wBA,tYb,convA,seval,intP_len,hdec]
   all_goals refine ret_is (a:=_) ?_ rfl rfl
   all_goals simp only[↓wBA,tYb,convA,seval]
   all_goals simp_all [wS]
theorem own_q {M:View}{t e:Nat}{ls:List (List PV)}{u:Value}(h:ARep M (.own t e ls) u):ARep M (.p (.sl e ls)) u:=by
 simp only[ARep,PRep]at h ⊢
 obtain⟨b,cap,n,h1,h2,h3,h4,_⟩:=h
 exact .inr ⟨b,0,cap,h1,h2,h4⟩
theorem ACalls.weakY {P:Program}{f:FuncId}{args args':List AV}{σ:St}{R:AV→St→Prop}(hc:ACalls P f args' σ R)(h:∀ M vs,ARepL M args vs→ARepL M args' vs):ACalls P f args σ R:=
 ⟨hc.1,fun M vs hM hv=>hc.2 M vs hM (h M vs hv)⟩
theorem rep1w {M:View}{a b:AV}(h:∀ u,ARep M a u→ARep M b u){vs:List Value}(hv:ARepL M [a] vs):ARepL M [b] vs:=by
 simp only[ARepL]at hv ⊢
 obtain⟨u,us,rfl,h1,rfl⟩:=hv
 exact⟨u,[],rfl,h u h1,rfl⟩
theorem orF3 (a b c:Int):orF [a,b,c]=if a≠0 then a else if b≠0 then b else c:=by
 by_cases h1:a=0<;>by_cases h2:b=0<;>by_cases h3:c=0<;>simp[orF,h1,h2,h3]
theorem acmpe (a b:Ent)(σ:St):ACalls Tryz.prog 46 [entA a,entA b] σ fun r s=>s=σ∧r=intV .i64 (cmpE a b):=by
 refine ACalls.pureF (R:=fun r=>r=intV .i64 (cmpE a b)) ?_ rfl σ
 have hor:cmpE a b=orF [Lib.compareBytes a.k b.k,cmpI a.p b.p,cmpI a.s b.s]:=(orF3 _ _ _).symm
 rw[hor]
 refine acalls_of cx_ok dr_ok Tryz.func46 (by kernel_rfl) rfl (nt:=24) (rs:=[.tmp 4]) rfl rfl ?_
 simp only[entA]
 repeat' first|((with_reducible first|apply cs|apply ws|apply wd|apply wu)<;>intro h<;>try simp only[h])|simp only[↓wBA,tYb,convA,seval,pl46_1Yb,wH]|((with_reducible show ACalls _ _ _ _ _);first|refine (abcmp (.inl rfl) (.inl rfl) _).eq ?_|refine (acmpi _ _ _).eq ?_)|(with_reducible refine dQ pl46_1Yb 22 (some 5) ?_)
 refine (ACalls.weakY (acmpor [Lib.compareBytes a.k b.k,cmpI a.p b.p,cmpI a.s b.s] (by simp) _) (fun M vs=>rep1w fun u=>own_q)).eq ?_
 repeat' first|((with_reducible first|apply cs|apply ws|apply wd|apply wu)<;>intro h<;>try simp only[h])|simp only[↓wBA,tYb,convA,seval,pl46_1Yb,wH]|(with_reducible refine dQ pl46_1Yb 22 (some 5) ?_)
 all_goals refine ret_is (a:=_) ?_ rfl rfl
 all_goals simp only[↓wBA,tYb,convA,seval]
 all_goals simp_all [wS]
def itA (x:Itm):AV:=.agg (itC x)
theorem acl1 (x:Itm)(e:Ent)(σ:St):ACalls Tryz.prog 66 [itA x,entA e] σ fun r s=>s=σ∧r=intV .i64 (cmpE x.e e):=by
 refine ACalls.pureF (R:=fun r=>r=intV .i64 (cmpE x.e e)) ?_ rfl σ
 refine acalls_of cx_ok dr_ok Tryz.func66 (by kernel_rfl) rfl (nt:=7) (rs:=[.tmp 4]) rfl rfl ?_
 simp only[itA,itC,entA]
 repeat' first|((with_reducible first|apply cs|apply ws)<;>intro h<;>try simp only[h])|simp only[↓wBA,tYb,convA,seval,wH]|((with_reducible show ACalls _ _ _ _ _);refine (acmpe x.e e _).eq ?_)
 all_goals refine ret_is (a:=_) ?_ rfl rfl
 all_goals simp only[↓wBA,tYb,convA,seval]
 all_goals simp_all [wS]
theorem acl2 (x:Itm)(e:Ent)(σ:St):ACalls Tryz.prog 101 [itA x,entA e] σ fun r s=>s=σ∧r=intV .i64 (cmpE x.e e):=by
 refine ACalls.pureF (R:=fun r=>r=intV .i64 (cmpE x.e e)) ?_ rfl σ
 refine acalls_of cx_ok dr_ok Tryz.func101 (by kernel_rfl) rfl (nt:=7) (rs:=[.tmp 4]) rfl rfl ?_
 simp only[itA,itC,entA]
 repeat' first|((with_reducible first|apply cs|apply ws)<;>intro h<;>try simp only[h])|simp only[↓wBA,tYb,convA,seval,wH]|((with_reducible show ACalls _ _ _ _ _);refine (acmpe x.e e _).eq ?_)
 all_goals refine ret_is (a:=_) ?_ rfl rfl
 all_goals simp only[↓wBA,tYb,convA,seval]
 all_goals simp_all [wS]
theorem acl3 (x:Itm)(e:Ent)(σ:St):ACalls Tryz.prog 84 [itA x,entA e] σ fun r s=>s=σ∧r=intV .i64 (cmpE x.e e):=by
 refine ACalls.pureF (R:=fun r=>r=intV .i64 (cmpE x.e e)) ?_ rfl σ
 refine acalls_of cx_ok dr_ok Tryz.func84 (by kernel_rfl) rfl (nt:=7) (rs:=[.tmp 4]) rfl rfl ?_
 simp only[itA,itC,entA]
 repeat' first|((with_reducible first|apply cs|apply ws)<;>intro h<;>try simp only[h])|simp only[↓wBA,tYb,convA,seval,wH]|((with_reducible show ACalls _ _ _ _ _);refine (acmpe x.e e _).eq ?_)
 all_goals refine ret_is (a:=_) ?_ rfl rfl
 all_goals simp only[↓wBA,tYb,convA,seval]
 all_goals simp_all [wS]
theorem awp_loopG {P:Program}{C:Ctx}{fr:List AV}{σ:St}{Q:Exit→List AV→St→Prop}{c:Code}{X:Type}(m:X→Nat)(D:X→List (Nat×AV))(T:X→St)(x0:X)(hl:∀ x,σ.length≤(T x).length)(h2:WeakE fr σ (setsF fr (D x0)) (T x0))
 (h3:∀ x,AWp P C (aDraw P C) c (setsF fr (D x)) (T x) (roundA (fun x=>(setsF fr (D x),T x)) m x Q)):AWp P C (aDraw P C) (.loop c) fr σ Q:=
 awp_loop' (X:=X) (fun x=>(setsF fr (D x),T x)) m x0 hl h2 h3
def encI (l:List Itm):List (List PV):=l.map itP
theorem encI_len (l:List Itm):(encI l).length=l.length:=by simp[encI]
theorem encI_get (l:List Itm)(i:Nat)(x:Itm)(h:l[i]? =some x):(encI l)[i]? =some (itP x):=by simp[encI,h]
def CutAt (l:List Itm)(e:Ent)(k:Nat):Prop:=k≤l.length∧(∀ j x,l[j]? =some x→(j<k→cmpE x.e e<0)∧(k≤j→0≤cmpE x.e e))
theorem absf {g:FuncId}(hg:∀ (x:Itm) (e:Ent) (σ:St),ACalls Tryz.prog g [itA x,entA e] σ fun r s=>s=σ∧r=intV .i64 (cmpE x.e e))(l:List Itm)(hl:l.length≤1000000)(e:Ent)(k:Nat)(hk:CutAt l e k):
 ACalls Tryz.prog 65 [.p (.sl 4 (encI l)),entA e,.fn g [] []] [] fun r _=>r= .tup [intV .i64 (k:Nat),boolV (match l[k]? with|some x=>cmpE x.e e==0|none=>false)]:=by
 refine acalls_of cx_ok dr_ok Tryz.func65 (by kernel_rfl) rfl (nt:=46) (rs:=[.tmp 6,.tmp 7]) rfl rfl ?_
 simp only[entA]
 repeat' first|((with_reducible first|apply cs|apply ws|apply wd|apply wu)<;>intro h<;>try simp only[h])|simp only[↓wBA,tYb,convA,seval,pl65_5Yb,pl65_8Yb,encI_len]|(with_reducible first|refine dQ pl65_5Yb 8 (some 24) ?_|refine dQ pl65_8Yb 16 (some 35) ?_)
 refine awp_loopG (X:={ q:Nat×Nat // q.1≤k∧k≤q.2∧q.2≤l.length }) (fun q=>q.1.2 - q.1.1) (fun q=>[(9,intV .i64 (q.1.1:Nat)),(10,intV .i64 (q.1.2:Nat)),(11,.any),(15,.any),(16,.any),(17,.any),(18,.any),(19,.any),(20,.any),(21,.any),(22,.any),(23,.any),(24,.any),(25,.any),(26,.any),(27,.any),(28,.any),(29,.any),(30,.any),(31,.any),(32,.any),(33,.any),(34,.any)]) (fun q=>[some (Ob.row 3 [[.p (.sl 1 (encB e.k)),intV .i64 (e.p:Nat),intV .i64 (e.s:Nat)]])]) (⟨(0,l.length),by omega,hk.1,Nat.le_refl _⟩) ?_ ?_ ?_
 ·intro x;simp
 ·skip
  simp only[wR,Nat.reduceAdd,Nat.reduceLT,reduceIte]
  simp[wW]
 ·intro q
  simp only[wR,Nat.reduceAdd,Nat.reduceLT,reduceIte]
  obtain⟨⟨i,j⟩,h1,h2,h3⟩:=q
  dsimp only at*
  have hi0:=nnI i
  by_cases hlt:i<j
  ·have hdec:=dT (i:=i) (n:=j) (by omega)
   obtain⟨h,hh⟩:∃ h,h=(i+j) / 2:=⟨_,rfl⟩
   have hhl:h<l.length:=by omega
   have hh0:=nnI h
   have hw1:IntKind.i64.wrap ((i:Int)+(j:Int))=((i+j:Nat):Int):=by rw[wrap_i64 (by omega) (by omega)];simp
   have hw2:IntKind.i64.wrap ((IntKind.u64.wrap ((i+j:Nat):Int)).fdiv (2 ^ min 1 IntKind.u64.bits))=(h:Int):=by
    have:(2:Int) ^ min 1 IntKind.u64.bits=2:=by decide
    rw[this,IntKind.wrap_u64,Int.fdiv_eq_ediv_of_nonneg _ (by omega),wrap_i64 (by omega) (by omega)]
    omega
   have hw3:=wI h (by omega)
   obtain⟨x,hx⟩:∃ x,l[h]? =some x:=⟨l[h],by simp⟩
   have hg1:=encI_get l h x hx
   have hkx:=hk.2 h x hx
   have hgx:=hg x e
   simp only[itA,itC,entA]at hgx
   by_cases hc:cmpE x.e e<0
   ·have hc1:decide (cmpE x.e e<0)=true:=by simpa using hc
    have hkh:¬ k≤h:=fun h'=>by have:=hkx.2 h';omega
    repeat' first|((with_reducible first|apply cs|apply ws|apply wd|apply wu)<;>intro h<;>try simp only[h])|simp only[↓wBA,tYb,convA,seval,pl65_5Yb,pl65_8Yb,encI_len,hdec,hw1,hw2,hw3,hh0,hg1,itP,hc1]|((with_reducible show ACalls _ _ _ _ _);refine (hgx _).eq ?_)|(with_reducible first|refine dQ pl65_5Yb 8 (some 24) ?_|refine dQ pl65_8Yb 16 (some 35) ?_)
    refine⟨⟨(h+1,j),by show h+1≤k;omega,h2,h3⟩,by show j - (h+1)<j - i;omega,?_⟩
    simp only[wR,Nat.reduceAdd,Nat.reduceLT,reduceIte]
    simp[wW]
   ·have hc1:decide (cmpE x.e e<0)=false:=by simpa using hc
    have hkh:¬ h<k:=fun h'=>hc (hkx.1 h')
    repeat' first|((with_reducible first|apply cs|apply ws|apply wd|apply wu)<;>intro h<;>try simp only[h])|simp only[↓wBA,tYb,convA,seval,pl65_5Yb,pl65_8Yb,encI_len,hdec,hw1,hw2,hw3,hh0,hg1,itP,hc1]|((with_reducible show ACalls _ _ _ _ _);refine (hgx _).eq ?_)|(with_reducible first|refine dQ pl65_5Yb 8 (some 24) ?_|refine dQ pl65_8Yb 16 (some 35) ?_)
    refine⟨⟨(i,h),h1,by show k≤h;omega,by show h≤l.length;omega⟩,by show h - i<j - i;omega,?_⟩
    simp only[wR,Nat.reduceAdd,Nat.reduceLT,reduceIte]
    simp[wW]
  ·have hdec:=dF (i:=i) (n:=j) (by omega)
   obtain rfl:i=k:=by omega
   by_cases hil:i<l.length
   ·have hd2:=dT (i:=i) (n:=l.length) (by omega)
    obtain⟨x,hx⟩:∃ x,l[i]? =some x:=⟨l[i],by simp⟩
    have hg1:=encI_get l i x hx
    have hgx:=hg x e
    simp only[itA,itC,entA]at hgx
    rw[hx]
    dsimp only
    repeat' first|((with_reducible first|apply cs|apply ws|apply wd|apply wu)<;>intro h<;>try simp only[h])|simp only[↓wBA,tYb,convA,seval,pl65_5Yb,pl65_8Yb,encI_len,hdec,hi0,hd2,hg1,itP]|((with_reducible show ACalls _ _ _ _ _);refine (hgx _).eq ?_)|(with_reducible first|refine dQ pl65_5Yb 8 (some 24) ?_|refine dQ pl65_8Yb 16 (some 35) ?_)
    all_goals refine ret_st ?_ (by first|exact Nat.le_refl _|(simp only[length_set,length_append];omega)|omega)
    all_goals simp only[resA.eq_1,resL.eq_1,resL.eq_2,resV.eq_1,resV.eq_2,↓wBA,tYb,convA,seval,wH]
    all_goals rfl
   ·have hd2:=dF (i:=i) (n:=l.length) (by omega)
    have hx:l[i]? =none:=List.getElem?_eq_none (by omega)
    rw[hx]
    dsimp only
    repeat' first|((with_reducible first|apply cs|apply ws|apply wd|apply wu)<;>intro h<;>try simp only[h])|simp only[↓wBA,tYb,convA,seval,pl65_5Yb,pl65_8Yb,encI_len,hdec,hi0,hd2]|(with_reducible first|refine dQ pl65_5Yb 8 (some 24) ?_|refine dQ pl65_8Yb 16 (some 35) ?_)
    all_goals refine ret_st ?_ (by first|exact Nat.le_refl _|(simp only[length_set,length_append];omega)|omega)
    all_goals simp only[resA.eq_1,resL.eq_1,resL.eq_2,resV.eq_1,resV.eq_2,↓wBA,tYb,convA,seval,wH]
    all_goals rfl
def ItA (σ:St)(a:AV)(l:List Itm):Prop:=∀ (M:View) (u:Value),Match M σ→ARep M a u→PRep M.w (allJ M.w) (.sl 4 (encI l)) u
theorem ItA.data (σ:St)(l:List Itm):ItA σ (.p (.sl 4 (encI l))) l:=fun M u hM h=>by
 simp only[ARep]at h
 exact PRep.later (fun b o h=>hM.imm b o h) (fun _ _ _=>rfl) _ _ h
theorem ItA.nil (σ:St):ItA σ (.p (.v (.slice none 0 0))) []:=fun M u hM h=>by
 have:=(rep_v h).2;subst this
 simp only[PRep,encI,List.map_nil]
 exact .inl ⟨trivial,none,0,rfl,fun _=>rfl⟩
theorem ItA.own (σ:St)(t:Nat)(l:List Itm):ItA σ (.own t 4 (encI l)) l:=fun M u hM h=>ItA.data σ l M u hM (own_q h)
def lowV (M:View):View:={ M with I:=allJ M.w,mu:=fun _=>none,len:=fun _=>none }
theorem low_p {M:View}{σ:St}(hM:Match M σ){x:PV}{u:Value}(h:ARep M (.p x) u):ARep (lowV M) (.p x) u:=by
 simp only[ARep]at h ⊢
 exact PRep.later (fun b o h=>hM.imm b o h) (fun _ _ _=>rfl) _ _ h
theorem low_agg {M:View}{σ:St}(hM:Match M σ):∀ {l:List PV} {us:List Value},ARepL M (l.map .p) us→ARepL (lowV M) (l.map .p) us
 |[],us,h=>by simpa [ARepL]using h
 |x::l,us,h=>by
  simp only[map_cons,ARepL]at h ⊢
  obtain⟨u,us',h1,h2,h3⟩:=h
  exact⟨u,us',h1,low_p hM h2,low_agg hM h3⟩
theorem low_ent {M:View}{σ:St}(hM:Match M σ){e:Ent}{u:Value}(h:ARep M (entA e) u):ARep (lowV M) (entA e) u:=by
 simp only[entA,ARep]at h ⊢
 obtain⟨g0,us,g1,g2⟩:=h
 exact⟨g0,us,g1,low_agg (l:=entP e) hM g2⟩
theorem low_fn {M:View}{g:FuncId}{u:Value}(h:ARep M (.fn g [] []) u):ARep (lowV M) (.fn g [] []) u:=by
 simp only[ARep,ARepL]at h ⊢
 exact h
theorem low_node {M:View}{σ:St}(hM:Match M σ){kd:Int}{a:AV}{l:List Itm}(ha:ItA σ a l){u:Value}(h:ARep M (.agg [intV .i64 kd,a]) u):ARep (lowV M) (.agg [intV .i64 kd,.p (.sl 4 (encI l))]) u:=by
 simp only[ARep,ARepL]at h ⊢
 obtain⟨_,us,h1,u1,us1,h2,h3,u2,us2,h4,h5,h6⟩:=h
 refine⟨rfl,us,h1,u1,us1,h2,by (first|exact PRep.later (fun b o h=>hM.imm b o h) (fun _ _ _=>rfl) _ _ h3|(simp only[PRep]at h3 ⊢;exact h3)),u2,us2,h4,ha M u2 hM h5,h6⟩
theorem noM_p {x:Value}(M M':View)(u:Value)(h:ARep M (.p (.v x)) u):ARep M' (.p (.v x)) u:=by simpa only[ARep,PRep]using h
theorem noM_t2 {x y:Value}(M M':View)(u:Value)(h:ARep M (.tup [.p (.v x),.p (.v y)]) u):ARep M' (.tup [.p (.v x),.p (.v y)]) u:=by simpa only[ARep,ARepL,PRep]using h
theorem absfA {g:FuncId}(hg:∀ (x:Itm) (e:Ent) (σ:St),ACalls Tryz.prog g [itA x,entA e] σ fun r s=>s=σ∧r=intV .i64 (cmpE x.e e)){σ:St}{a:AV}{l:List Itm}(ha:ItA σ a l)(hl:l.length≤1000000)(e:Ent)(k:Nat)(hk:CutAt l e k):
 ACalls Tryz.prog 65 [a,entA e,.fn g [] []] σ fun r s=>s=σ∧r= .tup [intV .i64 (k:Nat),boolV (match l[k]? with|some x=>cmpE x.e e==0|none=>false)]:=by
 refine ACalls.borrowS (absf hg l hl e k hk) (fun r hr M M' u h=> ?_) fun M vs hM hv=> ?_
 ·subst hr;exact noM_t2 M M' u h
 ·simp only[ARepL]at hv ⊢
  obtain⟨u1,us1,rfl,h1,u2,us2,rfl,h2,u3,us3,rfl,h3,rfl⟩:=hv
  exact⟨u1,_,rfl,by simp only[ARep];exact ha M u1 hM h1,u2,_,rfl,low_ent hM h2,u3,_,rfl,low_fn h3,rfl⟩
def belF (l:List Itm)(e:Ent)(k:Nat):Nat:=if (match l[k]? with|some x=>cmpE x.e e==0|none=>false)then k else k - 1
theorem abelow0 (kd:Int)(l:List Itm)(hl:l.length≤1000000)(e:Ent)(k:Nat)(hk:CutAt l e k):
 ACalls Tryz.prog 69 [.agg [intV .i64 kd,.p (.sl 4 (encI l))],entA e] [] fun r _=>r=intV .i64 (belF l e k:Nat):=by
 have hb:=fun σ=>absfA acl2 (ItA.data σ l) hl e k hk
 simp only[entA]at hb
 have hkl:=hk.1
 unfold belF
 cases hc:(match l[k]? with|some x=>cmpE x.e e==0|none=>false)with
 |true=>
  rw[hc]at hb
  refine acalls_of cx_ok dr_ok Tryz.func69 (by kernel_rfl) rfl (nt:=18) (rs:=[.tmp 4]) rfl rfl ?_
  simp only[entA]
  have hm:(if (0:Int)>(k:Int)then 0 else (k:Int))=(k:Int):=by rw[if_neg (by omega)]
  repeat' first|((with_reducible first|apply cs|apply ws)<;>intro h<;>try simp only[h])|simp only[↓wBA,tYb,convA,seval,hm]|((with_reducible show ACalls _ _ _ _ _);refine (hb _).eq ?_)
  all_goals refine ret_st ?_ (by first|exact Nat.le_refl _|(simp only[length_set,length_append];omega)|omega)
  all_goals simp only[resA.eq_1,resL.eq_1,resL.eq_2,resV.eq_1,resV.eq_2,↓wBA,tYb,convA,seval,wH,hm]
 |false=>
  rw[hc]at hb
  have hw:IntKind.i64.wrap ((k:Int) - 1)=(k:Int) - 1:=wrap_i64 (by omega) (by omega)
  refine acalls_of cx_ok dr_ok Tryz.func69 (by kernel_rfl) rfl (nt:=18) (rs:=[.tmp 4]) rfl rfl ?_
  simp only[entA]
  have hm:(if (0:Int)>(k:Int) - 1 then 0 else (k:Int) - 1)=((k - 1:Nat):Int):=by split<;>omega
  repeat' first|((with_reducible first|apply cs|apply ws)<;>intro h<;>try simp only[h])|simp only[↓wBA,tYb,convA,seval,hw,hm]|((with_reducible show ACalls _ _ _ _ _);refine (hb _).eq ?_)
  all_goals refine ret_st ?_ (by first|exact Nat.le_refl _|(simp only[length_set,length_append];omega)|omega)
  all_goals simp only[resA.eq_1,resL.eq_1,resL.eq_2,resV.eq_1,resV.eq_2,↓wBA,tYb,convA,seval,wH,hm]
theorem abelow (kd:Int){σ:St}{a:AV}{l:List Itm}(ha:ItA σ a l)(hl:l.length≤1000000)(e:Ent)(k:Nat)(hk:CutAt l e k):
 ACalls Tryz.prog 69 [.agg [intV .i64 kd,a],entA e] σ fun r s=>s=σ∧r=intV .i64 (belF l e k:Nat):=by
 refine ACalls.borrowS (abelow0 kd l hl e k hk) (fun r hr M M' u h=> ?_) fun M vs hM hv=> ?_
 ·subst hr;exact noM_p M M' u h
 ·simp only[ARepL]at hv ⊢
  obtain⟨u1,us1,rfl,h1,u2,us2,rfl,h2,rfl⟩:=hv
  exact⟨u1,_,rfl,low_node hM ha h1,u2,_,rfl,low_ent hM h2,rfl⟩
def ItM (σ:St)(t i:Nat)(l:List Itm):Prop:=∃ ls,σ[t]? =some (some (.row 4 ls))∧i+l.length≤ls.length∧∀ j x,l[j]? =some x→ls[i+j]? =some (itC x)
theorem ItM.same {σ s:St}{t i:Nat}{l:List Itm}(h:ItM σ t i l)(hs:s[t]? =σ[t]?):ItM s t i l:=by
 obtain⟨ls,h1,h2⟩:=h
 exact⟨ls,hs.trans h1,h2⟩
theorem ItM.lt {σ:St}{t i:Nat}{l:List Itm}(h:ItM σ t i l):t<σ.length:=by
 obtain⟨ls,h1,h2⟩:=h
 exact at_lt h1
theorem ItM.drop {σ:St}{t i:Nat}{l:List Itm}(h:ItM σ t i l)(k:Nat)(hk:k≤l.length):ItM σ t (i+k) (l.drop k):=by
 obtain⟨ls,h1,h2,h3⟩:=h
 refine⟨ls,h1,by simp;omega,fun j x hj=> ?_⟩
 rw[List.getElem?_drop]at hj
 rw[Nat.add_assoc];exact h3 _ x hj
theorem ItM.take {σ:St}{t i:Nat}{l:List Itm}(h:ItM σ t i l)(k:Nat):ItM σ t i (l.take k):=by
 obtain⟨ls,h1,h2,h3⟩:=h
 refine⟨ls,h1,by simp;omega,fun j x hj=> ?_⟩
 rw[List.getElem?_take]at hj
 split at hj
 ·exact h3 _ x hj
 ·simp at hj
theorem ItM.a {σ:St}{t i:Nat}{l:List Itm}(h:ItM σ t i l):ItA σ (.ms t 4 i l.length) l:=fun M u hM hu=>by
 obtain⟨ls,ht,hin,hg⟩:=h
 obtain⟨_,b,cur,T,hb,hh,hI,hr,hcs⟩:=hM.obj t _ ht
 simp only[ARep]at hu
 obtain⟨b',cap,hb',_,rfl,hn,hf⟩:=hu
 have:b'=b:=by rw[hb]at hb';simpa using hb'.symm
 subst this
 simp only[PRep]
 refine .inr ⟨b',i*4,cap,by rw[encI_len],by rw[encI_len];omega,PRepR.of_get fun j c hj=> ?_⟩
 obtain⟨x,hx,rfl⟩:∃ x,l[j]? =some x∧itP x=c:=by simpa [encI]using hj
 obtain⟨h4,h5⟩:=hr (i+j) _ (hg j x hx)
 refine⟨rfl,PRepC.of_get fun q y hy=> ?_⟩
 have hq:(itC x)[q]? =some (.p y):=by rw[← itC_P,List.getElem?_map,hy];rfl
 obtain⟨_,v,h8,h9⟩:=h5 q (.p y) hq
 refine⟨v,?_,hM.lt t b' hb,?_⟩
 ·rw[cell_of_row _ _ _ _ _ _ hh,←Nat.add_mul];exact h8
 ·simp only[ARep]at h9
  exact PRep.later (fun b o h=>hM.imm b o h) (fun _ _ _=>rfl) _ _ h9
end Go.Proofs.YtockimhceppkbaaGreat
