/- Trees: what compares entries. Trees: entries, items, nodes on pages: the plain part. Trees: what compares entries, on the machine. Trees: records, what fits, the middle. -/
import Derived.Test.YtpoigihfeehehaaGreatDoorM32
import Derived.Test.YtpoigihfeehehaaGreatDoorM33
import Derived.Lib.Bytealg
import Derived.Laws.Externs
set_option linter.all false
set_option maxRecDepth 100000
set_option maxHeartbeats 32000000
namespace Go.Proofs.YtpoigihfeehehaaGreatDoor
open Go.RowKit
theorem Xv {P:Program}{w:World}:∀ (l:List UInt8) (a:Addr) (acc:ByteArray),(∀ j u,(A8 l)[j]? =some u→w.cell? (a.add j)=some u)→
 (Extern.Bytes.loadBytes a l.length acc).run P w= .ok ⟨acc.data++l.toArray⟩ w
 |[],a,acc,_=>by simp[Extern.Bytes.loadBytes]
 |x::l,a,acc,h=>by
  have h0:=h 0 (.int .u8 x.toNat) rfl
  have ih:=Xv (P:=P) l (a.add 1) (acc.push x) (fun j y hj=>by
   rw[Addr.add_add,VI]
   exact h (j+1) y (by simpa [A8]using hj))
  have e0:a.add 0=a:=by cases a with|mk b o k=>cases k<;>simp[Addr.add]
  rw[e0]at h0
  have hx:((x.toNat:Int)).toNat.toUInt8=x:=by simp
  simp only[QF,Extern.Bytes.loadBytes,Sem.run_bind,run_load,h0,Result.andThen,hx]
  rw[ih]
  simp[ByteArray.push]
theorem Qe {P:Program}{w:World}{v:Value}{r:List UInt8}(h:D2 w v r):(Extern.Bytes.bytesOf v).run P w= .ok ⟨r.toArray⟩ w:=by
 obtain⟨ao,c,rfl,h⟩:=h
 rcases h with⟨rfl,hr,_⟩|⟨ad,rfl,h⟩
 ·have:r=[]:=by simpa [A8]using hr
  subst this
  simp[Extern.Bytes.bytesOf]
  try rfl
 ·simp only[Extern.Bytes.bytesOf]
  rw[Xv r ad .empty h]
  simp
  try rfl
theorem Al2 {P:Program}{w:World}{u v:Value}{a b:List UInt8}(hu:D2 w u a)(hv:D2 w v b):
 (Extern.BytealgCompare.compare #[u,v]).run P w= .ok (.int .i64 (Lib.compareBytes a b)) w:=by
 change Sem.run P (do pure (goInt (Extern.BytealgCompare.cmp (← Extern.Bytes.bytesOf u) (← Extern.Bytes.bytesOf v)))) w=_
 simp only[Sem.run_bind,Qe hu,Qe hv,Sem.run_pure,Result.andThen]
 rw[Lib.cmp_eq]
 rfl
theorem Al3 (a b:List UInt8)(u v:Value)(w:World)(hu:D2 w u a)(hv:D2 w v b):
 Calls Tryz.prog 147 #[u,v] w fun e w'=>e= .returned (.int .i64 (Lib.compareBytes a b))∧w'=w:=by
 go_enter Tryz.func147,Tryz.ntmps147
 go_wp2
 rw[run_callFunc_extern Tryz.func185 (by kernel_rfl) (by kernel_rfl) (by kernel_rfl) (e:=Extern.BytealgCompare.compare) (by kernel_rfl),Al2 hu hv]
 simp only[Result.andThen]
 rw[Oper.upon_value]
 go_wp2
 go_ret
 exact⟨rfl,rfl⟩
theorem Ai6 {x y:PV}{a b:List UInt8}(hx:BX x a)(hy:BX y b)(σ:St):Aa Tryz.prog 147 [.p x,.p y] σ fun r s=>s=σ∧r=Ad .i64 (Lib.compareBytes a b):=
 Aa.of_calls (en _ (by kernel_rfl)) fun M vs hM hv=>by
  obtain⟨u,v,rfl,h1,h2⟩:=rep2 hv
  exact (Al3 a b u v _ (hx.bytes h1) (hy.bytes h2)).mono fun e w' ⟨h1,h2⟩=>⟨_,_,fun _ _=>False,h1,by rw[h2];exact Below.refl _ _,fun _ _ h=>h.elim,Bb rfl,rfl⟩
def nm2 (k:Nat):List UInt8:=[UInt8.ofNat k,UInt8.ofNat (k / 256)]
theorem Aad {k:Nat}(h:k<65536):(UInt8.ofNat k).toNat+256*(UInt8.ofNat (k / 256)).toNat=k:=by
 rw[YQ,YQ];omega
theorem Acg {α:Type}{P:List α→Prop}(h0:P [])(h1:∀ l x,P l→P (l++[x])):∀ l,P l:=fun l=>by
 have h:∀ m:List α,P m.reverse:=fun m=>by
  induction m with
  |nil=>exact h0
  |cons x m ih=>rw[List.reverse_cons];exact h1 _ _ ih
 have:=h l.reverse
 rwa [List.reverse_reverse]at this
structure Ent where
 k:List UInt8
 p:Nat
 s:Nat
def Ent.ok (e:Ent):Prop:=e.k.length≤140∧e.p<65536∧e.s<65536
structure Itm where
 e:Ent
 c:Nat
def Itm.ok (x:Itm):Prop:=x.e.ok∧x.c<65536
def Ih (x:Itm):List UInt8:=nm2 x.c++nm2 x.e.p++nm2 x.e.s++x.e.k
theorem K7 (x:Itm):(Ih x).length=x.e.k.length+6:=by simp[Ih,nm2]
def Et (e:Ent):List PV:=[.sl 1 (Ax e.k),.v (.int .i64 (e.p:Nat)),.v (.int .i64 (e.s:Nat))]
def itP (x:Itm):List PV:=[.sl 1 (Ax x.e.k),.v (.int .i64 (x.e.p:Nat)),.v (.int .i64 (x.e.s:Nat)),.v (.int .i64 (x.c:Nat))]
def Jo (e:Ent):AV:=.agg [.p (.sl 1 (Ax e.k)),Ad .i64 (e.p:Nat),Ad .i64 (e.s:Nat)]
def itC (x:Itm):List AV:=[.p (.sl 1 (Ax x.e.k)),Ad .i64 (x.e.p:Nat),Ad .i64 (x.e.s:Nat),Ad .i64 (x.c:Nat)]
theorem Awe (x:Itm):(itP x).map .p=itC x:=rfl
def szI (x:Itm):Nat:=x.e.k.length+10
def szL (l:List Itm):Nat:=(l.map szI).sum
theorem B8 (x:Itm)(l:List Itm):szL (x::l)=szI x+szL l:=by simp[szL]
theorem De (l m:List Itm):szL (l++m)=szL l+szL m:=by simp[szL]
theorem Dy:szL []=0:=rfl
theorem I0 {x:Itm}(h:x.ok):szI x≤150:=by have:=h.1.1;unfold szI;omega
theorem Un:∀ l:List Itm,10*l.length≤szL l
 |[]=>QH _
 |x::l=>by have:=Un l;rw[B8];unfold szI;simp only[QF];omega
def slI (l:List Itm):List (Option (List UInt8)):=l.map fun x=>some (Ih x)
theorem Oa:∀ l:List Itm,B9 (slI l)=szL l
 |[]=>rfl
 |x::l=>by
  have:=Oa l
  rw[B8,←this]
  simp only[slI,B9,lens,QK,XI,QF,Cs,K7,szI]
  omega
theorem Ach:∀ l:List Itm,C8 (slI l)=l.length
 |[]=>rfl
 |x::l=>by
  have:=Ach l
  unfold C8 at this ⊢
  rw[slI,QK,List.findIdx_cons]
  show (slI l).findIdx _+1=_
  rw[this];rfl
theorem Aae (l:List Itm)(x:Itm):Gi (slI l) (C8 (slI l)) (Ih x)=slI (l++[x]):=by
 rw[Ach]
 unfold Gi
 rw[if_pos (by simp[slI])]
 simp[slI]
def fitS (q:List UInt8×Bool)(x:Itm):List UInt8×Bool:=if q.2 then ((He q.1 (Ih x)).1,(He q.1 (Ih x)).2.2)else q
def Hx (kd:Nat)(l:List Itm):List UInt8×Bool:=l.foldl fitS (Fg (kd:Int),true)
theorem Qf (kd:Nat)(l:List Itm)(x:Itm):Hx kd (l++[x])=fitS (Hx kd l) x:=by simp[Hx]
theorem Uo (kd:Nat):∀ l:List Itm,(Hx kd l).1.length=512:=by
 refine Acg ?_ ?_
 ·exact Dc _
 ·intro l x ih
  rw[Qf];unfold fitS
  split
  ·exact D8 _ _
  ·exact ih
structure D4 (pg:List UInt8)(kd:Nat)(l:List Itm):Prop where
 pg:Pg pg kd (slI l)
 kd:kd=2∨kd=3
 ok:∀ x∈l,x.ok
theorem D4.sz {pg:List UInt8}{kd:Nat}{l:List Itm}(h:D4 pg kd l):szL l≤496:=by
 have:=h.pg.cost;rwa [Oa]at this
theorem D4.n {pg:List UInt8}{kd:Nat}{l:List Itm}(h:D4 pg kd l):l.length≤49:=by
 have:=h.sz;have:=Un l;omega
theorem Aoq (kd:Nat)(hk:kd=2∨kd=3):∀ l:List Itm,(∀ x∈l,x.ok)→if szL l≤496 then (Hx kd l).2=true∧Pg (Hx kd l).1 kd (slI l)else (Hx kd l).2=false:=by
 refine Acg ?_ ?_
 ·intro _
  rw[if_pos (by rw[Dy];omega)]
  refine⟨rfl,?_⟩
  have:=Pg.new (kd:Int)
  have e:(kd:Int) % 256=kd:=by omega
  rw[e]at this
  exact this
 ·intro l x ih h
  have ih:=ih fun y hy=>h y (by simp[hy])
  have hx:=h x (by simp)
  have hr:(Ih x).length≤400:=by rw[K7];have:=hx.1.1;omega
  rw[Qf]
  by_cases hs:szL l≤496
  ·rw[if_pos hs]at ih
   obtain⟨h1,h2⟩:=ih
   unfold fitS
   rw[if_pos h1]
   by_cases hs2:szL (l++[x])≤496
   ·rw[if_pos hs2]
    have:=h2.add (Ih x) hr (by rw[Aae,Oa];exact hs2)
    rw[Aae]at this
    exact⟨this.2.1,this.2.2⟩
   ·rw[if_neg hs2]
    rw[h2.add_not (Ih x) (.inr (by rw[Aae,Oa];omega))]
  ·rw[if_neg hs]at ih
   rw[if_neg (by rw[De];omega)]
   unfold fitS
   rw[if_neg (by rw[ih];simp)]
   exact ih
theorem E6 {kd:Nat}(hk:kd=2∨kd=3){l:List Itm}(h:∀ x∈l,x.ok)(hs:szL l≤496):(Hx kd l).2=true∧D4 (Hx kd l).1 kd l:=by
 have:=Aoq kd hk l h
 rw[if_pos hs]at this
 exact⟨this.1,this.2,hk,h⟩
theorem Awf {kd:Nat}(hk:kd=2∨kd=3){l:List Itm}(h:∀ x∈l,x.ok)(hs:¬ szL l≤496):(Hx kd l).2=false:=by
 have:=Aoq kd hk l h
 rwa [if_neg hs]at this
def Xw (all:Nat):List Itm→Nat→Nat→Nat
 |[],n,i=>i
 |x::l,n,i=>if 2*n<all then Xw all l (n+szI x) (i+1)else i
def C2 (l:List Itm):Nat:=Xw (szL l) l 0 0
theorem Sf (all:Nat):∀ (l pre:List Itm) (n i:Nat),i=pre.length→n=szL pre→all=szL (pre++l)→(pre=[]∨2*szL pre.dropLast<all)→
 ∃ j,Xw all l n i=j∧j≤(pre++l).length∧all≤2*szL ((pre++l).take j)∧(j=0∨2*szL ((pre++l).take (j - 1))<all)
 |[],pre,n,i,hi,hn,ha,hp=>by
  refine⟨i,rfl,by simp[hi],?_,?_⟩
  ·rw[hi];simp at ha ⊢;omega
  ·rcases hp with rfl|hp
   ·left;simpa using hi
   ·right
    rw[hi]
    simp only[ZT]
    rw[← List.dropLast_eq_take];exact hp
 |x::l,pre,n,i,hi,hn,ha,hp=>by
  unfold Xw
  split
  ·rename_i h
   obtain⟨j,h1,h2,h3,h4⟩:=Sf all l (pre++[x]) (n+szI x) (i+1) (by simp[hi]) (by rw[De,B8,Dy];omega) (by rw[ha];simp) (.inr (by rw[List.dropLast_concat];omega))
   exact⟨j,h1,by simpa using h2,by simpa using h3,by simpa using h4⟩
  ·rename_i h
   refine⟨i,rfl,by simp[hi],?_,?_⟩
   ·rw[hi,WZ]
    ·omega
    ·rfl
   ·rcases hp with rfl|hp
    ·left;simpa using hi
    ·right
     rw[hi]
     have hne:pre≠[]:=fun e=>by subst e;simp[szL]at hp hn;subst hn;omega
     have hpl:0<pre.length:=XX.2 hne
     rw[XY (by omega),←List.dropLast_eq_take];exact hp
theorem Al4 (l:List Itm):C2 l≤l.length∧szL l≤2*szL (l.take (C2 l))∧(C2 l=0∨2*szL (l.take (C2 l - 1))<szL l):=by
 obtain⟨j,h1,h2,h3,h4⟩:=Sf (szL l) l [] 0 0 rfl rfl rfl (.inl rfl)
 unfold C2
 rw[h1]
 exact⟨by simpa using h2,by simpa using h3,by simpa using h4⟩
def Xx:Cq:=(.det 0 (.det 1 (.det 2 (.det 3 (.det 5 (.det 6 (.det 7 (.det 8 (.det 9 (.det 10 (.det 12 (.det 13 (.det 14 (.det 15 (.det 16 (.det 17 (.act 4 (.act 11 (.fin 18 (.fin 19 (.fin 20 (.det 21 .done))))))))))))))))))))))
def K8:Cq:=(.det 0 (.det 1 (.det 2 (.det 3 (.det 4 (.det 5 (.fin 6 (.det 7 .done))))))))
def K9:Cq:=(.det 0 (.det 1 (.det 2 (.det 3 (.det 4 (.det 5 (.det 6 (.det 7 (.det 8 (.det 9 (.det 10 (.fin 11 (.det 12 (.det 13 (.det 14 (.det 15 .done))))))))))))))))
def tYb:=aa wX <| aa wbu <| aa T3 <| aa T4 <| aa T34 <| aa T44 <| aa T51 <| aa T70 <| aa T192 <| aa T232 <| aa T234 <| aa T239 T269
def allJ (w:World):Nat→Nat→Prop:=fun b _=>b<w.heap.size
theorem Aa.borrowS {P:Program}{f:FuncId}{args args':List AV}{R:AV→Prop}{σ:St}(h:Aa P f args' [] fun r _=>R r)(hR:∀ r,R r→∀ (M M':Az) (u:Value),Ag M r u→Ag M' r u)
 (hr:∀ (M:Az) (vs:List Value),Al M σ→Af M args vs→Af { M with I:=allJ M.w,mu:=fun _=>none,len:=fun _=>none } args' vs):Aa P f args σ fun r σ'=>σ'=σ∧R r:=by
 refine⟨h.1,fun M vs hM hv=> ?_⟩
 let M0:Az:={ M with I:=allJ M.w,mu:=fun _=>none,len:=fun _=>none }
 have hM0:Al M0 []:=⟨fun t ob ht=>by simp[St.at]at ht,fun t t' ob ob' b ht=>by simp[St.at]at ht,fun t _=>⟨rfl,rfl⟩,fun t b hb=>by simp[M0]at hb,fun b o h=>h,fun x hx=>by
  obtain⟨cs,T,g1,g2,_⟩:=hM.glob x hx
  exact⟨cs,T,g1,g2,fun t ob ht=>by simp[St.at]at ht⟩⟩
 refine (h.2 M0 vs hM0 (hr M vs hM hv)).mono ?_
 rintro e w' ⟨v,r,σ',M1,rfl,rfl,h1,h2,h3,h4,h6⟩
 have hk:∀ b,b<M.w.heap.size→M1.w.heap[b]? =M.w.heap[b]? :=fun b hb=>(h1.keep b hb fun t ob ht=>by simp[St.at]at ht).1
 let M':Az:={ M with w:=M1.w }
 have hcell:∀ b o,M.I b o→M1.w.cell? ⟨b,o,none⟩=M.w.cell? ⟨b,o,none⟩:=fun b o hb=>World.cell?_of_block (hk b (hM.imm b o hb))
 have hL:Later M M':=⟨fun _ _ h h'=>⟨h,h',rfl⟩,C5 (fun _=>rfl) (fun _=>rfl) (fun _=>rfl),fun _ _ h=>h,hcell⟩
 have hE':Ext M σ M' σ:=⟨hL.mu,hL.own,hL.imm,hL.cell,fun b hb _=>⟨hk b hb,fun _ h=>h⟩,fun t ob b h7 h8=>.inr ⟨t,ob,h7,h8⟩,h1.size,h1.os,h1.tape,h1.output⟩
 refine⟨v,r,σ,M',rfl,rfl,hE',?_,hR r h6 M1 M' v h3,QH _,rfl,h6⟩
 exact⟨fun t ob ht=>(hM.obj t ob ht).later hL rfl rfl rfl fun b hb=>⟨hk b (hM.lt t b hb),fun _ h=>h⟩,hM.inj,hM.fresh,fun t b hb=>ZE (hM.lt t b hb) h1.size,fun b o h=>ZE (hM.imm b o h) h1.size,hM.glob.ext hE'⟩
def Vh (a b:Int):Int:=if a<b then -1 else if b<a then 1 else 0
def Lt (a b:Ent):Int:=if Lib.compareBytes a.k b.k≠0 then Lib.compareBytes a.k b.k else if Vh a.p b.p≠0 then Vh a.p b.p else Vh a.s b.s
theorem A1t (a b:Int)(σ:St):Aa Tryz.prog 95 [Ad .i64 a,Ad .i64 b] σ fun r s=>s=σ∧r=Ad .i64 (Vh a b):=by
 have hn:∀ x:Int,∀ σ,Aa Tryz.prog 142 [Ad .i64 x] σ fun r s=>s=σ∧r=Av false:=fun x σ=>by
  refine Aa.pureF (R:=fun r=>r=Av false) ?_ rfl σ
  have e0:(x != x)=false:=by simp
  refine Ab Am An Tryz.func142 (by kernel_rfl) rfl (nt:=5) (rs:=[.tmp 2]) rfl rfl ?_
  repeat' simp only[↓wBA,tYb,seval]
  all_goals refine Cc (a:=_) ?_ rfl rfl
  all_goals simp only[tYb,seval]
  all_goals simp_all [wS]
 refine Aa.pureF (R:=fun r=>r=Ad .i64 (Vh a b)) ?_ rfl σ
 refine Ab Am An Tryz.func95 (by kernel_rfl) rfl (nt:=18) (rs:=[.tmp 4]) rfl rfl ?_
 by_cases h1:a<b
 ·have e1:decide (a<b)=true:=by simpa using h1
  have e2:Vh a b= -1:=by unfold Vh;rw[if_pos h1]
  rw[e2]
  repeat' first|simp only[↓wBA,tYb,seval,e1]|((with_reducible show Aa _ _ _ _ _);first|refine (hn a _).eq ?_|refine (hn b _).eq ?_)
  all_goals refine Cc (a:=_) ?_ rfl rfl
  all_goals simp only[tYb,seval]
  all_goals simp_all [wS]
 ·have e1:decide (a<b)=false:=by simpa using h1
  by_cases h2:b<a
  ·have e3:decide (a>b)=true:=by simpa using h2
   have e4:decide (b<a)=true:=by simpa using h2
   have e2:Vh a b=1:=by unfold Vh;rw[if_neg h1,if_pos h2]
   rw[e2]
   repeat' first|simp only[↓wBA,tYb,seval,e1,e3]|((with_reducible show Aa _ _ _ _ _);first|refine (hn a _).eq ?_|refine (hn b _).eq ?_)
   all_goals refine Cc (a:=_) ?_ rfl rfl
   all_goals simp only[tYb,seval]
   all_goals simp_all [wS]
  ·have e3:decide (a>b)=false:=by simpa using h2
   have e4:decide (b<a)=false:=by simpa using h2
   have e2:Vh a b=0:=by unfold Vh;rw[if_neg h1,if_neg h2]
   rw[e2]
   repeat' first|simp only[↓wBA,tYb,seval,e1,e3]|((with_reducible show Aa _ _ _ _ _);first|refine (hn a _).eq ?_|refine (hn b _).eq ?_)
   all_goals refine Cc (a:=_) ?_ rfl rfl
   all_goals simp only[tYb,seval]
   all_goals simp_all [wS]
def orF:List Int→Int
 |[]=>0
 |x::l=>if x=0 then orF l else x
theorem Ai7:∀ (l:List Int) (i:Nat) (x:Int),(∀ j,j<i→l[j]? =some 0)→l[i]? =some x→x≠0→orF l=x
 |[],i,x,_,h,_=>by simp at h
 |y::l,0,x,_,h,hx=>by simp at h;subst h;unfold orF;rw[if_neg hx]
 |y::l,i+1,x,h0,h,hx=>by
  have:=h0 0 (by omega)
  simp at this;subst this
  unfold orF;rw[if_pos rfl]
  exact Ai7 l i x (fun j hj=>by have:=h0 (j+1) (by omega);simpa using this) (by simpa using h) hx
theorem Aci:∀ (l:List Int),(∀ j,j<l.length→l[j]? =some 0)→orF l=0
 |[],_=>rfl
 |y::l,h=>by
  have:=h 0 (by simp)
  simp at this;subst this
  unfold orF;rw[if_pos rfl]
  exact Aci l fun j hj=>by have:=h (j+1) (by simpa using hj);simpa using this
def intP (l:List Int):List (List PV):=l.map fun x=>[.v (.int .i64 x)]
theorem Al5 (l:List Int)(i:Nat)(x:Int)(h:l[i]? =some x):(intP l)[i]? =some [.v (.int .i64 x)]:=by simp[intP,h]
theorem Al6 (l:List Int):(intP l).length=l.length:=by simp[intP]
theorem Awg (l:List Int)(hl:l.length≤100)(σ:St):Aa Tryz.prog 94 [.p (.sl 1 (intP l))] σ fun r s=>s=σ∧r=Ad .i64 (orF l):=by
 refine Aa.pureF (R:=fun r=>r=Ad .i64 (orF l)) ?_ rfl σ
 refine Ab Am An Tryz.func94 (by kernel_rfl) rfl (nt:=17) (rs:=[.tmp 2]) rfl rfl ?_
 repeat' simp only[↓wBA,tYb,seval,Al6]
 refine Hs (l.length) (fun i=>[(8,Ad .i64 (i:Nat)),(2,.any),(5,.any),(9,.any),(10,.any),(11,.any),(12,.any),(13,.any),(14,.any),(15,.any),(16,.any)]) (fun i=>[]) (fun i=>∀ j,j<i→l[j]? =some 0) ?_ ?_ ?_
 ·intro j hj;omega
 ·skip
  simp only[wR]
  simp[wW]
 ·intro i hi hI
  simp only[wR]
  by_cases hlt:i<l.length
  ·have hdec:=dT (i:=i) (n:=l.length) (by omega)
   have hi0:=nnI i
   have hw:=wI i (by omega)
   obtain⟨x,hx⟩:∃ x,l[i]? =some x:=⟨l[i],by simp⟩
   have hg:=Al5 l i x hx
   by_cases h0:x=0
   ·subst h0
    repeat' simp only[↓wBA,tYb,seval,hdec,hi0,hg,hw]
    refine⟨⟨i+1,by omega,?_⟩,by show l.length - (i+1)<l.length - i;omega,?_⟩
    ·intro j hj
     by_cases e:j=i
     ·subst e;exact hx
     ·exact hI j (by omega)
    ·skip
     simp only[]
     simp[wW]
   ·have e1:(x != 0)=true:=by simpa using h0
    have hor:=Ai7 l i x hI hx h0
    rw[hor]
    repeat' simp only[↓wBA,tYb,seval,hdec,hi0,hg,e1]
    all_goals refine Cc (a:=_) ?_ rfl rfl
    all_goals simp only[tYb,seval]
    all_goals simp_all [wS]
  ·obtain rfl:i=l.length:=by omega
   have hdec:decide ((l.length:Int)<(l.length:Int))=false:=by simp
   have hor:=Aci l hI
   rw[hor]
   repeat' simp only[↓wBA,tYb,seval,hdec]
   all_goals refine Cc (a:=_) ?_ rfl rfl
   all_goals simp only[tYb,seval]
   all_goals simp_all [wS]
theorem Al7 {M:Az}{t e:Nat}{ls:List (List PV)}{u:Value}(h:Ag M (.own t e ls) u):Ag M (.p (.sl e ls)) u:=by
 simp only[Ag,Ca]at h ⊢
 obtain⟨b,cap,n,h1,h2,h3,h4,_⟩:=h
 exact .inr ⟨b,0,cap,h1,h2,h4⟩
theorem Aa.weakY {P:Program}{f:FuncId}{args args':List AV}{σ:St}{R:AV→St→Prop}(hc:Aa P f args' σ R)(h:∀ M vs,Af M args vs→Af M args' vs):Aa P f args σ R:=
 ⟨hc.1,fun M vs hM hv=>hc.2 M vs hM (h M vs hv)⟩
theorem A1u {M:Az}{a b:AV}(h:∀ u,Ag M a u→Ag M b u){vs:List Value}(hv:Af M [a] vs):Af M [b] vs:=by
 simp only[Af]at hv ⊢
 obtain⟨u,us,rfl,h1,rfl⟩:=hv
 exact⟨u,[],rfl,h u h1,rfl⟩
theorem orF3 (a b c:Int):orF [a,b,c]=if a≠0 then a else if b≠0 then b else c:=by
 by_cases h1:a=0<;>by_cases h2:b=0<;>by_cases h3:c=0<;>simp[orF,h1,h2,h3]
theorem Awh (a b:Ent)(σ:St):Aa Tryz.prog 162 [Jo a,Jo b] σ fun r s=>s=σ∧r=Ad .i64 (Lt a b):=by
 refine Aa.pureF (R:=fun r=>r=Ad .i64 (Lt a b)) ?_ rfl σ
 have hor:Lt a b=orF [Lib.compareBytes a.k b.k,Vh a.p b.p,Vh a.s b.s]:=(orF3 _ _ _).symm
 rw[hor]
 refine Ab Am An Tryz.func162 (by kernel_rfl) rfl (nt:=24) (rs:=[.tmp 4]) rfl rfl ?_
 simp only[Jo]
 repeat' first|simp only[↓wBA,tYb,seval,Xx]|((with_reducible show Aa _ _ _ _ _);first|refine (Ai6 (.inl rfl) (.inl rfl) _).eq ?_|refine (A1t _ _ _).eq ?_)|(with_reducible refine dQ Xx 22 (some 5) ?_)
 refine (Aa.weakY (Awg [Lib.compareBytes a.k b.k,Vh a.p b.p,Vh a.s b.s] (by simp) _) (fun M vs=>A1u fun u=>Al7)).eq ?_
 repeat' simp only[↓wBA,tYb,seval]
 all_goals refine Cc (a:=_) ?_ rfl rfl
 all_goals simp only[tYb,seval]
 all_goals simp_all [wS]
def itA (x:Itm):AV:=.agg (itC x)
theorem acl1 (x:Itm)(e:Ent)(σ:St):Aa Tryz.prog 161 [itA x,Jo e] σ fun r s=>s=σ∧r=Ad .i64 (Lt x.e e):=by
 refine Aa.pureF (R:=fun r=>r=Ad .i64 (Lt x.e e)) ?_ rfl σ
 refine Ab Am An Tryz.func161 (by kernel_rfl) rfl (nt:=7) (rs:=[.tmp 4]) rfl rfl ?_
 simp only[itA,itC,Jo]
 repeat' first|simp only[↓wBA,tYb,seval,wH]|((with_reducible show Aa _ _ _ _ _);refine (Awh x.e e _).eq ?_)
 all_goals refine Cc (a:=_) ?_ rfl rfl
 all_goals simp only[tYb,seval]
 all_goals simp_all [wS]
theorem acl2 (x:Itm)(e:Ent)(σ:St):Aa Tryz.prog 193 [itA x,Jo e] σ fun r s=>s=σ∧r=Ad .i64 (Lt x.e e):=by
 refine Aa.pureF (R:=fun r=>r=Ad .i64 (Lt x.e e)) ?_ rfl σ
 refine Ab Am An Tryz.func193 (by kernel_rfl) rfl (nt:=7) (rs:=[.tmp 4]) rfl rfl ?_
 simp only[itA,itC,Jo]
 repeat' first|simp only[↓wBA,tYb,seval,wH]|((with_reducible show Aa _ _ _ _ _);refine (Awh x.e e _).eq ?_)
 all_goals refine Cc (a:=_) ?_ rfl rfl
 all_goals simp only[tYb,seval]
 all_goals simp_all [wS]
theorem Xy {P:Program}{C:Ctx}{fr:List AV}{σ:St}{Q:Exit→List AV→St→Prop}{c:Code}{X:Type}(m:X→Nat)(D:X→List (Nat×AV))(T:X→St)(x0:X)(hl:∀ x,σ.length≤(T x).length)(h2:L0 fr σ (F5 fr (D x0)) (T x0))
 (h3:∀ x,AWp P C (Dh P C) c (F5 fr (D x)) (T x) (Rl (fun x=>(F5 fr (D x),T x)) m x Q)):AWp P C (Dh P C) (.loop c) fr σ Q:=
 O6 (X:=X) (fun x=>(F5 fr (D x),T x)) m x0 hl h2 h3
def encI (l:List Itm):List (List PV):=l.map itP
theorem La (l:List Itm):(encI l).length=l.length:=by simp[encI]
theorem Lb (l:List Itm)(i:Nat)(x:Itm)(h:l[i]? =some x):(encI l)[i]? =some (itP x):=by simp[encI,h]
def Ai8 (l:List Itm)(e:Ent)(k:Nat):Prop:=k≤l.length∧(∀ j x,l[j]? =some x→(j<k→Lt x.e e<0)∧(k≤j→0≤Lt x.e e))
theorem absf {g:FuncId}(hg:∀ (x:Itm) (e:Ent) (σ:St),Aa Tryz.prog g [itA x,Jo e] σ fun r s=>s=σ∧r=Ad .i64 (Lt x.e e))(l:List Itm)(hl:l.length≤1000000)(e:Ent)(k:Nat)(hk:Ai8 l e k):
 Aa Tryz.prog 160 [.p (.sl 4 (encI l)),Jo e,.fn g [] []] [] fun r _=>r= .tup [Ad .i64 (k:Nat),Av (match l[k]? with|some x=>Lt x.e e==0|none=>false)]:=by
 refine Ab Am An Tryz.func160 (by kernel_rfl) rfl (nt:=46) (rs:=[.tmp 6,.tmp 7]) rfl rfl ?_
 simp only[Jo]
 repeat' simp only[↓wBA,tYb,seval,La]
 refine Xy (X:={ q:Nat×Nat // q.1≤k∧k≤q.2∧q.2≤l.length }) (fun q=>q.1.2 - q.1.1) (fun q=>[(9,Ad .i64 (q.1.1:Nat)),(10,Ad .i64 (q.1.2:Nat)),(11,.any),(15,.any),(16,.any),(17,.any),(18,.any),(19,.any),(20,.any),(21,.any),(22,.any),(23,.any),(24,.any),(25,.any),(26,.any),(27,.any),(28,.any),(29,.any),(30,.any),(31,.any),(32,.any),(33,.any),(34,.any)]) (fun q=>[some (Ob.row 3 [[.p (.sl 1 (Ax e.k)),Ad .i64 (e.p:Nat),Ad .i64 (e.s:Nat)]])]) (⟨(0,l.length),by omega,hk.1,QH _⟩) ?_ ?_ ?_
 ·intro x;simp
 ·skip
  simp only[wR]
  simp[wW]
 ·intro q
  simp only[wR]
  obtain⟨⟨i,j⟩,h1,h2,h3⟩:=q
  dsimp only at*
  have hi0:=nnI i
  by_cases hlt:i<j
  ·have hdec:=dT (i:=i) (n:=j) (by omega)
   obtain⟨h,hh⟩:∃ h,h=(i+j) / 2:=⟨_,rfl⟩
   have hhl:h<l.length:=by omega
   have hh0:=nnI h
   have hw1:IntKind.i64.wrap ((i:Int)+(j:Int))=((i+j:Nat):Int):=by rw[wrap_i64 (by omega) (by omega)];simp
   have hw2:IntKind.i64.wrap ((IntKind.u64.wrap ((i+j:Nat):Int)).fdiv (2 ^ min 1 IntKind.u64.bits))=(h:Int):=by
    have:(2:Int) ^ min 1 IntKind.u64.bits=2:=by decide
    rw[this,IntKind.wrap_u64,XP _ (by omega),wrap_i64 (by omega) (by omega)]
    omega
   have hw3:=wI h (by omega)
   obtain⟨x,hx⟩:∃ x,l[h]? =some x:=⟨l[h],by simp⟩
   have hg1:=Lb l h x hx
   have hkx:=hk.2 h x hx
   have hgx:=hg x e
   simp only[itA,itC,Jo]at hgx
   by_cases hc:Lt x.e e<0
   ·have hc1:decide (Lt x.e e<0)=true:=by simpa using hc
    have hkh:¬ k≤h:=fun h'=>by have:=hkx.2 h';omega
    repeat' first|simp only[↓wBA,tYb,Cv,seval,K8,hdec,hw1,hw2,hw3,hh0,hg1,itP,hc1]|((with_reducible show Aa _ _ _ _ _);refine (hgx _).eq ?_)|(with_reducible refine dQ K8 8 (some 24) ?_)
    refine⟨⟨(h+1,j),by show h+1≤k;omega,h2,h3⟩,by show j - (h+1)<j - i;omega,?_⟩
    simp only[]
    simp[wW]
   ·have hc1:decide (Lt x.e e<0)=false:=by simpa using hc
    have hkh:¬ h<k:=fun h'=>hc (hkx.1 h')
    repeat' first|simp only[↓wBA,tYb,Cv,seval,K8,hdec,hw1,hw2,hh0,hg1,itP,hc1]|((with_reducible show Aa _ _ _ _ _);refine (hgx _).eq ?_)|(with_reducible refine dQ K8 8 (some 24) ?_)
    refine⟨⟨(i,h),h1,by show k≤h;omega,by show h≤l.length;omega⟩,by show h - i<j - i;omega,?_⟩
    simp only[]
    simp[wW]
  ·have hdec:=dF (i:=i) (n:=j) (by omega)
   obtain rfl:i=k:=by omega
   by_cases hil:i<l.length
   ·have hd2:=dT (i:=i) (n:=l.length) (by omega)
    obtain⟨x,hx⟩:∃ x,l[i]? =some x:=⟨l[i],by simp⟩
    have hg1:=Lb l i x hx
    have hgx:=hg x e
    simp only[itA,itC,Jo]at hgx
    rw[hx]
    dsimp only
    repeat' first|simp only[↓wBA,tYb,seval,K9,hdec,hi0,hd2,hg1,itP]|((with_reducible show Aa _ _ _ _ _);refine (hgx _).eq ?_)|(with_reducible refine dQ K9 16 (some 35) ?_)
    all_goals refine rtS ?_
    all_goals simp only[wRe,tYb,seval]
    all_goals rfl
   ·have hd2:=dF (i:=i) (n:=l.length) (by omega)
    have hx:l[i]? =none:=ZG (by omega)
    rw[hx]
    dsimp only
    repeat' first|simp only[↓wBA,tYb,seval,K9,hdec,hd2]|(with_reducible refine dQ K9 16 (some 35) ?_)
    all_goals refine rtS ?_
    all_goals simp only[wRe,tYb,seval]
    all_goals rfl
def ItA (σ:St)(a:AV)(l:List Itm):Prop:=∀ (M:Az) (u:Value),Al M σ→Ag M a u→Ca M.w (allJ M.w) (.sl 4 (encI l)) u
theorem ItA.data (σ:St)(l:List Itm):ItA σ (.p (.sl 4 (encI l))) l:=fun M u hM h=>by
 simp only[Ag]at h
 exact Ca.later (fun b o h=>hM.imm b o h) (fun _ _ _=>rfl) _ _ h
theorem ItA.nil (σ:St):ItA σ (.p (.v (.slice none 0 0))) []:=fun M u hM h=>by
 have:=(Cf h).2;subst this
 simp only[Ca,encI,ZB]
 exact .inl ⟨trivial,none,0,rfl,fun _=>rfl⟩
theorem ItA.own (σ:St)(t:Nat)(l:List Itm):ItA σ (.own t 4 (encI l)) l:=fun M u hM h=>ItA.data σ l M u hM (Al7 h)
def lowV (M:Az):Az:={ M with I:=allJ M.w,mu:=fun _=>none,len:=fun _=>none }
theorem A1v {M:Az}{σ:St}(hM:Al M σ){x:PV}{u:Value}(h:Ag M (.p x) u):Ag (lowV M) (.p x) u:=by
 simp only[Ag]at h ⊢
 exact Ca.later (fun b o h=>hM.imm b o h) (fun _ _ _=>rfl) _ _ h
theorem Ai9 {M:Az}{σ:St}(hM:Al M σ):∀ {l:List PV} {us:List Value},Af M (l.map .p) us→Af (lowV M) (l.map .p) us
 |[],us,h=>by simpa [Af]using h
 |x::l,us,h=>by
  simp only[QK,Af]at h ⊢
  obtain⟨u,us',h1,h2,h3⟩:=h
  exact⟨u,us',h1,A1v hM h2,Ai9 hM h3⟩
theorem Aja {M:Az}{σ:St}(hM:Al M σ){e:Ent}{u:Value}(h:Ag M (Jo e) u):Ag (lowV M) (Jo e) u:=by
 simp only[Jo,Ag]at h ⊢
 obtain⟨g0,us,g1,g2⟩:=h
 exact⟨g0,us,g1,Ai9 (l:=Et e) hM g2⟩
theorem Awi {M:Az}{g:FuncId}{u:Value}(h:Ag M (.fn g [] []) u):Ag (lowV M) (.fn g [] []) u:=by
 simp only[Ag,Af]at h ⊢
 exact h
theorem Acj {M:Az}{σ:St}(hM:Al M σ){kd:Int}{a:AV}{l:List Itm}(ha:ItA σ a l){u:Value}(h:Ag M (.agg [Ad .i64 kd,a]) u):Ag (lowV M) (.agg [Ad .i64 kd,.p (.sl 4 (encI l))]) u:=by
 simp only[Ag,Af]at h ⊢
 obtain⟨_,us,h1,u1,us1,h2,h3,u2,us2,h4,h5,h6⟩:=h
 refine⟨rfl,us,h1,u1,us1,h2,by (first|exact Ca.later (fun b o h=>hM.imm b o h) (fun _ _ _=>rfl) _ _ h3|(simp only[Ca]at h3 ⊢;exact h3)),u2,us2,h4,ha M u2 hM h5,h6⟩
theorem Awj {x:Value}(M M':Az)(u:Value)(h:Ag M (.p (.v x)) u):Ag M' (.p (.v x)) u:=by simpa only[Ag,Ca]using h
theorem Awk {x y:Value}(M M':Az)(u:Value)(h:Ag M (.tup [.p (.v x),.p (.v y)]) u):Ag M' (.tup [.p (.v x),.p (.v y)]) u:=by simpa only[Ag,Af,Ca]using h
theorem Awl {g:FuncId}(hg:∀ (x:Itm) (e:Ent) (σ:St),Aa Tryz.prog g [itA x,Jo e] σ fun r s=>s=σ∧r=Ad .i64 (Lt x.e e)){σ:St}{a:AV}{l:List Itm}(ha:ItA σ a l)(hl:l.length≤1000000)(e:Ent)(k:Nat)(hk:Ai8 l e k):
 Aa Tryz.prog 160 [a,Jo e,.fn g [] []] σ fun r s=>s=σ∧r= .tup [Ad .i64 (k:Nat),Av (match l[k]? with|some x=>Lt x.e e==0|none=>false)]:=by
 refine Aa.borrowS (absf hg l hl e k hk) (fun r hr M M' u h=> ?_) fun M vs hM hv=> ?_
 ·subst hr;exact Awk M M' u h
 ·simp only[Af]at hv ⊢
  obtain⟨u1,us1,rfl,h1,u2,us2,rfl,h2,u3,us3,rfl,h3,rfl⟩:=hv
  exact⟨u1,_,rfl,by simp only[Ag];exact ha M u1 hM h1,u2,_,rfl,Aja hM h2,u3,_,rfl,Awi h3,rfl⟩
def belF (l:List Itm)(e:Ent)(k:Nat):Nat:=if (match l[k]? with|some x=>Lt x.e e==0|none=>false)then k else k - 1
theorem Aqr (kd:Int)(l:List Itm)(hl:l.length≤1000000)(e:Ent)(k:Nat)(hk:Ai8 l e k):
 Aa Tryz.prog 165 [.agg [Ad .i64 kd,.p (.sl 4 (encI l))],Jo e] [] fun r _=>r=Ad .i64 (belF l e k:Nat):=by
 have hb:=fun σ=>Awl acl2 (ItA.data σ l) hl e k hk
 simp only[Jo]at hb
 have hkl:=hk.1
 unfold belF
 cases hc:(match l[k]? with|some x=>Lt x.e e==0|none=>false)with
 |true=>
  rw[hc]at hb
  refine Ab Am An Tryz.func165 (by kernel_rfl) rfl (nt:=18) (rs:=[.tmp 4]) rfl rfl ?_
  simp only[Jo]
  have hm:(if (0:Int)>(k:Int)then 0 else (k:Int))=(k:Int):=by rw[if_neg (by omega)]
  repeat' first|simp only[↓wBA,tYb,seval,hm]|((with_reducible show Aa _ _ _ _ _);refine (hb _).eq ?_)
  all_goals refine rtS ?_
  all_goals simp only[wRe,tYb,seval]
 |false=>
  rw[hc]at hb
  have hw:IntKind.i64.wrap ((k:Int) - 1)=(k:Int) - 1:=wrap_i64 (by omega) (by omega)
  refine Ab Am An Tryz.func165 (by kernel_rfl) rfl (nt:=18) (rs:=[.tmp 4]) rfl rfl ?_
  simp only[Jo]
  have hm:(if (0:Int)>(k:Int) - 1 then 0 else (k:Int) - 1)=((k - 1:Nat):Int):=by split<;>omega
  repeat' first|simp only[↓wBA,tYb,seval,hw,hm]|((with_reducible show Aa _ _ _ _ _);refine (hb _).eq ?_)
  all_goals refine rtS ?_
  all_goals simp only[wRe,tYb,seval]
theorem Awm (kd:Int){σ:St}{a:AV}{l:List Itm}(ha:ItA σ a l)(hl:l.length≤1000000)(e:Ent)(k:Nat)(hk:Ai8 l e k):
 Aa Tryz.prog 165 [.agg [Ad .i64 kd,a],Jo e] σ fun r s=>s=σ∧r=Ad .i64 (belF l e k:Nat):=by
 refine Aa.borrowS (Aqr kd l hl e k hk) (fun r hr M M' u h=> ?_) fun M vs hM hv=> ?_
 ·subst hr;exact Awj M M' u h
 ·simp only[Af]at hv ⊢
  obtain⟨u1,us1,rfl,h1,u2,us2,rfl,h2,rfl⟩:=hv
  exact⟨u1,_,rfl,Acj hM ha h1,u2,_,rfl,Aja hM h2,rfl⟩
def ItM (σ:St)(t i:Nat)(l:List Itm):Prop:=∃ ls,σ[t]? =some (some (.row 4 ls))∧i+l.length≤ls.length∧∀ j x,l[j]? =some x→ls[i+j]? =some (itC x)
theorem ItM.same {σ s:St}{t i:Nat}{l:List Itm}(h:ItM σ t i l)(hs:s[t]? =σ[t]?):ItM s t i l:=by
 obtain⟨ls,h1,h2⟩:=h
 exact⟨ls,hs.trans h1,h2⟩
theorem ItM.lt {σ:St}{t i:Nat}{l:List Itm}(h:ItM σ t i l):t<σ.length:=by
 obtain⟨ls,h1,h2⟩:=h
 exact Ac h1
theorem ItM.drop {σ:St}{t i:Nat}{l:List Itm}(h:ItM σ t i l)(k:Nat)(hk:k≤l.length):ItM σ t (i+k) (l.drop k):=by
 obtain⟨ls,h1,h2,h3⟩:=h
 refine⟨ls,h1,by simp;omega,fun j x hj=> ?_⟩
 rw[ZK]at hj
 rw[ZY];exact h3 _ x hj
theorem ItM.take {σ:St}{t i:Nat}{l:List Itm}(h:ItM σ t i l)(k:Nat):ItM σ t i (l.take k):=by
 obtain⟨ls,h1,h2,h3⟩:=h
 refine⟨ls,h1,by simp;omega,fun j x hj=> ?_⟩
 rw[QT]at hj
 split at hj
 ·exact h3 _ x hj
 ·simp at hj
theorem ItM.a {σ:St}{t i:Nat}{l:List Itm}(h:ItM σ t i l):ItA σ (.ms t 4 i l.length) l:=fun M u hM hu=>by
 obtain⟨ls,ht,hin,hg⟩:=h
 obtain⟨_,b,cur,T,hb,hh,hI,hr,hcs⟩:=hM.obj t _ ht
 simp only[Ag]at hu
 obtain⟨b',cap,hb',_,rfl,hn,hf⟩:=hu
 have:b'=b:=by rw[hb]at hb';simpa using hb'.symm
 subst this
 simp only[Ca]
 refine .inr ⟨b',i*4,cap,by rw[La],by rw[La];omega,Br.of_get fun j c hj=> ?_⟩
 obtain⟨x,hx,rfl⟩:∃ x,l[j]? =some x∧itP x=c:=by simpa [encI]using hj
 obtain⟨h4,h5⟩:=hr (i+j) _ (hg j x hx)
 refine⟨rfl,Do.of_get fun q y hy=> ?_⟩
 have hq:(itC x)[q]? =some (.p y):=by rw[← Awe,QR,hy];rfl
 obtain⟨_,v,h8,h9⟩:=h5 q (.p y) hq
 refine⟨v,?_,hM.lt t b' hb,?_⟩
 ·rw[cell_of_row _ _ _ _ _ _ hh,←YY];exact h8
 ·simp only[Ag]at h9
  exact Ca.later (fun b o h=>hM.imm b o h) (fun _ _ _=>rfl) _ _ h9
def Xz:Cq:=(.det 0 (.det 1 (.act 2 (.fin 3 (.det 4 (.det 5 (.det 6 (.det 7 (.fin 8 (.det 9 .done))))))))))
def tYc:=aa wX <| aa wbu <| aa T3 <| aa T5 <| aa T38 <| aa T44 <| aa T51 <| aa T70 <| aa Y1 <| aa T192 <| aa T228 <| aa T232 <| aa T234 T239
theorem A1w {k:Nat}:IntKind.u8.wrap (k:Int)=((UInt8.ofNat k).toNat:Int):=by rw[IntKind.wrap_u8,YQ];omega
theorem A1x {k:Nat}:IntKind.u8.wrap ((k:Int).fdiv (2 ^ min 8 IntKind.i64.bits))=((UInt8.ofNat (k / 256)).toNat:Int):=by
 have:(2:Int) ^ min 8 IntKind.i64.bits=256:=by decide
 rw[this,XP _ (by omega),IntKind.wrap_u8,YQ];omega
def ns3 (x:Itm):List Nat:=[x.c,x.e.p,x.e.s]
def preB (x:Itm)(i:Nat):List UInt8:=((ns3 x).take i).flatMap nm2
theorem Ack (x:Itm)(i:Nat):(preB x i).length=2*(min i 3):=by
 unfold preB
 have:∀ l:List Nat,(l.flatMap nm2).length=2*l.length:=by
  intro l
  induction l with
  |nil=>rfl
  |cons a l ih=>simp only[YA,QE,ih,QF,nm2,QI];omega
 rw[this,QZ];rfl
theorem Dk (l:List UInt8):(Ax l).length=l.length:=by simp[Ax]
theorem Al8 (x:Itm)(hx:x.ok)(σ:St):Aa Tryz.prog 194 [itA x] σ fun r s=>s=σ∧r= .p (.sl 1 (Ax (Ih x))):=by
 refine Aa.pureF (R:=fun r=>r= .p (.sl 1 (Ax (Ih x)))) ?_ rfl σ
 have hxl:=hx.1.1
 refine Ab Am An Tryz.func194 (by kernel_rfl) rfl (nt:=35) (rs:=[.tmp 2]) rfl rfl ?_
 simp only[itA,itC]
 repeat' simp only[↓wBA,tYc,seval]
 refine Xy (X:={ i:Nat // i≤3 }) (fun i=>3 - i.1) (fun i=>[(3,.nown 2 1 (Ax (preB x i.1))),(18,Ad .i64 (i.1:Nat)),(5,.any),(19,.any),(20,.any),(21,.any),(22,.any),(23,.any),(24,.any),(25,.any),(26,.any),(27,.any),(28,.any),(29,.any),(30,.any)]) (fun i=>[some (Ob.row 4 [itC x]),some (.right 3 3),some (.nright 5 (preB x i.1).length)]) (⟨0,by omega⟩) ?_ ?_ ?_
 ·intro x;simp
 ·skip
  simp only[wR]
  simp[wW,itC,preB,Ax]
 ·intro q
  simp only[wR]
  obtain⟨i,hi⟩:=q
  dsimp only at*
  have hi0:=nnI i
  have hpl:=Ack x i
  have hel:=Dk (preB x i)
  by_cases hlt:i<3
  ·have hdec:decide ((i:Int)<3)=true:=by simp;omega
   have hw:=wI i (by omega)
   obtain⟨n,hn⟩:∃ n,(ns3 x)[i]? =some n:=⟨(ns3 x)[i]'(by simpa [ns3]using hlt),by simp⟩
   have hg:([[PV.v (Value.int IntKind.i64 x.c)],[PV.v (Value.int IntKind.i64 x.e.p)],[PV.v (Value.int IntKind.i64 x.e.s)]]:List (List PV))[i]? =some [PV.v (Value.int IntKind.i64 (n:Nat))]:=by
    have:((ns3 x).map fun n:Nat=>[PV.v (Value.int IntKind.i64 (n:Nat))])[i]? =some [PV.v (Value.int IntKind.i64 (n:Nat))]:=by rw[QR,hn];rfl
    exact this
   have hpre:Ax (preB x i)++[[PV.v (Value.int IntKind.u8 (UInt8.ofNat n).toNat)],[PV.v (Value.int IntKind.u8 (UInt8.ofNat (n / 256)).toNat)]]=Ax (preB x (i+1)):=by
    unfold preB
    rw[YU,hn]
    simp[Ax,nm2,Bo]
   have hpl2:=Ack x (i+1)
   have hel2:=Dk (preB x (i+1))
   have hlo:=A1w (k:=n)
   have hhi:=A1x (k:=n)
   have ht:=tL (n:=(preB x (i+1)).length) (by omega)
   have hm:=lM (n:=(preB x (i+1)).length) (by omega)
   have hpe:(preB x i).length+2=(preB x (i+1)).length:=by omega
   repeat' simp only[↓wBA,tYc,Cv,seval,hdec,hi0,hw,hg,hlo,hhi,hpre,hel,ht,hm,itC,hpe,hel2,A2,Lx,Ey,XK]
   refine⟨⟨i+1,by omega⟩,by show 3 - (i+1)<3 - i;omega,?_⟩
   simp only[]
   simp[wW]
  ·obtain rfl:i=3:=by omega
   have hdec:decide (((3:Nat):Int)<3)=false:=by decide
   have hpre:Ax (preB x 3)++Ax x.e.k=Ax (Ih x):=by
    rw[Ud]
    exact congrArg Ax (by simp[preB,ns3,Ih,nm2])
   have ht:=tL (n:=(preB x 3).length+x.e.k.length) (by omega)
   have hm:=lM (n:=(preB x 3).length+x.e.k.length) (by omega)
   have hek:=Dk x.e.k
   repeat' simp only[↓wBA,tYc,seval,hpre,hel,ht,hm,itC,hek,A2,Lx,Ey,XK]
   all_goals refine Cc (a:=_) ?_ rfl rfl
   all_goals simp only[tYc,seval]
   all_goals simp_all [wS]
theorem Afa (l:List Itm)(i:Nat)(x:Itm)(h:l[i]? =some x):l.take (i+1)=l.take i++[x]:=by rw[YU,h];rfl
theorem Aqs (kd:Nat)(l:List Itm)(hok:∀ x∈l,x.ok)(hl:l.length≤1000000):Aa Tryz.prog 167 [.agg [Ad .i64 (kd:Nat),.p (.sl 4 (encI l))]] [] fun r _=>r= .tup [A6 (Hx kd l).1,Av (Hx kd l).2]:=by
 have z5:=Ao A7
 have zN:=Ao (Dc (kd:Int))
 refine Ab Am An Tryz.func167 (by kernel_rfl) rfl (nt:=29) (rs:=[.cell 2 151,.tmp 3]) rfl rfl ?_
 repeat' first|simp only[↓wBA,tYc,seval,A6,z5,zN,C6,La]|((with_reducible show Aa _ _ _ _ _);refine (anew _ _).eq ?_)
 refine Ar (X:={ i:Nat // i≤l.length }) (fun i=>l.length - i.1) (fun i=>[(5,Av (Hx kd (l.take i.1)).2),(14,Ad .i64 (i.1:Nat))]) [7,15,16,17,18,19,20,21,22,23,24,25,26,27] (fun i s=>3≤s.length∧s[0]? =some (some (Ob.row 2 [[Ad .i64 (kd:Nat),AV.p (PV.sl 4 (encI l))]]))∧s[1]? =some (some (Ob.row 512 [Aq C3]))∧s[2]? =some (some (Ob.row 512 [Aq (Hx kd (l.take i.1)).1]))) (⟨0,by omega⟩) ?_ ?_ ?_ ?_
 ·simp only[wHl,wHf,XH,Hx,List.foldl_nil]
 ·exact⟨by simp,rfl,rfl,rfl⟩
 ·rintro _ _ ⟨h,_⟩;exact h
 ·intro y J s hI
  simp only[wHl]
  obtain⟨i,hi⟩:=y
  obtain⟨h3,b0,b1,b2⟩:=hI
  dsimp only at*
  have hi0:=nnI i
  have y0:=Ac b0
  have y1:=Ac b1
  have y2:=Ac b2
  obtain⟨q,hq⟩:∃ q,q=Hx kd (l.take i):=⟨_,rfl⟩
  rw[← hq]at b2 ⊢
  have hql:q.1.length=512:=by rw[hq];exact Uo _ _
  have hqc:=Ao hql
  by_cases hlt:i<l.length
  ·have hdec:=dT (i:=i) (n:=l.length) hlt
   have hw:=wI i (by omega)
   obtain⟨x,hx⟩:∃ x,l[i]? =some x:=⟨l[i],by simp⟩
   have hxo:=hok x (QG hx)
   have hg:=Lb l i x hx
   have hnx:Hx kd (l.take (i+1))=fitS q x:=by rw[Afa l i x hx,Qf,hq]
   have hrl:=K7 x
   have hxl:=hxo.1.1
   have hrc:=Al8 x hxo
   simp only[itA,itC]at hrc
   cases hq2:q.2 with
   |true=>
    have hal:=D8 q.1 (Ih x)
    have hac:=Ao hal
    have hS:fitS q x=((He q.1 (Ih x)).1,(He q.1 (Ih x)).2.2):=by unfold fitS;rw[if_pos hq2]
    rw[hS]at hnx
    repeat' first|simp only[↓wBA,tYc,seval,Xz,wH,wHl,A6,hdec,hi0,hg,itP,b0,b1,b2,y0,y1,y2,hqc,hac,hw]|((with_reducible show Aa _ _ _ _ _);first|refine (hrc _).eq ?_|refine (Apt q.1 (Ih x) _ hql (.inl rfl) (by omega) _).eq ?_)|(with_reducible refine dQ Xz 10 (some 20) ?_)
    refine⟨⟨i+1,by omega⟩,by show l.length - (i+1)<l.length - i;omega,⟨by omega,by dsimp only;rw[hnx]⟩,?_⟩
    dsimp only
    rw[hnx]
   |false=>
    have hS:fitS q x=q:=by unfold fitS;rw[if_neg (by simp[hq2])]
    rw[hS]at hnx
    repeat' simp only[↓wBA,tYc,seval,wH,wHl,hdec,hi0,hg,itP,b0,b1,b2,y0,y1,y2,hw]
    refine⟨⟨i+1,by omega⟩,by show l.length - (i+1)<l.length - i;omega,⟨by omega,by dsimp only;rw[hnx]⟩,?_⟩
    dsimp only
    rw[hnx,hq2]
  ·obtain rfl:i=l.length:=by omega
   have hdec:=dF (i:=l.length) (n:=l.length) hlt
   have hfi:Hx kd l=q:=by rw[hq,ZS]
   rw[hfi]
   repeat' simp only[↓wBA,tYc,seval,wHl,hdec,b1,b2,hqc,z5]
   all_goals refine rtS ?_
   all_goals simp only[wRe,tYc,seval,wH,y1,hqc]
theorem X3 {M M':Az}:∀ (l:List UInt8) (us:List Value),Af M (Aq l) us→Af M' (Aq l) us
 |[],us,h=>by simpa [Aq,Af]using h
 |x::l,us,h=>by
  simp only[Aq,QK,Af]at h ⊢
  obtain⟨u,us',h1,h2,h3⟩:=h
  exact⟨u,us',h1,by simpa only[Bo,Ag,Ca]using h2,X3 l us' h3⟩
theorem Aqt {l:List UInt8}{b:Bool}(M M':Az)(u:Value)(h:Ag M (.tup [A6 l,Av b]) u):Ag M' (.tup [A6 l,Av b]) u:=by
 simp only[A6,Ag,Af]at h ⊢
 obtain⟨us,rfl,u1,us1,rfl,⟨g0,vs,g1,g2⟩,u2,us2,rfl,h2,rfl⟩:=h
 exact⟨_,rfl,u1,_,rfl,⟨g0,vs,g1,X3 l vs g2⟩,u2,_,rfl,by (first|exact h2|(simp only[Ag,Ca]at h2 ⊢;exact h2)),rfl⟩
theorem Aor (kd:Nat){σ:St}{a:AV}{l:List Itm}(ha:ItA σ a l)(hok:∀ x∈l,x.ok)(hl:l.length≤1000000):Aa Tryz.prog 167 [.agg [Ad .i64 (kd:Nat),a]] σ fun r s=>s=σ∧r= .tup [A6 (Hx kd l).1,Av (Hx kd l).2]:=by
 refine Aa.borrowS (Aqs kd l hok hl) (fun r hr M M' u h=> ?_) fun M vs hM hv=> ?_
 ·subst hr;exact Aqt M M' u h
 ·simp only[Af]at hv ⊢
  obtain⟨u1,us1,rfl,h1,rfl⟩:=hv
  exact⟨u1,_,rfl,Acj hM ha h1,rfl⟩
def Je:AV→Option Nat
 | .ms t _ _ _=>some t
 |_=>none
def ItX (σ:St)(a:AV)(l:List Itm):Prop:=(∃ t i,a= .ms t 4 i l.length∧ItM σ t i l)∨(leaf a=true∧Cu a=some [a]∧∀ s,ItA s a l)
theorem ItX.a {σ:St}{a:AV}{l:List Itm}(h:ItX σ a l):ItA σ a l:=by
 rcases h with⟨t,i,rfl,h⟩|⟨_,_,h⟩
 ·exact h.a
 ·exact h σ
theorem ItX.leaf {σ:St}{a:AV}{l:List Itm}(h:ItX σ a l):leaf a=true:=by
 rcases h with⟨t,i,rfl,h⟩|⟨h,_⟩
 ·rfl
 ·exact h
theorem ItX.cells {σ:St}{a:AV}{l:List Itm}(h:ItX σ a l):Cu a=some [a]:=by
 rcases h with⟨t,i,rfl,h⟩|⟨_,h,_⟩
 ·rfl
 ·exact h
theorem ItX.same {σ s:St}{a:AV}{l:List Itm}(h:ItX σ a l)(hs:∀ t,Je a=some t→s[t]? =σ[t]?):ItX s a l:=by
 rcases h with⟨t,i,rfl,h⟩|h
 ·exact .inl ⟨t,i,rfl,h.same (hs t rfl)⟩
 ·exact .inr h
theorem ItX.ap {σ s:St}{a:AV}{l:List Itm}(h:ItX σ a l)(ha:Ap σ s):ItX s a l:=by
 rcases h with⟨t,i,rfl,h⟩|h
 ·refine .inl ⟨t,i,rfl,h.same ?_⟩
  have:=h.lt
  obtain⟨τ,rfl⟩:=ha
  exact QD this
 ·exact .inr h
theorem D4.nz {pg:List UInt8}{kd:Nat}{l:List Itm}(h:D4 pg kd l):pgz pg=pg:=Alr fun e=>by
 have h1:=h.pg.kind
 rw[e]at h1
 have h2:Eo C3=0:=by decide
 rw[h2]at h1
 have:=h.kd
 omega
theorem Mo {σ:St}{b p dd l kh n kd:Nat}{U:Nat→Prop}{P:Ak}{v:Nat→List UInt8}{a:AV}{its:List Itm}(h:Bt σ b p dd l kh U P v)(hn0:1≤n)(hn:n<P.pages)(ha:ItX σ a its)(hkd:kd=2∨kd=3)(hok:∀ x∈its,x.ok)(hs:szL its≤496):
 Aa Tryz.prog 133 [.agg [.mp b 2 0 0],Ad .i64 (n:Nat),.agg [Ad .i64 (kd:Nat),a]] σ fun r σ'=>r=Ad .i64 0∧∃ U',Fr σ σ' U U'∧Bt σ' b p dd l kh U' P (upV v n (Hx kd its).1):=by
 have hlen:=Un its
 have hlf:=ha.leaf
 have hcl:=ha.cells
 obtain⟨hf2,hfn⟩:=E6 hkd hok hs
 have hpl:=Uo kd its
 have hpc:=Ao hpl
 have z5:=Ao A7
 refine Ab Am An Tryz.func133 (by kernel_rfl) rfl (nt:=16) (rs:=[.tmp 6]) rfl rfl ?_
 repeat' simp only[↓wBA,tYc,seval,wH]
 have ha2:=(ha.ap (Ap.app _ [some (Ob.row 1 [[AV.mp b 2 0 0]])])).ap (Ap.app _ [some (Ob.row 2 [[Ad .i64 (kd:Nat),a]])])
 refine (Aor kd ha2.a hok (by omega)).eq ?_
 have aa:Ap σ (σ++[some (Ob.row 1 [[AV.mp b 2 0 0]])]++[some (Ob.row 2 [[Ad .i64 (kd:Nat),a]])]++[some (Ob.row 512 [Aq (Hx kd its).1])]):=((Ap.app _ _).more _).more _
 repeat' simp only[↓wBA,tYc,seval,wH,A6,hpc,C6,z5]
 refine (Ai1 (h.ap aa) hn0 hn _ hpl hfn.nz).mono ?_
 rintro _ s ⟨rfl,U1,f1,h1⟩
 have l1:=f1.len
 simp only[QE,QF,QI]at l1
 repeat' simp only[↓wBA,tYc,seval]
 all_goals refine rtS ?_
 all_goals simp only[wRe,tYc,seval]
 exact⟨U1,aa.fr.trans f1,h1⟩
