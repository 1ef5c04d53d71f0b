/- The page's contracts on the abstract machine, for programs that use pages. Values without objects under other numbers. Objects that name no others: contracts of their methods at any state. States that name objects by number: looking up, writing, what a call leaves as it is. Rows that hold pages and sectors, with their length unspelled: waiting writes, changes, frames. -/
import Derived.Test.YtpoigihfeehehaaGreatDoorM19
import Derived.Test.YtpoigihfeehehaaGreatDoorM18
import Derived.Test.YtpoigihfeehehaaGreatDoorM14
set_option linter.all false
set_option maxRecDepth 100000
set_option maxHeartbeats 32000000
namespace Go.Proofs.YtpoigihfeehehaaGreatDoor
open Go.RowKit
theorem Aa.of_calls {P:Program}{f:FuncId}{args:List AV}{σ:St}{R:AV→Prop}(hen:Enters P f)
 (h:∀ (M:Az) (vs:List Value),Al M σ→Af M args vs→Calls P f vs.toArray M.w fun e w'=>∃ (v:Value) (r:AV) (J:Nat→Nat→Prop),e= .returned v∧Below M.w.heap.size M.w w'∧(∀ b o,J b o→M.w.heap.size≤b∧b<w'.heap.size)∧Ag { M with w:=w',I:=fun b o=>M.I b o∨J b o } r v∧R r):
 Aa P f args σ fun r σ'=>σ'=σ∧R r:=by
 refine⟨hen,fun M vs hM hv=>(h M vs hM hv).mono ?_⟩
 rintro e w' ⟨v,r,J,rfl,hb,hJ,hr,hR⟩
 let M':Az:={ M with w:=w',I:=fun b o=>M.I b o∨J b o }
 have hcell:∀ b o,M.I b o→M'.w.cell? ⟨b,o,none⟩=M.w.cell? ⟨b,o,none⟩:=fun b o ho=>hb.cell (p:=⟨b,o,none⟩) (hM.imm b o ho)
 have hL:Later M M':=⟨fun _ _ h h'=>⟨h,h',rfl⟩,C5 (fun _=>rfl) (fun _=>rfl) (fun _=>rfl),fun _ _ h=>.inl h,hcell⟩
 have hI:∀ b o,b<M.w.heap.size→M'.I b o→M.I b o:=fun b o hlt ho=>by
  rcases ho with ho|ho
  ·exact ho
  ·have:=(hJ b o ho).1;omega
 have hE:Ext M σ M' σ:=⟨hL.mu,hL.own,hL.imm,hcell,fun b hlt _=>⟨hb.block b hlt,fun o=>hI b o hlt⟩,fun t ob b h1 h2=>.inr ⟨t,ob,h1,h2⟩,hb.size,hb.os,hb.tape,hb.output⟩
 refine⟨v,r,σ,M',rfl,rfl,hE,?_,hr,QH _,rfl,hR⟩
 refine⟨fun t ob ht=>(hM.obj t ob ht).later hL rfl rfl rfl fun b hbb=>⟨hb.block b (hM.lt t b hbb),fun o=>hI b o (hM.lt t b hbb)⟩,hM.inj,hM.fresh,fun t b hbb=>ZE (hM.lt t b hbb) hb.size,fun b o ho=> ?_,hM.glob.ext hE⟩
 rcases ho with ho|ho
 ·exact ZE (hM.imm b o ho) hb.size
 ·exact (hJ b o ho).2
def Bo (b:UInt8):PV:=.v (.int .u8 b.toNat)
def Ax (r:List UInt8):List (List PV):=r.map fun b=>[Bo b]
def BX (x:PV)(r:List UInt8):Prop:=x= .sl 1 (Ax r)∨(x= .v (.slice none 0 0)∧r=[])
def Aq (l:List UInt8):List AV:=l.map fun b=>.p (Bo b)
def A6 (l:List UInt8):AV:=.agg (Aq l)
theorem F8 (l:List UInt8):(Aq l).length=l.length:=by simp[Aq]
theorem Ae0 (l:List UInt8):(Aq l).all leaf=true:=by simp[Aq,leaf]
theorem W9 (b:UInt8):Gk (.int .u8 b.toNat)=some b:=by
 have h:(b.toNat:Int)<256:=by have:=b.toNat_lt;omega
 simp[Gk,h]
theorem Ei:∀ l:List UInt8,E9 (Aq l)=some l
 |[]=>rfl
 |b::l=>by
  have:=Ei l
  simp only[Aq,Bo]at this
  simp only[Aq,QK,E9,Ss,Bo,W9,this]
def recP:Option (List UInt8)→PV
 |none=>.v (.slice none 0 0)
 |some r=>.sl 1 (Ax r)
section
variable {M:Az}
theorem Aht {l:List UInt8}{us:List Value}(h:Af M (Aq l) us):us=A8 l:=by
 rw[Fc (Ei l) h]
 rfl
theorem Ib {l:List UInt8}{u:Value}(h:Ag M (A6 l) u):u= .agg (Ae l):=by
 simp only[A6,Ag]at h
 obtain⟨_,us,rfl,h⟩:=h
 rw[Aht h]
theorem Pq (l:List UInt8):Ag M (A6 l) (.agg (Ae l)):=by
 simp only[A6,Ag]
 refine⟨Ae0 l,A8 l,rfl,Bc.2 ⟨by simp[Aq,A8],fun i x u hx hu=> ?_⟩⟩
 simp only[Aq,A8,QR]at hx hu
 cases hl:l[i]? with
 |none=>rw[hl]at hx;simp at hx
 |some b=>
  rw[hl]at hx hu
  simp at hx hu
  subst hx hu
  exact Bb rfl
theorem rep1 {a:AV}{vs:List Value}(h:Af M [a] vs):∃ u,vs=[u]∧Ag M a u:=by
 simp only[Af]at h
 obtain⟨u,us,rfl,h1,rfl⟩:=h
 exact⟨u,rfl,h1⟩
theorem rep2 {a b:AV}{vs:List Value}(h:Af M [a,b] vs):∃ u v,vs=[u,v]∧Ag M a u∧Ag M b v:=by
 simp only[Af]at h
 obtain⟨u,us,rfl,h1,v,us',rfl,h2,rfl⟩:=h
 exact⟨u,v,rfl,h1,h2⟩
theorem rep3 {a b c:AV}{vs:List Value}(h:Af M [a,b,c] vs):∃ u v w,vs=[u,v,w]∧Ag M a u∧Ag M b v∧Ag M c w:=by
 simp only[Af]at h
 obtain⟨u,us,rfl,h1,v,us',rfl,h2,w,us'',rfl,h3,rfl⟩:=h
 exact⟨u,v,w,rfl,h1,h2,h3⟩
theorem tup2 {a b:AV}{u v:Value}(h1:Ag M a u)(h2:Ag M b v):Ag M (.tup [a,b]) (.tuple #[u,v]):=by
 simp only[Ag,Af];exact⟨[u,v],rfl,u,[v],rfl,h1,v,[],rfl,h2,rfl⟩
theorem tup3 {a b c:AV}{u v w:Value}(h1:Ag M a u)(h2:Ag M b v)(h3:Ag M c w):Ag M (.tup [a,b,c]) (.tuple #[u,v,w]):=by
 simp only[Ag,Af];exact⟨[u,v,w],rfl,u,[v,w],rfl,h1,v,[w],rfl,h2,w,[],rfl,h3,rfl⟩
theorem Fu {w:World}{b off cap:Nat}{r:List UInt8}(h:∀ (j:Nat) (c:UInt8),r[j]? =some c→w.cell? ⟨b,off+j,none⟩=some (.int .u8 c.toNat)):D2 w (.slice (some ⟨b,off,none⟩) r.length cap) r:=by
 refine⟨some ⟨b,off,none⟩,cap,rfl,.inr ⟨_,rfl,fun j u hj=> ?_⟩⟩
 rw[Addr.add_mid]
 simp only[A8,QR]at hj
 cases hc:r[j]? with
 |none=>rw[hc]at hj;simp at hj
 |some c=>rw[hc]at hj;simp at hj;subst hj;exact h j c hc
theorem BX.bytes {x:PV}{r:List UInt8}{u:Value}(h:BX x r)(hu:Ag M (.p x) u):D2 M.w u r:=by
 rcases h with rfl|⟨rfl,rfl⟩
 ·simp only[Ag,Ca]at hu
  obtain⟨h0,ad,cap,rfl,hn⟩|⟨b,off,cap,rfl,hcap,hr⟩:=hu
  ·have hr0:r=[]:=by simpa [Ax]using h0
   subst hr0
   cases ad with
   |none=>exact⟨none,cap,rfl,.inl ⟨rfl,rfl,hn rfl⟩⟩
   |some ad=>exact⟨some ad,cap,rfl,.inr ⟨_,rfl,fun j u hj=>by simp[A8]at hj⟩⟩
  rw[show (Ax r).length=r.length by simp[Ax]]
  refine Fu fun j c hc=> ?_
  obtain⟨_,h2⟩:=hr.get (i:=j) (c:=[Bo c]) (by simp[Ax,hc])
  obtain⟨v,h3,_,h4⟩:=h2.get (j:=0) rfl
  simp only[Bo,Ca]at h4
  rw[h4.2]at h3
  simpa using h3
 ·have:=(Cf hu).2;subst this
  exact⟨none,0,rfl,.inl ⟨rfl,rfl,rfl⟩⟩
theorem Aps {w':World}{base:Nat}{v:Value}{o:Option (List UInt8)}(h:Rec w' base v o):∃ J:Nat→Nat→Prop,(∀ b q,J b q→base≤b∧b<w'.heap.size)∧Ag { M with w:=w',I:=fun b q=>M.I b q∨J b q } (.p (recP o)) v:=by
 cases o with
 |none=>
  simp only[Rec]at h;subst h
  exact⟨fun _ _=>False,fun _ _ h=>h.elim,Bb rfl⟩
 |some r=>
  obtain⟨ho,g,cap,rfl⟩:=h
  rcases ho.2 with⟨h1,_⟩|⟨g',cap',cur,h1,hg,hh,hnc,hcm,hcs,ht⟩
  ·simp at h1
  ·simp only[Value.slice.injEq,QB,Addr.mk.injEq,and_true,true_and]at h1
   obtain⟨rfl,rfl⟩:=h1
   refine⟨fun b q=>b=g∧q<r.length,fun b q h=>⟨by omega,by rw[h.1];exact (QU.1 hh).1⟩,?_⟩
   simp only[recP,Ag,Ca]
   refine .inr ⟨g,0,cap,by simp[Ax],by simpa [Ax]using hnc,Br.of_get fun i c hc=> ?_⟩
   simp only[Ax,QR]at hc
   cases hr:r[i]? with
   |none=>rw[hr]at hc;simp at hc
   |some b=>
    rw[hr]at hc;simp at hc;subst hc
    have hi:=(QC.1 hr).1
    refine⟨rfl,Do.of_get fun j x hx=> ?_⟩
    cases j with
    |succ j=>simp at hx
    |zero=>
     simp at hx;subst hx
     refine⟨.int .u8 b.toNat,?_,.inr ⟨rfl,by omega⟩,by simp only[Bo,Ca];exact⟨rfl,trivial⟩⟩
     have:=ho.cells (g:=g) rfl i (.int .u8 b.toNat) (by simp[A8,Aeq,hr])
     rw[Addr.add_mid]at this
     simpa using this
end
theorem en (f:FuncId)(h:(Tryz.prog.funcs[f]?).any (fun fn=> !(fn.name== "runtime.NumGoroutine")&&fn.body.isSome)=true):Enters Tryz.prog f:=by
 cases hf:Tryz.prog.funcs[f]? with
 |none=>rw[hf]at h;simp at h
 |some fn=>
  rw[hf]at h
  simp only[Option.any_some,QV,Bool.not_eq_true']at h
  exact⟨fn,hf,h.1,by cases hb:fn.body<;>simp_all⟩
theorem anew (k:Int)(σ:St):Aa Tryz.prog 71 [Ad .i64 k] σ fun r σ'=>σ'=σ∧r=A6 (Fg k):=
 Aa.of_calls (en _ (by kernel_rfl)) fun M vs hM hv=>by
  obtain⟨u,rfl,h1⟩:=rep1 hv
  rw[Bi h1]
  exact (Ahe k _).mono fun e w' ⟨h1,h2⟩=>⟨_,_,fun _ _=>False,h1,h2,fun _ _ h=>h.elim,Pq _,rfl⟩
theorem Ps (l:List UInt8)(hl:l.length=512)(σ:St):Aa Tryz.prog 88 [A6 l] σ fun r σ'=>σ'=σ∧r=Ad .i64 ((Au l).length:Nat):=
 Aa.of_calls (en _ (by kernel_rfl)) fun M vs hM hv=>by
  obtain⟨u,rfl,h1⟩:=rep1 hv
  rw[Ib h1]
  exact (Aev l _ hl).mono fun e w' ⟨h1,h2⟩=>⟨_,_,fun _ _=>False,h1,h2,fun _ _ h=>h.elim,Bb rfl,rfl⟩
theorem aget (l:List UInt8)(k:Int)(hl:l.length=512)(σ:St):Aa Tryz.prog 89 [A6 l,Ad .i64 k] σ fun r σ'=>σ'=σ∧r= .tup [.p (recP (Ip l k)),Av (Ip l k).isSome]:=
 Aa.of_calls (en _ (by kernel_rfl)) fun M vs hM hv=>by
  obtain⟨u,v,rfl,h1,h2⟩:=rep2 hv
  rw[Ib h1,Bi h2]
  refine (Ahf l k _ hl).mono ?_
  rintro e w' ⟨v,rfl,hr,hb⟩
  obtain⟨J,h3,h5⟩:=Aps (M:=M) hr
  exact⟨_,_,J,rfl,hb,h3,tup2 h5 (Bb rfl),rfl⟩
theorem Apt (l r:List UInt8)(x:PV)(hl:l.length=512)(hx:BX x r)(hrl:r.length≤140737488351232)(σ:St):Aa Tryz.prog 70 [A6 l,.p x] σ fun r' σ'=>σ'=σ∧r'= .tup [A6 (He l r).1,Ad .i64 (He l r).2.1,Av (He l r).2.2]:=
 Aa.of_calls (en _ (by kernel_rfl)) fun M vs hM hv=>by
  obtain⟨u,v,rfl,h1,h2⟩:=rep2 hv
  rw[Ib h1]
  exact (Zm l r v _ hl (hx.bytes h2) hrl).mono fun e w' ⟨h1,h2⟩=>⟨_,_,fun _ _=>False,h1,h2,fun _ _ h=>h.elim,tup3 (Pq _) (Bb rfl) (Bb rfl),rfl⟩
theorem aadd (l r:List UInt8)(t:Nat)(hl:l.length=512)(hrl:r.length≤140737488351232)(σ:St)(ht:σ.at t (.row 1 (r.map fun b=>[.p (Bo b)]))):Aa Tryz.prog 70 [A6 l,.ms t 1 0 r.length] σ fun r' σ'=>σ'=σ∧r'= .tup [A6 (He l r).1,Ad .i64 (He l r).2.1,Av (He l r).2.2]:=
 Aa.of_calls (en _ (by kernel_rfl)) fun M vs hM hv=>by
  obtain⟨u,v,rfl,h1,h2⟩:=rep2 hv
  rw[Ib h1]
  have hby:D2 M.w v r:=by
   simp only[Ag]at h2
   obtain⟨b,cap,hb,hbl,rfl,hcap,_⟩:=h2
   obtain⟨_,b',cur,T,hb',hh,hI,hr,_⟩:=hM.obj t _ ht
   have:b'=b:=by rw[hb]at hb';simpa using hb'.symm
   subst this
   rw[WB]
   refine Fu fun j c hc=> ?_
   obtain⟨_,h4⟩:=hr j [.p (Bo c)] (by simp[hc])
   obtain⟨_,x,h5,h6⟩:=h4 0 (.p (Bo c)) rfl
   rw[ZC,cell_of_row _ _ _ _ _ _ hh]
   simp only[XK,XD]at h5
   rw[h5,(Cf h6).2]
  exact (Zm l r v _ hl hby hrl).mono fun e w' ⟨h1,h2⟩=>⟨_,_,fun _ _=>False,h1,h2,fun _ _ h=>h.elim,tup3 (Pq _) (Bb rfl) (Bb rfl),rfl⟩
theorem Aob {C:Ctx}{tk:Nat}{T:TypeId}{x:AV}{σ:St}:Dn C tk .len [T] [x] σ=(Ba C T x).map fun (n:Nat)=>(Ad .i64 (n:Int),σ):=nr rfl
theorem Aa.nilSplit {P:Program}{f:FuncId}{rest:List AV}{σ:St}{R:AV→St→Prop}{e:Nat}(h1:Aa P f (.p (.v (.slice none 0 0))::rest) σ R)(h2:∀ ad c,Aa P f (.p (.v (.slice (some ad) 0 c))::rest) σ R):Aa P f (.p (.sl e [])::rest) σ R:=
 ⟨h1.1,fun M vs hM hv=>by
  simp only[Af,Ag,Ca]at hv
  obtain⟨u,us,rfl,hu,hr⟩:=hv
  have key:u= .slice none 0 0∨∃ ad c,u= .slice (some ad) 0 c:=by
   rcases hu with⟨_,ad,c,rfl,h⟩|⟨b,off,c,rfl,_⟩
   ·cases ad with
    |none=>rw[h rfl];exact .inl rfl
    |some ad=>exact .inr ⟨ad,c,rfl⟩
   ·exact .inr ⟨_,c,rfl⟩
  rcases key with rfl|⟨ad,c,rfl⟩
  ·exact h1.2 M _ hM (by simp only[Af,Ag,Ca];exact⟨_,_,rfl,⟨rfl,rfl⟩,hr⟩)
  ·exact (h2 ad c).2 M _ hM (by simp only[Af,Ag,Ca];exact⟨_,_,rfl,⟨rfl,rfl⟩,hr⟩)⟩
theorem Aoc {C:Ctx}{tk:Nat}{ts:List TypeId}{k k':IntKind}{n m:Int}{σ:St}:Dn C tk .min ts [.p (.v (.int k n)),.p (.v (.int k' m))] σ=some (Ad k (if m<n then m else n),σ):=nr rfl
theorem Aod {C:Ctx}{tk:Nat}{ts:List TypeId}{k k':IntKind}{n m:Int}{σ:St}:Dn C tk .max ts [.p (.v (.int k n)),.p (.v (.int k' m))] σ=some (Ad k (if m>n then m else n),σ):=nr rfl
theorem Pt {P:Program}{C:Ctx}{ops:Array Oper}{b want:Bool}{o:Oper}{p:Cq}{L:List Nat}{fr:List AV}{σ:St}{K:List AV→St→Prop}(h1:b=want→Pa P C ops o p L fr σ K)(h2:b= !want→aPl P C ops p L (D7 fr o.dst (.tup [])) σ K):Pb P C ops (some (some b)) want o p L fr σ K:=⟨h1,h2⟩
theorem Cc {C:Ctx}{fr:List AV}{σ:St}{rs:List ResultVar}{a:AV}{e:Exit}(h2:match resA C rs fr σ with|some r0=>leT σ 0 [] r0 a|none=>False)(h3:A0 0 a=true)(h4:Tr a=a)(he:e= .ret∨e= .normal:=by first|exact .inl rfl|exact .inr rfl):
 retA C rs 0 (fun r _=>A0 0 (Tr r)=true∧Tr r=a) e fr σ:=by
 split at h2
 ·rename_i r0 h1
  refine⟨he,r0,a,[],h1,.inr ⟨?_,by simp[leS]⟩,YS _,by rw[h4];exact h3,h4⟩
  have:min σ.length ([]:St).length=0:=by simp
  rw[this];exact⟨h2,trivial⟩
 ·exact h2.elim
theorem wbu:type_of% @Aob∧type_of% @Aod∧type_of% @Aoc:=⟨@Aob,@Aod,@Aoc⟩
theorem wW:type_of% @L0.eq_1∧type_of% @Weak.eq_1∧type_of% @F5.eq_1∧type_of% @F5.eq_2∧type_of% @Im.eq_1∧type_of% @Im.eq_2∧type_of% @St.put.eq_1∧type_of% @leL.eq_1∧type_of% @leL.eq_2∧type_of% @leL.eq_3∧type_of% @leT.eq_1∧type_of% @leM.eq_1∧type_of% @leM.eq_2∧type_of% @leM.eq_3∧type_of% @leG.eq_1∧type_of% @leA.eq_1∧type_of% @leC.eq_1∧type_of% @leC.eq_2∧type_of% @leC.eq_3∧type_of% @leR.eq_1∧type_of% @leR.eq_2∧type_of% @leR.eq_3∧type_of% @leS.eq_1∧type_of% @leS.eq_2∧type_of% @leS.eq_3∧type_of% @leS.eq_4∧type_of% @leS.eq_5∧type_of% @leO.eq_1∧type_of% @leO.eq_2∧type_of% @leO.eq_3∧type_of% @leO.eq_4∧type_of% @leO.eq_5∧type_of% @A0.eq_1∧type_of% @A0.eq_2∧type_of% @A0.eq_3∧type_of% @A0.eq_4∧type_of% @A0.eq_5∧type_of% @A0.eq_6∧type_of% @A0.eq_7∧type_of% @A0.eq_8∧type_of% @A0.eq_9∧type_of% @A0.eq_10∧type_of% @Ci.eq_1∧type_of% @Ci.eq_2∧type_of% @Ad.eq_1∧type_of% @Av.eq_1∧type_of% @leaf.eq_1∧type_of% @leaf.eq_2∧type_of% @leaf.eq_3∧type_of% @leaf.eq_4∧type_of% @leaf.eq_5∧type_of% @leaf.eq_6∧type_of% @leaf.eq_7∧type_of% @leaf.eq_8∧type_of% @Sq.eq_1∧type_of% @Sr.eq_1:=⟨@L0.eq_1,@Weak.eq_1,@F5.eq_1,@F5.eq_2,@Im.eq_1,@Im.eq_2,@St.put.eq_1,@leL.eq_1,@leL.eq_2,@leL.eq_3,@leT.eq_1,@leM.eq_1,@leM.eq_2,@leM.eq_3,@leG.eq_1,@leA.eq_1,@leC.eq_1,@leC.eq_2,@leC.eq_3,@leR.eq_1,@leR.eq_2,@leR.eq_3,@leS.eq_1,@leS.eq_2,@leS.eq_3,@leS.eq_4,@leS.eq_5,@leO.eq_1,@leO.eq_2,@leO.eq_3,@leO.eq_4,@leO.eq_5,@A0.eq_1,@A0.eq_2,@A0.eq_3,@A0.eq_4,@A0.eq_5,@A0.eq_6,@A0.eq_7,@A0.eq_8,@A0.eq_9,@A0.eq_10,@Ci.eq_1,@Ci.eq_2,@Ad.eq_1,@Av.eq_1,@leaf.eq_1,@leaf.eq_2,@leaf.eq_3,@leaf.eq_4,@leaf.eq_5,@leaf.eq_6,@leaf.eq_7,@leaf.eq_8,@Sq.eq_1,@Sr.eq_1⟩
theorem wS:type_of% @resA.eq_1∧type_of% @V3.eq_1∧type_of% @V3.eq_2∧type_of% @Y0.eq_1∧type_of% @Y0.eq_2∧type_of% @leT.eq_1∧type_of% @leG.eq_1∧type_of% @leA.eq_1∧type_of% @leC.eq_1∧type_of% @leC.eq_2∧type_of% @leC.eq_3∧type_of% @leM.eq_1∧type_of% @leM.eq_2∧type_of% @leM.eq_3∧type_of% @leaf.eq_1∧type_of% @leaf.eq_2∧type_of% @leaf.eq_3∧type_of% @leaf.eq_4∧type_of% @leaf.eq_5∧type_of% @leaf.eq_6∧type_of% @leaf.eq_7∧type_of% @leaf.eq_8∧type_of% @A0.eq_1∧type_of% @A0.eq_2∧type_of% @A0.eq_3∧type_of% @A0.eq_4∧type_of% @A0.eq_5∧type_of% @A0.eq_6∧type_of% @A0.eq_7∧type_of% @A0.eq_8∧type_of% @A0.eq_9∧type_of% @A0.eq_10∧type_of% @Ci.eq_1∧type_of% @Ci.eq_2∧type_of% @Ad.eq_1∧type_of% @Av.eq_1∧type_of% @Sq.eq_1∧type_of% @Sr.eq_1:=⟨@resA.eq_1,@V3.eq_1,@V3.eq_2,@Y0.eq_1,@Y0.eq_2,@leT.eq_1,@leG.eq_1,@leA.eq_1,@leC.eq_1,@leC.eq_2,@leC.eq_3,@leM.eq_1,@leM.eq_2,@leM.eq_3,@leaf.eq_1,@leaf.eq_2,@leaf.eq_3,@leaf.eq_4,@leaf.eq_5,@leaf.eq_6,@leaf.eq_7,@leaf.eq_8,@A0.eq_1,@A0.eq_2,@A0.eq_3,@A0.eq_4,@A0.eq_5,@A0.eq_6,@A0.eq_7,@A0.eq_8,@A0.eq_9,@A0.eq_10,@Ci.eq_1,@Ci.eq_2,@Ad.eq_1,@Av.eq_1,@Sq.eq_1,@Sr.eq_1⟩
theorem wR:type_of% @H6∧type_of% @J8∧type_of% @Mc∧type_of% @W0∧type_of% @XO.{0}∧type_of% @YF.{0}∧type_of% @QF.{0}∧type_of% @QI.{0}∧type_of% @St.put.eq_1∧type_of% @ZC∧type_of% @ZJ∧type_of% @ZN.{0}∧type_of% @ZQ.{0}:=⟨@H6,@J8,@Mc,@W0,@XO.{0},@YF.{0},@QF.{0},@QI.{0},@St.put.eq_1,@ZC,@ZJ,@ZN.{0},@ZQ.{0}⟩
theorem cs:type_of% @Ri:=@Ri
theorem ws:type_of% @Rk:=@Rk
theorem wd:type_of% @Pt:=@Pt
theorem dP {P:Program}{C:Ctx}{ops:Array Oper}{fr:List AV}{σ:St}{K:List AV→St→Prop}(pl:Cq)(n:Nat)(t:Option Tmp)(h0:ops.size=n∧(ops[0]?.bind fun o=>o.dst)=t)(h1:(decide (Ck pl≤ops.size)&&Region.noSelect ops&&D5 C ops pl (Array.replicate ops.size false))=true)(h4:aPl P C ops pl [] fr σ K):Dh P C ops fr σ K:=by
 simp only[QV,decide_eq_true_eq]at h1
 exact⟨pl,h1.1.1,h1.1.2,h1.2,h4⟩
theorem dQ {P:Program}{C:Ctx}{ops:Array Oper}{fr:List AV}{σ:St}{K:List AV→St→Prop}(pl:Cq)(n:Nat)(t:Option Tmp)(h4:aPl P C ops pl [] fr σ K)(h0:ops.size=n∧(ops[0]?.bind fun o=>o.dst)=t:=by decide)(h1:(decide (Ck pl≤ops.size)&&Region.noSelect ops&&D5 C ops pl (Array.replicate ops.size false))=true:=by kernel_rfl):Dh P C ops fr σ K:=dP pl n t h0 h1 h4
theorem gS {σ:St}{t t':Nat}{x:Option Ob}(h:(t=t')=False):(σ.set t x)[t']? =σ[t']? :=QO (fun e=>by simp[e]at h)
theorem gE {σ:St}{t:Nat}{x:Option Ob}(h:(t<σ.length)=True):(σ.set t x)[t]? =some x:=by
 have:t<σ.length:=of_eq_true h
 simp[this]
theorem gA {σ τ:St}{t:Nat}(h:(t<σ.length)=True):(σ++τ)[t]? =σ[t]? :=by
 have:t<σ.length:=of_eq_true h
 rw[QD this]
theorem gN' {σ τ:St}{x:Option Ob}{n:Nat}(h:(n=σ.length)=True):(σ++x::τ)[n]? =some x:=by
 have:n=σ.length:=of_eq_true h
 subst this;simp
theorem Ac {σ:St}{t:Nat}{x:Option Ob}(h:σ[t]? =some x):t<σ.length:=(QC.1 h).1
theorem Tz {σ:St}{t:Nat}{x:Option Ob}(h:σ[t]? =some x):σ.set t x=σ:=by
 apply XM
 intro i
 rw[QW]
 split
 ·rename_i e;subst e;rw[if_pos (Ac h),h]
 ·rfl
theorem I8 {σ:St}{ob:Ob}{n:Nat}(h:n=σ.length):σ.put n ob=σ++[some ob]:=by
 subst h;unfold St.put;rw[if_neg (ZJ _)]
theorem Ahu {σ τ:St}{t:Nat}{x:Option Ob}(h:(t<σ.length)=True):(σ++τ).set t x=σ.set t x++τ:=by
 have:t<σ.length:=of_eq_true h
 rw[List.set_append_left _ _ this]
theorem Ay {σ:St}{t t':Nat}{x y:Option Ob}(h:σ[t]? =some x)(h':σ[t']? =some y)(hn:x≠y):t≠t':=fun e=>by
 subst e;rw[h]at h';exact hn (by simpa using h')
theorem hA {n m k:Nat}(h:(n<m)=True):(n<m+k)=True:=eq_true (ZE (of_eq_true h) (Nat.le_add_right _ _))
theorem hB {n k:Nat}:(n<n+k)=(0<k):=propext ⟨fun h=>by omega,fun h=>by omega⟩
theorem hC {n m k:Nat}:(n+k<n+m)=(k<m):=propext ⟨fun h=>by omega,fun h=>by omega⟩
theorem hD {d n k:Nat}(h:(d<n)=True):(d=n+k)=False:=eq_false (by have:=of_eq_true h;omega)
theorem hD1 {d n k:Nat}(h:(d<n)=True):(n+k=d)=False:=eq_false (by have:=of_eq_true h;omega)
theorem hD2 {d n:Nat}(h:(d<n)=True):(d=n)=False:=eq_false (by have:=of_eq_true h;omega)
theorem hD3 {d n:Nat}(h:(d<n)=True):(n=d)=False:=eq_false (by have:=of_eq_true h;omega)
theorem hE {n k:Nat}:(n=n+k)=(0=k):=propext ⟨fun h=>by omega,fun h=>by omega⟩
theorem hE1 {n k:Nat}:(n+k=n)=(k=0):=propext ⟨fun h=>by omega,fun h=>by omega⟩
theorem hE2 {n k m:Nat}:(n+k=n+m)=(k=m):=propext ⟨fun h=>by omega,fun h=>by omega⟩
theorem gP {σ:St}{ob:Ob}{n:Nat}(h:(n=σ.length)=True):σ.put n ob=σ++[some ob]:=I8 (of_eq_true h)
theorem gQ {σ:St}{x y:Option Ob}{n:Nat}(h:(n=σ.length)=True):(σ++[x]).set n y=σ++[y]:=by
 have:n=σ.length:=of_eq_true h
 subst this;simp
theorem gB {σ:St}{t:Nat}{x:Option Ob}(h:(σ[t]? =some x)=True):σ.set t x=σ:=Tz (of_eq_true h)
theorem gT {σ τ:St}{n:Nat}(h:(σ.length≤n)=True):(σ++τ)[n]? =τ[n - σ.length]? :=QY (of_eq_true h)
theorem hF {n k m:Nat}:(n+k) - (n+m)=k - m:=by omega
theorem hF1 {n k:Nat}:(n+k) - n=k:=by omega
theorem hG {n k m:Nat}:(n+k≤n+m)=(k≤m):=propext ⟨fun h=>by omega,fun h=>by omega⟩
theorem hG1 {n m:Nat}:(n≤n+m)=True:=eq_true (by omega)
theorem wHt:(type_of% @gT)∧(type_of% @hF)∧(type_of% @hF1)∧(type_of% @hG)∧(type_of% @hG1):=⟨@gT,@hF,@hF1,@hG,@hG1⟩
theorem wH:(type_of% @ZY)∧(type_of% @gB)∧(type_of% @VH.{0})∧(type_of% @gQ)∧(type_of% @Ahu)∧(type_of% @gS)∧(type_of% @gE)∧(type_of% @gA)∧(type_of% @gN')∧(type_of% @gP)∧(type_of% @hA)∧(type_of% @hB)∧(type_of% @hC)∧(type_of% @hD)∧(type_of% @hD1)∧(type_of% @hD2)∧(type_of% @hD3)∧(type_of% @hE)∧(type_of% @hE1)∧(type_of% @hE2)∧(type_of% @ZW.{0})∧(type_of% @QE.{0}):=
 ⟨@ZY,@gB,@VH.{0},@gQ,@Ahu,@gS,@gE,@gA,@gN',@gP,@hA,@hB,@hC,@hD,@hD1,@hD2,@hD3,@hE,@hE1,@hE2,@ZW.{0},@QE.{0}⟩
theorem nf {a b:Nat}(h:a≠b):(a=b)=False:=eq_false h
theorem lf {a b:Nat}(h:a<b):(a<b)=True:=eq_true h
structure Fr (σ σ':St)(F F':Nat→Prop):Prop where
 len:σ.length≤σ'.length
 keep:∀ t,t<σ.length→¬ F t→σ'[t]? =σ[t]?
 own:∀ t,F' t→F t∨σ.length≤t
theorem Fr.refl (σ:St)(F:Nat→Prop):Fr σ σ F F:=⟨QH _,fun _ _ _=>rfl,fun _ h=>.inl h⟩
theorem Fr.trans {σ σ' σ'':St}{F F' F'':Nat→Prop}(h:Fr σ σ' F F')(k:Fr σ' σ'' F' F''):Fr σ σ'' F F'':=
 ⟨ZO h.len k.len,fun t ht hn=>(k.keep t (ZE ht h.len) (fun hF=>(h.own t hF).elim hn (fun hl=>ZJ _ (ZE ht hl)))).trans (h.keep t ht hn),fun t ht=>(k.own t ht).elim (h.own t) fun hl=>.inr (ZO h.len hl)⟩
theorem Fr.more {σ σ':St}{F F' G:Nat→Prop}(h:Fr σ σ' F F')(hG:∀ t,F t→G t):Fr σ σ' G fun t=>F' t∨(G t∧¬ F t):=
 ⟨h.len,fun t ht hn=>h.keep t ht fun hF=>hn (hG t hF),fun t ht=>ht.elim (fun hF=>(h.own t hF).imp (hG t) id) fun hg=>.inl hg.1⟩
theorem Fr.get {σ σ':St}{F F':Nat→Prop}(h:Fr σ σ' F F'){t:Nat}{x:Option Ob}(ht:σ[t]? =some x)(hn:¬ F t):σ'[t]? =some x:=(h.keep t (Ac ht) hn).trans ht
theorem Fr.ofSet {σ:St}{t:Nat}{x:Option Ob}{F:Nat→Prop}(h:F t):Fr σ (σ.set t x) F F:=
 ⟨by simp,fun s _ hn=>QO fun e=>by subst e;exact hn h,fun _ h=>.inl h⟩
theorem Fr.ofApp {σ τ:St}{F F':Nat→Prop}(h:∀ t,F' t→F t∨σ.length≤t):Fr σ (σ++τ) F F':=
 ⟨by simp,fun s hs _=>QD hs,h⟩
theorem Fr.none {σ σ':St}{F:Nat→Prop}(h:Fr σ σ' (fun _=>False) (fun _=>False)):Fr σ σ' F F:=⟨h.len,fun t ht _=>h.keep t ht id,fun t ht=>.inl ht⟩
theorem Fr.set {σ σ':St}{F F':Nat→Prop}(h:Fr σ σ' F F'){t:Nat}(x:Option Ob)(ht:F t):Fr σ (σ'.set t x) F F':=
 ⟨by simpa using h.len,fun s hs hn=>by rw[QO (fun e=>by subst e;exact hn ht)];exact h.keep s hs hn,h.own⟩
theorem Fr.app {σ σ':St}{F F':Nat→Prop}(h:Fr σ σ' F F')(τ:St):Fr σ (σ'++τ) F F':=
 ⟨by have:=h.len;simp;omega,fun s hs hn=>by rw[QD (ZE hs h.len)];exact h.keep s hs hn,h.own⟩
theorem Fr.to {σ σ':St}{F F' G:Nat→Prop}(h:Fr σ σ' F F')(hG:∀ t,G t→F t∨σ.length≤t):Fr σ σ' F G:=⟨h.len,h.keep,hG⟩
theorem Aa.eq' {P:Program}{f:FuncId}{args:List AV}{σ s0:St}{a:AV}{R:AV→St→Prop}(h:Aa P f args σ fun r s=>s=s0∧r=a)(hk:R a s0):Aa P f args σ R:=h.mono fun r s e=>by
 obtain⟨rfl,rfl⟩:=e
 exact hk
def Ap (σ σ':St):Prop:=∃ τ,σ'=σ++τ
theorem Ap.fr {σ σ':St}(h:Ap σ σ'){F:Nat→Prop}:Fr σ σ' F F:=by
 obtain⟨τ,rfl⟩:=h
 exact Fr.ofApp fun t h=>.inl h
theorem Ap.refl (σ:St):Ap σ σ:=⟨[],by simp⟩
theorem Ap.app (σ τ:St):Ap σ (σ++τ):=⟨τ,rfl⟩
theorem Ap.trans {σ σ' σ'':St}(h:Ap σ σ')(k:Ap σ' σ''):Ap σ σ'':=by
 obtain⟨τ,rfl⟩:=h;obtain⟨τ',rfl⟩:=k
 exact⟨τ++τ',by simp⟩
theorem Ap.set {σ s:St}(h:Ap σ s){t:Nat}(ht:σ.length≤t)(x:Option Ob):Ap σ (s.set t x):=by
 obtain⟨τ,rfl⟩:=h
 exact⟨τ.set (t - σ.length) x,by rw[List.set_append_right _ _ ht]⟩
theorem Ap.more {σ s:St}(h:Ap σ s)(τ:St):Ap σ (s++τ):=h.trans (Ap.app _ _)
theorem Ap.len {σ s:St}(h:Ap σ s):σ.length≤s.length:=by obtain⟨τ,rfl⟩:=h;simp
theorem Ap.get {σ s:St}(h:Ap σ s){t:Nat}{x:Option Ob}(ht:σ[t]? =some x):s[t]? =some x:=by obtain⟨τ,rfl⟩:=h;rw[QD (Ac ht)];exact ht
theorem R6 {C:Ctx}{fr:List AV}{σ:St}{rs:List ResultVar}{n:Nat}{R:AV→St→Prop}{e:Exit}(h:match resA C rs fr σ with|some r=>R r σ|none=>False)(hn:n≤σ.length)(he:e= .ret∨e= .normal:=by first|exact .inl rfl|exact .inr rfl):retA C rs n R e fr σ:=by
 split at h
 ·rename_i r hr
  exact⟨he,r,r,σ,hr,.inl ⟨rfl,rfl⟩,hn,h⟩
 ·exact h.elim
theorem rtS {C:Ctx}{fr:List AV}{σ:St}{rs:List ResultVar}{n:Nat}{R:AV→St→Prop}{e:Exit}(h:match resA C rs fr σ with|some r=>R r σ|none=>False)(hn:n≤σ.length:=by first|exact QH _|(simp only[_root_.List.length_set,_root_.List.length_append];omega)|omega)(he:e= .ret∨e= .normal:=by first|exact .inl rfl|exact .inr rfl):retA C rs n R e fr σ:=R6 h hn he
def fS (fr:List AV)(D:List (Nat×AV))(Js:List Nat)(J:Nat→AV):List AV:=F5 fr (D++Js.map fun t=>(t,J t))
def Abt {X:Type}(fr:List AV)(D:X→List (Nat×AV))(Js:List Nat)(m:X→Nat)(I:X→St→Prop)(x:X)(Q:Exit→List AV→St→Prop)(e:Exit)(fr':List AV)(σ':St):Prop:=match e with
 | .normal=>∃ x',m x'<m x∧I x' σ'∧fr'=fS fr (D x') Js fun t=>fr'.getD t .any
 |e=>Q e fr' σ'
section
variable {P:Program} {C:Ctx} {fr fr':List AV} {σ σ':St} {Q:Exit→List AV→St→Prop} {c:Code} {X:Type} {D:X→List (Nat×AV)} {Js:List Nat} {m:X→Nat} {I:X→St→Prop} {x:X}
theorem Kj:Abt fr D Js m I x Q .normal fr' σ'=∃ x',m x'<m x∧I x' σ'∧fr'=fS fr (D x') Js fun t=>fr'.getD t .any:=nr rfl
theorem Pu {id:Nat}:Abt fr D Js m I x Q (.exit id) fr' σ'=Q (.exit id) fr' σ':=nr rfl
theorem R7:Abt fr D Js m I x Q .ret fr' σ'=Q .ret fr' σ':=nr rfl
theorem Ar (m:X→Nat)(D:X→List (Nat×AV))(Js:List Nat)(I:X→St→Prop)(x0:X)(hf:fr=fS fr (D x0) Js fun t=>fr.getD t .any)(h0:I x0 σ)(hl:∀ x s,I x s→σ.length≤s.length)
 (h3:∀ x J s,I x s→AWp P C (Dh P C) c (fS fr (D x) Js J) s (Abt fr D Js m I x Q)):AWp P C (Dh P C) (.loop c) fr σ Q:=by
 refine O6 (X:={ q:X×(Nat→AV)×St // I q.1 q.2.2 }) (fun q=>(fS fr (D q.1.1) Js q.1.2.1,q.1.2.2)) (fun q=>m q.1.1) ⟨(x0,fun t=>fr.getD t .any,σ),h0⟩ (fun q=>hl _ _ q.2) (.inl ⟨hf.symm,rfl⟩) ?_
 rintro⟨⟨x,J,s⟩,hI⟩
 refine En (fun e f s' h=> ?_) (h3 x J s hI)
 cases e with
 |normal=>
  obtain⟨x',h1,h2,h4⟩:=h
  exact⟨⟨(x',fun t=>f.getD t .any,s'),h2⟩,h1,.inl ⟨h4.symm,rfl⟩⟩
 |_=>exact h
end
theorem wHe:(type_of% @QF.{0})∧(type_of% @QI.{0})∧(type_of% @ZC)∧(type_of% @Ad.eq_1)∧(type_of% @Av.eq_1):=⟨@QF.{0},@QI.{0},@ZC,@Ad.eq_1,@Av.eq_1⟩
theorem cz:((0:Nat):Int)=0:=nr rfl
theorem wHf:(type_of% @WE.{0})∧(type_of% @WF.{0})∧(type_of% @Ad.eq_1)∧(type_of% @Av.eq_1)∧(type_of% @cz):=⟨@WE.{0},@WF.{0},@Ad.eq_1,@Av.eq_1,@cz⟩
theorem wHl:(type_of% @Pu)∧(type_of% @R7)∧(type_of% @Kj)∧(type_of% @fS.eq_1)∧(type_of% @ZN.{0})∧(type_of% @ZQ.{0})∧(type_of% @QK.{0,0})∧(type_of% @ZB.{0,0})∧(type_of% @H6)∧(type_of% @J8)∧(type_of% @XO.{0})∧(type_of% @YF.{0}):=
 ⟨@Pu,@R7,@Kj,@fS.eq_1,@ZN.{0},@ZQ.{0},@QK.{0,0},@ZB.{0,0},@H6,@J8,@XO.{0},@YF.{0}⟩
theorem Cw {l:List UInt8}{n:Nat}(h:l.length=n):(Aq l).length=n:=by simp[Aq,h]
theorem Kk {l:List UInt8}{n:Nat}(h:l.length=n):List.take n (Aq l)=Aq l:=by rw[← Cw h,ZS]
theorem Ahv:zT65.length=65:=by have:=Ala;simpa [Co]using this
theorem Zy:Pm.length=513:=by have:=Ahj;simpa [Co]using this
theorem Ahw:Q2.length=516:=by have:=Ahk;simpa [Co]using this
theorem Ahx {x:AV}:List.drop 65 (x::List.drop 1 (List.map (fun x=>AV.p (PV.v x)) zT65))=[]:=YE (by simp[Ahv])
theorem Zz {x:AV}:List.drop 513 (x::List.drop 1 (List.map (fun x=>AV.p (PV.v x)) Pm))=[]:=YE (by simp[Zy])
theorem Z0 {x:AV}:List.drop 513 (x::List.drop 1 (List.map (fun x=>AV.p (PV.v x)) Q2))=[.p (.v (.bool false)),.p (.v (.int .i64 0)),.p (.v (.int .i64 0))]:=by
 have:Q2=[.int .i64 0]++(zB 512++[.bool false,.int .i64 0,.int .i64 0]):=by simp only[Q2,QX,ZN,ZQ]
 rw[this]
 simp only[ZH,QK,ZB,ZN,ZQ,YM,XA]
 rw[List.drop_left' (by simp only[zB,QL,XC])]
theorem Aoe:List.drop 64 (List.drop 1 (List.map (fun x=>AV.p (PV.v x)) zT65))=[]:=by have:=Ahx (x:=.any);simpa only[YM]using this
theorem Ahy:List.drop 512 (List.drop 1 (List.map (fun x=>AV.p (PV.v x)) Pm))=[]:=by have:=Zz (x:=.any);simpa only[YM]using this
theorem Ahz:List.drop 512 (List.drop 1 (List.map (fun x=>AV.p (PV.v x)) Q2))=[.p (.v (.bool false)),.p (.v (.int .i64 0)),.p (.v (.int .i64 0))]:=by have:=Z0 (x:=.any);simpa only[YM]using this
theorem Xa {l:List UInt8}{n:Nat}(h:l.length=n):List.drop n (Aq l)=[]:=YE (by simp[Cw h])
theorem Abu {x:AV}{l:List UInt8}(h:l.length=512):List.drop 513 (x::Aq l)=[]:=YE (by simp[Cw h])
theorem Hv {l:List UInt8}:List.map AV.p (List.map Bo l)=Aq l:=by simp[Aq]
theorem Kl:∀ l:List UInt8,Vj (Aq l)=some (l.map Bo)
 |[]=>rfl
 |b::l=>by
  have:=Kl l
  simp only[Aq]at this
  simp only[Aq,QK,Vj,toP,this]
theorem T7 {x:PV}{l:List UInt8}:Vj (.p x::Aq l)=some (x::l.map Bo):=by simp only[Vj,toP,Kl]
def frR (n:Int)(l:List UInt8)(f:Bool)(u a:Int):List AV:=.p (.v (.int .i64 n))::(Aq l++[.p (.v (.bool f)),.p (.v (.int .i64 u)),.p (.v (.int .i64 a))])
section
variable {n u a:Int} {l:List UInt8} {f:Bool} {x:AV}
theorem Ah0 (h:l.length=512):(frR n l f u a).length=516:=by simp[frR,Cw h]
theorem Avb:(frR n l f u a)[0]? =some (.p (.v (.int .i64 n))):=rfl
theorem Ah1 (h:l.length=512):(frR n l f u a)[513]? =some (.p (.v (.bool f))):=by
 simp only[frR,XN]
 rw[QY (by rw[Cw h];omega),Cw h];rfl
theorem Ah2 (h:l.length=512):(frR n l f u a)[514]? =some (.p (.v (.int .i64 u))):=by
 simp only[frR,XN]
 rw[QY (by rw[Cw h];omega),Cw h];rfl
theorem Ah3 (h:l.length=512):(frR n l f u a)[515]? =some (.p (.v (.int .i64 a))):=by
 simp only[frR,XN]
 rw[QY (by rw[Cw h];omega),Cw h];rfl
theorem Avc (h:l.length=512):List.take 512 (List.drop 1 (frR n l f u a))=Aq l:=by
 simp only[frR,YM,XA]
 exact WZ (Cw h)
theorem Apu (h:l.length=512){i:Nat}(hi:i<8):List.take 64 (List.drop (1+64*i) (frR n l f u a))=Aq ((l.drop (64*i)).take 64):=by
 rw[show 1+64*i=64*i+1 by omega]
 simp only[frR,YM]
 rw[List.drop_append_of_le_length (by rw[Cw h];omega),XY (by simp[Cw h];omega)]
 simp only[Aq,WO,VA]
theorem Aof {l':List UInt8}(h:l.length=512)(h':l'.length=512):List.take 1 (frR n l f u a)++Aq l'++List.drop 513 (frR n l f u a)=frR n l' f u a:=by
 simp only[frR,XJ,XH,YM]
 rw[List.drop_left' (Cw h)]
 simp
theorem Abv {f':Bool}(h:l.length=512):List.take 513 (frR n l f u a)++[.p (.v (.bool f'))]++List.drop 514 (frR n l f u a)=frR n l f' u a:=by
 simp only[frR,XJ,YM]
 rw[WZ (Cw h),show (513:Nat)=(Aq l).length+1 by rw[Cw h],WV]
 simp
theorem Abw {u':Int}(h:l.length=512):List.take 514 (frR n l f u a)++[.p (.v (.int .i64 u'))]++List.drop 515 (frR n l f u a)=frR n l f u' a:=by
 simp only[frR,XJ,YM]
 rw[show (513:Nat)=(Aq l).length+1 by rw[Cw h],show (514:Nat)=(Aq l).length+2 by rw[Cw h],WV,List.take_append]
 simp[ZF,YE]
theorem Abx {a':Int}(h:l.length=512):List.take 515 (frR n l f u a)++[.p (.v (.int .i64 a'))]++List.drop 516 (frR n l f u a)=frR n l f u a':=by
 simp only[frR,XJ,YM]
 rw[show (514:Nat)=(Aq l).length+2 by rw[Cw h],show (515:Nat)=(Aq l).length+3 by rw[Cw h],WV,List.take_append]
 simp[ZF,YE]
theorem Aog:AV.p (.v (.int .i64 n))::(Aq l++[.p (.v (.bool f)),.p (.v (.int .i64 u)),.p (.v (.int .i64 a))])=frR n l f u a:=rfl
end
theorem wFr:(type_of% @Ah0)∧(type_of% @Avb)∧(type_of% @Ah1)∧(type_of% @Ah2)∧(type_of% @Ah3)∧(type_of% @Avc)∧(type_of% @Aof)∧(type_of% @Abv)∧(type_of% @Abw)∧(type_of% @Abx)∧(type_of% @Aog):=
 ⟨@Ah0,@Avb,@Ah1,@Ah2,@Ah3,@Avc,@Aof,@Abv,@Abw,@Abx,@Aog⟩
theorem wZt:(type_of% @Kk)∧(type_of% @Hv)∧(type_of% @Aoe)∧(type_of% @Ahy)∧(type_of% @Ahz)∧(type_of% @Xa)∧(type_of% @Ahv)∧(type_of% @Zy)∧(type_of% @Ahw)∧(type_of% @Ahx)∧(type_of% @Zz)∧(type_of% @Z0)∧(type_of% @Abu)∧(type_of% @T7)∧(type_of% @Kl)∧(type_of% @XJ.{0})∧(type_of% @XH.{0})∧(type_of% @WJ.{0}):=
 ⟨@Kk,@Hv,@Aoe,@Ahy,@Ahz,@Xa,@Ahv,@Zy,@Ahw,@Ahx,@Zz,@Z0,@Abu,@T7,@Kl,@XJ.{0},@XH.{0},@WJ.{0}⟩
