/- The page's contracts on the abstract machine, for programs that use pages. Values without objects under other numbers. Objects that name no others: contracts of their methods at any state. States that name objects by number: looking up, writing, what a call leaves as it is. Rows that hold pages and sectors, with their length unspelled: waiting writes, changes, frames. -/
import Derived.Test.YtpoigihfeehehaaGreatDoorM19
import Derived.Test.YtpoigihfeehehaaGreatDoorM18
import Derived.Test.YtpoigihfeehehaaGreatDoorM14
set_option linter.all false
set_option maxRecDepth 100000
set_option maxHeartbeats 32000000
namespace Go.Proofs.YtpoigihfeehehaaGreatDoor
open Go.RowKit
open List (cons_append drop_append drop_eq_nil_of_le drop_succ_cons length_cons length_nil map_cons map_nil nil_append set_cons_succ set_cons_zero take_succ_cons take_zero)
theorem Aa.of_calls {P:Program}{f:FuncId}{args:List AV}{σ:St}{R:AV→Prop}(hen:Enters P f)
 (h:∀ (M:A2) (vs:List Value),An M σ→Af M args vs→Calls P f vs.toArray M.w fun e w'=>∃ (v:Value) (r:AV) (J:Nat→Nat→Prop),e= .returned v∧Below M.w.heap.size M.w w'∧(∀ b o,J b o→M.w.heap.size≤b∧b<w'.heap.size)∧Ag { M with w:=w',I:=fun b o=>M.I b o∨J b o } r v∧R r):
 Aa P f args σ fun r σ'=>σ'=σ∧R r:=by
 refine⟨hen,fun M vs hM hv=>(h M vs hM hv).mono ?_⟩
 rintro e w' ⟨v,r,J,rfl,hb,hJ,hr,hR⟩
 let M':A2:={ M with w:=w',I:=fun b o=>M.I b o∨J b o }
 have hcell:∀ b o,M.I b o→M'.w.cell? ⟨b,o,none⟩=M.w.cell? ⟨b,o,none⟩:=fun b o ho=>hb.cell (p:=⟨b,o,none⟩) (hM.imm b o ho)
 have hL:Later M M':=⟨fun _ _ h h'=>⟨h,h',rfl⟩,C9 (fun _=>rfl) (fun _=>rfl) (fun _=>rfl),fun _ _ h=>.inl h,hcell⟩
 have hI:∀ b o,b<M.w.heap.size→M'.I b o→M.I b o:=fun b o hlt ho=>by
  rcases ho with ho|ho
  ·exact ho
  ·have:=(hJ b o ho).1;omega
 have hE:Ext M σ M' σ:=⟨hL.mu,hL.own,hL.imm,hcell,fun b hlt _=>⟨hb.block b hlt,fun o=>hI b o hlt⟩,fun t ob b h1 h2=>.inr ⟨t,ob,h1,h2⟩,hb.size,hb.os,hb.tape,hb.output⟩
 refine⟨v,r,σ,M',rfl,rfl,hE,?_,hr,Nat.le_refl _,rfl,hR⟩
 refine⟨fun t ob ht=>(hM.obj t ob ht).later hL rfl rfl rfl fun b hbb=>⟨hb.block b (hM.lt t b hbb),fun o=>hI b o (hM.lt t b hbb)⟩,hM.inj,hM.fresh,fun t b hbb=>Nat.lt_of_lt_of_le (hM.lt t b hbb) hb.size,fun b o ho=> ?_,hM.glob.ext hE⟩
 rcases ho with ho|ho
 ·exact Nat.lt_of_lt_of_le (hM.imm b o ho) hb.size
 ·exact (hJ b o ho).2
def Bq (b:UInt8):PV:=.v (.int .u8 b.toNat)
def Ay (r:List UInt8):List (List PV):=r.map fun b=>[Bq b]
def BX (x:PV)(r:List UInt8):Prop:=x= .sl 1 (Ay r)∨(x= .v (.slice none 0 0)∧r=[])
def Ar (l:List UInt8):List AV:=l.map fun b=>.p (Bq b)
def A9 (l:List UInt8):AV:=.agg (Ar l)
theorem Gb (l:List UInt8):(Ar l).length=l.length:=by simp[Ar]
theorem Aen (l:List UInt8):(Ar l).all leaf=true:=by simp[Ar,leaf]
theorem Ng (b:UInt8):Gn (.int .u8 b.toNat)=some b:=by
 have h:(b.toNat:Int)<256:=by have:=b.toNat_lt;omega
 simp[Gn,h]
theorem Eh:∀ l:List UInt8,Fe (Ar l)=some l
 |[]=>rfl
 |b::l=>by
  have:=Eh l
  simp only[Ar,Bq]at this
  simp only[Ar,map_cons,Fe,Sy,Bq,Ng,this]
theorem Jc:∀ r:List UInt8,Dp (Ay r)=some r
 |[]=>rfl
 |b::r=>by
  have:=Jc r
  simp only[Ay,Bq]at this
  simp only[Ay,map_cons,Dp,Bq,Ng,this]
def recP:Option (List UInt8)→PV
 |none=>.v (.slice none 0 0)
 |some r=>.sl 1 (Ay r)
section
variable {M:A2}
theorem Ahg {l:List UInt8}{us:List Value}(h:Af M (Ar l) us):us=Bb l:=by
 rw[Fg (Eh l) h]
 rfl
theorem Ig {l:List UInt8}{u:Value}(h:Ag M (A9 l) u):u= .agg (Ae l):=by
 simp only[A9,Ag]at h
 obtain⟨_,us,rfl,h⟩:=h
 rw[Ahg h]
theorem Pq (l:List UInt8):Ag M (A9 l) (.agg (Ae l)):=by
 simp only[A9,Ag]
 refine⟨Aen l,Bb l,rfl,Be.2 ⟨by simp[Ar,Bb],fun i x u hx hu=> ?_⟩⟩
 simp only[Ar,Bb,List.getElem?_map]at hx hu
 cases hl:l[i]? with
 |none=>rw[hl]at hx;simp at hx
 |some b=>
  rw[hl]at hx hu
  simp at hx hu
  subst hx hu
  exact Bd rfl
theorem rep1 {a:AV}{vs:List Value}(h:Af M [a] vs):∃ u,vs=[u]∧Ag M a u:=by
 simp only[Af]at h
 obtain⟨u,us,rfl,h1,rfl⟩:=h
 exact⟨u,rfl,h1⟩
theorem rep2 {a b:AV}{vs:List Value}(h:Af M [a,b] vs):∃ u v,vs=[u,v]∧Ag M a u∧Ag M b v:=by
 simp only[Af]at h
 obtain⟨u,us,rfl,h1,v,us',rfl,h2,rfl⟩:=h
 exact⟨u,v,rfl,h1,h2⟩
theorem rep3 {a b c:AV}{vs:List Value}(h:Af M [a,b,c] vs):∃ u v w,vs=[u,v,w]∧Ag M a u∧Ag M b v∧Ag M c w:=by
 simp only[Af]at h
 obtain⟨u,us,rfl,h1,v,us',rfl,h2,w,us'',rfl,h3,rfl⟩:=h
 exact⟨u,v,w,rfl,h1,h2,h3⟩
theorem tup2 {a b:AV}{u v:Value}(h1:Ag M a u)(h2:Ag M b v):Ag M (.tup [a,b]) (.tuple #[u,v]):=by
 simp only[Ag,Af];exact⟨[u,v],rfl,u,[v],rfl,h1,v,[],rfl,h2,rfl⟩
theorem tup3 {a b c:AV}{u v w:Value}(h1:Ag M a u)(h2:Ag M b v)(h3:Ag M c w):Ag M (.tup [a,b,c]) (.tuple #[u,v,w]):=by
 simp only[Ag,Af];exact⟨[u,v,w],rfl,u,[v,w],rfl,h1,v,[w],rfl,h2,w,[],rfl,h3,rfl⟩
theorem Fy {w:World}{b off cap:Nat}{r:List UInt8}(h:∀ (j:Nat) (c:UInt8),r[j]? =some c→w.cell? ⟨b,off+j,none⟩=some (.int .u8 c.toNat)):D2 w (.slice (some ⟨b,off,none⟩) r.length cap) r:=by
 refine⟨some ⟨b,off,none⟩,cap,rfl,.inr ⟨_,rfl,fun j u hj=> ?_⟩⟩
 rw[Addr.add_mid]
 simp only[Bb,List.getElem?_map]at hj
 cases hc:r[j]? with
 |none=>rw[hc]at hj;simp at hj
 |some c=>rw[hc]at hj;simp at hj;subst hj;exact h j c hc
theorem BX.bytes {x:PV}{r:List UInt8}{u:Value}(h:BX x r)(hu:Ag M (.p x) u):D2 M.w u r:=by
 rcases h with rfl|⟨rfl,rfl⟩
 ·simp only[Ag,Ce]at hu
  obtain⟨h0,ad,cap,rfl,hn⟩|⟨b,off,cap,rfl,hcap,hr⟩:=hu
  ·have hr0:r=[]:=by simpa [Ay]using h0
   subst hr0
   cases ad with
   |none=>exact⟨none,cap,rfl,.inl ⟨rfl,rfl,hn rfl⟩⟩
   |some ad=>exact⟨some ad,cap,rfl,.inr ⟨_,rfl,fun j u hj=>by simp[Bb]at hj⟩⟩
  rw[show (Ay r).length=r.length by simp[Ay]]
  refine Fy fun j c hc=> ?_
  obtain⟨_,h2⟩:=hr.get (i:=j) (c:=[Bq c]) (by simp[Ay,hc])
  obtain⟨v,h3,_,h4⟩:=h2.get (j:=0) rfl
  simp only[Bq,Ce]at h4
  rw[h4.2]at h3
  simpa using h3
 ·have:=(Cg hu).2;subst this
  exact⟨none,0,rfl,.inl ⟨rfl,rfl,rfl⟩⟩
theorem Aph {w':World}{base:Nat}{v:Value}{o:Option (List UInt8)}(h:Rec w' base v o):∃ J:Nat→Nat→Prop,(∀ b q,J b q→base≤b∧b<w'.heap.size)∧Ag { M with w:=w',I:=fun b q=>M.I b q∨J b q } (.p (recP o)) v:=by
 cases o with
 |none=>
  simp only[Rec]at h;subst h
  exact⟨fun _ _=>False,fun _ _ h=>h.elim,Bd rfl⟩
 |some r=>
  obtain⟨ho,g,cap,rfl⟩:=h
  rcases ho.2 with⟨h1,_⟩|⟨g',cap',cur,h1,hg,hh,hnc,hcm,hcs,ht⟩
  ·simp at h1
  ·simp only[Value.slice.injEq,Option.some.injEq,Addr.mk.injEq,and_true,true_and]at h1
   obtain⟨rfl,rfl⟩:=h1
   refine⟨fun b q=>b=g∧q<r.length,fun b q h=>⟨by omega,by rw[h.1];exact (Array.getElem?_eq_some_iff.1 hh).1⟩,?_⟩
   simp only[recP,Ag,Ce]
   refine .inr ⟨g,0,cap,by simp[Ay],by simpa [Ay]using hnc,By.of_get fun i c hc=> ?_⟩
   simp only[Ay,List.getElem?_map]at hc
   cases hr:r[i]? with
   |none=>rw[hr]at hc;simp at hc
   |some b=>
    rw[hr]at hc;simp at hc;subst hc
    have hi:=(List.getElem?_eq_some_iff.1 hr).1
    refine⟨rfl,Dr.of_get fun j x hx=> ?_⟩
    cases j with
    |succ j=>simp at hx
    |zero=>
     simp at hx;subst hx
     refine⟨.int .u8 b.toNat,?_,.inr ⟨rfl,by omega⟩,by simp only[Bq,Ce];exact⟨rfl,trivial⟩⟩
     have:=ho.cells (g:=g) rfl i (.int .u8 b.toNat) (by simp[Bb,Aed,hr])
     rw[Addr.add_mid]at this
     simpa using this
end
theorem en (f:FuncId)(h:(Tryz.prog.funcs[f]?).any (fun fn=> !(fn.name== "runtime.NumGoroutine")&&fn.body.isSome)=true):Enters Tryz.prog f:=by
 cases hf:Tryz.prog.funcs[f]? with
 |none=>rw[hf]at h;simp at h
 |some fn=>
  rw[hf]at h
  simp only[Option.any_some,Bool.and_eq_true,Bool.not_eq_true']at h
  exact⟨fn,hf,h.1,by cases hb:fn.body<;>simp_all⟩
theorem anew (k:Int)(σ:St):Aa Tryz.prog 71 [Ad .i64 k] σ fun r σ'=>σ'=σ∧r=A9 (Fo k):=
 Aa.of_calls (en _ (by kernel_rfl)) fun M vs hM hv=>by
  obtain⟨u,rfl,h1⟩:=rep1 hv
  rw[Bo h1]
  exact (Ag1 k _).mono fun e w' ⟨h1,h2⟩=>⟨_,_,fun _ _=>False,h1,h2,fun _ _ h=>h.elim,Pq _,rfl⟩
theorem Ps (l:List UInt8)(hl:l.length=512)(σ:St):Aa Tryz.prog 88 [A9 l] σ fun r σ'=>σ'=σ∧r=Ad .i64 ((Av l).length:Nat):=
 Aa.of_calls (en _ (by kernel_rfl)) fun M vs hM hv=>by
  obtain⟨u,rfl,h1⟩:=rep1 hv
  rw[Ig h1]
  exact (Aei l _ hl).mono fun e w' ⟨h1,h2⟩=>⟨_,_,fun _ _=>False,h1,h2,fun _ _ h=>h.elim,Bd rfl,rfl⟩
theorem aget (l:List UInt8)(k:Int)(hl:l.length=512)(σ:St):Aa Tryz.prog 89 [A9 l,Ad .i64 k] σ fun r σ'=>σ'=σ∧r= .tup [.p (recP (I3 l k)),Az (I3 l k).isSome]:=
 Aa.of_calls (en _ (by kernel_rfl)) fun M vs hM hv=>by
  obtain⟨u,v,rfl,h1,h2⟩:=rep2 hv
  rw[Ig h1,Bo h2]
  refine (Ag2 l k _ hl).mono ?_
  rintro e w' ⟨v,rfl,hr,hb⟩
  obtain⟨J,h3,h5⟩:=Aph (M:=M) hr
  exact⟨_,_,J,rfl,hb,h3,tup2 h5 (Bd rfl),rfl⟩
theorem Api (l r:List UInt8)(x:PV)(hl:l.length=512)(hx:BX x r)(hrl:r.length≤140737488351232)(σ:St):Aa Tryz.prog 70 [A9 l,.p x] σ fun r' σ'=>σ'=σ∧r'= .tup [A9 (Hg l r).1,Ad .i64 (Hg l r).2.1,Az (Hg l r).2.2]:=
 Aa.of_calls (en _ (by kernel_rfl)) fun M vs hM hv=>by
  obtain⟨u,v,rfl,h1,h2⟩:=rep2 hv
  rw[Ig h1]
  exact (Zf l r v _ hl (hx.bytes h2) hrl).mono fun e w' ⟨h1,h2⟩=>⟨_,_,fun _ _=>False,h1,h2,fun _ _ h=>h.elim,tup3 (Pq _) (Bd rfl) (Bd rfl),rfl⟩
theorem aadd (l r:List UInt8)(t:Nat)(hl:l.length=512)(hrl:r.length≤140737488351232)(σ:St)(ht:σ.at t (.row 1 (r.map fun b=>[.p (Bq b)]))):Aa Tryz.prog 70 [A9 l,.ms t 1 0 r.length] σ fun r' σ'=>σ'=σ∧r'= .tup [A9 (Hg l r).1,Ad .i64 (Hg l r).2.1,Az (Hg l r).2.2]:=
 Aa.of_calls (en _ (by kernel_rfl)) fun M vs hM hv=>by
  obtain⟨u,v,rfl,h1,h2⟩:=rep2 hv
  rw[Ig h1]
  have hby:D2 M.w v r:=by
   simp only[Ag]at h2
   obtain⟨b,cap,hb,hbl,rfl,hcap,_⟩:=h2
   obtain⟨_,b',cur,T,hb',hh,hI,hr,_⟩:=hM.obj t _ ht
   have:b'=b:=by rw[hb]at hb';simpa using hb'.symm
   subst this
   rw[Nat.zero_mul]
   refine Fy fun j c hc=> ?_
   obtain⟨_,h4⟩:=hr j [.p (Bq c)] (by simp[hc])
   obtain⟨_,x,h5,h6⟩:=h4 0 (.p (Bq c)) rfl
   rw[Nat.zero_add,cell_of_row _ _ _ _ _ _ hh]
   simp only[Nat.mul_one,Nat.add_zero]at h5
   rw[h5,(Cg h6).2]
  exact (Zf l r v _ hl hby hrl).mono fun e w' ⟨h1,h2⟩=>⟨_,_,fun _ _=>False,h1,h2,fun _ _ h=>h.elim,tup3 (Pq _) (Bd rfl) (Bd rfl),rfl⟩
theorem An0 {C:Ctx}{tk:Nat}{T:TypeId}{x:AV}{σ:St}:Dq C tk .len [T] [x] σ=(Bf C T x).map fun (n:Nat)=>(Ad .i64 (n:Int),σ):=nr rfl
theorem Aa.nilSplit {P:Program}{f:FuncId}{rest:List AV}{σ:St}{R:AV→St→Prop}{e:Nat}(h1:Aa P f (.p (.v (.slice none 0 0))::rest) σ R)(h2:∀ ad c,Aa P f (.p (.v (.slice (some ad) 0 c))::rest) σ R):Aa P f (.p (.sl e [])::rest) σ R:=
 ⟨h1.1,fun M vs hM hv=>by
  simp only[Af,Ag,Ce]at hv
  obtain⟨u,us,rfl,hu,hr⟩:=hv
  have key:u= .slice none 0 0∨∃ ad c,u= .slice (some ad) 0 c:=by
   rcases hu with⟨_,ad,c,rfl,h⟩|⟨b,off,c,rfl,_⟩
   ·cases ad with
    |none=>rw[h rfl];exact .inl rfl
    |some ad=>exact .inr ⟨ad,c,rfl⟩
   ·exact .inr ⟨_,c,rfl⟩
  rcases key with rfl|⟨ad,c,rfl⟩
  ·exact h1.2 M _ hM (by simp only[Af,Ag,Ce];exact⟨_,_,rfl,⟨rfl,rfl⟩,hr⟩)
  ·exact (h2 ad c).2 M _ hM (by simp only[Af,Ag,Ce];exact⟨_,_,rfl,⟨rfl,rfl⟩,hr⟩)⟩
theorem An1 {C:Ctx}{tk:Nat}{ts:List TypeId}{k k':IntKind}{n m:Int}{σ:St}:Dq C tk .min ts [.p (.v (.int k n)),.p (.v (.int k' m))] σ=some (Ad k (if m<n then m else n),σ):=nr rfl
theorem An2 {C:Ctx}{tk:Nat}{ts:List TypeId}{k k':IntKind}{n m:Int}{σ:St}:Dq C tk .max ts [.p (.v (.int k n)),.p (.v (.int k' m))] σ=some (Ad k (if m>n then m else n),σ):=nr rfl
theorem Pt {P:Program}{C:Ctx}{ops:Array Oper}{b want:Bool}{o:Oper}{p:Cv}{L:List Nat}{fr:List AV}{σ:St}{K:List AV→St→Prop}(h1:b=want→O8 P C ops o p L fr σ K)(h2:b= !want→aPl P C ops p L (D5 fr o.dst (.tup [])) σ K):O9 P C ops (some (some b)) want o p L fr σ K:=⟨h1,h2⟩
theorem Pu {P:Program}{C:Ctx}{ops:Array Oper}{b want:Bool}{o:Oper}{p:Cv}{L:List Nat}{fr:List AV}{σ:St}{K:List AV→St→Prop}(h1:b=want→Bu P C o fr (El L σ) (Y5 P C ops p L o.dst fr σ K))(h2:b= !want→aPl P C ops p L (D5 fr o.dst (.tup [])) σ K):Pa P C ops (some (some b)) want o p L fr σ K:=⟨h1,h2⟩
theorem Co {C:Ctx}{fr:List AV}{σ:St}{rs:List ResultVar}{a:AV}{e:Exit}(h2:match A1 C rs fr σ with|some r0=>leT σ 0 [] r0 a|none=>False)(h3:A3 0 a=true)(h4:Tv a=a)(he:e= .ret∨e= .normal:=by first|exact .inl rfl|exact .inr rfl):
 retA C rs 0 (fun r _=>A3 0 (Tv r)=true∧Tv r=a) e fr σ:=by
 split at h2
 ·rename_i r0 h1
  refine⟨he,r0,a,[],h1,.inr ⟨?_,by simp[leS]⟩,Nat.zero_le _,by rw[h4];exact h3,h4⟩
  have:min σ.length ([]:St).length=0:=by simp
  rw[this];exact⟨h2,trivial⟩
 ·exact h2.elim
theorem wbu:type_of% @An0∧type_of% @An2∧type_of% @An1:=⟨@An0,@An2,@An1⟩
theorem wW:type_of% @Ly.eq_1∧type_of% @Weak.eq_1∧type_of% @F8.eq_1∧type_of% @F8.eq_2∧type_of% @Is.eq_1∧type_of% @Is.eq_2∧type_of% @St.put.eq_1∧type_of% @leL.eq_1∧type_of% @leL.eq_2∧type_of% @leL.eq_3∧type_of% @leT.eq_1∧type_of% @leM.eq_1∧type_of% @leM.eq_2∧type_of% @leM.eq_3∧type_of% @leG.eq_1∧type_of% @leA.eq_1∧type_of% @leC.eq_1∧type_of% @leC.eq_2∧type_of% @leC.eq_3∧type_of% @leR.eq_1∧type_of% @leR.eq_2∧type_of% @leR.eq_3∧type_of% @leS.eq_1∧type_of% @leS.eq_2∧type_of% @leS.eq_3∧type_of% @leS.eq_4∧type_of% @leS.eq_5∧type_of% @leO.eq_1∧type_of% @leO.eq_2∧type_of% @leO.eq_3∧type_of% @leO.eq_4∧type_of% @leO.eq_5∧type_of% @A3.eq_1∧type_of% @A3.eq_2∧type_of% @A3.eq_3∧type_of% @A3.eq_4∧type_of% @A3.eq_5∧type_of% @A3.eq_6∧type_of% @A3.eq_7∧type_of% @A3.eq_8∧type_of% @A3.eq_9∧type_of% @A3.eq_10∧type_of% @Cj.eq_1∧type_of% @Cj.eq_2∧type_of% @Ad.eq_1∧type_of% @Az.eq_1∧type_of% @leaf.eq_1∧type_of% @leaf.eq_2∧type_of% @leaf.eq_3∧type_of% @leaf.eq_4∧type_of% @leaf.eq_5∧type_of% @leaf.eq_6∧type_of% @leaf.eq_7∧type_of% @leaf.eq_8∧type_of% @Sw.eq_1∧type_of% @Sx.eq_1:=⟨@Ly.eq_1,@Weak.eq_1,@F8.eq_1,@F8.eq_2,@Is.eq_1,@Is.eq_2,@St.put.eq_1,@leL.eq_1,@leL.eq_2,@leL.eq_3,@leT.eq_1,@leM.eq_1,@leM.eq_2,@leM.eq_3,@leG.eq_1,@leA.eq_1,@leC.eq_1,@leC.eq_2,@leC.eq_3,@leR.eq_1,@leR.eq_2,@leR.eq_3,@leS.eq_1,@leS.eq_2,@leS.eq_3,@leS.eq_4,@leS.eq_5,@leO.eq_1,@leO.eq_2,@leO.eq_3,@leO.eq_4,@leO.eq_5,@A3.eq_1,@A3.eq_2,@A3.eq_3,@A3.eq_4,@A3.eq_5,@A3.eq_6,@A3.eq_7,@A3.eq_8,@A3.eq_9,@A3.eq_10,@Cj.eq_1,@Cj.eq_2,@Ad.eq_1,@Az.eq_1,@leaf.eq_1,@leaf.eq_2,@leaf.eq_3,@leaf.eq_4,@leaf.eq_5,@leaf.eq_6,@leaf.eq_7,@leaf.eq_8,@Sw.eq_1,@Sx.eq_1⟩
theorem wS:type_of% @A1.eq_1∧type_of% @Ak.eq_1∧type_of% @Ak.eq_2∧type_of% @Ax.eq_1∧type_of% @Ax.eq_2∧type_of% @leT.eq_1∧type_of% @leG.eq_1∧type_of% @leA.eq_1∧type_of% @leC.eq_1∧type_of% @leC.eq_2∧type_of% @leC.eq_3∧type_of% @leM.eq_1∧type_of% @leM.eq_2∧type_of% @leM.eq_3∧type_of% @leaf.eq_1∧type_of% @leaf.eq_2∧type_of% @leaf.eq_3∧type_of% @leaf.eq_4∧type_of% @leaf.eq_5∧type_of% @leaf.eq_6∧type_of% @leaf.eq_7∧type_of% @leaf.eq_8∧type_of% @A3.eq_1∧type_of% @A3.eq_2∧type_of% @A3.eq_3∧type_of% @A3.eq_4∧type_of% @A3.eq_5∧type_of% @A3.eq_6∧type_of% @A3.eq_7∧type_of% @A3.eq_8∧type_of% @A3.eq_9∧type_of% @A3.eq_10∧type_of% @Cj.eq_1∧type_of% @Cj.eq_2∧type_of% @Ad.eq_1∧type_of% @Az.eq_1∧type_of% @Sw.eq_1∧type_of% @Sx.eq_1:=⟨@A1.eq_1,@Ak.eq_1,@Ak.eq_2,@Ax.eq_1,@Ax.eq_2,@leT.eq_1,@leG.eq_1,@leA.eq_1,@leC.eq_1,@leC.eq_2,@leC.eq_3,@leM.eq_1,@leM.eq_2,@leM.eq_3,@leaf.eq_1,@leaf.eq_2,@leaf.eq_3,@leaf.eq_4,@leaf.eq_5,@leaf.eq_6,@leaf.eq_7,@leaf.eq_8,@A3.eq_1,@A3.eq_2,@A3.eq_3,@A3.eq_4,@A3.eq_5,@A3.eq_6,@A3.eq_7,@A3.eq_8,@A3.eq_9,@A3.eq_10,@Cj.eq_1,@Cj.eq_2,@Ad.eq_1,@Az.eq_1,@Sw.eq_1,@Sx.eq_1⟩
theorem wR:type_of% @H9∧type_of% @Kf∧type_of% @Ma∧type_of% @Wy∧type_of% @set_cons_zero.{0}∧type_of% @set_cons_succ.{0}∧type_of% @length_cons.{0}∧type_of% @length_nil.{0}∧type_of% @St.put.eq_1∧type_of% @Nat.zero_add∧type_of% @Nat.lt_irrefl∧type_of% @cons_append.{0}∧type_of% @nil_append.{0}:=⟨@H9,@Kf,@Ma,@Wy,@set_cons_zero.{0},@set_cons_succ.{0},@length_cons.{0},@length_nil.{0},@St.put.eq_1,@Nat.zero_add,@Nat.lt_irrefl,@cons_append.{0},@nil_append.{0}⟩
theorem cs:type_of% @Ro:=@Ro
theorem ws:type_of% @Rr:=@Rr
theorem wd:type_of% @Pt:=@Pt
theorem wu:type_of% @Pu:=@Pu
theorem dP {P:Program}{C:Ctx}{ops:Array Oper}{fr:List AV}{σ:St}{K:List AV→St→Prop}(pl:Cv)(n:Nat)(t:Option Tmp)(h0:ops.size=n∧(ops[0]?.bind fun o=>o.dst)=t)(h1:(decide (Cl pl≤ops.size)&&Region.noSelect ops&&D6 C ops pl (Array.replicate ops.size false))=true)(h4:aPl P C ops pl [] fr σ K):E4 P C ops fr σ K:=by
 simp only[Bool.and_eq_true,decide_eq_true_eq]at h1
 exact⟨pl,h1.1.1,h1.1.2,h1.2,h4⟩
theorem dQ {P:Program}{C:Ctx}{ops:Array Oper}{fr:List AV}{σ:St}{K:List AV→St→Prop}(pl:Cv)(n:Nat)(t:Option Tmp)(h4:aPl P C ops pl [] fr σ K)(h0:ops.size=n∧(ops[0]?.bind fun o=>o.dst)=t:=by decide)(h1:(decide (Cl pl≤ops.size)&&Region.noSelect ops&&D6 C ops pl (Array.replicate ops.size false))=true:=by kernel_rfl):E4 P C ops fr σ K:=dP pl n t h0 h1 h4
theorem gS {σ:St}{t t':Nat}{x:Option Ob}(h:(t=t')=False):(σ.set t x)[t']? =σ[t']? :=List.getElem?_set_ne (fun e=>by simp[e]at h)
theorem gE {σ:St}{t:Nat}{x:Option Ob}(h:(t<σ.length)=True):(σ.set t x)[t]? =some x:=by
 have:t<σ.length:=of_eq_true h
 simp[this]
theorem gA {σ τ:St}{t:Nat}(h:(t<σ.length)=True):(σ++τ)[t]? =σ[t]? :=by
 have:t<σ.length:=of_eq_true h
 rw[List.getElem?_append_left this]
theorem gN' {σ τ:St}{x:Option Ob}{n:Nat}(h:(n=σ.length)=True):(σ++x::τ)[n]? =some x:=by
 have:n=σ.length:=of_eq_true h
 subst this;simp
theorem Ac {σ:St}{t:Nat}{x:Option Ob}(h:σ[t]? =some x):t<σ.length:=(List.getElem?_eq_some_iff.1 h).1
theorem Ub {σ:St}{t:Nat}{x:Option Ob}(h:σ[t]? =some x):σ.set t x=σ:=by
 apply List.ext_getElem?
 intro i
 rw[List.getElem?_set]
 split
 ·rename_i e;subst e;rw[if_pos (Ac h),h]
 ·rfl
theorem Jd {σ:St}{ob:Ob}{n:Nat}(h:n=σ.length):σ.put n ob=σ++[some ob]:=by
 subst h;unfold St.put;rw[if_neg (Nat.lt_irrefl _)]
theorem Ahh {σ τ:St}{t:Nat}{x:Option Ob}(h:(t<σ.length)=True):(σ++τ).set t x=σ.set t x++τ:=by
 have:t<σ.length:=of_eq_true h
 rw[List.set_append_left _ _ this]
theorem A0 {σ:St}{t t':Nat}{x y:Option Ob}(h:σ[t]? =some x)(h':σ[t']? =some y)(hn:x≠y):t≠t':=fun e=>by
 subst e;rw[h]at h';exact hn (by simpa using h')
theorem hA {n m k:Nat}(h:(n<m)=True):(n<m+k)=True:=eq_true (Nat.lt_of_lt_of_le (of_eq_true h) (Nat.le_add_right _ _))
theorem hB {n k:Nat}:(n<n+k)=(0<k):=propext ⟨fun h=>by omega,fun h=>by omega⟩
theorem hC {n m k:Nat}:(n+k<n+m)=(k<m):=propext ⟨fun h=>by omega,fun h=>by omega⟩
theorem hD {d n k:Nat}(h:(d<n)=True):(d=n+k)=False:=eq_false (by have:=of_eq_true h;omega)
theorem hD1 {d n k:Nat}(h:(d<n)=True):(n+k=d)=False:=eq_false (by have:=of_eq_true h;omega)
theorem hD2 {d n:Nat}(h:(d<n)=True):(d=n)=False:=eq_false (by have:=of_eq_true h;omega)
theorem hD3 {d n:Nat}(h:(d<n)=True):(n=d)=False:=eq_false (by have:=of_eq_true h;omega)
theorem hE {n k:Nat}:(n=n+k)=(0=k):=propext ⟨fun h=>by omega,fun h=>by omega⟩
theorem hE1 {n k:Nat}:(n+k=n)=(k=0):=propext ⟨fun h=>by omega,fun h=>by omega⟩
theorem hE2 {n k m:Nat}:(n+k=n+m)=(k=m):=propext ⟨fun h=>by omega,fun h=>by omega⟩
theorem gP {σ:St}{ob:Ob}{n:Nat}(h:(n=σ.length)=True):σ.put n ob=σ++[some ob]:=Jd (of_eq_true h)
theorem gQ {σ:St}{x y:Option Ob}{n:Nat}(h:(n=σ.length)=True):(σ++[x]).set n y=σ++[y]:=by
 have:n=σ.length:=of_eq_true h
 subst this;simp
theorem gB {σ:St}{t:Nat}{x:Option Ob}(h:(σ[t]? =some x)=True):σ.set t x=σ:=Ub (of_eq_true h)
theorem gT {σ τ:St}{n:Nat}(h:(σ.length≤n)=True):(σ++τ)[n]? =τ[n - σ.length]? :=List.getElem?_append_right (of_eq_true h)
theorem hF {n k m:Nat}:(n+k) - (n+m)=k - m:=by omega
theorem hF1 {n k:Nat}:(n+k) - n=k:=by omega
theorem hG {n k m:Nat}:(n+k≤n+m)=(k≤m):=propext ⟨fun h=>by omega,fun h=>by omega⟩
theorem hG1 {n m:Nat}:(n≤n+m)=True:=eq_true (by omega)
theorem wHt:(type_of% @gT)∧(type_of% @hF)∧(type_of% @hF1)∧(type_of% @hG)∧(type_of% @hG1):=⟨@gT,@hF,@hF1,@hG,@hG1⟩
theorem wH:(type_of% @Nat.add_assoc)∧(type_of% @gB)∧(type_of% @List.set_set.{0})∧(type_of% @gQ)∧(type_of% @Ahh)∧(type_of% @gS)∧(type_of% @gE)∧(type_of% @gA)∧(type_of% @gN')∧(type_of% @gP)∧(type_of% @hA)∧(type_of% @hB)∧(type_of% @hC)∧(type_of% @hD)∧(type_of% @hD1)∧(type_of% @hD2)∧(type_of% @hD3)∧(type_of% @hE)∧(type_of% @hE1)∧(type_of% @hE2)∧(type_of% @List.length_set.{0})∧(type_of% @List.length_append.{0}):=
 ⟨@Nat.add_assoc,@gB,@List.set_set.{0},@gQ,@Ahh,@gS,@gE,@gA,@gN',@gP,@hA,@hB,@hC,@hD,@hD1,@hD2,@hD3,@hE,@hE1,@hE2,@List.length_set.{0},@List.length_append.{0}⟩
theorem nf {a b:Nat}(h:a≠b):(a=b)=False:=eq_false h
theorem lf {a b:Nat}(h:a<b):(a<b)=True:=eq_true h
structure Fr (σ σ':St)(F F':Nat→Prop):Prop where
 len:σ.length≤σ'.length
 keep:∀ t,t<σ.length→¬ F t→σ'[t]? =σ[t]?
 own:∀ t,F' t→F t∨σ.length≤t
theorem Fr.refl (σ:St)(F:Nat→Prop):Fr σ σ F F:=⟨Nat.le_refl _,fun _ _ _=>rfl,fun _ h=>.inl h⟩
theorem Fr.trans {σ σ' σ'':St}{F F' F'':Nat→Prop}(h:Fr σ σ' F F')(k:Fr σ' σ'' F' F''):Fr σ σ'' F F'':=
 ⟨Nat.le_trans h.len k.len,fun t ht hn=>(k.keep t (Nat.lt_of_lt_of_le ht h.len) (fun hF=>(h.own t hF).elim hn (fun hl=>Nat.lt_irrefl _ (Nat.lt_of_lt_of_le ht hl)))).trans (h.keep t ht hn),fun t ht=>(k.own t ht).elim (h.own t) fun hl=>.inr (Nat.le_trans h.len hl)⟩
theorem Fr.more {σ σ':St}{F F' G:Nat→Prop}(h:Fr σ σ' F F')(hG:∀ t,F t→G t):Fr σ σ' G fun t=>F' t∨(G t∧¬ F t):=
 ⟨h.len,fun t ht hn=>h.keep t ht fun hF=>hn (hG t hF),fun t ht=>ht.elim (fun hF=>(h.own t hF).imp (hG t) id) fun hg=>.inl hg.1⟩
theorem Fr.get {σ σ':St}{F F':Nat→Prop}(h:Fr σ σ' F F'){t:Nat}{x:Option Ob}(ht:σ[t]? =some x)(hn:¬ F t):σ'[t]? =some x:=(h.keep t (Ac ht) hn).trans ht
theorem Fr.ofSet {σ:St}{t:Nat}{x:Option Ob}{F:Nat→Prop}(h:F t):Fr σ (σ.set t x) F F:=
 ⟨by simp,fun s _ hn=>List.getElem?_set_ne fun e=>by subst e;exact hn h,fun _ h=>.inl h⟩
theorem Fr.ofApp {σ τ:St}{F F':Nat→Prop}(h:∀ t,F' t→F t∨σ.length≤t):Fr σ (σ++τ) F F':=
 ⟨by simp,fun s hs _=>List.getElem?_append_left hs,h⟩
theorem Fr.none {σ σ':St}{F:Nat→Prop}(h:Fr σ σ' (fun _=>False) (fun _=>False)):Fr σ σ' F F:=⟨h.len,fun t ht _=>h.keep t ht id,fun t ht=>.inl ht⟩
theorem Fr.set {σ σ':St}{F F':Nat→Prop}(h:Fr σ σ' F F'){t:Nat}(x:Option Ob)(ht:F t):Fr σ (σ'.set t x) F F':=
 ⟨by simpa using h.len,fun s hs hn=>by rw[List.getElem?_set_ne (fun e=>by subst e;exact hn ht)];exact h.keep s hs hn,h.own⟩
theorem Fr.app {σ σ':St}{F F':Nat→Prop}(h:Fr σ σ' F F')(τ:St):Fr σ (σ'++τ) F F':=
 ⟨by have:=h.len;simp;omega,fun s hs hn=>by rw[List.getElem?_append_left (Nat.lt_of_lt_of_le hs h.len)];exact h.keep s hs hn,h.own⟩
theorem Fr.to {σ σ':St}{F F' G:Nat→Prop}(h:Fr σ σ' F F')(hG:∀ t,G t→F t∨σ.length≤t):Fr σ σ' F G:=⟨h.len,h.keep,hG⟩
theorem Aa.eq' {P:Program}{f:FuncId}{args:List AV}{σ s0:St}{a:AV}{R:AV→St→Prop}(h:Aa P f args σ fun r s=>s=s0∧r=a)(hk:R a s0):Aa P f args σ R:=h.mono fun r s e=>by
 obtain⟨rfl,rfl⟩:=e
 exact hk
def Ap (σ σ':St):Prop:=∃ τ,σ'=σ++τ
theorem Ap.fr {σ σ':St}(h:Ap σ σ'){F:Nat→Prop}:Fr σ σ' F F:=by
 obtain⟨τ,rfl⟩:=h
 exact Fr.ofApp fun t h=>.inl h
theorem Ap.refl (σ:St):Ap σ σ:=⟨[],by simp⟩
theorem Ap.app (σ τ:St):Ap σ (σ++τ):=⟨τ,rfl⟩
theorem Ap.trans {σ σ' σ'':St}(h:Ap σ σ')(k:Ap σ' σ''):Ap σ σ'':=by
 obtain⟨τ,rfl⟩:=h;obtain⟨τ',rfl⟩:=k
 exact⟨τ++τ',by simp⟩
theorem Ap.set {σ s:St}(h:Ap σ s){t:Nat}(ht:σ.length≤t)(x:Option Ob):Ap σ (s.set t x):=by
 obtain⟨τ,rfl⟩:=h
 exact⟨τ.set (t - σ.length) x,by rw[List.set_append_right _ _ ht]⟩
theorem Ap.more {σ s:St}(h:Ap σ s)(τ:St):Ap σ (s++τ):=h.trans (Ap.app _ _)
theorem Ap.len {σ s:St}(h:Ap σ s):σ.length≤s.length:=by obtain⟨τ,rfl⟩:=h;simp
theorem Ap.get {σ s:St}(h:Ap σ s){t:Nat}{x:Option Ob}(ht:σ[t]? =some x):s[t]? =some x:=by obtain⟨τ,rfl⟩:=h;rw[List.getElem?_append_left (Ac ht)];exact ht
theorem Sc {C:Ctx}{fr:List AV}{σ:St}{rs:List ResultVar}{n:Nat}{R:AV→St→Prop}{e:Exit}(h:match A1 C rs fr σ with|some r=>R r σ|none=>False)(hn:n≤σ.length)(he:e= .ret∨e= .normal:=by first|exact .inl rfl|exact .inr rfl):retA C rs n R e fr σ:=by
 split at h
 ·rename_i r hr
  exact⟨he,r,r,σ,hr,.inl ⟨rfl,rfl⟩,hn,h⟩
 ·exact h.elim
theorem rtS {C:Ctx}{fr:List AV}{σ:St}{rs:List ResultVar}{n:Nat}{R:AV→St→Prop}{e:Exit}(h:match A1 C rs fr σ with|some r=>R r σ|none=>False)(hn:n≤σ.length:=by first|exact Nat.le_refl _|(simp only[_root_.List.length_set,_root_.List.length_append];omega)|omega)(he:e= .ret∨e= .normal:=by first|exact .inl rfl|exact .inr rfl):retA C rs n R e fr σ:=Sc h hn he
def fS (fr:List AV)(D:List (Nat×AV))(Js:List Nat)(J:Nat→AV):List AV:=F8 fr (D++Js.map fun t=>(t,J t))
def Abm {X:Type}(fr:List AV)(D:X→List (Nat×AV))(Js:List Nat)(m:X→Nat)(I:X→St→Prop)(x:X)(Q:Exit→List AV→St→Prop)(e:Exit)(fr':List AV)(σ':St):Prop:=match e with
 | .normal=>∃ x',m x'<m x∧I x' σ'∧fr'=fS fr (D x') Js fun t=>fr'.getD t .any
 |e=>Q e fr' σ'
section
variable {P:Program} {C:Ctx} {fr fr':List AV} {σ σ':St} {Q:Exit→List AV→St→Prop} {c:Code} {X:Type} {D:X→List (Nat×AV)} {Js:List Nat} {m:X→Nat} {I:X→St→Prop} {x:X}
theorem Kr:Abm fr D Js m I x Q .normal fr' σ'=∃ x',m x'<m x∧I x' σ'∧fr'=fS fr (D x') Js fun t=>fr'.getD t .any:=nr rfl
theorem Pv {id:Nat}:Abm fr D Js m I x Q (.exit id) fr' σ'=Q (.exit id) fr' σ':=nr rfl
theorem Sd:Abm fr D Js m I x Q .ret fr' σ'=Q .ret fr' σ':=nr rfl
theorem As (m:X→Nat)(D:X→List (Nat×AV))(Js:List Nat)(I:X→St→Prop)(x0:X)(hf:fr=fS fr (D x0) Js fun t=>fr.getD t .any)(h0:I x0 σ)(hl:∀ x s,I x s→σ.length≤s.length)
 (h3:∀ x J s,I x s→AWp P C (E4 P C) c (fS fr (D x) Js J) s (Abm fr D Js m I x Q)):AWp P C (E4 P C) (.loop c) fr σ Q:=by
 refine O4 (X:={ q:X×(Nat→AV)×St // I q.1 q.2.2 }) (fun q=>(fS fr (D q.1.1) Js q.1.2.1,q.1.2.2)) (fun q=>m q.1.1) ⟨(x0,fun t=>fr.getD t .any,σ),h0⟩ (fun q=>hl _ _ q.2) (.inl ⟨hf.symm,rfl⟩) ?_
 rintro⟨⟨x,J,s⟩,hI⟩
 refine Fh (fun e f s' h=> ?_) (h3 x J s hI)
 cases e with
 |normal=>
  obtain⟨x',h1,h2,h4⟩:=h
  exact⟨⟨(x',fun t=>f.getD t .any,s'),h2⟩,h1,.inl ⟨h4.symm,rfl⟩⟩
 |_=>exact h
end
theorem wHe:(type_of% @length_cons.{0})∧(type_of% @length_nil.{0})∧(type_of% @Nat.zero_add)∧(type_of% @Ad.eq_1)∧(type_of% @Az.eq_1):=⟨@length_cons.{0},@length_nil.{0},@Nat.zero_add,@Ad.eq_1,@Az.eq_1⟩
theorem cz:((0:Nat):Int)=0:=nr rfl
theorem wHf:(type_of% @List.getD_cons_zero.{0})∧(type_of% @List.getD_cons_succ.{0})∧(type_of% @Ad.eq_1)∧(type_of% @Az.eq_1)∧(type_of% @cz):=⟨@List.getD_cons_zero.{0},@List.getD_cons_succ.{0},@Ad.eq_1,@Az.eq_1,@cz⟩
theorem wHl:(type_of% @Pv)∧(type_of% @Sd)∧(type_of% @Kr)∧(type_of% @fS.eq_1)∧(type_of% @cons_append.{0})∧(type_of% @nil_append.{0})∧(type_of% @map_cons.{0,0})∧(type_of% @map_nil.{0,0})∧(type_of% @H9)∧(type_of% @Kf)∧(type_of% @set_cons_zero.{0})∧(type_of% @set_cons_succ.{0}):=
 ⟨@Pv,@Sd,@Kr,@fS.eq_1,@cons_append.{0},@nil_append.{0},@map_cons.{0,0},@map_nil.{0,0},@H9,@Kf,@set_cons_zero.{0},@set_cons_succ.{0}⟩
theorem Cx {l:List UInt8}{n:Nat}(h:l.length=n):(Ar l).length=n:=by simp[Ar,h]
theorem Ks {l:List UInt8}{n:Nat}(h:l.length=n):List.take n (Ar l)=Ar l:=by rw[← Cx h,List.take_length]
theorem Ahi:zT65.length=65:=by have:=Ak0;simpa [Cq]using this
theorem Zp:Pk.length=513:=by have:=Ag6;simpa [Cq]using this
theorem Ahj:Q5.length=516:=by have:=Ag7;simpa [Cq]using this
theorem Ahk {x:AV}:List.drop 65 (x::List.drop 1 (List.map (fun x=>AV.p (PV.v x)) zT65))=[]:=drop_eq_nil_of_le (by simp[Ahi])
theorem Zq {x:AV}:List.drop 513 (x::List.drop 1 (List.map (fun x=>AV.p (PV.v x)) Pk))=[]:=drop_eq_nil_of_le (by simp[Zp])
theorem Zr {x:AV}:List.drop 513 (x::List.drop 1 (List.map (fun x=>AV.p (PV.v x)) Q5))=[.p (.v (.bool false)),.p (.v (.int .i64 0)),.p (.v (.int .i64 0))]:=by
 have:Q5=[.int .i64 0]++(zB 512++[.bool false,.int .i64 0,.int .i64 0]):=by simp only[Q5,List.append_assoc,cons_append,nil_append]
 rw[this]
 simp only[List.map_append,map_cons,map_nil,cons_append,nil_append,drop_succ_cons,List.drop_zero]
 rw[List.drop_left' (by simp only[zB,List.length_map,List.length_replicate])]
theorem An3:List.drop 64 (List.drop 1 (List.map (fun x=>AV.p (PV.v x)) zT65))=[]:=by have:=Ahk (x:=.any);simpa only[drop_succ_cons]using this
theorem Ahl:List.drop 512 (List.drop 1 (List.map (fun x=>AV.p (PV.v x)) Pk))=[]:=by have:=Zq (x:=.any);simpa only[drop_succ_cons]using this
theorem Ahm:List.drop 512 (List.drop 1 (List.map (fun x=>AV.p (PV.v x)) Q5))=[.p (.v (.bool false)),.p (.v (.int .i64 0)),.p (.v (.int .i64 0))]:=by have:=Zr (x:=.any);simpa only[drop_succ_cons]using this
theorem W8 {l:List UInt8}{n:Nat}(h:l.length=n):List.drop n (Ar l)=[]:=drop_eq_nil_of_le (by simp[Cx h])
theorem Abn {x:AV}{l:List UInt8}(h:l.length=512):List.drop 513 (x::Ar l)=[]:=drop_eq_nil_of_le (by simp[Cx h])
theorem Hw {l:List UInt8}:List.map AV.p (List.map Bq l)=Ar l:=by simp[Ar]
theorem Kt:∀ l:List UInt8,Vi (Ar l)=some (l.map Bq)
 |[]=>rfl
 |b::l=>by
  have:=Kt l
  simp only[Ar]at this
  simp only[Ar,map_cons,Vi,toP,this]
theorem Uc {x:PV}{l:List UInt8}:Vi (.p x::Ar l)=some (x::l.map Bq):=by simp only[Vi,toP,Kt]
def frR (n:Int)(l:List UInt8)(f:Bool)(u a:Int):List AV:=.p (.v (.int .i64 n))::(Ar l++[.p (.v (.bool f)),.p (.v (.int .i64 u)),.p (.v (.int .i64 a))])
section
variable {n u a:Int} {l:List UInt8} {f:Bool} {x:AV}
theorem Ahn (h:l.length=512):(frR n l f u a).length=516:=by simp[frR,Cx h]
theorem Au4:(frR n l f u a)[0]? =some (.p (.v (.int .i64 n))):=rfl
theorem Aho (h:l.length=512):(frR n l f u a)[513]? =some (.p (.v (.bool f))):=by
 simp only[frR,List.getElem?_cons_succ]
 rw[List.getElem?_append_right (by rw[Cx h];omega),Cx h];rfl
theorem Ahp (h:l.length=512):(frR n l f u a)[514]? =some (.p (.v (.int .i64 u))):=by
 simp only[frR,List.getElem?_cons_succ]
 rw[List.getElem?_append_right (by rw[Cx h];omega),Cx h];rfl
theorem Ahq (h:l.length=512):(frR n l f u a)[515]? =some (.p (.v (.int .i64 a))):=by
 simp only[frR,List.getElem?_cons_succ]
 rw[List.getElem?_append_right (by rw[Cx h];omega),Cx h];rfl
theorem Au5 (h:l.length=512):List.take 512 (List.drop 1 (frR n l f u a))=Ar l:=by
 simp only[frR,drop_succ_cons,List.drop_zero]
 exact List.take_left' (Cx h)
theorem Apj (h:l.length=512){i:Nat}(hi:i<8):List.take 64 (List.drop (1+64*i) (frR n l f u a))=Ar ((l.drop (64*i)).take 64):=by
 rw[show 1+64*i=64*i+1 by omega]
 simp only[frR,drop_succ_cons]
 rw[List.drop_append_of_le_length (by rw[Cx h];omega),List.take_append_of_le_length (by simp[Cx h];omega)]
 simp only[Ar,List.map_take,List.map_drop]
theorem An4 {l':List UInt8}(h:l.length=512)(h':l'.length=512):List.take 1 (frR n l f u a)++Ar l'++List.drop 513 (frR n l f u a)=frR n l' f u a:=by
 simp only[frR,take_succ_cons,take_zero,drop_succ_cons]
 rw[List.drop_left' (Cx h)]
 simp
theorem Abo {f':Bool}(h:l.length=512):List.take 513 (frR n l f u a)++[.p (.v (.bool f'))]++List.drop 514 (frR n l f u a)=frR n l f' u a:=by
 simp only[frR,take_succ_cons,drop_succ_cons]
 rw[List.take_left' (Cx h),show (513:Nat)=(Ar l).length+1 by rw[Cx h],drop_append]
 simp
theorem Abp {u':Int}(h:l.length=512):List.take 514 (frR n l f u a)++[.p (.v (.int .i64 u'))]++List.drop 515 (frR n l f u a)=frR n l f u' a:=by
 simp only[frR,take_succ_cons,drop_succ_cons]
 rw[show (513:Nat)=(Ar l).length+1 by rw[Cx h],show (514:Nat)=(Ar l).length+2 by rw[Cx h],drop_append,List.take_append]
 simp[List.take_of_length_le,drop_eq_nil_of_le]
theorem Abq {a':Int}(h:l.length=512):List.take 515 (frR n l f u a)++[.p (.v (.int .i64 a'))]++List.drop 516 (frR n l f u a)=frR n l f u a':=by
 simp only[frR,take_succ_cons,drop_succ_cons]
 rw[show (514:Nat)=(Ar l).length+2 by rw[Cx h],show (515:Nat)=(Ar l).length+3 by rw[Cx h],drop_append,List.take_append]
 simp[List.take_of_length_le,drop_eq_nil_of_le]
theorem An5:AV.p (.v (.int .i64 n))::(Ar l++[.p (.v (.bool f)),.p (.v (.int .i64 u)),.p (.v (.int .i64 a))])=frR n l f u a:=rfl
end
theorem wFr:(type_of% @Ahn)∧(type_of% @Au4)∧(type_of% @Aho)∧(type_of% @Ahp)∧(type_of% @Ahq)∧(type_of% @Au5)∧(type_of% @An4)∧(type_of% @Abo)∧(type_of% @Abp)∧(type_of% @Abq)∧(type_of% @An5):=
 ⟨@Ahn,@Au4,@Aho,@Ahp,@Ahq,@Au5,@An4,@Abo,@Abp,@Abq,@An5⟩
theorem wZt:(type_of% @Ks)∧(type_of% @Hw)∧(type_of% @An3)∧(type_of% @Ahl)∧(type_of% @Ahm)∧(type_of% @W8)∧(type_of% @Ahi)∧(type_of% @Zp)∧(type_of% @Ahj)∧(type_of% @Ahk)∧(type_of% @Zq)∧(type_of% @Zr)∧(type_of% @Abn)∧(type_of% @Uc)∧(type_of% @Kt)∧(type_of% @take_succ_cons.{0})∧(type_of% @take_zero.{0})∧(type_of% @List.length_drop.{0}):=
 ⟨@Ks,@Hw,@An3,@Ahl,@Ahm,@W8,@Ahi,@Zp,@Ahj,@Ahk,@Zq,@Zr,@Abn,@Uc,@Kt,@take_succ_cons.{0},@take_zero.{0},@List.length_drop.{0}⟩
end Go.Proofs.YtpoigihfeehehaaGreatDoor
