/- Bits in bytes; the first page. Batches: Alloc, Free. -/
import Derived.Test.YtpoigihfeehehaaGreatDoorM29
set_option linter.all false
set_option maxRecDepth 100000
set_option maxHeartbeats 32000000
namespace Go.Proofs.YtpoigihfeehehaaGreatDoor
open Go.RowKit
def tb (c:UInt8)(k:Nat):Bool:=c.toBitVec.getLsbD k
theorem Av3 (c:UInt8){k j:Nat}(hk:k<8)(hj:j<8)(v:Bool):tb (mkU c k v) j=if j=k then v else tb c j:=by
 have h1:∀ x:BitVec 8,(UInt8.ofBitVec x).toBitVec=x:=fun _=>rfl
 have h2:(1#8 <<< k).getLsbD j=decide (j=k):=by
  rw[BitVec.getLsbD_shiftLeft]
  by_cases h:j=k
  ·subst h;simp[hj]
  ·by_cases h3:j<k
   ·simp[h,h3]
   ·have:¬ j - k=0:=by omega
    simp[h,h3,hj,BitVec.getLsbD_one,this]
 cases v
 ·simp only[mkU,clrU,bitU,tb,h1,XB,if_false,BitVec.getLsbD_and,BitVec.getLsbD_not,h2,hj,decide_true,Bool.true_and]
  by_cases h:j=k<;>simp[h]
 ·simp only[mkU,setU,clrU,bitU,tb,h1,if_true,BitVec.getLsbD_and,BitVec.getLsbD_or,BitVec.getLsbD_not,h2,hj,decide_true,Bool.true_and]
  by_cases h:j=k<;>simp[h]
def bitL (l:List UInt8)(n:Nat):Bool:=tb (l.getD (n / 8) 0) (n % 8)
theorem Aom {l:List UInt8}{n m:Nat}(hn:n<8*l.length)(v:Bool):bitL (Cn l n v) m=if m=n then v else bitL l m:=by
 unfold bitL Cn
 have hl:n / 8<l.length:=by omega
 by_cases h:m / 8=n / 8
 ·rw[h]
  have:(l.set (n / 8) (mkU (l.getD (n / 8) 0) (n % 8) v)).getD (n / 8) 0=mkU (l.getD (n / 8) 0) (n % 8) v:=by simp[QM,hl]
  rw[this,Av3 _ (WW _ (by omega)) (WW _ (by omega))]
  by_cases h2:m=n
  ·subst h2;simp
  ·have:¬ m % 8=n % 8:=fun e=>h2 (by omega)
   rw[if_neg this,if_neg h2]
 ·have:¬ m=n:=fun e=>h (by rw[e])
  rw[if_neg this]
  have h3:¬ n / 8=m / 8:=fun e=>h e.symm
  simp[QM,h3]
theorem Qb (c:UInt8){j:Nat}(hj:j<8):tb (c ||| 1) j=(tb c j||decide (j=0)):=by
 have:(c ||| 1).toBitVec=c.toBitVec ||| 1#8:=rfl
 simp only[tb,this,BitVec.getLsbD_or,BitVec.getLsbD_one]
 by_cases h:j=0<;>simp[h]
theorem Aiv {c:UInt8}(h:tb c 0=true):c ||| 1=c:=by
 have:(c ||| 1).toBitVec=c.toBitVec:=by
  apply BitVec.eq_of_getLsbD_eq
  intro i hi
  have:=Qb c hi
  simp only[tb]at this h
  rw[this]
  by_cases h0:i=0
  ·subst h0;simp[h]
  ·simp[h0]
 exact UInt8.toBitVec_inj.1 this
structure Tk (pg:List UInt8)(np:Nat)(T:Nat→Bool):Prop where
 len:pg.length=512
 hk:∀ k,k≤(Au pg).length→(Jc pg k).length≤1000000
 raw:∃ c l,rawB pg ((np+7) / 8)=c::l∧∀ n,n<np→bitL ((c ||| 1)::l) n=T n
theorem Alq {pg bits:List UInt8}(h:Au pg=[some bits]):Z9 pg=bits∧∀ k,k≤(Au pg).length→(Jc pg k).length≤bits.length:=by
 have h0:Ip pg (0:Nat)=some bits:=by simp[Ip,h]
 have e1:Jc pg 1=bits:=by simp only[Jc,h0];rfl
 refine⟨by unfold Z9;rw[h];exact e1,fun k hk=> ?_⟩
 rw[h]at hk
 rcases k with _|_|k
 ·simp[Jc]
 ·rw[e1];exact QH _
 ·simp at hk
theorem Aon {bits:List UInt8}(h:bits.length≤400):Pg (mkP bits) 255 [some bits]:=by
 have hp:=Pg.new 255
 have hc:B9 (Gi [] (C8 []) bits)≤496:=by
  have:C8 []=0:=rfl
  rw[this]
  simp[Gi,B9,lens,Cs];omega
 exact (hp.add bits h hc).2.2
theorem Aoo {np:Nat}(h:1≤np):Tk (Fg 0) np fun n=>n==0:=by
 have hp:=Pg.new 0
 have hh:Z9 (Fg 0)=[]:=by unfold Z9;rw[hp.slots];rfl
 refine⟨hp.len,fun k hk=> ?_,0,List.replicate ((np+7) / 8 - 1) 0,?_,fun n hn=> ?_⟩
 ·rw[hp.slots]at hk;simp at hk;subst hk;simp[Jc]
 ·unfold rawB
  rw[hh]
  obtain⟨q,hq⟩:∃ q,(np+7) / 8=q+1:=⟨(np+7) / 8 - 1,by omega⟩
  rw[hq]
  simp[List.replicate_succ]
 ·unfold bitL
  by_cases hd:n / 8=0
  ·rw[hd]
   simp only[WE]
   rw[Qb _ (WW _ (by omega))]
   have:tb 0 (n % 8)=false:=by simp[tb]
   rw[this]
   by_cases h0:n=0
   ·subst h0;rfl
   ·have:¬ n % 8=0:=by omega
    simp[this,h0]
  ·have h0:¬ n=0:=fun e=>by subst e;simp at hd
   obtain⟨q,hq⟩:∃ q,n / 8=q+1:=⟨n / 8 - 1,by omega⟩
   rw[hq,WF]
   have:(List.replicate ((np+7) / 8 - 1) (0:UInt8)).getD q 0=0:=by
    rw[QM,WU]
    split<;>rfl
   rw[this]
   simp[tb,h0]
theorem Aqn {pg:List UInt8}{np n:Nat}{T:Nat→Bool}{c:UInt8}{l:List UInt8}(h:rawB pg ((np+7) / 8)=c::l)(hT:∀ n,n<np→bitL ((c ||| 1)::l) n=T n)(hn1:1≤n)(hn:n<np)(hnp:np≤3200)(v:Bool):
 Tk (mkP (Cn ((c ||| 1)::l) n v)) np fun m=>if m=n then v else T m:=by
 have hlen:((c ||| 1)::l).length=(np+7) / 8:=by
  have:=Ug pg ((np+7) / 8)
  rw[h]at this
  simpa using this
 have hml:(Cn ((c ||| 1)::l) n v).length=(np+7) / 8:=by simp only[Cn,ZW];exact hlen
 have hp:=Aon (bits:=Cn ((c ||| 1)::l) n v) (by omega)
 obtain⟨h1,h2⟩:=Alq hp.slots
 have h0:bitL (Cn ((c ||| 1)::l) n v) 0=true:=by
  rw[Aom (by omega),if_neg (by omega)]
  unfold bitL
  show tb (c ||| 1) 0=true
  rw[Qb _ (by omega)];simp
 obtain⟨c',l',hc'⟩:∃ c' l',Cn ((c ||| 1)::l) n v=c'::l':=by
  cases hq:Cn ((c ||| 1)::l) n v with
  |nil=>rw[hq]at hml;simp at hml;omega
  |cons a b=>exact⟨a,b,rfl⟩
 have hone:c' ||| 1=c':=Aiv (by
  rw[hc']at h0
  exact h0)
 refine⟨hp.len,fun k hk=>ZO (h2 k hk) (by omega),c',l',?_,fun m hm=> ?_⟩
 ·unfold rawB
  rw[h1,ZF (by omega),hml,Nat.sub_self]
  simpa using hc'
 ·rw[hone,←hc',Aom (by omega),hT m hm]
theorem Alr {l:List UInt8}(h:l≠C3):pgz l=l:=if_neg h
theorem Av4 {bits:List UInt8}(h:bits.length≤400):pgz (mkP bits)=mkP bits:=Alr fun e=>by
 have:=(Aon h).kind
 rw[e]at this
 exact absurd this (by decide)
theorem Aqo (k:Int):pgz (Fg k)=Fg k:=by
 by_cases h:Fg k=C3
 ·have hk:=(Pg.new k).kind
  rw[h]at hk
  have:Eo C3=0:=by decide
  rw[this]at hk
  have e:Fg k=Fg 0:=by unfold Fg;rw[← hk];rfl
  unfold pgz
  rw[if_pos h,e]
 ·exact Alr h
theorem Als {l:List UInt8}(h:Au l≠[]):pgz l=l:=Alr fun e=>h (by rw[e];decide)
def tBg:=aa wX <| aa wbu <| aa T3 <| aa T4 <| aa T5 <| aa T28 <| aa T29 <| aa T38 <| aa T70 <| aa T98 Y1
def K2 (v:Nat→List UInt8)(ch:List (Nat×List UInt8))(n:Nat):List UInt8:=(lkM ch n).getD (v n)
def kbt (ch:List (Nat×List UInt8))(n:Nat):Nat:=if (lkM ch n).isSome then 0 else 1
theorem Aiw {σ:St}{b p n dd l kh:Nat}{B G:Nat→Prop}{ch:List (Nat×List UInt8)}{P:Ak}(h:Bv σ b p B ch)(hP:Cj σ p dd l kh G P)(hd:∀ t,B t→G t→False)(hn:n<P.pages)(hc:P.ct+1<18446744073709551616)(hw:P.dq+8≤1000000000000):
 Aa Tryz.prog 120 [.mp b 2 0 0,Ad .i64 (n:Nat)] σ fun r σ'=>r= .tup [A6 (K2 P.view ch n),Ad .i64 0]∧∃ G' P',Fr σ σ' G G'∧Cj σ' p dd l kh G' P'∧Kp P P' 0∧(kbt ch n=0→P'=P):=by
 cases hl:lkM ch n with
 |some pg=>
  refine (Aqh h hl).mono ?_
  rintro _ s ⟨ha,rfl⟩
  have e:kbt ch n=0:=by simp[kbt,hl]
  exact⟨by simp[K2,hl],G,P,ha.fr,hP.ap ha,Kp.refl P _,fun _=>rfl⟩
 |none=>
  refine (Aqi h hl hP hd hn hc hw).mono ?_
  rintro _ s ⟨rfl,G',P',h1,h2,h3⟩
  have e:kbt ch n=1:=by simp[kbt,hl]
  exact⟨by simp[K2,hl],G',P',h1,h2,h3,fun e'=>by omega⟩
theorem A1o {σ:St}{b p t n nb:Nat}{B:Nat→Prop}{ch:List (Nat×List UInt8)}{bits:List UInt8}{v:Bool}(h:Bv σ b p B ch)(ht:σ[t]? =some (some (.row 1 (Cy bits))))(hBt:¬ B t)(hnb:bits.length=nb)(hn:n<8*nb)(hnb1:nb≤400)(hch:ch.length+1≤100000):
 Aa Tryz.prog 114 [.mp b 2 0 0,.ms t 1 0 nb,Ad .i64 (n:Nat),Av v] σ fun r s=>r= .tup []∧∃ B',Fr σ s (fun q=>q=t∨B q) B'∧(∀ q,B' q→B q∨σ.length≤q)∧Bv s b p B' (Dq ch 0 (mkP (Cn bits n v))):=by
 refine Av2 ht hnb hn hnb1 ?_
 have hb':=h.same (s:=σ.set t (some (.row 1 (Cy (Cn bits n v))))) fun q hq=>QO fun e=>hBt (by subst e;exact hq)
 refine (Z8 (n:=0) hb' (mkP (Cn bits n v)) (D8 _ _) hch).mono ?_
 rintro _ s ⟨rfl,B',hF,hB⟩
 have hF0:Fr σ (σ.set t (some (.row 1 (Cy (Cn bits n v))))) (fun q=>q=t∨B q) (fun q=>q=t∨B q):=Fr.ofSet (.inl rfl)
 have hF1:=hF0.trans (hF.sub (G:=fun q=>q=t∨B q) (G':=B') (fun q hq=>.inr hq) fun q hq=>(hF.own q hq).imp .inr id)
 exact⟨rfl,B',hF1,fun q hq=>(hF.own q hq).imp id fun e=>by simpa using e,hB⟩
theorem Alt (d:UInt8){k:Nat}(hk:k<8):(IntKind.u8.wrap ((BitVec.ofInt IntKind.u8.bits ((d.toNat:Int).fdiv (2 ^ min k IntKind.u8.bits)) &&& BitVec.ofInt IntKind.u8.bits 1).toNat:Int)==0)= !(tb d k):=by
 have hm:min k IntKind.u8.bits=k:=YO (by show k≤8;omega)
 have hd:=d.toNat_lt
 have e1:(d.toNat:Int).fdiv (2 ^ k)=((d.toNat >>> k:Nat):Int):=by
  rw[Nat.shiftRight_eq_div_pow,Int.natCast_ediv]
  have:((2 ^ k:Nat):Int)=(2:Int) ^ k:=by simp
  rw[this,XP]
  exact Int.pow_nonneg (by omega)
 have hx:d.toNat >>> k<256:=Nat.lt_of_le_of_lt (Nat.shiftRight_le _ _) hd
 rw[hm,e1]
 have e2:(BitVec.ofInt IntKind.u8.bits ((d.toNat >>> k:Nat):Int) &&& BitVec.ofInt IntKind.u8.bits 1).toNat=(d.toNat >>> k) &&& 1:=by
  rw[BitVec.toNat_and,WA,WK,YL (by exact hx)]
  rfl
 rw[e2]
 have e3:(d.toNat >>> k) &&& 1=(d.toNat >>> k) % 2:=Nat.and_one_is_mod _
 have e4:tb d k=decide ((d.toNat >>> k) % 2=1):=by
  show d.toNat.testBit k=_
  rw[Nat.testBit_eq_decide_div_mod_eq,Nat.shiftRight_eq_div_pow]
 rw[e3,e4,IntKind.wrap_u8]
 have:(d.toNat >>> k) % 2=0∨(d.toNat >>> k) % 2=1:=by omega
 rcases this with h|h<;>rw[h]<;>decide
theorem Alu (ch:List (Nat×List UInt8))(n:Nat)(pg:List UInt8):(Dq ch n pg).length≤ch.length+1:=by
 induction ch with
 |nil=>simp[Dq]
 |cons r ch ih=>simp only[Dq];split<;>simp<;>omega
theorem Av5 {σ s1 s s3 s4:St}{t:Nat}{B B3 B4 G G1:Nat→Prop}(hBl:∀ q,B q→q<σ.length)(hd:∀ q,B q→G q→False)(hG1:∀ q,G1 q→q<s1.length)(f1:Fr σ s1 G G1)(ha:Ap s1 s)(ht:s1.length≤t)(f3:Fr s s3 (fun q=>q=t∨B q) B3)(f3':∀ q,B3 q→B q∨s.length≤q)(f4:Fr s3 s4 B3 B4):
 (Fr σ s4 (fun q=>B q∨G q) fun q=>B4 q∨G1 q)∧(∀ q,B4 q→G1 q→False)∧(∀ q,G1 q→(q=t∨B q)→False)∧(∀ q,G1 q→B3 q→False):=by
 have l1:=f1.len
 have l2:=ha.len
 have l3:=f3.len
 have l4:=f4.len
 have hB1:∀ q,B q→G1 q→False:=fun q h1 h2=>(f1.own q h2).elim (hd q h1) fun e=>by have:=hBl q h1;omega
 have hB3:∀ q,G1 q→B3 q→False:=fun q h1 h2=>(f3' q h2).elim (fun e=>hB1 q e h1) fun e=>by have:=hG1 q h1;omega
 refine⟨⟨by omega,fun q hq hn=> ?_,fun q hq=> ?_⟩,fun q h1 h2=> ?_,fun q h1 h2=> ?_,hB3⟩
 ·rw[f4.keep q (by omega) (fun e=>(f3' q e).elim (fun e=>hn (.inl e)) fun e=>by omega),f3.keep q (by omega) (fun e=>e.elim (fun e=>by omega) fun e=>hn (.inl e)),(ha.fr (F:=fun _=>False)).keep q (by omega) id]
  exact f1.keep q hq fun e=>hn (.inr e)
 ·rcases hq with h|h
  ·rcases f4.own q h with h|h
   ·exact (f3' q h).imp .inl fun e=>by omega
   ·exact .inr (by omega)
  ·exact (f1.own q h).imp .inr id
 ·rcases f4.own q h1 with h|h
  ·exact hB3 q h2 h
  ·have:=hG1 q h2;omega
 ·rcases h2 with rfl|h2
  ·have:=hG1 _ h1;omega
  ·exact hB1 q h2 h1
theorem Av6 {σ:St}{b p dd l kh:Nat}{kind:Int}{B G:Nat→Prop}{ch:List (Nat×List UInt8)}{P:Ak}{T:Nat→Bool}(h:Bv σ b p B ch)(hP:Cj σ p dd l kh G P)(hd:∀ t,B t→G t→False)(hT:Tk (K2 P.view ch 0) P.pages T)(hnp:P.pages≤3200)(hnp1:1≤P.pages)(hT0:T 0=true)(hch:ch.length+2≤100000)(hc:P.ct+1<18446744073709551616)(hw:P.dq+8≤1000000000000):
 Aa Tryz.prog 69 [.mp b 2 0 0,Ad .i64 kind] σ fun r σ'=>∃ B' G' P' ch',Fr σ σ' (fun t=>B t∨G t) (fun t=>B' t∨G' t)∧Bv σ' b p B' ch'∧Cj σ' p dd l kh G' P'∧(∀ t,B' t→G' t→False)∧Kp P P' 0∧(kbt ch 0=0→P'=P)∧
  ((∃ n pg,1≤n∧n<P.pages∧T n=false∧r= .tup [Ad .i64 (n:Nat),Ad .i64 0]∧ch'=Dq (Dq ch 0 pg) n (Fg kind)∧pgz pg=pg∧Tk pg P.pages fun m=>if m=n then true else T m)∨((∀ n,n<P.pages→T n=true)∧r= .tup [Ad .i64 0,Ad .i64 20]∧ch'=ch)):=by
 have hread:=Aiw h hP hd (n:=0) (by omega) hc hw
 obtain⟨c,lb,hraw,hbits⟩:=hT.raw
 have hblt:=h.lt
 have htk:=Avy (b:=b) (p:=p) (np:=P.pages) hT.len (by omega) hnp1 (hT.hk _ (QH _)) hT.hk hread fun s hs=>by
  obtain⟨G',P',h1,h2,h3,h4⟩:=hs
  obtain⟨w,a,hb,hB⟩:=id h
  refine⟨h1.len,⟨a,h1.get hb.o fun e=>hd b ((hB b).2 (.inl rfl)) e⟩,dd,l,kh,G',P',h2,h3.pages⟩
 obtain⟨w,a,hb,hB⟩:=id h
 have h0:=hb.o
 have l0:=Ac h0
 have hBb:B b:=(hB b).2 (.inl rfl)
 refine Ab Am An Tryz.func69 (by kernel_rfl) rfl (nt:=46) (rs:=[.tmp 4,.tmp 5]) rfl rfl ?_
 repeat' simp only[↓wBA,tBg,seval]
 refine htk.mono ?_
 rintro _ s ⟨s1,t,⟨G1,P1,f1,a1,k1,kz⟩,ha,hst,rfl,c',lb',hraw',hrow⟩
 rw[hraw]at hraw'
 simp only[YI]at hraw'
 obtain⟨rfl,rfl⟩:=hraw'
 have hpg:=k1.pages
 have hP2:=a1.ap ha
 have hb1:=h.frame f1 fun t h1 h2=>hd t h1 h2
 have hb2:=hb1.ap ha
 have i0:=ha.get (f1.get h0 fun e=>hd b hBb e)
 have j0:=Ac i0
 have lt:=Ac hrow
 have hlen:=ZO f1.len ha.len
 have hG1:∀ t,B t→G1 t→False:=fun t h1 h2=>(f1.own t h2).elim (hd t h1) fun e=>by have:=hblt t h1;omega
 obtain⟨bits,hbd⟩:∃ bits,bits=(c ||| 1)::lb:=⟨_,rfl⟩
 rw[← hbd]at hrow hbits
 have hbl:bits.length=(P.pages+7) / 8:=by
  have:=Ug (K2 P.view ch 0) ((P.pages+7) / 8)
  rw[hraw]at this
  rw[hbd];simpa using this
 have hps:=Aio hP2
 rw[hpg]at hps
 repeat' first|simp only[↓wBA,tBg,seval,i0]|((with_reducible show Aa _ _ _ _ _);refine hps.eq ?_)
 refine Ar (X:={ i:Nat // i≤P.pages }) (fun i=>P.pages - i.1) (fun i=>[(24,Ad .i64 (i.1:Nat))]) [4,5,8,25,26,27,28,29,30,31,32,33,34,35,36,37,38,39,40,41,42,43,44,45,46,47] (fun i q=>q=s∧∀ m,m<i.1→T m=true) (⟨0,by omega⟩) ?_ ?_ ?_ ?_
 ·simp only[wHl,wHf]
 ·exact⟨rfl,fun m hm=>absurd hm (VF _)⟩
 ·rintro _ _ ⟨rfl,_⟩;first|exact hlen|exact QH _
 ·intro y J q hI
  simp only[wHl]
  obtain⟨i,hi⟩:=y
  obtain⟨rfl,hno⟩:=hI
  dsimp only at*
  by_cases hlt:i<P.pages
  ·have b1:=dT (i:=i) (n:=P.pages) (by omega)
   have hw1:=wI i (by omega)
   have w1:IntKind.i64.wrap ((i:Int).tdiv 8)=((i / 8:Nat):Int):=by
    rw[XQ (by omega),wrap_i64 (by omega) (by omega)];omega
   have w2:(i:Int).tmod 8=((i % 8:Nat):Int):=by rw[WR (by omega)];omega
   have w3:(((i % 8:Nat):Int)<0)=False:=eq_false (by omega)
   have b2:(((i / 8:Nat):Int)<(((P.pages+7) / 8:Nat):Int))=True:=eq_true (by omega)
   have b3:=nnI (i / 8)
   obtain⟨d,hdd⟩:∃ d,bits[i / 8]? =some d:=⟨bits[i / 8]'(by omega),by simp⟩
   have g1:(Cy bits)[i / 8]? =some [.p (.v (.int .u8 (d.toNat:Nat)))]:=by simp[Cy,hdd,Bo]
   have htest:=Alt d (k:=i % 8) (WW _ (by omega))
   have hTi:tb d (i % 8)=T i:=by
    rw[← hbits i hlt]
    simp[bitL,QM,hdd]
   rw[hTi]at htest
   cases hti:T i with
   |true=>
    rw[hti]at htest
    simp only[Bool.not_true]at htest
    repeat' simp only[↓wBA,tBg,seval,wHl,b1,w1,w2,w3,b2,b3,hrow,g1,htest,hw1]
    refine⟨⟨i+1,by omega⟩,by show P.pages - (i+1)<P.pages - i;omega,fun m hm=> ?_,?_⟩
    ·by_cases e:m=i
     ·subst e;exact hti
     ·exact hno m (by have:m<i+1:=hm;omega)
    ·simp only[]
   |false=>
    rw[hti]at htest
    simp only[Bool.not_false]at htest
    have hi1:1≤i:=by
     rcases Nat.eq_zero_or_pos i with e|e
     ·subst e;rw[hT0]at hti;cases hti
     ·exact e
    have htB:¬ B t:=fun e=>by have:=hblt t e;have:=f1.len;omega
    have hmk:=A1o (v:=true) hb2 hrow htB hbl (n:=i) (by omega) (by omega) (by omega)
    repeat' simp only[↓wBA,tBg,seval,wHl,b1,w1,w2,w3,b2,b3,hrow,g1,htest]
    refine hmk.mono ?_
    rintro _ s3 ⟨rfl,B3,f3,f3',hb3⟩
    repeat' first|simp only[↓wBA,tBg,seval,wHl]|((with_reducible show Aa _ _ _ _ _);refine (anew kind _).eq ?_)
    have hls:=Alu ch 0 (mkP (Cn bits i true))
    refine (Z8 hb3 (Fg kind) (Dc kind) (by omega)).mono ?_
    rintro _ s4 ⟨rfl,B4,f4,hb4⟩
    repeat' simp only[↓wBA,tBg,seval,wHl]
    obtain⟨c1,c2,c3,c4⟩:=Av5 hblt hd a1.lt f1 ha hst f3 f3' f4
    have hlen4:=c1.len
    all_goals refine rtS ?_
    all_goals simp only[wRe,tBg,seval]
    refine⟨B4,G1,P1,_,c1,hb4,(hP2.frame f3 c3).frame f4 c4,c2,k1,kz,.inl ⟨i,mkP (Cn bits i true),hi1,hlt,hti,rfl,rfl,Av4 (by simp[Cn,hbl];omega),?_⟩⟩
    have:=Aqn hraw (hbd▸hbits) hi1 hlt hnp true
    rw[← hbd]at this
    exact this
  ·have he:i=P.pages:=by omega
   subst he
   have b1:=dF (i:=P.pages) (n:=P.pages) (by omega)
   repeat' simp only[↓wBA,tBg,seval,wHl,b1]
   all_goals refine rtS ?_
   all_goals simp only[wRe,tBg,seval]
   have fa:=f1.trans ha.fr
   refine⟨B,G1,P1,ch,⟨fa.len,fun q hq hn=>fa.keep q hq fun e=>hn (.inr e),fun q hq=> ?_⟩,hb2,hP2,hG1,k1,kz,.inr ⟨hno,rfl⟩⟩
   rcases hq with h|h
   ·exact .inl (.inl h)
   ·exact (fa.own q h).imp .inr id
