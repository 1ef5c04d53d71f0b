/- A batch on a pool, told by what it sees. -/
import Derived.Test.YtpoigihfeehehaaGreatDoorM31
set_option linter.all false
set_option maxRecDepth 100000
set_option maxHeartbeats 32000000
namespace Go.Proofs.YtpoigihfeehehaaGreatDoor
open Go.RowKit
structure Bud (P:Ak)(k:Nat):Prop where
 c:P.ct+k<18446744073709551616
 w:P.dq+8*k≤1000000000000
 l:P.log.wait+k≤1000000000000
theorem Bud.mono {P:Ak}{k k':Nat}(h:Bud P k)(hk:k'≤k):Bud P k':=⟨by have:=h.c;omega,by have:=h.w;omega,by have:=h.l;omega⟩
theorem Bud.kp {P P':Ak}{k j m:Nat}(h:Bud P m)(hk:Kp P P' j)(hm:j+k≤m):Bud P' k:=⟨by have:=h.c;have:=hk.ctr;omega,by have:=h.w;have:=hk.dw;omega,by have:=h.l;have:=hk.wait;omega⟩
theorem Bud.kb {P P':Ak}{k j m:Nat}{v:Nat→List UInt8}(h:Bud P m)(hk:Kb P P' j v)(hm:j+k≤m):Bud P' k:=⟨by have:=h.c;have:=hk.ctr;omega,by have:=h.w;have:=hk.dw;omega,by have:=h.l;have:=hk.wait;omega⟩
def upV (v:Nat→List UInt8)(n:Nat)(pg:List UInt8)(m:Nat):List UInt8:=if m=n then pg else v m
structure BtIn (σ:St)(b p dd l kh:Nat)(B G:Nat→Prop)(ch:List (Nat×List UInt8))(P:Ak)(v:Nat→List UInt8):Prop where
 bt:Bv σ b p B ch
 pl:Cj σ p dd l kh G P
 dj:∀ t,B t→G t→False
 ok:∀ q∈ch,q.1<P.pages∧pgz q.2=q.2
 vw:∀ n,K2 P.view ch n=v n
def Bt (σ:St)(b p dd l kh:Nat)(U:Nat→Prop)(P:Ak)(v:Nat→List UInt8):Prop:=∃ B G ch,BtIn σ b p dd l kh B G ch P v∧∀ t,U t↔B t∨G t
section
variable {σ s:St} {b p dd l kh:Nat} {U:Nat→Prop} {P:Ak} {v:Nat→List UInt8}
theorem Bt.lt (h:Bt σ b p dd l kh U P v):∀ t,U t→t<σ.length:=by
 obtain⟨B,G,ch,h,hU⟩:=h
 exact fun t ht=>((hU t).1 ht).elim (h.bt.lt t) (h.pl.lt t)
theorem Bt.same (h:Bt σ b p dd l kh U P v)(hs:∀ t,U t→s[t]? =σ[t]?):Bt s b p dd l kh U P v:=by
 obtain⟨B,G,ch,h,hU⟩:=h
 exact⟨B,G,ch,⟨h.bt.same fun t ht=>hs t ((hU t).2 (.inl ht)),h.pl.same fun t ht=>hs t ((hU t).2 (.inr ht)),h.dj,h.ok,h.vw⟩,hU⟩
theorem Bt.ap (h:Bt σ b p dd l kh U P v)(ha:Ap σ s):Bt s b p dd l kh U P v:=h.same fun t ht=>by
 have:=h.lt t ht
 obtain⟨τ,rfl⟩:=ha
 exact QD this
theorem Bt.frame {K K':Nat→Prop}(h:Bt σ b p dd l kh U P v)(hf:Fr σ s K K')(hd:∀ t,U t→K t→False):Bt s b p dd l kh U P v:=h.same fun t ht=>hf.keep t (h.lt t ht) fun e=>hd t ht e
theorem Bt.set (h:Bt σ b p dd l kh U P v){t:Nat}(ht:¬ U t)(x:Option Ob):Bt (σ.set t x) b p dd l kh U P v:=h.same fun t' ht'=>QO fun e=>ht (by subst e;exact ht')
theorem Bt.len (h:Bt σ b p dd l kh U P v)(n:Nat):(v n).length=512∧pgz (v n)=v n:=by
 obtain⟨B,G,ch,h,hU⟩:=h
 rw[← h.vw n]
 unfold K2
 cases hl:lkM ch n with
 |none=>exact h.pl.vlen n
 |some pg=>
  have hm:(n,pg)∈ch:=by
   have:∀ ch:List (Nat×List UInt8),lkM ch n=some pg→(n,pg)∈ch:=by
    intro ch
    induction ch with
    |nil=>intro h;simp[lkM]at h
    |cons r ch ih=>
     intro h
     simp only[lkM]at h
     split at h
     ·rename_i e;simp only[QB]at h;subst e;subst h;simp
     ·exact YG _ (ih h)
   exact this ch hl
  exact⟨h.bt.kn.2 _ hm,(h.ok _ hm).2⟩
theorem Bt.big (h:Bt σ b p dd l kh U P v):P.pages≤3840:=Nat.min_le_right _ _
theorem BtIn.chl {B G:Nat→Prop}{ch:List (Nat×List UInt8)}(h:BtIn σ b p dd l kh B G ch P v):ch.length≤P.pages:=by
 have:=Fj P.pages (ch.map Prod.fst) h.bt.kn.1 fun x hx=>by
  obtain⟨q,hq,rfl⟩:=ZP.1 hx
  exact (h.ok q hq).1
 simpa using this
theorem Bt.root (h:Bt σ b p dd l kh U P v):U b:=by
 obtain⟨B,G,ch,h,hU⟩:=h
 obtain⟨w,a,hb,hB⟩:=h.bt
 exact (hU b).2 (.inl ((hB b).2 (.inl rfl)))
end
section
variable {σ:St} {b p dd l kh n:Nat} {U:Nat→Prop} {P:Ak} {v:Nat→List UInt8}
theorem A1p {σ s:St}{B G G':Nat→Prop}(h:Fr σ s G G'):Fr σ s (fun t=>B t∨G t) (fun t=>B t∨G' t):=h.sub (fun t ht=>.inr ht) fun t ht=>ht.elim (fun e=>.inl (.inl e)) fun e=>(h.own t e).imp .inr id
theorem Av7 {σ s:St}{B B' G:Nat→Prop}(h:Fr σ s B B'):Fr σ s (fun t=>B t∨G t) (fun t=>B' t∨G t):=h.sub (fun t ht=>.inl ht) fun t ht=>ht.elim (fun e=>(h.own t e).imp .inl id) fun e=>.inl (.inr e)
theorem Ai0 {σ s:St}{U V U' V':Nat→Prop}(h:Fr σ s U V)(h1:∀ t,U' t↔U t)(h2:∀ t,V' t↔V t):Fr σ s U' V':=by
 have e1:U'=U:=funext fun t=>propext (h1 t)
 have e2:V'=V:=funext fun t=>propext (h2 t)
 rw[e1,e2];exact h
theorem Aop (h:Bt σ b p dd l kh U P v)(hn:n<P.pages)(hb:Bud P 1):
 Aa Tryz.prog 120 [.mp b 2 0 0,Ad .i64 (n:Nat)] σ fun r σ'=>r= .tup [A6 (v n),Ad .i64 0]∧∃ U' P',Fr σ σ' U U'∧Bt σ' b p dd l kh U' P' v∧Kp P P' 0:=by
 obtain⟨B,G,ch,h,hU⟩:=h
 refine (Aiw h.bt h.pl h.dj hn hb.c hb.w).mono ?_
 rintro _ s ⟨rfl,G',P',hf,hP,hk,_⟩
 rw[h.vw]
 have hB:=h.bt.frame hf fun t h1 h2=>h.dj t h1 h2
 have hd:∀ t,B t→G' t→False:=fun t h1 h2=>(hf.own t h2).elim (h.dj t h1) fun e=>by have:=h.bt.lt t h1;omega
 exact⟨rfl,fun t=>B t∨G' t,P',Ai0 (A1p (B:=B) hf) hU fun t=>Iff.rfl,⟨B,G',ch,⟨hB,hP,hd,fun q hq=>by rw[hk.pages];exact h.ok q hq,fun m=>by rw[Jd hk.view];exact h.vw m⟩,fun t=>Iff.rfl⟩,hk⟩
theorem Ai1 (h:Bt σ b p dd l kh U P v)(hn0:1≤n)(hn:n<P.pages)(pg:List UInt8)(hp:pg.length=512)(hz:pgz pg=pg):
 Aa Tryz.prog 73 [.mp b 2 0 0,Ad .i64 (n:Nat),A6 pg] σ fun r σ'=>r=Ad .i64 0∧∃ U',Fr σ σ' U U'∧Bt σ' b p dd l kh U' P (upV v n pg):=by
 have hbg:=h.big
 obtain⟨B,G,ch,h,hU⟩:=h
 have:=h.chl
 refine (Aqk h.bt h.pl hn0 hn pg hp (by omega)).mono ?_
 rintro _ s ⟨rfl,B',hf,hB⟩
 have hP:=h.pl.frame hf fun t h1 h2=>h.dj t h2 h1
 have hd:∀ t,B' t→G t→False:=fun t h1 h2=>(hf.own t h1).elim (fun e=>h.dj t e h2) fun e=>by have:=h.pl.lt t h2;omega
 refine⟨rfl,fun t=>B' t∨G t,Ai0 (Av7 (G:=G) hf) hU fun t=>Iff.rfl,⟨B',G,_,⟨hB,hP,hd,fun q hq=> ?_,fun m=> ?_⟩,fun t=>Iff.rfl⟩⟩
 ·rcases Aac q hq with rfl|hq
  ·exact⟨hn,hz⟩
  ·exact h.ok q hq
 ·rw[Gf];unfold upV;rw[h.vw]
theorem Uk {kind:Int}{T:Nat→Bool}(h:Bt σ b p dd l kh U P v)(hT:Tk (v 0) P.pages T)(hnp:P.pages≤3200)(hnp1:1≤P.pages)(hT0:T 0=true)(hb:Bud P 1):
 Aa Tryz.prog 69 [.mp b 2 0 0,Ad .i64 kind] σ fun r σ'=>∃ U' P' v',Fr σ σ' U U'∧Bt σ' b p dd l kh U' P' v'∧Kp P P' 0∧
  ((∃ n,1≤n∧n<P.pages∧T n=false∧r= .tup [Ad .i64 (n:Nat),Ad .i64 0]∧v' n=Fg kind∧(∀ m,m≠n→m≠0→v' m=v m)∧Tk (v' 0) P.pages (D3 T n true))∨((∀ n,n<P.pages→T n=true)∧r= .tup [Ad .i64 0,Ad .i64 20]∧v'=v)):=by
 obtain⟨B,G,ch,h,hU⟩:=h
 have:=h.chl
 refine (Av6 (kind:=kind) h.bt h.pl h.dj (by rw[h.vw];exact hT) hnp hnp1 hT0 (by omega) hb.c hb.w).mono ?_
 rintro r s ⟨B',G',P',ch',hf,hB,hP,hd,hk,_,hc⟩
 refine⟨fun t=>B' t∨G' t,P',K2 P'.view ch',Ai0 hf hU fun t=>Iff.rfl,?_⟩
 rcases hc with⟨n,pg,n1,n2,hTn,rfl,rfl,hz,hT'⟩|⟨hall,rfl,rfl⟩
 ·refine⟨⟨B',G',_,⟨hB,hP,hd,fun q hq=> ?_,fun m=>rfl⟩,fun t=>Iff.rfl⟩,hk,.inl ⟨n,n1,n2,hTn,rfl,?_,fun m hm hm0=> ?_,?_⟩⟩
  ·rw[hk.pages]
   rcases Aac q hq with rfl|hq
   ·exact⟨n2,Aqo _⟩
   ·rcases Aac q hq with rfl|hq
    ·exact⟨by show 0<_;omega,hz⟩
    ·exact h.ok q hq
  ·rw[Gf,if_pos rfl]
  ·rw[Gf,if_neg hm,Gf,if_neg hm0,Jd hk.view];exact h.vw m
  ·rw[Gf,if_neg (by omega),Gf,if_pos rfl];exact hT'
 ·exact⟨⟨B',G',_,⟨hB,hP,hd,fun q hq=>by rw[hk.pages];exact h.ok q hq,fun m=>rfl⟩,fun t=>Iff.rfl⟩,hk,.inr ⟨hall,rfl,funext fun m=>by rw[Jd hk.view];exact h.vw m⟩⟩
theorem Ai2 {G:Nat→Prop}(hP:Cj σ p dd l kh G P):Aa Tryz.prog 11 [.mp p 6 0 0] σ fun r σ'=>r= .mp σ.length 2 0 0∧Ap σ σ'∧Bt σ' σ.length p dd l kh (fun t=>t=σ.length∨G t) P P.view:=by
 refine Avx.mono ?_
 rintro _ s ⟨rfl,ha,hB⟩
 exact⟨rfl,ha,_,G,[],⟨hB,hP.ap ha,fun t h1 h2=>by have:=hP.lt t h2;omega,by simp,fun m=>rfl⟩,fun t=>Iff.rfl⟩
end
