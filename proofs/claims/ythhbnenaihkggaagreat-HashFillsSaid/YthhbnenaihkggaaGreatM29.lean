/- Batches: Write, Batch, Done. -/
import Derived.Test.YthhbnenaihkggaaGreatM28
set_option linter.unusedSimpArgs false
set_option linter.unusedVariables false
set_option linter.defProp false
set_option maxRecDepth 100000
set_option maxHeartbeats 32000000
namespace Go.Proofs.YthhbnenaihkggaaGreat
open Go.RowKit
open List (length_append length_set)
def tBd:=aa wX <| aa wbu <| aa T3 <| aa T23 <| aa T25 <| aa T29 <| aa T36 <| aa T79 <| aa T86 <| aa T87 <| aa T96 T111
theorem abWrite {σ:St}{b p n dd l kh:Nat}{B G:Nat→Prop}{ch:List (Nat×List UInt8)}{P:PoolV}(h:BatchAt σ b p B ch)(hP:PoolAt σ p dd l kh G P)(hn0:1≤n)(hn:n<P.pages)(pg:List UInt8)(hp:pg.length=512)(hbig:ch.length+1≤100000):
 ACalls Tryz.prog 76 [.mp b 2 0 0,intV .i64 (n:Nat),pageA pg] σ fun r σ'=>r=intV .i64 0∧∃ B',Fr σ σ' B B'∧BatchAt σ' b p B' (setM ch n pg):=by
 obtain⟨w,a,hb,hB⟩:=id h
 have h0:=hb.o
 have l0:=at_lt h0
 have pc:=pageC_512 hp
 have e1:decide ((n:Int)<1)=false:=by simp;omega
 have e2:decide ((n:Int)≥(P.pages:Int))=false:=by simp;omega
 refine acalls_of cx_ok dr_ok Tryz.func76 (by kernel_rfl) rfl (nt:=23) (rs:=[.tmp 6]) rfl rfl ?_
 repeat' first|((with_reducible first|apply cs|apply ws)<;>intro h<;>try simp only[h])|simp only[↓wBA,tBd,convA,seval,wH,h0,l0,pageA,pc,e1,e2]|((with_reducible show ACalls _ _ _ _ _);refine (apages (hP.ap (Ap.app _ _))).eq ?_)
 refine (abwrite (h.ap (Ap.app _ _)) pg hp hbig).mono ?_
 rintro _ s ⟨rfl,B',hF,hb'⟩
 have hF':=(Ap.app σ _).fr.trans hF
 have hlen:=hF'.len
 repeat' first|((with_reducible first|apply cs|apply ws)<;>intro h<;>try simp only[h])|simp only[↓wBA,tBd,convA,seval,wH]
 all_goals refine ret_st ?_ (by first|exact Nat.le_refl _|(simp only[length_set,length_append];omega)|omega)
 all_goals simp only[resA.eq_1,resL.eq_1,resL.eq_2,resV.eq_1,resV.eq_2,↓wBA,tBd,convA,seval,wH]
 exact⟨B',hF',hb'⟩
theorem abatch {σ:St}{p:Nat}:ACalls Tryz.prog 14 [.mp p 6 0 0] σ fun r σ'=>r= .mp σ.length 2 0 0∧Ap σ σ'∧BatchAt σ' σ.length p (fun t=>t=σ.length) []:=by
 refine acalls_of cx_ok dr_ok Tryz.func14 (by kernel_rfl) rfl (nt:=7) (rs:=[.tmp 2]) rfl rfl ?_
 repeat' first|((with_reducible first|apply cs|apply ws)<;>intro h<;>try simp only[h])|simp only[↓wBA,tBd,convA,seval,wH]
 all_goals refine ret_st ?_ (by first|exact Nat.le_refl _|(simp only[length_set,length_append];omega)|omega)
 all_goals simp only[resA.eq_1,resL.eq_1,resL.eq_2,resV.eq_1,resV.eq_2,↓wBA,tBd,convA,seval,wH]
 exact⟨Ap.app _ _,none,_,⟨by simp,.inl ⟨rfl,rfl,rfl⟩,by simp,by simp,by simp⟩,fun t=>by simp⟩
theorem PoolIs.log1 {σ s:St}{p dd l kh:Nat}{Fd Gl Gl':Nat→Prop}{w:Option Nat}{a:AV}{P:PoolV}{L':LogV}(hk:PoolOk P)(h:PoolH σ p dd l kh Fd Gl w a P)(hf:Fr σ s Gl Gl')(hd:LogAt s l Gl' L'):PoolIs s p dd l kh (gPl p kh Fd Gl' w P.fs) { P with log:=L' }:=
 ⟨⟨hk.keys,hk.kn,hk.m1,hk.mb,hk.len,hk.fn,hk.nz,hk.cl,hk.secs,hk.size⟩,Fd,Gl',w,a,h.log' hf hd,fun t=>Iff.rfl⟩
structure Kb (P P':PoolV)(k:Nat)(v:Nat→List UInt8):Prop where
 size:P'.data.size=P.data.size
 most:P'.most=P.most
 ls:P'.log.disk.size=P.log.disk.size
 ld:P'.log.d=P.log.d
 wait:P'.log.wait≤P.log.wait+k
 ctr:P'.ct≤P.ct+k
 dw:P'.dq≤P.dq+8*k
 view:∀ n,P'.view n=v n
theorem Kb.pages {P P':PoolV}{k:Nat}{v:Nat→List UInt8}(h:Kb P P' k v):P'.pages=P.pages:=by unfold PoolV.pages;rw[h.size]
theorem Kp.b {P P':PoolV}{k:Nat}(h:Kp P P' k):Kb P P' k P.view:=⟨h.size,h.most,h.ls,h.ld,Nat.le_trans h.wait (Nat.le_add_right _ _),h.ctr,h.dw,h.view⟩
theorem Kb.trans {P P' P'':PoolV}{k k':Nat}{v v':Nat→List UInt8}(h:Kb P P' k v)(h':Kb P' P'' k' v'):Kb P P'' (k+k') v':=
 ⟨h'.size.trans h.size,h'.most.trans h.most,h'.ls.trans h.ls,h'.ld.trans h.ld,by have:=h.wait;have:=h'.wait;omega,by have:=h.ctr;have:=h'.ctr;omega,by have:=h.dw;have:=h'.dw;omega,h'.view⟩
theorem Kb.mono {P P':PoolV}{k k':Nat}{v:Nat→List UInt8}(h:Kb P P' k v)(hk:k≤k'):Kb P P' k' v:=⟨h.size,h.most,h.ls,h.ld,by have:=h.wait;omega,by have:=h.ctr;omega,by have:=h.dw;omega,h.view⟩
theorem adone0 {σ:St}{b p:Nat}{B:Nat→Prop}(h:BatchAt σ b p B []):ACalls Tryz.prog 20 [.mp b 2 0 0] σ fun r σ'=>r=intV .i64 0∧Fr σ σ' B B∧BatchAt σ' b p (fun t=>t=b) []:=by
 obtain⟨w,a,hb,hB⟩:=id h
 have h0:=hb.o
 have l0:=at_lt h0
 have la:lenA cx 87 a=some 0:=by
  rcases hb.chg with⟨rfl,_,_⟩|⟨t,rfl,_,_⟩
  ·rfl
  ·exact km_87
 refine acalls_of cx_ok dr_ok Tryz.func20 (by kernel_rfl) rfl (nt:=57) (rs:=[.tmp 2]) rfl rfl ?_
 repeat' first|((with_reducible first|apply cs|apply ws)<;>intro h<;>try simp only[h])|simp only[↓wBA,tBd,convA,seval,wH,h0,l0,la]
 all_goals refine ret_st ?_ (by first|exact Nat.le_refl _|(simp only[length_set,length_append];omega)|omega)
 all_goals simp only[resA.eq_1,resL.eq_1,resL.eq_2,resV.eq_1,resV.eq_2,↓wBA,tBd,convA,seval,wH]
 exact⟨(Fr.refl σ B).set _ ((hB b).2 (.inl rfl)),none,_,⟨by simp[l0],.inl ⟨rfl,rfl,rfl⟩,by simp,by simp,by simp⟩,fun t=>by simp⟩
theorem adone1 {σ:St}{b p dd l kh:Nat}{B G:Nat→Prop}{ch:List (Nat×List UInt8)}{P:PoolV}(h:BatchAt σ b p B ch)(hP:PoolAt σ p dd l kh G P)(hd:∀ t,B t→G t→False)(hne:ch≠[])(hok:∀ q∈ch,q.1<P.pages∧pgz q.2=q.2)
 (hfit:514*ch.length+4≤(P.log.disk.size - 2)*64) (hc:P.ct+300000<18446744073709551616) (hw:P.dq+2400000≤1000000000000) (hlw:P.log.wait≤1000000000000):
 ACalls Tryz.prog 20 [.mp b 2 0 0] σ fun r σ'=>r=intV .i64 0∧∃ G' P',Fr σ σ' (fun t=>B t∨G t) G'∧BatchAt σ' b p (fun t=>t=b) []∧PoolAt σ' p dd l kh G' P'∧(∀ t,G' t→G t∨σ.length≤t)∧Kb P P' 300000 (ovr P.view ch):=by
 obtain⟨w,a,hb,hB⟩:=id h
 have h0:=hb.o
 have l0:=at_lt h0
 rcases hb.chg with⟨_,_,e⟩|⟨t,rfl,rfl,h3⟩
 ·exact absurd e hne
 have hBb:B b:=(hB b).2 (.inl rfl)
 have hBt:B t:=(hB t).2 (.inr rfl)
 have hbt:t≠b:=by
  obtain⟨ls,h4,_⟩:=h3.row
  exact ne_of_ob h4 h0 (by simp)
 have hlt:t<σ.length:=h.lt t hBt
 have hbig:=hb.big
 have e0:((ch.length:Int)==0)=false:=by
  have:ch.length≠0:=fun e=>hne (List.length_eq_zero_iff.1 e)
  simp;omega
 refine acalls_of cx_ok dr_ok Tryz.func20 (by kernel_rfl) rfl (nt:=57) (rs:=[.tmp 2]) rfl rfl ?_
 repeat' first|((with_reducible first|apply cs|apply ws)<;>intro h<;>try simp only[h])|simp only[↓wBA,tBd,convA,seval,wH,h0,l0,e0]
 have hs:∀ t',t'≠b→(σ.set b (some (.row 2 [[.mp p 6 0 0,.p (.v (.slice none 0 0))]])))[t']? =σ[t']? :=fun t' ht=>List.getElem?_set_ne fun e=>ht e.symm
 have hP1:=hP.same (s:=σ.set b (some (.row 2 [[.mp p 6 0 0,.p (.v (.slice none 0 0))]]))) fun t' ht=>hs t' fun e=>hd t' (e▸hBb) ht
 have h31:=h3.same (hs t hbt)
 refine (arecord ch h31 hb.len hbig).mono ?_
 rintro r s ⟨ha,hr⟩
 have hrl:(imgsB ch).length=514*ch.length:=imgsB_len hb.len
 obtain⟨r,hrr⟩:∃ r,imgsB ch=r:=⟨_,rfl⟩
 rw[hrr]at hr hrl
 rcases hr with⟨_,e⟩|⟨t0,rfl,hr2,hr3⟩
 ·exact absurd (List.length_eq_zero_iff.1 (by rw[e]at hrl;simp at hrl;omega)) hne
 have hP2:=hP1.ap ha
 have hok2:∀ q∈ch,q.1<P.pages∧q.2.length=512∧pgz q.2=q.2:=fun q hq=>⟨(hok q hq).1,hb.len q hq,(hok q hq).2⟩
 have k0:=ha.get (t:=b) (x:=some (.row 2 [[.mp p 6 0 0,.p (.v (.slice none 0 0))]])) (by simp[l0])
 have q0:=at_lt k0
 have h32:=h31.same (s:=s) (by
  obtain⟨ls,h4,_⟩:=h31.row
  rw[ha.get h4,h4])
 obtain⟨⟨hk,Fd,Gl,w',a',H,hG⟩,hrp⟩:=id hP2
 have j0:=H.o
 have p0:=at_lt j0
 have hsl:=ha.len
 simp only[length_set]at hsl
 have hGe:G=gPl p kh Fd Gl w' P.fs:=funext fun t=>propext (hG t)
 have hnb:¬ G b:=fun e=>hd b hBb e
 have hnt:¬ G t:=fun e=>hd t hBt e
 have hf0:Fr σ s (fun t=>B t∨G t) (fun t=>B t∨G t):=(((Fr.refl σ _).set (some (.row 2 [[.mp p 6 0 0,.p (.v (.slice none 0 0))]])) (.inl hBb)).trans ha.fr)
 have hend:∀ (s2:St) (G2:Nat→Prop) (P2:PoolV) (k:Nat),Fr s s2 G G2→PoolIs s2 p dd l kh G2 P2→Kb P P2 k P.view→k≤100010→(∀ P3:PoolV,P3.log.str=P2.log.str→P3.data.kept=P2.data.kept→P3.data.size=P2.data.size→(∀ n,P3.view n=ovr P.view ch n)→Rp P3)→ACalls Tryz.prog 37 [.mp p 6 0 0,.ms t 513 0 ch.length] s2 fun r σ'=>r=intV .i64 0∧∃ G' P',Fr σ σ' (fun t=>B t∨G t) G'∧BatchAt σ' b p (fun t=>t=b) []∧PoolAt σ' p dd l kh G' P'∧(∀ t,G' t→G t∨σ.length≤t)∧Kb P P' 300000 (ovr P.view ch):=fun s2 G2 P2 k hf2 hA2 hK2 hkl hR2=>by
  have hn2:∀ t,t<s.length→¬ G t→¬ G2 t:=fun t ht hn e=>(hf2.own t e).elim hn fun e=>by omega
  have h33:=h32.same (s:=s2) (by
   obtain⟨ls,h4,_⟩:=h32.row
   rw[hf2.get h4 hnt,h4])
  have:=hK2.ctr
  have:=hK2.dw
  have:=hK2.wait
  refine (aput hA2 ch h33 (hn2 t (by omega) hnt) (fun q hq=>⟨by rw[hK2.pages];exact (hok q hq).1,hb.len q hq,(hok q hq).2⟩) (by omega) (by omega) (by omega)).mono ?_
  rintro _ s3 ⟨rfl,G3,P3,hf3,hA3,hK3⟩
  have hff:=hf2.trans hf3
  refine⟨rfl,G3,P3,?_,⟨none,_,⟨hff.get k0 hnb,.inl ⟨rfl,rfl,rfl⟩,by simp,by simp,by simp⟩,fun t=>by simp⟩,⟨hA3,hR2 P3 hK3.str hK3.kept hK3.size fun n=>by rw[hK3.view n];exact ovr_congr hK2.view n ch⟩,fun t ht=>(hff.own t ht).imp id fun e=>by omega,⟨hK3.size.trans hK2.size,hK3.most.trans hK2.most,hK3.ls.trans hK2.ls,hK3.ld.trans hK2.ld,by have:=hK3.wait;omega,by have:=hK3.ctr;omega,by have:=hK3.dw;omega,fun n=>by rw[hK3.view n];exact ovr_congr hK2.view n ch⟩⟩
  refine⟨Nat.le_trans hf0.len hff.len,fun t ht hn=> ?_,fun t ht=>(hff.own t ht).imp (fun e=>.inr e) fun e=>by omega⟩
  rw[hff.keep t (by omega) (fun e=>hn (.inr e)),hf0.keep t ht hn]
 by_cases hfit1:P.log.str.length+4+r.length≤(P.log.disk.size - 2)*64
 ·skip
  repeat' first|((with_reducible first|apply cs|apply ws)<;>intro h<;>try simp only[h])|simp only[↓wBA,tBd,convA,seval,wH,k0,q0,j0,p0]
  refine (awappend H.log r hfit1 (by omega) hlw).mono ?_
  rintro _ s2 ⟨rfl,Gl2,hfl,hl2⟩
  have k1:=hfl.get k0 (fun e=>hnb ((hG b).2 (.inr (.inr (.inr (.inl e))))))
  have q1:=at_lt k1
  have hA2:=PoolIs.log1 hk H hfl hl2
  have hF2:=hfl.gl (p:=p) (kh:=kh) (Fd:=Fd) (w:=w') (fs:=P.fs)
  rw[← hGe]at hF2
  have hgo:=hend s2 _ _ 1 hF2 hA2 ⟨rfl,rfl,rfl,rfl,Nat.le_refl _,by show P.log.ctr+min (P.log.wait+1) 1≤P.log.ctr+min P.log.wait 1+1;omega,Nat.le_add_right _ _,fun _=>rfl⟩ (by omega) fun P3 g1 g2 g3 g4=>hrp.more hne hok2 (by rw[hrr];exact g1) g2 g3 g4
  repeat' first|((with_reducible first|apply cs|apply ws)<;>intro h<;>try simp only[h])|simp only[↓wBA,tBd,convA,seval,wH,k1,q1]
  refine hgo.mono ?_
  rintro _ s3 ⟨rfl,G3,P3,g1,g2,g3,g4,g5⟩
  have hlen:=g1.len
  repeat' first|((with_reducible first|apply cs|apply ws)<;>intro h<;>try simp only[h])|simp only[↓wBA,tBd,convA,seval,wH]
  all_goals refine ret_st ?_ (by first|exact Nat.le_refl _|(simp only[length_set,length_append];omega)|omega)
  all_goals simp only[resA.eq_1,resL.eq_1,resL.eq_2,resV.eq_1,resV.eq_2,↓wBA,tBd,convA,seval,wH]
  exact⟨G3,P3,g1,g2,g3,g4,g5⟩
 ·skip
  repeat' first|((with_reducible first|apply cs|apply ws)<;>intro h<;>try simp only[h])|simp only[↓wBA,tBd,convA,seval,wH,k0,q0,j0,p0]|((with_reducible show ACalls _ _ _ _ _);first|refine (awfull H.log r (by omega) (by omega)).eq ?_|(refine (apoint hP2 (by omega) (by omega)).mono ?_;rintro _ s2 ⟨rfl,G2,P2,hF2,hA2,u1,u2,u3,u4,u5,u6,u7,u8,u9,u10,u11,u12⟩))
  have k1:=hF2.get k0 hnb
  have q1:=at_lt k1
  obtain⟨⟨hk2,Fd2,Gl2,w2,a2,H2,hG2⟩,_⟩:=id hA2
  have j1:=H2.o
  have p1:=at_lt j1
  have hGe2:G2=gPl p kh Fd2 Gl2 w2 P2.fs:=funext fun t=>propext (hG2 t)
  repeat' first|((with_reducible first|apply cs|apply ws)<;>intro h<;>try simp only[h])|simp only[↓wBA,tBd,convA,seval,wH,k1,q1,j1,p1]
  refine (awappend H2.log r (by rw[u5,u3];simp;omega) (by omega) (by omega)).mono ?_
  rintro _ s3 ⟨rfl,Gl3,hfl,hl3⟩
  have hnb2:¬ G2 b:=fun e=>(hF2.own b e).elim hnb fun e=>by omega
  have k2:=hfl.get k1 (fun e=>hnb2 ((hG2 b).2 (.inr (.inr (.inr (.inl e))))))
  have q2:=at_lt k2
  have hA3:=PoolIs.log1 hk2 H2 hfl hl3
  have hF3:=hfl.gl (p:=p) (kh:=kh) (Fd:=Fd2) (w:=w2) (fs:=P2.fs)
  rw[← hGe2]at hF3
  have hok3:∀ q∈ch,q.1<P2.pages∧q.2.length=512∧pgz q.2=q.2:=by
   have hpp:P2.pages=P.pages:=by unfold PoolV.pages;rw[u1]
   rw[hpp];exact hok2
  have hgo:=hend s3 _ _ 100005 (hF2.trans hF3) hA3 ⟨u1,u2,u3,u4,by show P2.log.wait+1≤_;omega,by show P2.log.ctr+min (P2.log.wait+1) 1≤_;have:=ct_ge P2;omega,by
   show P2.data.wait.length+8*P2.dirt≤_
   have:P2.dirt=0:=List.countP_eq_zero.2 fun g hg=>by rw[u12 g hg];simp
   rw[u9,this];simp,u11⟩ (by omega) fun P3 g1 g2 g3 g4=>hA2.2.more hne hok3 (by rw[hrr];exact g1) g2 g3 fun n=>(g4 n).trans (ovr_congr (fun m=>(u11 m).symm) n ch)
  repeat' first|((with_reducible first|apply cs|apply ws)<;>intro h<;>try simp only[h])|simp only[↓wBA,tBd,convA,seval,wH,k2,q2]
  refine hgo.mono ?_
  rintro _ s4 ⟨rfl,G3,P3,g1,g2,g3,g4,g5⟩
  have hlen:=g1.len
  repeat' first|((with_reducible first|apply cs|apply ws)<;>intro h<;>try simp only[h])|simp only[↓wBA,tBd,convA,seval,wH]
  all_goals refine ret_st ?_ (by first|exact Nat.le_refl _|(simp only[length_set,length_append];omega)|omega)
  all_goals simp only[resA.eq_1,resL.eq_1,resL.eq_2,resV.eq_1,resV.eq_2,↓wBA,tBd,convA,seval,wH]
  exact⟨G3,P3,g1,g2,g3,g4,g5⟩
end Go.Proofs.YthhbnenaihkggaaGreat
