/- Pools whose disks keep what they show. Batches: find. Batches: Read, write, Write. Batches: a batch's record; Write, Batch. -/
import Derived.Test.YthhbnenaihkggaaGreatM27
set_option linter.unusedSimpArgs false
set_option linter.unusedVariables false
set_option linter.defProp false
set_option maxRecDepth 100000
set_option maxHeartbeats 32000000
namespace Go.Proofs.YthhbnenaihkggaaGreat
open Go.RowKit
open List (length_append length_set map_cons mem_map mem_of_getElem?)
def Rp (P:PoolV):Prop:=∃ chs,P.log.str=recsB (chs.map imgsB)∧ChsOk P.pages chs∧∀ n,P.view n=ovr (fun m=>pgz (keptPg P.data.kept m)) chs.flatten n
theorem Rp.kp {P P':PoolV}{k:Nat}(h:Rp P)(hk:Kp P P' k):Rp P':=by
 obtain⟨chs,h1,h2,h3⟩:=h
 exact⟨chs,by rw[hk.str];exact h1,by rw[hk.pages];exact h2,fun n=>by rw[hk.view,hk.kept];exact h3 n⟩
theorem view_clean {P:PoolV}(hk:PoolOk P)(hcl:∀ f∈P.fs,(P.V f).dirty=false)(n:Nat):P.view n=pgz (diskPg P.data.now n):=by
 unfold PoolV.view
 cases hl:lkM P.hm n with
 |none=>rfl
 |some f=>
  obtain⟨g1,g2⟩:=(hk.keys n f).1 hl
  have:=hk.cl f g1 (hcl f g1)
  rw[g2]at this
  exact this.symm
theorem keptPg_congr {f g:Nat→List UInt8}(h:∀ k,f k=g k)(n:Nat):keptPg f n=keptPg g n:=by
 have:f=g:=funext h
 rw[this]
theorem rp_pt {P:PoolV}(hk:PoolOk P)(hst:P.log.str=[])(hcl:∀ f∈P.fs,(P.V f).dirty=false)(hkn:∀ k,secAt P.data.now k=P.data.kept k):Rp P:=
 ⟨[],by rw[hst];rfl,by simp[ChsOk],fun n=>by
  rw[view_clean hk hcl]
  show pgz (keptPg (secAt P.data.now) n)=pgz (keptPg P.data.kept n)
  rw[keptPg_congr hkn]⟩
theorem Rp.more {P P3:PoolV}{ch:List (Nat×List UInt8)}(h:Rp P)(hne:ch≠[])(hok:∀ q∈ch,q.1<P.pages∧q.2.length=512∧pgz q.2=q.2)(h1:P3.log.str=P.log.str++leB (imgsB ch).length 4++imgsB ch)(h2:P3.data.kept=P.data.kept)(h3:P3.data.size=P.data.size)(h4:∀ n,P3.view n=ovr P.view ch n):Rp P3:=by
 obtain⟨chs,g1,g2,g3⟩:=h
 have hp:P3.pages=P.pages:=by unfold PoolV.pages;rw[h3]
 refine⟨chs++[ch],?_,fun c hc=> ?_,fun n=> ?_⟩
 ·rw[h1,g1,List.map_append,recsB_app,List.append_assoc]
  simp[recsB,recB]
 ·rw[hp]
  rcases List.mem_append.1 hc with hc|hc
  ·exact g2 c hc
  ·simp at hc;subst hc;exact⟨hne,hok⟩
 ·rw[h4,h2,List.flatten_append,ovr_app2]
  simp only[List.flatten_cons,List.flatten_nil,List.append_nil]
  exact ovr_congr g3 n ch
def PoolAt (σ:St)(p dd l kh:Nat)(G:Nat→Prop)(P:PoolV):Prop:=PoolIs σ p dd l kh G P∧Rp P
section
variable {σ s:St} {p dd l kh:Nat} {G:Nat→Prop} {P:PoolV}
theorem PoolAt.lt (h:PoolAt σ p dd l kh G P):∀ t,G t→t<σ.length:=h.1.lt
theorem PoolAt.same (h:PoolAt σ p dd l kh G P)(hs:∀ t,G t→s[t]? =σ[t]?):PoolAt s p dd l kh G P:=⟨h.1.same hs,h.2⟩
theorem PoolAt.frame {K K':Nat→Prop}(h:PoolAt σ p dd l kh G P)(hf:Fr σ s K K')(hd:∀ t,G t→K t→False):PoolAt s p dd l kh G P:=⟨h.1.frame hf hd,h.2⟩
theorem PoolAt.ap (h:PoolAt σ p dd l kh G P)(hs:Ap σ s):PoolAt s p dd l kh G P:=⟨h.1.ap hs,h.2⟩
theorem PoolAt.root (h:PoolAt σ p dd l kh G P):G p:=h.1.root
theorem PoolAt.vlen (h:PoolAt σ p dd l kh G P)(n:Nat):(P.view n).length=512∧pgz (P.view n)=P.view n:=h.1.vlen n
theorem kept_now {d:Nat}{F:Nat→Prop}{D:DiskV}(h:DiskAt σ d F D)(hw:D.wait=[])(k:Nat):secAt D.now k=D.kept k:=by
 obtain⟨kn,kk,w,a,es,h,_⟩:=h
 have:=h.ov k
 rw[hw]at this
 exact this
theorem apages (h:PoolAt σ p dd l kh G P):ACalls Tryz.prog 36 [.mp p 6 0 0] σ fun r σ'=>σ'=σ∧r=intV .i64 (P.pages:Nat):=apagesIs h.1
theorem aread {n:Nat}(h:PoolAt σ p dd l kh G P)(hn:n<P.pages)(hc:P.ct+1<18446744073709551616)(hw:P.dq+8≤1000000000000):
 ACalls Tryz.prog 114 [.mp p 6 0 0,intV .i64 (n:Nat)] σ fun r σ'=>r= .tup [pageA (P.view n),intV .i64 0]∧∃ G' P',Fr σ σ' G G'∧PoolAt σ' p dd l kh G' P'∧Kp P P' 0:=by
 refine (areadIs h.1 hn hc hw).mono ?_
 rintro _ s ⟨rfl,G',P',h1,h2,h3⟩
 exact⟨rfl,G',P',h1,⟨h2,h.2.kp h3⟩,h3⟩
theorem apoint2 (h:PoolIs σ p dd l kh G P)(hc:P.ct+1<18446744073709551616)(hw:P.dq+8≤1000000000000):
 ACalls Tryz.prog 38 [.mp p 6 0 0] σ fun r σ'=>r=intV .i64 0∧∃ G' P',Fr σ σ' G G'∧PoolAt σ' p dd l kh G' P'∧P'.data.size=P.data.size∧P'.most=P.most∧P'.log.disk.size=P.log.disk.size∧P'.log.d=P.log.d∧P'.log.str=[]∧P'.log.len=0∧P'.log.wait=0∧P'.ct≤P.ct+1∧P'.data.wait=[]∧P'.fs.length=P.fs.length∧(∀ n,P'.view n=P.view n)∧∀ f∈P'.fs,(P'.V f).dirty=false:=by
 refine (apointIs h hc hw).mono ?_
 rintro _ s ⟨rfl,G',P',h1,h2,h3,h4,h5,h6,h7,h8,h9,h10,h11,h12,h13,h14⟩
 refine⟨rfl,G',P',h1,⟨h2,rp_pt h2.1 h7 h14 ?_⟩,h3,h4,h5,h6,h7,h8,h9,h10,h11,h12,h13,h14⟩
 obtain⟨_,Fd,Gl,w,a,H,_⟩:=h2
 exact kept_now H.data h11
theorem apoint (h:PoolAt σ p dd l kh G P)(hc:P.ct+1<18446744073709551616)(hw:P.dq+8≤1000000000000):
 ACalls Tryz.prog 38 [.mp p 6 0 0] σ fun r σ'=>r=intV .i64 0∧∃ G' P',Fr σ σ' G G'∧PoolAt σ' p dd l kh G' P'∧P'.data.size=P.data.size∧P'.most=P.most∧P'.log.disk.size=P.log.disk.size∧P'.log.d=P.log.d∧P'.log.str=[]∧P'.log.len=0∧P'.log.wait=0∧P'.ct≤P.ct+1∧P'.data.wait=[]∧P'.fs.length=P.fs.length∧(∀ n,P'.view n=P.view n)∧∀ f∈P'.fs,(P'.V f).dirty=false:=apoint2 h.1 hc hw
end
theorem aopenP {σ:St}{dd dl:Nat}{Fd Fl:Nat→Prop}{D DL:DiskV}(hd:DiskAt σ dd Fd D)(hl:DiskAt σ dl Fl DL)(hdj:∀ t,Fd t→Fl t→False)(hz:16≤D.size)(hs:∀ k,(secAt D.now k).length=64)(hlz:3≤DL.size)(c:Nat)(hh:Heads DL.now c 0)(hls:∀ k,(secAt DL.now k).length=64)(hw:DL.wait=[])(most:Nat)(hm:1≤most)(hmb:most≤100000)(hdw:D.wait=[]):
 ACalls Tryz.prog 12 [.mp dd 6 0 0,.mp dl 6 0 0,intV .i64 (most:Nat)] σ fun r σ'=>∃ p l kh G P,r= .tup [.mp p 6 0 0,intV .i64 0]∧Ap σ σ'∧PoolAt σ' p dd l kh G P∧P.fs=[]∧P.hm=[]∧P.most=most∧P.data=D∧P.log={ d:=dl,disk:=DL,ctr:=c,len:=0,str:=[],wait:=0 }∧∀ t,G t→Fd t∨Fl t∨σ.length≤t:=by
 refine (aopenPIs hd hl hdj hz hs hlz c hh hls hw most hm hmb).mono ?_
 rintro r s ⟨p,l,kh,G,P,h1,h2,h3,h4,h5,h6,h7,h8,h9⟩
 refine⟨p,l,kh,G,P,h1,h2,⟨h3,rp_pt h3.1 (by rw[h8]) (by rw[h4];simp) fun k=> ?_⟩,h4,h5,h6,h7,h8,h9⟩
 rw[h7];exact kept_now hd hdw k
def tBa:=aa wX <| aa wbu <| aa T3 <| aa T87 <| aa T96 <| aa T138 T188
def ChgAt (σ:St)(a:AV)(w:Option Nat)(ch:List (Nat×List UInt8)):Prop:=
 (a= .p (.v (.slice none 0 0))∧w=none∧ch=[])∨∃ t,a= .ms t 513 0 ch.length∧w=some t∧ChAt σ t ch
structure BatchIn (σ:St)(b p:Nat)(w:Option Nat)(a:AV)(ch:List (Nat×List UInt8)):Prop where
 o:σ[b]? =some (some (.row 2 [[.mp p 6 0 0,a]]))
 chg:ChgAt σ a w ch
 len:∀ q∈ch,q.2.length=512
 kn:(ch.map Prod.fst).Nodup
 big:ch.length≤100000
def BatchAt (σ:St)(b p:Nat)(B:Nat→Prop)(ch:List (Nat×List UInt8)):Prop:=∃ w a,BatchIn σ b p w a ch∧∀ t,B t↔(t=b∨w=some t)
theorem ChAt.same {σ s:St}{t:Nat}{ch:List (Nat×List UInt8)}(h:ChAt σ t ch)(hs:s[t]? =σ[t]?):ChAt s t ch:=⟨by rw[hs];exact h.row⟩
theorem ChgAt.same {σ s:St}{a:AV}{w:Option Nat}{ch:List (Nat×List UInt8)}(h:ChgAt σ a w ch)(hs:∀ t,w=some t→s[t]? =σ[t]?):ChgAt s a w ch:=by
 rcases h with h|⟨t,h1,h2,h3⟩
 ·exact .inl h
 ·exact .inr ⟨t,h1,h2,h3.same (hs t h2)⟩
theorem BatchAt.same {σ s:St}{b p:Nat}{B:Nat→Prop}{ch:List (Nat×List UInt8)}(h:BatchAt σ b p B ch)(hs:∀ t,B t→s[t]? =σ[t]?):BatchAt s b p B ch:=by
 obtain⟨w,a,h,hB⟩:=h
 exact⟨w,a,⟨by rw[hs b ((hB b).2 (.inl rfl))];exact h.o,h.chg.same fun t ht=>hs t ((hB t).2 (.inr ht)),h.len,h.kn,h.big⟩,hB⟩
theorem BatchAt.lt {σ:St}{b p:Nat}{B:Nat→Prop}{ch:List (Nat×List UInt8)}(h:BatchAt σ b p B ch):∀ t,B t→t<σ.length:=by
 obtain⟨w,a,h,hB⟩:=h
 intro t ht
 rcases (hB t).1 ht with rfl|hw
 ·exact at_lt h.o
 ·rcases h.chg with⟨_,e,_⟩|⟨t',_,e,h3⟩
  ·rw[e]at hw;cases hw
  ·rw[e]at hw;simp only[Option.some.injEq]at hw;subst hw
   obtain⟨ls,h4,_⟩:=h3.row
   exact at_lt h4
theorem BatchAt.ap {σ s:St}{b p:Nat}{B:Nat→Prop}{ch:List (Nat×List UInt8)}(h:BatchAt σ b p B ch)(hs:Ap σ s):BatchAt s b p B ch:=by
 obtain⟨τ,rfl⟩:=hs
 exact h.same fun t ht=>List.getElem?_append_left (h.lt t ht)
theorem BatchAt.frame {σ s:St}{b p:Nat}{B K K':Nat→Prop}{ch:List (Nat×List UInt8)}(h:BatchAt σ b p B ch)(hf:Fr σ s K K')(hd:∀ t,B t→K t→False):BatchAt s b p B ch:=
 h.same fun t ht=>hf.keep t (h.lt t ht) fun hg=>hd t ht hg
theorem imgR_len {q:Nat×List UInt8}(h:q.2.length=512):(imgR q).length=513:=by simp[imgR,pageC_512 h]
theorem afind1 {σ:St}{x:Nat}{n:Int}(hx:σ[x]? =some (some (.row 1 [[intV .i64 n]])))(q:Nat×List UInt8)(hq:q.2.length=512):
 ACalls Tryz.prog 117 [.agg (imgR q),.mp x 1 0 0] σ fun r σ'=>Ap σ σ'∧r=boolV ((q.1:Int)==n):=by
 have lx:=at_lt hx
 have il:=imgR_len hq
 have i0:(imgR q)[0]? =some (.p (.v (.int .i64 (q.1:Nat)))):=rfl
 refine acalls_of cx_ok dr_ok Tryz.func117 (by kernel_rfl) rfl (nt:=6) (rs:=[.tmp 3]) rfl rfl ?_
 repeat' first|((with_reducible first|apply cs|apply ws)<;>intro h<;>try simp only[h])|simp only[↓wBA,tBa,convA,seval,wH,hx,lx,il,i0]
 all_goals refine ret_st ?_ (by first|exact Nat.le_refl _|(simp only[length_set,length_append];omega)|omega)
 all_goals simp only[resA.eq_1,resL.eq_1,resL.eq_2,resV.eq_1,resV.eq_2,↓wBA,tBa,convA,seval,wH]
 exact Ap.app _ _
def Fnd (ch:List (Nat×List UInt8))(n:Int)(r:AV):Prop:=(∃ (i:Nat) (q:Nat×List UInt8),ch[i]? =some q∧(q.1:Int)=n∧r=intV .i64 (i:Nat))∨((∀ q∈ch,(q.1:Int)≠n)∧r=intV .i64 (-1))
theorem aindexf {σ:St}{x:Nat}{n:Int}{a:AV}{w:Option Nat}{ch:List (Nat×List UInt8)}(hx:σ[x]? =some (some (.row 1 [[intV .i64 n]])))(h:ChgAt σ a w ch)(hlen:∀ q∈ch,q.2.length=512)(hb:ch.length≤100000):
 ACalls Tryz.prog 116 [a,.fn 117 [] [.mp x 1 0 0]] σ fun r σ'=>Ap σ σ'∧Fnd ch n r:=by
 have la:lenA cx 87 a=some ch.length:=by
  rcases h with⟨rfl,_,rfl⟩|⟨t,rfl,_,_⟩
  ·rfl
  ·exact km_87
 refine acalls_of cx_ok dr_ok Tryz.func116 (by kernel_rfl) rfl (nt:=17) (rs:=[.tmp 4]) rfl rfl ?_
 repeat' first|((with_reducible first|apply cs|apply ws)<;>intro h<;>try simp only[h])|simp only[↓wBA,tBa,convA,seval,wH,la]
 refine awp_loopS (X:={ i:Nat // i≤ch.length }) (fun i=>ch.length - i.1) (fun i=>[(8,intV .i64 (i.1:Nat))]) [4,5,9,10,11,12,13,14,15,16,17,18] (fun i s=>Ap σ s∧∀ j q,j<i.1→ch[j]? =some q→(q.1:Int)≠n) (⟨0,by omega⟩) ?_ ?_ ?_ ?_
 ·simp only[wHl,wHf]
 ·exact⟨Ap.refl _,fun j q hj=>absurd hj (Nat.not_lt_zero _)⟩
 ·rintro _ _ ⟨hf,_⟩;exact hf.len
 ·intro y J s hI
  simp only[wHl]
  obtain⟨i,hi⟩:=y
  obtain⟨ha,hno⟩:=hI
  dsimp only at*
  have hlen':=ha.len
  by_cases hlt:i<ch.length
  ·rcases h with⟨_,_,rfl⟩|⟨t,rfl,_,h3⟩
   ·simp at hlt
   ·obtain⟨ls,h1,h2⟩:=h3.get
    have k1:=ha.get h1
    have q1:=at_lt k1
    have kx:=ha.get hx
    have b1:=dT (i:=i) (n:=ch.length) (by omega)
    have b2:((i:Int)<(ch.length:Int))=True:=eq_true (by omega)
    have b3:=nnI i
    have hw1:=wI i (by omega)
    obtain⟨q,hq⟩:∃ q,ch[i]? =some q:=⟨ch[i],by simp[hlt]⟩
    have k2:=h2 i q hq
    have hql:=hlen q (mem_of_getElem? hq)
    have il:=imgR_len hql
    have i2:List.take 513 (imgR q)=imgR q:=List.take_of_length_le (by omega)
    repeat' first|((with_reducible first|apply cs|apply ws)<;>intro h<;>try simp only[h])|simp only[↓wBA,tBa,convA,seval,wH,wHl,b1,b2,b3,k1,q1,k2,il,i2,hw1]|((with_reducible show ACalls _ _ _ _ _);refine (afind1 kx q hql).mono ?_;rintro _ s2 ⟨ha2,rfl⟩)
    ·have hlen2:=(ha.trans ha2).len
     all_goals refine ret_st ?_ (by first|exact Nat.le_refl _|(simp only[length_set,length_append];omega)|omega)
     all_goals simp only[resA.eq_1,resL.eq_1,resL.eq_2,resV.eq_1,resV.eq_2,↓wBA,tBa,convA,seval,wH]
     exact⟨ha.trans ha2,.inl ⟨i,q,hq,by simpa using h,rfl⟩⟩
    ·refine⟨⟨i+1,by omega⟩,by show ch.length - (i+1)<ch.length - i;omega,⟨ha.trans ha2,fun j r hj hr=> ?_⟩,?_⟩
     ·by_cases e:j=i
      ·subst e;rw[hq]at hr;cases hr;simpa using h
      ·exact hno j r (by have:j<i+1:=hj;omega) hr
     ·simp only[wHl,wHf]
  ·have he:i=ch.length:=by omega
   subst he
   have b1:=dF (i:=ch.length) (n:=ch.length) (by omega)
   repeat' first|((with_reducible first|apply cs|apply ws)<;>intro h<;>try simp only[h])|simp only[↓wBA,tBa,convA,seval,wH,wHl,b1]
   all_goals refine ret_st ?_ (by first|exact Nat.le_refl _|(simp only[length_set,length_append];omega)|omega)
   all_goals simp only[resA.eq_1,resL.eq_1,resL.eq_2,resV.eq_1,resV.eq_2,↓wBA,tBa,convA,seval,wH]
   refine⟨ha,.inr ⟨fun q hq=> ?_,rfl⟩⟩
   obtain⟨j,hj⟩:=List.getElem?_of_mem hq
   exact hno j q (List.getElem?_eq_some_iff.1 hj).1 hj
theorem afind {σ:St}{b p:Nat}{B:Nat→Prop}{ch:List (Nat×List UInt8)}(h:BatchAt σ b p B ch)(n:Int):ACalls Tryz.prog 86 [.mp b 2 0 0,intV .i64 n] σ fun r σ'=>Ap σ σ'∧Fnd ch n r:=by
 obtain⟨w,a,h,hB⟩:=h
 have h0:=h.o
 have l0:=at_lt h0
 have hc:=h.chg.same (s:=σ++[some (.row 1 [[intV .i64 n]])]) fun t ht=>by
  rcases h.chg with⟨_,e,_⟩|⟨t',_,e,h3⟩
  ·rw[e]at ht;cases ht
  ·rw[e]at ht;simp only[Option.some.injEq]at ht;subst ht
   obtain⟨ls,h4,_⟩:=h3.row
   rw[List.getElem?_append_left (at_lt h4)]
 refine acalls_of cx_ok dr_ok Tryz.func86 (by kernel_rfl) rfl (nt:=9) (rs:=[.tmp 4]) rfl rfl ?_
 repeat' first|((with_reducible first|apply cs|apply ws)<;>intro h<;>try simp only[h])|simp only[↓wBA,tBa,convA,seval,wH,h0,l0]
 refine (aindexf (n:=n) (by simp[intV]) hc h.len h.big).mono ?_
 rintro r s ⟨ha,hf⟩
 have hlen:=((Ap.app σ _).trans ha).len
 repeat' first|((with_reducible first|apply cs|apply ws)<;>intro h<;>try simp only[h])|simp only[↓wBA,tBa,convA,seval,wH]
 all_goals refine ret_st ?_ (by first|exact Nat.le_refl _|(simp only[length_set,length_append];omega)|omega)
 all_goals simp only[resA.eq_1,resL.eq_1,resL.eq_2,resV.eq_1,resV.eq_2,↓wBA,tBa,convA,seval,wH]
 exact⟨(Ap.app σ _).trans ha,hf⟩
def pl50_3Bb:Plan:=(.det 0 (.det 1 (.det 2 (.det 3 (.det 4 (.det 5 (.det 6 (.det 7 (.fin 8 .done)))))))))
def pl50_4Bb:Plan:=(.det 0 (.det 1 (.det 2 (.det 3 (.det 4 (.det 5 (.det 6 (.det 7 (.act 8 (.fin 9 (.det 10 (.det 11 (.fin 12 .done)))))))))))))
def tBb:=aa wX <| aa wbu <| aa T3 <| aa T25 <| aa T36 <| aa T87 <| aa T96 <| aa T111 T138
theorem zl512:(zB 512).length=512:=by simp[zB]
theorem lk_of_get {ch:List (Nat×List UInt8)}(hk:(ch.map Prod.fst).Nodup){i:Nat}{q:Nat×List UInt8}(h:ch[i]? =some q):lkM ch q.1=some q.2:=by
 induction ch generalizing i with
 |nil=>simp at h
 |cons r ch ih=>
  simp only[map_cons,List.nodup_cons]at hk
  cases i with
  |zero=>simp at h;subst h;simp[lkM]
  |succ i=>
   simp at h
   have:=ih hk.2 h
   have hm:q.1∈ch.map Prod.fst:=mem_map.2 ⟨q,mem_of_getElem? h,rfl⟩
   have hne:¬ r.1=q.1:=fun e=>hk.1 (e▸hm)
   simp only[lkM,if_neg hne,this]
theorem lk_none_of {ch:List (Nat×List UInt8)}{n:Nat}(h:∀ q∈ch,(q.1:Int)≠(n:Int)):lkM ch n=none:=mem_lk n ch fun e=>by
 obtain⟨q,hq,e⟩:=mem_map.1 e
 exact h q hq (by rw[e])
theorem abread0 {σ:St}{b p n:Nat}{B:Nat→Prop}{ch:List (Nat×List UInt8)}{pg:List UInt8}(h:BatchAt σ b p B ch)(hl:lkM ch n=some pg):ACalls Tryz.prog 84 [.mp b 2 0 0,intV .i64 (n:Nat)] σ fun r σ'=>Ap σ σ'∧r= .tup [pageA pg,intV .i64 0]:=by
 obtain⟨w,a,hb,hB⟩:=id h
 have h0:=hb.o
 have l0:=at_lt h0
 have z5:=pageC_512 len_zero512
 refine acalls_of cx_ok dr_ok Tryz.func84 (by kernel_rfl) rfl (nt:=29) (rs:=[.cell 4 111,.tmp 5]) rfl rfl ?_
 repeat' first|((with_reducible first|apply cs|apply ws)<;>intro h<;>try simp only[h])|simp only[↓wBA,tBb,convA,seval,wH,zl512]
 refine (afind (h.ap (Ap.app _ _)) n).mono ?_
 rintro r s ⟨ha,hf⟩
 have ha0:=(Ap.app σ _).trans ha
 rcases hf with⟨i,q,hq,hqn,rfl⟩|⟨hno,rfl⟩
 ·have hqn:q.1=n:=by omega
  have hq2:q.2=pg:=by
   have:=lk_of_get hb.kn hq
   rw[hqn,hl]at this;simpa using this.symm
  have hlt:=(List.getElem?_eq_some_iff.1 hq).1
  have hql:=hb.len q (mem_of_getElem? hq)
  rcases hb.chg with⟨_,_,rfl⟩|⟨t,rfl,_,h3⟩
  ·simp at hq
  ·obtain⟨ls,h1,h2⟩:=h3.get
   have l1:=at_lt h1
   have k0:=ha0.get h0
   have q0:=at_lt k0
   have k1:=ha0.get h1
   have q1:=at_lt k1
   have kz:=ha.get (t:=σ.length) (x:=some (.row 512 [List.map (fun x=>AV.p (PV.v x)) (zB 512)])) (by simp)
   rw[zB_512]at kz
   have lz:=at_lt kz
   have k2:=h2 i q hq
   have b1:decide ((i:Int)≥0)=true:=by simp
   have b2:((i:Int)<(ch.length:Int))=True:=eq_true (by omega)
   have b3:=nnI i
   have il:=imgR_len hql
   have i1:List.take 512 (List.drop 1 (imgR q))=pageC q.2:=by simp only[imgR,List.drop_succ_cons,List.drop_zero,take_page hql]
   have pc:=pageC_512 hql
   have hb':=hb.big
   repeat' first|((with_reducible first|apply cs|apply ws)<;>intro h<;>try simp only[h])|simp only[↓wBA,tBb,convA,seval,wH,k0,q0,k1,q1,k2,kz,lz,b1,b2,b3,il,i1,pc,z5]
   have hs:=ha0.set (t:=σ.length) (Nat.le_refl _) (some (.row 512 [pageC q.2]))
   have hlen:=hs.len
   all_goals refine ret_st ?_ (by first|exact Nat.le_refl _|(simp only[length_set,length_append];omega)|omega)
   all_goals simp only[resA.eq_1,resL.eq_1,resL.eq_2,resV.eq_1,resV.eq_2,↓wBA,tBb,convA,seval,wH,lz,pc]
   rw[← hq2]
   exact⟨hs,rfl⟩
 ·rw[lk_none_of hno]at hl;cases hl
theorem abread1 {σ:St}{b p n dd l kh:Nat}{B G:Nat→Prop}{ch:List (Nat×List UInt8)}{P:PoolV}(h:BatchAt σ b p B ch)(hl:lkM ch n=none)(hP:PoolAt σ p dd l kh G P)(hd:∀ t,B t→G t→False)(hn:n<P.pages)(hc:P.ct+1<18446744073709551616)(hw:P.dq+8≤1000000000000):
 ACalls Tryz.prog 84 [.mp b 2 0 0,intV .i64 (n:Nat)] σ fun r σ'=>r= .tup [pageA (P.view n),intV .i64 0]∧∃ G' P',Fr σ σ' G G'∧PoolAt σ' p dd l kh G' P'∧Kp P P' 0:=by
 obtain⟨w,a,hb,hB⟩:=id h
 have h0:=hb.o
 have l0:=at_lt h0
 have z5:=pageC_512 len_zero512
 have hlt:=hP.lt
 refine acalls_of cx_ok dr_ok Tryz.func84 (by kernel_rfl) rfl (nt:=29) (rs:=[.cell 4 111,.tmp 5]) rfl rfl ?_
 repeat' first|((with_reducible first|apply cs|apply ws)<;>intro h<;>try simp only[h])|simp only[↓wBA,tBb,convA,seval,wH,zl512]
 refine (afind (h.ap (Ap.app _ _)) n).mono ?_
 rintro r s ⟨ha,hf⟩
 have ha0:=(Ap.app σ _).trans ha
 rcases hf with⟨i,q,hq,hqn,rfl⟩|⟨hno,rfl⟩
 ·have hqn:q.1=n:=by omega
  have:=lk_of_get hb.kn hq
  rw[hqn,hl]at this;cases this
 ·have k0:=ha0.get h0
  have q0:=at_lt k0
  have kz:=ha.get (t:=σ.length) (x:=some (.row 512 [List.map (fun x=>AV.p (PV.v x)) (zB 512)])) (by simp)
  have b1:decide ((-1:Int)≥0)=false:=rfl
  repeat' first|((with_reducible first|apply cs|apply ws)<;>intro h<;>try simp only[h])|simp only[↓wBA,tBb,convA,seval,wH,k0,q0,b1]
  refine (aread (hP.ap ha0) hn hc hw).mono ?_
  rintro _ s2 ⟨rfl,G1,P1,hF,hA,hK⟩
  have c1:=hF.get kz (fun e=>Nat.lt_irrefl _ (hlt _ e))
  rw[zB_512]at c1
  have l1:=at_lt c1
  have hpl:=(hP.vlen n).1
  have pc:=pageC_512 hpl
  repeat' first|((with_reducible first|apply cs|apply ws)<;>intro h<;>try simp only[h])|simp only[↓wBA,tBb,convA,seval,wH,c1,l1,pc,z5,pageA]
  have hF':=ha0.fr.trans hF
  have hlen:=hF'.len
  have hns:σ.length<s.length:=at_lt kz
  all_goals refine ret_st ?_ (by first|exact Nat.le_refl _|(simp only[length_set,length_append];omega)|omega)
  all_goals simp only[resA.eq_1,resL.eq_1,resL.eq_2,resV.eq_1,resV.eq_2,↓wBA,tBb,convA,seval,wH,l1,pc]
  refine⟨G1,P1,⟨by simpa using hlen,fun t ht hn=> ?_,hF'.own⟩,hA.same fun t ht=>List.getElem?_set_ne fun e=> ?_,hK⟩
  ·rw[List.getElem?_set_ne (by omega)];exact hF'.keep t ht hn
  ·subst e
   rcases hF.own _ ht with e|e
   ·exact Nat.lt_irrefl _ (hlt _ e)
   ·omega
theorem set_at {ch:List (Nat×List UInt8)}(hk:(ch.map Prod.fst).Nodup){i:Nat}{q:Nat×List UInt8}(h:ch[i]? =some q)(pg:List UInt8):setM ch q.1 pg=ch.set i (q.1,pg):=by
 induction ch generalizing i with
 |nil=>simp at h
 |cons r ch ih=>
  simp only[map_cons,List.nodup_cons]at hk
  cases i with
  |zero=>simp at h;subst h;simp[setM]
  |succ i=>
   simp at h
   have hm:q.1∈ch.map Prod.fst:=mem_map.2 ⟨q,mem_of_getElem? h,rfl⟩
   have hne:¬ r.1=q.1:=fun e=>hk.1 (e▸hm)
   simp only[setM,if_neg hne,List.set_cons_succ,ih hk.2 h]
theorem set_new {ch:List (Nat×List UInt8)}{n:Nat}(h:∀ q∈ch,(q.1:Int)≠(n:Int))(pg:List UInt8):setM ch n pg=ch++[(n,pg)]:=by
 induction ch with
 |nil=>rfl
 |cons r ch ih=>
  have hne:¬ r.1=n:=fun e=>h r (by simp) (by rw[e])
  simp only[setM,if_neg hne,List.cons_append,ih fun q hq=>h q (by simp[hq])]
theorem mem_setM {ch:List (Nat×List UInt8)}(h:∀ q∈ch,q.2.length=512){n:Nat}{pg:List UInt8}(hp:pg.length=512):∀ q∈setM ch n pg,q.2.length=512:=by
 induction ch with
 |nil=>intro q hq;simp[setM]at hq;subst hq;exact hp
 |cons r ch ih=>
  intro q hq
  simp only[setM]at hq
  split at hq
  ·rcases List.mem_cons.1 hq with rfl|hq
   ·exact hp
   ·exact h q (by simp[hq])
  ·rcases List.mem_cons.1 hq with rfl|hq
   ·exact h _ (by simp)
   ·exact ih (fun q hq=>h q (by simp[hq])) q hq
theorem abwrite {σ:St}{b p n:Nat}{B:Nat→Prop}{ch:List (Nat×List UInt8)}(h:BatchAt σ b p B ch)(pg:List UInt8)(hp:pg.length=512)(hbig:ch.length+1≤100000):
 ACalls Tryz.prog 50 [.mp b 2 0 0,intV .i64 (n:Nat),pageA pg] σ fun r σ'=>r= .tup []∧∃ B',Fr σ σ' B B'∧BatchAt σ' b p B' (setM ch n pg):=by
 obtain⟨w,a,hb,hB⟩:=id h
 have h0:=hb.o
 have l0:=at_lt h0
 have pc:=pageC_512 hp
 refine acalls_of cx_ok dr_ok Tryz.func50 (by kernel_rfl) rfl (nt:=29) (rs:=[]) rfl rfl ?_
 repeat' first|((with_reducible first|apply cs|apply ws|apply wd|apply wu)<;>intro h<;>try simp only[h])|simp only[↓wBA,tBb,convA,seval,pl50_3Bb,pl50_4Bb,wH,pageA,pc]|(with_reducible first|refine dQ pl50_3Bb 9 (some 12) ?_|refine dQ pl50_4Bb 13 (some 20) ?_)
 have hA:=h.ap (Ap.app σ [some (.row 512 [pageC pg])])
 refine (afind hA n).mono ?_
 rintro r s ⟨ha,hf⟩
 have ha0:=(Ap.app σ _).trans ha
 have k0:=ha0.get h0
 have q0:=at_lt k0
 have kz:=ha.get (t:=σ.length) (x:=some (.row 512 [pageC pg])) (by simp)
 have lz:=at_lt kz
 have m1:(b=σ.length)=False:=nf (fun e=>by omega)
 have m2:(σ.length=b)=False:=nf (fun e=>by omega)
 rcases hf with⟨i,q,hq,hqn,rfl⟩|⟨hno,rfl⟩
 ·have hqn:q.1=n:=by omega
  subst hqn
  have hlt:=(List.getElem?_eq_some_iff.1 hq).1
  have hql:=hb.len q (mem_of_getElem? hq)
  rcases hb.chg with⟨_,_,rfl⟩|⟨t,rfl,rfl,h3⟩
  ·simp at hq
  ·obtain⟨ls,h1,h2,h3'⟩:=h3.row
   have h4:=h3.get
   obtain⟨ls',h1',h5⟩:=h4
   rw[h1]at h1'
   simp only[Option.some.injEq,Ob.row.injEq,true_and]at h1'
   subst h1'
   have l1:=at_lt h1
   have k1:=ha0.get h1
   have q1:=at_lt k1
   have k2:=h5 i q hq
   have b1:decide ((i:Int)≥0)=true:=by simp
   have b2:((i:Int)<(ch.length:Int))=True:=eq_true (by omega)
   have b3:=nnI i
   have il:=imgR_len hql
   have i1:List.take 1 (imgR q)++pageC pg++List.drop 513 (imgR q)=imgR (q.1,pg):=by
    have e:List.drop 513 (imgR q)=[]:=List.drop_eq_nil_of_le (by omega)
    rw[e,List.append_nil];rfl
   have hb':=hb.big
   have m3:(t=σ.length)=False:=nf (fun e=>by omega)
   have m4:(σ.length=t)=False:=nf (fun e=>by omega)
   repeat' first|((with_reducible first|apply cs|apply ws|apply wd|apply wu)<;>intro h<;>try simp only[h])|simp only[↓wBA,tBb,convA,seval,pl50_3Bb,pl50_4Bb,wH,k0,q0,k1,q1,k2,kz,lz,b1,b2,b3,il,i1,pc,m1,m2,m3,m4]|(with_reducible first|refine dQ pl50_3Bb 9 (some 12) ?_|refine dQ pl50_4Bb 13 (some 20) ?_)
   have hlen:=ha0.len
   all_goals refine ret_st ?_ (by first|exact Nat.le_refl _|(simp only[length_set,length_append];omega)|omega)
   all_goals simp only[resA.eq_1,resL.eq_1,resL.eq_2,resV.eq_1,resV.eq_2,↓wBA,tBb,convA,seval,wH,q1]
   have hBt:B t:=(hB t).2 (.inr rfl)
   refine⟨B,ha0.fr.set _ hBt,some t,_,⟨?_,.inr ⟨t,by rw[set_at hb.kn hq,length_set],rfl,⟨_,by simp[q1];rfl,?_,?_⟩⟩,mem_setM hb.len hp,nodup_set _ _ _ hb.kn,?_⟩,hB⟩
   ·rw[List.getElem?_set_ne (ne_of_ob h1 h0 (by simp))];exact k0
   ·rw[set_at hb.kn hq,length_set,List.take_set,h2,List.map_set]
   ·rw[set_at hb.kn hq];simpa using h3'
   ·rw[set_at hb.kn hq,length_set];exact hb'
 ·have hnew:=set_new hno pg
  have b1:decide ((-1:Int)≥0)=false:=rfl
  have il:(imgR (n,pg)).length=513:=imgR_len hp
  have ir:AV.p (.v (.int .i64 (n:Int)))::pageC pg=imgR (n,pg):=rfl
  have hl1:=tL (n:=(ch.length+1)*520) (by omega)
  have htp:toPs (imgR (n,pg))=some (.v (.int .i64 (n:Int))::pg.map byteP):=toPs_row
  have hmp:List.map AV.p (.v (.int .i64 (n:Int))::pg.map byteP)=imgR (n,pg):=by simp only[map_cons,map_byteP];rfl
  have hmq:AV.p (.v (.int .i64 (n:Int)))::List.map AV.p (pg.map byteP)=imgR (n,pg):=hmp
  have hpl:(PV.v (.int .i64 (n:Int))::pg.map byteP).length=513:=by simp[hp]
  have hl2:=lM (n:=ch.length+1) (by omega)
  have hl4:=lM (n:=1) (by omega)
  rcases hb.chg with⟨rfl,rfl,rfl⟩|⟨t,rfl,rfl,h3⟩
  ·skip
   repeat' first|((with_reducible first|apply cs|apply ws|apply wd|apply wu)<;>intro h<;>try simp only[h])|simp only[↓wBA,tBb,convA,seval,pl50_3Bb,pl50_4Bb,wH,k0,q0,kz,lz,b1,il,ir,pc,m1,m2,hl1,hl2,hl4,htp,hmp,hmq,hpl,wZt,hp,appendA,srcA,appendM,srcM,sliceA,elemsA,boundA]|(with_reducible first|refine dQ pl50_3Bb 9 (some 12) ?_|refine dQ pl50_4Bb 13 (some 20) ?_)
   have hlen:=ha0.len
   all_goals refine ret_st ?_ (by first|exact Nat.le_refl _|(simp only[length_set,length_append];omega)|omega)
   all_goals simp only[resA.eq_1,resL.eq_1,resL.eq_2,resV.eq_1,resV.eq_2,↓wBA,tBb,convA,seval,wH,q0]
   have hBb:B b:=(hB b).2 (.inl rfl)
   refine⟨fun t=>t=b∨some (s.length+1)=some t,(((ha0.fr.set _ hBb).app _).app _).to fun t ht=> ?_,some (s.length+1),_,⟨?_,.inr ⟨s.length+1,rfl,rfl,⟨[imgR (n,pg)],?_,?_,?_⟩⟩,mem_setM hb.len hp,nodup_set _ _ _ hb.kn,?_⟩,fun t=>Iff.rfl⟩
   ·rcases ht with rfl|ht
    ·exact .inl hBb
    ·simp at ht;omega
   ·simp only[wH,q0,List.length_nil,Nat.zero_add];rfl
   ·simp
   ·rfl
   ·rw[hnew];simp
   ·rw[hnew];simp
  ·obtain⟨ls,h1,h2,h3'⟩:=h3.row
   have l1:=at_lt h1
   have k1:=ha0.get h1
   have q1:=at_lt k1
   have hl3:=eq_true h3'
   have m3:(t=σ.length)=False:=nf (fun e=>by omega)
   have m5:(t=b)=False:=nf (ne_of_ob h1 h0 (by simp))
   have m6:(b=t)=False:=nf (ne_of_ob h0 h1 (by simp))
   have m4:(σ.length=t)=False:=nf (fun e=>by omega)
   repeat' first|((with_reducible first|apply cs|apply ws|apply wd|apply wu)<;>intro h<;>try simp only[h])|simp only[↓wBA,tBb,convA,seval,pl50_3Bb,pl50_4Bb,wH,k0,q0,k1,q1,kz,lz,b1,il,ir,pc,m1,m2,m3,m4,m5,m6,hl1,hl2,hl3,hl4,h2,htp,hmp,hmq,hpl,wZt,hp,appendA,srcA,appendM,srcM,sliceA,elemsA,boundA]|(with_reducible first|refine dQ pl50_3Bb 9 (some 12) ?_|refine dQ pl50_4Bb 13 (some 20) ?_)
   have hlen:=ha0.len
   all_goals refine ret_st ?_ (by first|exact Nat.le_refl _|(simp only[length_set,length_append];omega)|omega)
   all_goals simp only[resA.eq_1,resL.eq_1,resL.eq_2,resV.eq_1,resV.eq_2,↓wBA,tBb,convA,seval,wH,q0]
   have hBb:B b:=(hB b).2 (.inl rfl)
   have hBt:B t:=(hB t).2 (.inr rfl)
   refine⟨fun t=>t=b∨some (s.length+1)=some t,((((ha0.fr.set _ hBt).set _ hBb).app _).app _).to fun t ht=> ?_,some (s.length+1),_,⟨?_,.inr ⟨s.length+1,by rw[hnew,length_append],rfl,⟨ch.map imgR++[imgR (n,pg)],?_,?_,?_⟩⟩,mem_setM hb.len hp,nodup_set _ _ _ hb.kn,?_⟩,fun t=>Iff.rfl⟩
   ·rcases ht with rfl|ht
    ·exact .inl hBb
    ·simp at ht;omega
   ·simp only[wH,q0,m5,m6];rfl
   ·simp
   ·rw[hnew];simp;exact List.take_of_length_le (by simp)
   ·rw[hnew];simp
   ·rw[hnew];simp;omega
def tBc:=aa wX <| aa wbu <| aa T3 <| aa T5 <| aa T23 <| aa T87 <| aa T111 T138
def OwnB (σ:St)(a:AV)(r:List UInt8):Prop:=(a= .p (.v (.slice none 0 0))∧r=[])∨∃ t,a= .own t 1 (encB r)∧σ[t]? =some (some (.right 5 r.length))∧0<r.length
theorem u8_nat (n:Nat):IntKind.u8.wrap (n:Int)=((UInt8.ofNat (n % 256)).toNat:Int):=by
 rw[IntKind.wrap_u8,UInt8.toNat_ofNat'];omega
theorem u8_nat2 (n:Nat):IntKind.u8.wrap ((n:Int).fdiv (2 ^ min 8 IntKind.i64.bits))=((UInt8.ofNat (n / 256 % 256)).toNat:Int):=by
 have e1:(n:Int).fdiv (2 ^ min 8 IntKind.i64.bits)=((n / 256:Nat):Int):=by
  rw[show (2:Int) ^ min 8 IntKind.i64.bits=256 from rfl,Int.fdiv_eq_ediv_of_nonneg _ (by omega)];omega
 rw[e1,u8_nat]
theorem encB_map (l:List UInt8):List.map (fun x=>[x]) (List.map byteP l)=encB l:=by simp[encB]
theorem arecord {σ:St}{t:Nat}(ch:List (Nat×List UInt8))(h:ChAt σ t ch)(hlen:∀ q∈ch,q.2.length=512)(hb:ch.length≤100000):
 ACalls Tryz.prog 52 [.ms t 513 0 ch.length] σ fun r σ'=>Ap σ σ'∧OwnB σ' r (imgsB ch):=by
 obtain⟨ls,h1,h2⟩:=h.get
 refine acalls_of cx_ok dr_ok Tryz.func52 (by kernel_rfl) rfl (nt:=27) (rs:=[.tmp 2]) rfl rfl ?_
 repeat' first|((with_reducible first|apply cs|apply ws)<;>intro h<;>try simp only[h])|simp only[↓wBA,tBc,convA,seval,wH]
 refine awp_loopS (X:={ i:Nat // i≤ch.length }×AV) (fun i=>ch.length - i.1.1) (fun i=>[(8,intV .i64 (i.1.1:Nat)),(3,i.2)]) [5,9,10,11,12,13,14,15,16,17,18,19,20,21,22,23,24,25,26] (fun i s=>Ap σ s∧OwnB s i.2 (imgsB (ch.take i.1.1))∧∀ t r,i.2= .own t 1 r→σ.length≤t) ((⟨0,by omega⟩,.p (.v (.slice none 0 0)))) ?_ ?_ ?_ ?_
 ·simp only[wHl,wHf]
 ·exact⟨Ap.refl _,.inl ⟨rfl,rfl⟩,fun t r e=>by cases e⟩
 ·rintro _ _ ⟨hf,_⟩;exact hf.len
 ·intro y J s hI
  simp only[wHl]
  obtain⟨⟨i,hi⟩,a⟩:=y
  obtain⟨ha,ho,hnew⟩:=hI
  dsimp only at*
  have hlen':=ha.len
  by_cases hlt:i<ch.length
  ·have k1:=ha.get h1
   have q1:=at_lt k1
   have b1:=dT (i:=i) (n:=ch.length) (by omega)
   have b2:((i:Int)<(ch.length:Int))=True:=eq_true (by omega)
   have b3:=nnI i
   have hw1:=wI i (by omega)
   obtain⟨q,hq⟩:∃ q,ch[i]? =some q:=⟨ch[i],by simp[hlt]⟩
   have k2:=h2 i q hq
   have hql:=hlen q (mem_of_getElem? hq)
   have il:=imgR_len hql
   have i0:(imgR q)[0]? =some (.p (.v (.int .i64 (q.1:Nat)))):=rfl
   have i1:List.take 512 (List.drop 1 (imgR q))=pageC q.2:=by simp only[imgR,List.drop_succ_cons,List.drop_zero,take_page hql]
   have i2:List.take 513 (imgR q)=imgR q:=List.take_of_length_le (by omega)
   have pc:=pageC_512 hql
   obtain⟨c0,hq0⟩:∃ c0,UInt8.ofNat (q.1 % 256)=c0:=⟨_,rfl⟩
   obtain⟨c1,hq1⟩:∃ c1,UInt8.ofNat (q.1 / 256 % 256)=c1:=⟨_,rfl⟩
   have hc0:=u8_nat q.1
   have hc1:=u8_nat2 q.1
   rw[hq0]at hc0
   rw[hq1]at hc1
   have htk:ch.take (i+1)=ch.take i++[q]:=by rw[List.take_add_one,hq];rfl
   have him:imgsB (ch.take (i+1))=imgsB (ch.take i)++(c0::c1::q.2):=by rw[htk,imgsB_app,←hq0,←hq1];simp[imgsB,imgB]
   obtain⟨r,hrr⟩:∃ r,imgsB (ch.take i)=r:=⟨_,rfl⟩
   have hr:r.length=514*i:=by rw[← hrr,imgsB_len fun x hx=>hlen x (List.mem_of_mem_take hx),List.length_take,Nat.min_eq_left hi]
   rw[hrr]at ho him
   have he1:[[PV.v (.int .u8 (c0.toNat:Int))],[PV.v (.int .u8 (c1.toNat:Int))]]=encB [c0,c1]:=rfl
   have lm0:=lM (n:=2) (by omega)
   have lm1:=lM (n:=514*i+2) (by omega)
   have lm2:=lM (n:=514*i+514) (by omega)
   have lm3:=lM (n:=2+512) (by omega)
   have tl1:=tL (n:=514*i+2) (by omega)
   have tl2:=tL (n:=514*i+514) (by omega)
   rcases ho with⟨rfl,h0⟩|⟨t',rfl,hr2,hr3⟩
   ·skip
    repeat' first|((with_reducible first|apply cs|apply ws)<;>intro h<;>try simp only[h])|simp only[↓wBA,tBc,convA,seval,wH,wHl,b1,b2,b3,k1,q1,k2,il,i0,i1,i2,pc,hw1,hc0,hc1,encB_map,encB_len,hql,Nat.mul_one,lm0,lm1,lm2,lm3,tl1,tl2,wZt,appendA,srcA,sliceA,elemsA,boundA]
    refine⟨(⟨i+1,by omega⟩,.own (s.length+2) 1 (encB (c0::c1::q.2))),by show ch.length - (i+1)<ch.length - i;omega,⟨((ha.more _).more _).more _,.inr ⟨s.length+2,?_,?_,?_⟩,fun t r e=>by cases e;omega⟩,?_⟩
    ·show _=AV.own _ 1 (encB (imgsB (ch.take (i+1))));rw[him,h0];rfl
    ·show _=some (some (Ob.right _ (imgsB (ch.take (i+1))).length));rw[him,h0];simp[hql]
    ·show 0<(imgsB (ch.take (i+1))).length;rw[him];simp only[length_append,List.length_cons];omega
    ·rfl
   ·rw[hr]at hr2
    have q2:=at_lt hr2
    repeat' first|((with_reducible first|apply cs|apply ws)<;>intro h<;>try simp only[h])|simp only[↓wBA,tBc,convA,seval,wH,wHl,b1,b2,b3,k1,q1,k2,il,i0,i1,i2,pc,hw1,hr2,q2,hc0,hc1,he1,encB_map,encB_app,encB_len,length_append,hql,Nat.mul_one,lm0,lm1,lm2,lm3,tl1,tl2,wZt,appendA,srcA,sliceA,elemsA,boundA,hr]
    have ht':=hnew t' _ rfl
    refine⟨(⟨i+1,by omega⟩,.own t' 1 (encB (r++[c0,c1]++q.2))),by show ch.length - (i+1)<ch.length - i;omega,⟨((ha.set ht' _).more _).more _,.inr ⟨t',?_,?_,?_⟩,fun t r e=>by cases e;exact ht'⟩,?_⟩
    ·show _=AV.own _ 1 (encB (imgsB (ch.take (i+1))));rw[him];simp
    ·show _=some (some (Ob.right _ (imgsB (ch.take (i+1))).length));have e:(imgsB (ch.take (i+1))).length=514*i+514:=by rw[him];simp[hql,hr]
     rw[e]
     simp only[wH,wHe,Nat.reduceAdd,Nat.reduceLT,Nat.reduceEqDiff,Nat.reduceMul,reduceCtorEq,Nat.lt_irrefl,q2,Nat.mul_add,Nat.mul_one]
    ·show 0<(imgsB (ch.take (i+1))).length;rw[him];simp only[length_append,List.length_cons];omega
    ·rfl
  ·have he:i=ch.length:=by omega
   subst he
   have b1:=dF (i:=ch.length) (n:=ch.length) (by omega)
   repeat' first|((with_reducible first|apply cs|apply ws)<;>intro h<;>try simp only[h])|simp only[↓wBA,tBc,convA,seval,wH,wHl,b1]
   all_goals refine ret_st ?_ (by first|exact Nat.le_refl _|(simp only[length_set,length_append];omega)|omega)
   all_goals simp only[resA.eq_1,resL.eq_1,resL.eq_2,resV.eq_1,resV.eq_2,↓wBA,tBc,convA,seval,wH]
   rw[List.take_length]at ho
   exact⟨ha,ho⟩
end Go.Proofs.YthhbnenaihkggaaGreat
