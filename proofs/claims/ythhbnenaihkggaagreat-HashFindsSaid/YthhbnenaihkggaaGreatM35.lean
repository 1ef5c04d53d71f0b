/- Heaps: number, Make, read. Heaps: Insert. Heaps: at, Get, Set, Drop. -/
import Derived.Test.YthhbnenaihkggaaGreatM34
set_option linter.unusedSimpArgs false
set_option linter.unusedVariables false
set_option linter.defProp false
set_option maxRecDepth 100000
set_option maxHeartbeats 32000000
namespace Go.Proofs.YthhbnenaihkggaaGreat
open Go.RowKit
open List (length_append length_cons length_nil length_set mem_of_getElem? set_set)
def pl77_7Hg:Plan:=(.det 0 (.det 1 (.det 2 (.det 3 (.det 4 (.det 5 (.det 6 (.det 7 (.det 8 (.det 9 (.det 10 (.act 11 (.det 12 (.det 13 .done))))))))))))))
def tHg:=aa wX <| aa wbu <| aa T3 <| aa T4 <| aa T5 <| aa T23 <| aa T25 <| aa T29 T111
theorem Fr.setN {σ σ':St}{F F':Nat→Prop}(h:Fr σ σ' F F'){t:Nat}(ht:σ.length≤t)(x:Option Ob):Fr σ (σ'.set t x) F F':=
 ⟨by simpa using h.len,fun s hs hn=>by rw[List.getElem?_set_ne (by omega)];exact h.keep s hs hn,h.own⟩
theorem ACalls.ans {P:Program}{f:FuncId}{args:List AV}{σ:St}{R R':AV→St→Prop}(h:ACalls P f args σ R)(hk:∀ r s,R r s→∃ r',R' r' s∧∀ (M:View) (v:Value),ARep M r v→ARep M r' v):ACalls P f args σ R':=
 ⟨h.1,fun M vs hM hv=>(h.2 M vs hM hv).mono fun e w' ⟨v,r,s,M',h1,h2,h3,h4,h5,h6,h7⟩=>by
  obtain⟨r',h8,h9⟩:=hk r s h7
  exact⟨v,r',s,M',h1,h2,h3,h4,h9 _ _ h5,h6,h8⟩⟩
theorem own_data {M:View}{t e:Nat}{ls:List (List PV)}{u:Value}(h:ARep M (.own t e ls) u):ARep M (.p (.sl e ls)) u:=by
 simp only[ARep,PRep]at h ⊢
 obtain⟨b,cap,n,h1,h2,h3,h4,_⟩:=h
 exact .inr ⟨b,0,cap,h1,h2,h4⟩
theorem or2 {k:Nat}(h:k<65536):IntKind.i64.wrap ((BitVec.ofInt IntKind.i64.bits (IntKind.i64.wrap ((UInt8.ofNat k).toNat:Int)) ||| BitVec.ofInt IntKind.i64.bits (IntKind.i64.wrap (IntKind.i64.wrap ((UInt8.ofNat (k / 256)).toNat:Int)*2 ^ min 8 IntKind.i64.bits))).toNat:Int)=(k:Int):=by
 have h1:=(UInt8.ofNat k).toNat_lt
 have h2:=(UInt8.ofNat (k / 256)).toNat_lt
 have h3:(2:Int) ^ min 8 IntKind.i64.bits=256:=by decide
 rw[h3,wrap_i64 (n:=((UInt8.ofNat k).toNat:Int)) (by omega) (by omega),wrap_i64 (n:=((UInt8.ofNat (k / 256)).toNat:Int)) (by omega) (by omega),wrap_i64 (n:=((UInt8.ofNat (k / 256)).toNat:Int)*256) (by omega) (by omega)]
 have h4:=or_bytes (UInt8.ofNat k) (UInt8.ofNat (k / 256))
 rw[num2_dec h]at h4
 exact h4
theorem ahnum (k:Nat)(hk:k<65536)(σ:St):ACalls Tryz.prog 75 [intV .i64 (k:Nat)] σ fun r σ'=>Ap σ σ'∧r= .p (.sl 1 (encB (num2 k))):=by
 have e1:IntKind.u8.wrap (k:Int)=((UInt8.ofNat k).toNat:Int):=by rw[IntKind.wrap_u8,UInt8.toNat_ofNat'];omega
 have e2:IntKind.u8.wrap ((k:Int).fdiv (2 ^ min 8 IntKind.i64.bits))=((UInt8.ofNat (k / 256)).toNat:Int):=by
  have:(2:Int) ^ min 8 IntKind.i64.bits=256:=by decide
  rw[this,Int.fdiv_eq_ediv_of_nonneg _ (by omega),IntKind.wrap_u8,UInt8.toNat_ofNat'];omega
 have h:ACalls Tryz.prog 75 [intV .i64 (k:Nat)] σ fun r σ'=>Ap σ σ'∧r= .own σ.length 1 (encB (num2 k)):=by
  refine acalls_of cx_ok dr_ok Tryz.func75 (by kernel_rfl) rfl (nt:=8) (rs:=[.tmp 2]) rfl rfl ?_
  repeat' first|((with_reducible first|apply cs|apply ws)<;>intro h<;>try simp only[h])|simp only[↓wBA,tHg,convA,seval,wH,e1,e2]
  all_goals refine ret_st ?_ (by first|exact Nat.le_refl _|(simp only[length_set,length_append];omega)|omega)
  all_goals simp only[resA.eq_1,resL.eq_1,resL.eq_2,resV.eq_1,resV.eq_2,↓wBA,tHg,convA,seval,wH]
  exact⟨Ap.app _ _,by simp only[encB,num2,List.map_cons,List.map_nil,byteP]⟩
 refine h.ans ?_
 rintro _ s ⟨ha,rfl⟩
 exact⟨_,⟨ha,rfl⟩,fun M v=>own_data⟩
section
variable {σ:St} {b p dd l kh n nx:Nat} {U:Nat→Prop} {P:PoolV} {v:Nat→List UInt8} {ss:List (Option (List UInt8))} {T:Nat→Bool}
theorem ahread (h:Bt σ b p dd l kh U P v)(hn:n<P.pages)(hp:HPg (v n) nx ss)(hb:Bud P 1):
 ACalls Tryz.prog 77 [.mp b 2 0 0,intV .i64 (n:Nat)] σ fun r σ'=>r= .tup [pageA (v n),intV .i64 (nx:Nat),intV .i64 0]∧∃ U' P',Fr σ σ' U U'∧Bt σ' b p dd l kh U' P' v∧Kp P P' 0:=by
 have hl:=hp.len.1
 have hpc:=pageC_512 hl
 have z5:=pageC_512 len_zero512
 have hgt:=hp.zero
 have hkd:=hp.pg.kind
 refine acalls_of cx_ok dr_ok Tryz.func77 (by kernel_rfl) rfl (nt:=48) (rs:=[.cell 4 111,.tmp 5,.tmp 6]) rfl rfl ?_
 repeat' first|((with_reducible first|apply cs|apply ws|apply wd|apply wu)<;>intro h<;>try simp only[h])|simp only[↓wBA,tHg,convA,seval,pl77_7Hg,wH,zl512,zB_512,len_zero512,z5]|(with_reducible refine dQ pl77_7Hg 14 (some 39) ?_)
 refine (abRead (h.ap (Ap.app _ _)) hn hb).mono ?_
 rintro _ s ⟨rfl,U1,P1,f1,h1,k1⟩
 have hlt:=h.lt
 have x1:=f1.get (t:=σ.length) (x:=some (.row 512 [pageC zero512])) (by simp) (fun e=>Nat.lt_irrefl _ (hlt _ e))
 have y1:=at_lt x1
 have hgt':getL (v n) 0=some (num2 nx):=hgt
 repeat' first|((with_reducible first|apply cs|apply ws|apply wd|apply wu)<;>intro h<;>try simp only[h])|simp only[↓wBA,tHg,convA,seval,pl77_7Hg,wH,pageA,hpc,hl,zl512,zB_512,len_zero512,z5,x1,y1,hkd,hgt',recP,encB,num2,List.map_cons,List.map_nil,byteP,Option.isSome_some]|((with_reducible show ACalls _ _ _ _ _);first|refine (aget (v n) 0 hl _).eq ?_|refine (akind (v n) hl _).eq ?_)|(with_reducible refine dQ pl77_7Hg 14 (some 39) ?_)
 have hor:=or2 hp.nx
 have l1:=f1.len
 simp only[length_append,length_cons,length_nil]at l1
 have hsl:¬ U1 σ.length:=fun e=>(f1.own _ e).elim (fun e=>Nat.lt_irrefl _ (hlt _ e)) fun e=>by simp at e;omega
 all_goals refine ret_st ?_ (by first|exact Nat.le_refl _|(simp only[length_set,length_append];omega)|omega)
 all_goals simp only[resA.eq_1,resL.eq_1,resL.eq_2,resV.eq_1,resV.eq_2,↓wBA,tHg,convA,seval,wH,pageA,hpc,x1,y1,hor]
 refine⟨U1,P1,?_,?_,k1⟩
 ·exact (((Fr.ofApp (F':=U) fun t ht=>.inl ht).trans f1).setN (Nat.le_refl _) _).app _
 ·exact (h1.set hsl _).ap (Ap.app _ _)
theorem amake (h:Bt σ b p dd l kh U P v)(hT:Tk (v 0) P.pages T)(hnp:P.pages≤3200)(hnp1:1≤P.pages)(hT0:T 0=true)(hb:Bud P 1):
 ACalls Tryz.prog 39 [.mp b 2 0 0] σ fun r σ'=>∃ U' P' v',Fr σ σ' U U'∧Bt σ' b p dd l kh U' P' v'∧Kp P P' 0∧((∃ m,1≤m∧m<P.pages∧T m=false∧r= .tup [intV .i64 (m:Nat),intV .i64 0]∧HPg (v' m) 0 []∧(∀ q,q≠m→q≠0→v' q=v q)∧Tk (v' 0) P.pages (updT T m true))∨((∀ n,n<P.pages→T n=true)∧r= .tup [intV .i64 0,intV .i64 20]∧v'=v)):=by
 refine acalls_of cx_ok dr_ok Tryz.func39 (by kernel_rfl) rfl (nt:=30) (rs:=[.tmp 2,.tmp 3]) rfl rfl ?_
 repeat' first|((with_reducible first|apply cs|apply ws)<;>intro h<;>try simp only[h])|simp only[↓wBA,tHg,convA,seval,wH]
 refine (abAlloc (kind:=1) h hT hnp hnp1 hT0 hb).mono ?_
 rintro r s ⟨U1,P1,v1,f1,h1,k1,hc⟩
 have l1:=f1.len
 rcases hc with⟨m,m1,m2,hTm,rfl,hvm,hvo,hTk⟩|⟨hall,rfl,rfl⟩
 ·have hQl:(addL (newL 1) (num2 0)).1.length=512:=length_addL _ _
  have hQp:=pageC_512 hQl
  have z5:=pageC_512 len_zero512
  repeat' first|((with_reducible first|apply cs|apply ws)<;>intro h<;>try simp only[h])|simp only[↓wBA,tHg,convA,seval,wH,pageA,hQl,hQp,zl512,zB_512,len_zero512,z5]|((with_reducible show ACalls _ _ _ _ _);first|refine (anew _ _).eq ?_|(refine (ahnum 0 (by omega) _).mono ?_;rintro _ s2 ⟨a2,rfl⟩)|refine (aaddP (newL 1) (num2 0) _ (length_newL _) (.inl rfl) (by simp[num2]) _).eq ?_)
  have hmd:=HPg.made (m:=0)
  have l2:=a2.len
  refine (abWrt ((h1.ap a2).ap (Ap.app _ _)) m1 (by rw[k1.pages];exact m2) _ hQl hmd.len.2).mono ?_
  rintro _ s3 ⟨rfl,U3,f3,h3⟩
  have l3:=f3.len
  simp only[length_append,length_cons,length_nil]at l3
  repeat' first|((with_reducible first|apply cs|apply ws)<;>intro h<;>try simp only[h])|simp only[↓wBA,tHg,convA,seval,wH]
  all_goals refine ret_st ?_ (by first|exact Nat.le_refl _|(simp only[length_set,length_append];omega)|omega)
  all_goals simp only[resA.eq_1,resL.eq_1,resL.eq_2,resV.eq_1,resV.eq_2,↓wBA,tHg,convA,seval,wH]
  refine⟨U3,P1,_,((f1.trans a2.fr).trans (Ap.app s2 _).fr).trans f3,h3,k1,.inl ⟨m,m1,m2,hTm,rfl,?_,fun q hq hq0=> ?_,?_⟩⟩
  ·unfold upV;rw[if_pos rfl];exact hmd
  ·unfold upV;rw[if_neg hq];exact hvo q hq hq0
  ·unfold upV;rw[if_neg (by omega)];exact hTk
 ·skip
  repeat' first|((with_reducible first|apply cs|apply ws)<;>intro h<;>try simp only[h])|simp only[↓wBA,tHg,convA,seval,wH]
  all_goals refine ret_st ?_ (by first|exact Nat.le_refl _|(simp only[length_set,length_append];omega)|omega)
  all_goals simp only[resA.eq_1,resL.eq_1,resL.eq_2,resV.eq_1,resV.eq_2,↓wBA,tHg,convA,seval,wH]
  exact⟨U1,P1,_,f1,h1,k1,.inr ⟨hall,rfl⟩⟩
end
def pl40_16Hi:Plan:=(.det 0 (.det 1 (.act 2 (.fin 3 (.det 4 (.det 5 (.det 6 (.fin 7 .done))))))))
def tHi:=aa wX <| aa wbu <| aa T3 <| aa T23 <| aa T25 <| aa T29 <| aa T45 T111
def RecA (σ:St)(a:AV)(r:List UInt8):Prop:=(∃ x,a= .p x∧BX x r)∨∃ t,a= .ms t 1 0 r.length∧σ[t]? =some (some (.row 1 (bRow r)))
def msOf:AV→Option Nat
 | .ms t _ _ _=>some t
 |_=>none
theorem RecA.same {σ s:St}{a:AV}{r:List UInt8}(h:RecA σ a r)(hs:∀ t,msOf a=some t→s[t]? =σ[t]?):RecA s a r:=by
 rcases h with h|⟨t,rfl,h⟩
 ·exact .inl h
 ·exact .inr ⟨t,rfl,by rw[hs t rfl];exact h⟩
theorem RecA.lt {σ:St}{a:AV}{r:List UInt8}(h:RecA σ a r){t:Nat}(ht:msOf a=some t):t<σ.length:=by
 rcases h with⟨x,rfl,_⟩|⟨t',rfl,h⟩
 ·cases ht
 ·simp only[msOf,Option.some.injEq]at ht;subst ht;exact at_lt h
theorem RecA.ap {σ s:St}{a:AV}{r:List UInt8}(h:RecA σ a r)(ha:Ap σ s):RecA s a r:=h.same fun t ht=>by
 have:=h.lt ht
 obtain⟨τ,rfl⟩:=ha
 exact List.getElem?_append_left this
theorem RecA.len {σ:St}{a:AV}{r:List UInt8}(h:RecA σ a r):lenA cx 23 a=some r.length:=by
 rcases h with⟨x,rfl,rfl|⟨rfl,rfl⟩⟩|⟨t,rfl,_⟩
 ·show (match cx.kind 23 with|some (.slice ..)=>some (encB r).length|_=>none)=_
  rw[ck_23];simp[encB]
 ·rfl
 ·exact km_23
theorem aaddG {σ:St}{a:AV}(l r:List UInt8)(hl:l.length=512)(ha:RecA σ a r)(hrl:r.length≤140737488351232):ACalls Tryz.prog 74 [pageA l,a] σ fun r' σ'=>σ'=σ∧r'= .tup [pageA (addL l r).1,intV .i64 (addL l r).2.1,boolV (addL l r).2.2]:=by
 rcases ha with⟨x,rfl,hx⟩|⟨t,rfl,ht⟩
 ·exact aaddP l r x hl hx hrl σ
 ·exact aadd l r t hl hrl σ ht
theorem Ap.unmask {σ s:St}{t:Nat}{x:Option Ob}(h:Ap (σ.set t none) s)(hx:σ[t]? =some x):Ap σ (s.set t x):=by
 obtain⟨τ,rfl⟩:=h
 have hl:=at_lt hx
 refine⟨τ,?_⟩
 rw[List.set_append_left _ _ (by simpa using hl),set_set,set_back hx]
structure InsR (v v':Nat→List UInt8)(T T':Nat→Bool)(np:Nat)(ns ns':List Nat)(n k:Nat)(r:List UInt8):Prop where
 heap:Heap v' T' np ns'
 old:HRec v ns n k=none
 get:∀ n' k',HRec v' ns' n' k'=if n'=n∧k'=k then some r else HRec v ns n' k'
 tk:Tk (v' 0) np T'
 t0:T' 0=true
 mem:n∈ns'
 k1:1≤k
 pages:(ns'=ns∧T'=T∧v' 0=v 0)∨∃ m,T m=false∧m<np∧ns'=ns++[m]∧T'=updT T m true
 oth:∀ m,m∉ns'→m≠0→v' m=v m
theorem ahinsert {σ:St}{b p dd l kh first:Nat}{U:Nat→Prop}{P:PoolV}{v:Nat→List UInt8}{T:Nat→Bool}{ns:List Nat}{a:AV}{r:List UInt8}(h:Bt σ b p dd l kh U P v)(hT:Tk (v 0) P.pages T)(hnp:P.pages≤3200)(hT0:T 0=true)(hh:Heap v T P.pages ns)(hf:ns[0]? =some first)(ha:RecA σ a r)(hr:r.length≤400)(hm:∀ t,msOf a=some t→¬ U t)(hb:Bud P 1):
 ACalls Tryz.prog 40 [.mp b 2 0 0,intV .i64 (first:Nat),a] σ fun q σ'=>∃ U' P' v',Fr σ σ' U U'∧Bt σ' b p dd l kh U' P' v'∧Kp P P' 0∧((∃ n k T' ns',q= .tup [.agg [intV .i64 (n:Nat),intV .i64 (k:Nat)],intV .i64 0]∧InsR v v' T T' P.pages ns ns' n k r)∨((∀ n,n<P.pages→T n=true)∧q= .tup [.agg [intV .i64 0,intV .i64 0],intV .i64 20]∧v'=v)):=by
 have hlt:=h.lt
 have hla:=ha.len
 have e1:decide ((r.length:Int)>400)=false:=by simp;omega
 have hnl:=hh.len
 have hnp1:1≤P.pages:=by have:=(hh.tk first (mem_of_getElem? hf)).2.1;omega
 refine acalls_of cx_ok dr_ok Tryz.func40 (by kernel_rfl) rfl (nt:=76) (rs:=[.cell 6 45,.tmp 7]) rfl rfl ?_
 repeat' first|((with_reducible first|apply cs|apply ws|apply wd|apply wu)<;>intro h<;>try simp only[h])|simp only[↓wBA,tHi,convA,seval,pl40_16Hi,wH,hla,e1]|(with_reducible refine dQ pl40_16Hi 8 (some 64) ?_)
 obtain⟨S0,hS0⟩:∃ S0,S0=σ++[some (Ob.row 2 [[intV .i64 0,intV .i64 0]])]:=⟨_,rfl⟩
 have hb0:S0[σ.length]? =some (some (.row 2 [[intV .i64 0,intV .i64 0]])):=by rw[hS0];simp
 have hl0:S0.length=σ.length+1:=by rw[hS0];simp
 have ha0:=ha.ap (s:=S0) ⟨_,hS0⟩
 have h0:=h.ap (s:=S0) ⟨_,hS0⟩
 have f0:Fr σ S0 U U:=Ap.fr ⟨_,hS0⟩
 have hS1:σ++[some (Ob.row 2 [[AV.p (PV.v (Value.int IntKind.i64 0)),AV.p (PV.v (Value.int IntKind.i64 0))]])]=S0:=hS0.symm
 rw[hS1]
 refine awp_loopS (X:={ q:Nat×Nat // q.1≤ns.length }) (fun q=>ns.length+1 - q.1.1) (fun q=>[(8,intV .i64 (q.1.2:Nat))]) [7,9,10,11,12,13,14,15,26,27,28,29,30,31,32,33,34,35,36,37,38,39,40,41,42,43,44,45,46,47,48,49,50,51,52,53,54,55,56,57,58,59,60,61,62,63,64,65,66,67,68,69,70,71,72,73,74,75,76,77,78] (fun q s=>∃ U' P' v' T' ns',Fr S0 s U U'∧Bt s b p dd l kh U' P' v'∧Kp P P' 0∧Heap v' T' P.pages ns'∧(∀ n k,HRec v' ns' n k=HRec v ns n k)∧Tk (v' 0) P.pages T'∧T' 0=true∧ns'[q.1.1]? =some q.1.2∧((q.1.1<ns.length∧v'=v∧T'=T∧ns'=ns∧Kp P P' 0)∨(q.1.1=ns.length∧T q.1.2=false∧ns'=ns++[q.1.2]∧T'=updT T q.1.2 true∧HPg (v' q.1.2) 0 []∧∀ m,m∉ns'→m≠0→v' m=v m))) (⟨(0,first),by omega⟩) ?_ ?_ ?_ ?_
 ·simp only[wHl,wHf]
 ·have hl0:0<ns.length:=by have:=(List.getElem?_eq_some_iff.1 hf).1;omega
  exact⟨U,P,v,T,ns,Fr.refl _ _,h0,Kp.refl P _,hh,fun _ _=>rfl,hT,hT0,hf,.inl ⟨hl0,rfl,rfl,rfl,Kp.refl P _⟩⟩
 ·rintro _ _ ⟨_,_,_,_,_,h,_⟩;exact h.len
 ·intro y J s hI
  simp only[wHl]
  obtain⟨⟨i,n⟩,hi⟩:=y
  obtain⟨U1,P1,v1,T1,ns1,f1,h1,k1,hh1,hrec,hT1,hT10,hni,hph⟩:=hI
  dsimp only at*
  obtain⟨ss,hp⟩:=hh1.ch.get hni
  have hpg:=k1.pages
  obtain⟨n1,n2,n3⟩:=hh1.tk n (mem_of_getElem? hni)
  have hmU:∀ {s':St} {U':Nat→Prop},Fr S0 s' U U'→∀ t,msOf a=some t→¬ U' t:=fun f t ht e=>(f.own t e).elim (hm t ht) fun e=>by have:=ha.lt ht;omega
  have hbU:∀ {s':St} {U':Nat→Prop},Fr S0 s' U U'→¬ U' σ.length:=fun f e=>(f.own _ e).elim (fun e=>Nat.lt_irrefl _ (hlt _ e)) fun e=>by omega
  have hget:∀ {s':St} {U':Nat→Prop},Fr S0 s' U U'→s'[σ.length]? =some (some (.row 2 [[intV .i64 0,intV .i64 0]])):=fun f=>f.get hb0 fun e=>Nat.lt_irrefl _ (hlt _ e)
  have hrecA:∀ {s':St} {U':Nat→Prop},Fr S0 s' U U'→RecA s' a r:=fun f=>ha0.same fun t ht=>f.keep t (ha0.lt ht) (hm t ht)
  have hpl:=hp.len
  have hpc:=pageC_512 hpl.1
  have z5:=pageC_512 len_zero512
  repeat' first|((with_reducible first|apply cs|apply ws|apply wd|apply wu)<;>intro h<;>try simp only[h])|simp only[↓wBA,tHi,convA,seval,pl40_16Hi,wH,wHl]|(with_reducible refine dQ pl40_16Hi 8 (some 64) ?_)
  refine (ahread h1 (by rw[hpg];exact n2) hp (hb.kp k1 (by omega))).mono ?_
  rintro _ s2 ⟨rfl,U2,P2,f2,h2,k2⟩
  have f12:=f1.trans f2
  have hQl:(addL (v1 n) r).1.length=512:=length_addL _ _
  have hQp:=pageC_512 hQl
  have x2:=hget f12
  have y2:=at_lt x2
  have hra:=(hrecA f12).ap (Ap.app s2 [some (.row 512 [pageC (v1 n)])])
  rcases hp.add r hr with hno|⟨hyes,hp'⟩
  ·have zP:=pageC_512 length_zeroPage
   have hph1:i<ns.length∧v1=v∧T1=T∧ns1=ns∧Kp P P1 0:=by
    rcases hph with h|⟨hi1,_,hns,_,hp0,_⟩
    ·exact h
    ·exfalso
     have hnx:(ns1[i+1]?).getD 0=0:=by rw[hns,List.getElem?_eq_none (by simp;omega)];rfl
     rw[hnx]at hp
     exact hp0.room r hr hno
   obtain⟨hil,rfl,rfl,rfl,kk1⟩:=hph1
   have ha2:Ap s2 (s2++[some (.row 512 [pageC (v1 n)])]++[some (.row 512 [pageC zeroPage])]):=(Ap.app _ _).more _
   by_cases hnx:i+1<ns1.length
   ·obtain⟨n',hn'⟩:∃ n',ns1[i+1]? =some n':=⟨ns1[i+1],by simp⟩
    have hn1':=(hh1.tk n' (mem_of_getElem? hn')).1
    rw[hn']at hp
    have hgd:(ns1[i+1]?).getD 0=n':=by rw[hn'];rfl
    have hnz:((n':Int)==0)=false:=by simp;omega
    repeat' first|((with_reducible first|apply cs|apply ws|apply wd|apply wu)<;>intro h<;>try simp only[h])|simp only[↓wBA,tHi,convA,seval,pl40_16Hi,wH,wHl,pageA,hpc,hpl.1,zl512,zB_512,len_zero512,z5,zP,hno,hgd,hnz]|((with_reducible show ACalls _ _ _ _ _);refine (aaddG (v1 n) r hpl.1 hra (by omega)).eq ?_)|(with_reducible refine dQ pl40_16Hi 8 (some 64) ?_)
    refine⟨⟨(i+1,n'),by show i+1≤ns1.length;omega⟩,by show ns1.length+1 - (i+1)<ns1.length+1 - i;omega,⟨U2,P2,v1,T1,ns1,f12.trans ha2.fr,h2.ap ha2,k1.trans k2,hh1,fun _ _=>rfl,hT1,hT10,hn',.inl ⟨hnx,rfl,rfl,rfl,kk1.trans k2⟩⟩,by simp only[wHl,wHf]⟩
   ·have hgd:(ns1[i+1]?).getD 0=0:=by rw[List.getElem?_eq_none (by omega)];rfl
    have hpp:=hp
    rw[hgd]at hpp
    have hil1:i=ns1.length - 1:=by omega
    repeat' first|((with_reducible first|apply cs|apply ws|apply wd|apply wu)<;>intro h<;>try simp only[h])|simp only[↓wBA,tHi,convA,seval,pl40_16Hi,wH,wHl,pageA,hpc,hpl.1,zl512,zB_512,len_zero512,z5,zP,hno,hgd]|((with_reducible show ACalls _ _ _ _ _);refine (aaddG (v1 n) r hpl.1 hra (by omega)).eq ?_)|(with_reducible refine dQ pl40_16Hi 8 (some 64) ?_)
    have kk2:=kk1.trans k2
    refine (amake (T:=T1) (h2.ap ha2) (by rw[k2.pages,hpg];exact hT1) (by rw[k2.pages,hpg];exact hnp) (by rw[k2.pages,hpg];exact hnp1) hT10 (hb.kp kk2 (by omega))).mono ?_
    rintro q s3 ⟨U3,P3,v3,f3,h3,k3,hc⟩
    have f13:=(f12.trans ha2.fr).trans f3
    have kk3:=kk2.trans k3
    have x3:=hget f13
    have y3:=at_lt x3
    have l3:=f13.len
    rcases hc with⟨m,m1,m2,hTm,rfl,hpm,hvo,hTk⟩|⟨hall,rfl,rfl⟩
    ·rw[k2.pages,hpg]at m2 hTk
     have hlt2:=h2.lt
     have p3:=f3.get (t:=s2.length) (x:=some (.row 512 [pageC (v1 n)])) (by simp) (fun e=>Nat.lt_irrefl _ (hlt2 _ e))
     have o3:=at_lt p3
     have hSl:(setL (v1 n) 0 (num2 m)).1.length=512:=length_setL _ _ _
     have hSp:=pageC_512 hSl
     have hlk:=hpp.link (m:=m) (by omega)
     repeat' first|((with_reducible first|apply cs|apply ws|apply wd|apply wu)<;>intro h<;>try simp only[h])|simp only[↓wBA,tHi,convA,seval,pl40_16Hi,wH,wHl,pageA,hpc,hpl.1,p3,o3,hSl,hSp]|(with_reducible refine dQ pl40_16Hi 8 (some 64) ?_)
     refine (ahnum m (by omega) _).mono ?_
     rintro _ s4 ⟨a4,rfl⟩
     have a4':=a4.unmask p3
     have l4:=a4.len
     simp only[length_set]at l4
     have o4:s2.length<s4.length:=by omega
     have h4:=h3.ap a4'
     repeat' first|((with_reducible first|apply cs|apply ws|apply wd|apply wu)<;>intro h<;>try simp only[h])|simp only[↓wBA,tHi,convA,seval,pl40_16Hi,wH,wHl,pageA,hpc,hpl.1,p3,o4,hSl,hSp]|((with_reducible show ACalls _ _ _ _ _);refine (asetP (v1 n) (num2 m) 0 _ hpl.1 (.inl rfl) (by simp[num2]) _).eq ?_)|(with_reducible refine dQ pl40_16Hi 8 (some 64) ?_)
     have hU3:¬ U3 s2.length:=fun e=>(f3.own _ e).elim (fun e=>Nat.lt_irrefl _ (hlt2 _ e)) fun e=>by simp at e;omega
     have h5:=h4.set hU3 (some (.row 512 [pageC (setL (v1 n) 0 (num2 m)).1]))
     rw[set_set]at h5
     refine (abWrt h5 n1 (by rw[k3.pages,k2.pages,hpg];exact n2) _ hSl hlk.len.2).mono ?_
     rintro _ s5 ⟨rfl,U5,f5,h5'⟩
     have f14:=(f13.trans a4'.fr).setN (t:=s2.length) (by have:=f12.len;omega) (some (.row 512 [pageC (setL (v1 n) 0 (num2 m)).1]))
     rw[set_set]at f14
     have f15:=f14.trans f5
     repeat' first|((with_reducible first|apply cs|apply ws|apply wd|apply wu)<;>intro h<;>try simp only[h])|simp only[↓wBA,tHi,convA,seval,pl40_16Hi,wH,wHl]|(with_reducible refine dQ pl40_16Hi 8 (some 64) ?_)
     have hmn:m≠n:=fun e=>by rw[e,n3]at hTm;cases hTm
     have hvn:upV v3 n (setL (v1 n) 0 (num2 m)).1 n=(setL (v1 n) 0 (num2 m)).1:=by unfold upV;rw[if_pos rfl]
     have hvm:upV v3 n (setL (v1 n) 0 (num2 m)).1 m=v3 m:=by unfold upV;rw[if_neg hmn]
     have hv0:upV v3 n (setL (v1 n) 0 (num2 m)).1 0=v3 0:=by unfold upV;rw[if_neg (by omega)]
     obtain⟨hh2,hg2⟩:=hh1.grow (v':=upV v3 n (setL (v1 n) 0 (num2 m)).1) (by rw[← hil1];exact hni) hTm m1 m2 hpp (by rw[hvn];exact hlk) (by rw[hvm];exact hpm) fun q h1 h2 h3=>by unfold upV;rw[if_neg h2];exact hvo q h1 h3
     refine⟨⟨(i+1,m),by show i+1≤ns1.length;omega⟩,by show ns1.length+1 - (i+1)<ns1.length+1 - i;omega,⟨U5,P3,_,_,_,f15,h5',kk3,hh2,hg2,by rw[hv0];exact hTk,by unfold updT;rw[if_neg (by omega)];exact hT10,by show (ns1++[m])[i+1]? =some m;rw[List.getElem?_append_right (by omega)];simp[show i+1 - ns1.length=0 by omega],.inr ⟨by show i+1=ns1.length;omega,hTm,rfl,rfl,by rw[hvm];exact hpm,fun q hq hq0=> ?_⟩⟩,by simp only[wHl,wHf]⟩
     have hq1:q≠m:=fun e=>hq (by subst e;simp)
     have hq2:q≠n:=fun e=>hq (by subst e;exact List.mem_append_left _ (mem_of_getElem? hni))
     unfold upV;rw[if_neg hq2];exact hvo q hq1 hq0
    ·skip
     repeat' first|((with_reducible first|apply cs|apply ws|apply wd|apply wu)<;>intro h<;>try simp only[h])|simp only[↓wBA,tHi,convA,seval,pl40_16Hi,wH,wHl,x3,y3]|(with_reducible refine dQ pl40_16Hi 8 (some 64) ?_)
     all_goals refine ret_st ?_ (by first|exact Nat.le_refl _|(simp only[length_set,length_append];omega)|omega)
     all_goals simp only[resA.eq_1,resL.eq_1,resL.eq_2,resV.eq_1,resV.eq_2,↓wBA,tHi,convA,seval,wH,wHl,x3,y3]
     exact⟨U3,P3,v3,f0.trans f13,h3,kk3,.inr ⟨fun q hq=>hall q (by rw[k2.pages,hpg];exact hq),rfl⟩⟩
  ·skip
   repeat' first|((with_reducible first|apply cs|apply ws|apply wd|apply wu)<;>intro h<;>try simp only[h])|simp only[↓wBA,tHi,convA,seval,pl40_16Hi,wH,wHl,pageA,hpc,hpl.1,zl512,zB_512,len_zero512,z5,hQl,hQp,hyes,x2,y2]|((with_reducible show ACalls _ _ _ _ _);refine (aaddG (v1 n) r hpl.1 hra (by omega)).eq ?_)|(with_reducible refine dQ pl40_16Hi 8 (some 64) ?_)
   have ha2:Ap s2 (s2++[some (.row 512 [pageC (v1 n)])]++[some (.row 512 [pageC (addL (v1 n) r).1])]):=(Ap.app _ _).more _
   refine (abWrt (h2.ap ha2) n1 (by rw[k2.pages,hpg];exact n2) _ hQl hp'.len.2).mono ?_
   rintro _ s3 ⟨rfl,U3,f3,h3⟩
   have f13:=(f12.trans ha2.fr).trans f3
   have x3:=hget f13
   have y3:=at_lt x3
   repeat' first|((with_reducible first|apply cs|apply ws|apply wd|apply wu)<;>intro h<;>try simp only[h])|simp only[↓wBA,tHi,convA,seval,pl40_16Hi,wH,wHl,x3,y3]|(with_reducible refine dQ pl40_16Hi 8 (some 64) ?_)
   have l3:=f13.len
   all_goals refine ret_st ?_ (by first|exact Nat.le_refl _|(simp only[length_set,length_append];omega)|omega)
   all_goals simp only[resA.eq_1,resL.eq_1,resL.eq_2,resV.eq_1,resV.eq_2,↓wBA,tHi,convA,seval,wH,wHl,x3,y3]
   obtain⟨hh2,hget2⟩:=hh1.change hni hp rfl hp' (x:=some r) (putL_getD ss (freeL ss) (freeL_le ss) r)
   refine⟨U3,P2,_,(f0.trans f13).setN (Nat.le_refl _) _,h3.set (hbU f13) _,k1.trans k2,.inl ⟨n,freeL ss+1,T1,ns1,rfl,hh2,?_,fun n' k'=> ?_,?_,hT10,mem_of_getElem? hni,by omega,?_,fun m hm1 hm0=> ?_⟩⟩
   ·rw[← hrec]
    unfold HRec
    rw[if_pos (mem_of_getElem? hni),hp.recOf,freeL_get]
   ·rw[hget2,hrec]
   ·unfold upV;rw[if_neg (by omega)];exact hT1
   ·rcases hph with⟨_,rfl,rfl,rfl,_⟩|⟨_,hTn,rfl,rfl,_,_⟩
    ·exact .inl ⟨rfl,rfl,by unfold upV;rw[if_neg (by omega)]⟩
    ·exact .inr ⟨n,hTn,n2,rfl,rfl⟩
   ·have hmn:m≠n:=fun e=>hm1 (by subst e;exact mem_of_getElem? hni)
    unfold upV;rw[if_neg hmn]
    rcases hph with⟨_,rfl,_⟩|⟨_,_,_,_,_,ho⟩
    ·rfl
    ·exact ho m hm1 hm0
def tHj:=aa wX <| aa wbu <| aa T3 <| aa T4 <| aa T23 <| aa T25 <| aa T29 <| aa T45 T111
section
variable {σ:St} {b p dd l kh n k nx:Nat} {U:Nat→Prop} {P:PoolV} {v:Nat→List UInt8} {ss:List (Option (List UInt8))} {r:List UInt8}
theorem ahat (h:Bt σ b p dd l kh U P v)(hn:n<P.pages)(hp:HPg (v n) nx ss)(hb:Bud P 1)(hg:getL (v n) (k:Nat)=some r)(hk1:1≤k):
 ACalls Tryz.prog 80 [.mp b 2 0 0,.agg [intV .i64 (n:Nat),intV .i64 (k:Nat)]] σ fun q σ'=>q= .tup [pageA (v n),.p (recP (some r)),intV .i64 0]∧∃ U' P',Fr σ σ' U U'∧Bt σ' b p dd l kh U' P' v∧Kp P P' 0:=by
 have hl:=hp.len.1
 have hpc:=pageC_512 hl
 have z5:=pageC_512 len_zero512
 have hlt:=h.lt
 have hnz:((k:Int)==0)=false:=by simp;omega
 refine acalls_of cx_ok dr_ok Tryz.func80 (by kernel_rfl) rfl (nt:=42) (rs:=[.cell 4 111,.tmp 5,.tmp 6]) rfl rfl ?_
 repeat' first|((with_reducible first|apply cs|apply ws)<;>intro h<;>try simp only[h])|simp only[↓wBA,tHj,convA,seval,wH,zl512,zB_512,len_zero512,z5]
 obtain⟨S0,hS0⟩:∃ S0,S0=σ++[some (Ob.row 2 [[AV.p (.v (.int .i64 (n:Nat))),AV.p (.v (.int .i64 (k:Nat)))]])]++[some (Ob.row 512 [pageC zero512])]:=⟨_,rfl⟩
 have aS:Ap σ S0:=by rw[hS0];exact (Ap.app _ _).more _
 have hb0:S0[σ.length]? =some (some (Ob.row 2 [[AV.p (.v (.int .i64 (n:Nat))),AV.p (.v (.int .i64 (k:Nat)))]])):=by rw[hS0];simp
 have hb1:S0[σ.length+1]? =some (some (Ob.row 512 [pageC zero512])):=by rw[hS0];simp
 have hl0:S0.length=σ.length+2:=by rw[hS0];simp
 rw[← hS0]
 refine (ahread (h.ap aS) hn hp hb).mono ?_
 rintro _ s2 ⟨rfl,U2,P2,f2,h2,k2⟩
 have x2:=f2.get hb0 (fun e=>Nat.lt_irrefl _ (hlt _ e))
 have x3:=f2.get hb1 (fun e=>by have:=hlt _ e;omega)
 have y2:=at_lt x2
 have y3:=at_lt x3
 have hU2:∀ t,t<S0.length→σ.length≤t→¬ U2 t:=fun t h1 h3 e=>(f2.own t e).elim (fun e=>by have:=hlt t e;omega) fun e=>by omega
 repeat' first|((with_reducible first|apply cs|apply ws)<;>intro h<;>try simp only[h])|simp only[↓wBA,tHj,convA,seval,wH,pageA,hpc,hl,zl512,zB_512,len_zero512,z5,x2,y2,x3,y3,hg,hnz,Option.isSome_some]|((with_reducible show ACalls _ _ _ _ _);refine (aget (v n) (k:Nat) hl _).eq ?_)
 all_goals refine ret_st ?_ (by first|exact Nat.le_refl _|(simp only[length_set,length_append];omega)|omega)
 all_goals simp only[resA.eq_1,resL.eq_1,resL.eq_2,resV.eq_1,resV.eq_2,↓wBA,tHj,convA,seval,wH,pageA,hpc,x2,y2,x3,y3]
 refine⟨U2,P2,(((Ap.fr aS).trans f2).setN (by omega) _).app _,(h2.set (hU2 _ (by omega) (by omega)) _).ap (Ap.app _ _),k2⟩
theorem ahset (h:Bt σ b p dd l kh U P v)(hn0:1≤n)(hn:n<P.pages)(hp:HPg (v n) nx ss)(hb:Bud P 1)(hg:getL (v n) (k:Nat)=some r)(hk1:1≤k){x:PV}{r':List UInt8}(hx:BX x r')(hrl:r'.length≤r.length):
 ACalls Tryz.prog 79 [.mp b 2 0 0,.agg [intV .i64 (n:Nat),intV .i64 (k:Nat)],.p x] σ fun q σ'=>q=intV .i64 0∧∃ U' P',Fr σ σ' U U'∧Bt σ' b p dd l kh U' P' (upV v n (setL (v n) (k:Nat) r').1)∧Kp P P' 0:=by
 have hl:=hp.len.1
 have hpc:=pageC_512 hl
 have z5:=pageC_512 len_zero512
 have hlt:=h.lt
 obtain⟨j,rfl⟩:∃ j,k=j+1:=⟨k - 1,by omega⟩
 have hgs:ss.getD j none=some r:=by rw[← hp.at];exact hg
 have hp':=(hp.set hgs r' hrl).2
 have hr4:=hp.le r (mem_of_getD hgs)
 have hSl:=hp'.len.1
 have hSp:=pageC_512 hSl
 have hla:lenA cx 23 (.p x)=some r'.length:=RecA.len (σ:=σ) (.inl ⟨x,rfl,hx⟩)
 have hlb:lenA cx 23 (.p (.sl 1 (encB r)))=some r.length:=RecA.len (σ:=σ) (.inl ⟨_,rfl,.inl rfl⟩)
 have e1:decide ((r'.length:Int)>(r.length:Int))=false:=by simp;omega
 refine acalls_of cx_ok dr_ok Tryz.func79 (by kernel_rfl) rfl (nt:=35) (rs:=[.tmp 6]) rfl rfl ?_
 repeat' first|((with_reducible first|apply cs|apply ws)<;>intro h<;>try simp only[h])|simp only[↓wBA,tHj,convA,seval,wH]
 have aS:=Ap.app σ [some (Ob.row 2 [[AV.p (.v (.int .i64 (n:Nat))),AV.p (.v (.int .i64 (j+1:Nat)))]])]
 refine (ahat (h.ap aS) hn hp hb hg hk1).mono ?_
 rintro _ s2 ⟨rfl,U2,P2,f2,h2,k2⟩
 have l2:=f2.len
 simp only[length_append,length_cons,length_nil]at l2
 have x2:=f2.get (t:=σ.length) (x:=some (.row 2 [[AV.p (.v (.int .i64 (n:Nat))),AV.p (.v (.int .i64 (j+1:Nat)))]])) (by simp) (fun e=>Nat.lt_irrefl _ (hlt _ e))
 have y2:=at_lt x2
 repeat' first|((with_reducible first|apply cs|apply ws)<;>intro h<;>try simp only[h])|simp only[↓wBA,tHj,convA,seval,wH,pageA,hpc,hl,zl512,zB_512,len_zero512,z5,x2,y2,recP,hla,hlb,e1,hSl,hSp]|((with_reducible show ACalls _ _ _ _ _);refine (asetP (v n) r' (j+1:Nat) x hl hx (by omega) _).eq ?_)
 have a3:=Ap.app s2 [some (Ob.row 512 [pageC (setL (v n) ((j+1:Nat):Int) r').1])]
 refine (abWrt (h2.ap a3) hn0 (by rw[k2.pages];exact hn) _ hSl hp'.len.2).mono ?_
 rintro _ s5 ⟨rfl,U5,f5,h5⟩
 have l5:=f5.len
 simp only[length_append,length_cons,length_nil]at l5
 repeat' first|((with_reducible first|apply cs|apply ws)<;>intro h<;>try simp only[h])|simp only[↓wBA,tHj,convA,seval,wH]
 all_goals refine ret_st ?_ (by first|exact Nat.le_refl _|(simp only[length_set,length_append];omega)|omega)
 all_goals simp only[resA.eq_1,resL.eq_1,resL.eq_2,resV.eq_1,resV.eq_2,↓wBA,tHj,convA,seval,wH]
 exact⟨U5,P2,(((Ap.fr aS).trans f2).trans (Ap.fr a3)).trans f5,h5,k2⟩
theorem ahdrop (h:Bt σ b p dd l kh U P v)(hn0:1≤n)(hn:n<P.pages)(hp:HPg (v n) nx ss)(hb:Bud P 1)(hg:getL (v n) (k:Nat)=some r)(hk1:1≤k):
 ACalls Tryz.prog 46 [.mp b 2 0 0,.agg [intV .i64 (n:Nat),intV .i64 (k:Nat)]] σ fun q σ'=>q=intV .i64 0∧∃ U' P',Fr σ σ' U U'∧Bt σ' b p dd l kh U' P' (upV v n (dropL (v n) (k:Nat)).1)∧Kp P P' 0:=by
 have hl:=hp.len.1
 have hpc:=pageC_512 hl
 have z5:=pageC_512 len_zero512
 have hlt:=h.lt
 obtain⟨j,rfl⟩:∃ j,k=j+1:=⟨k - 1,by omega⟩
 have hgs:ss.getD j none=some r:=by rw[← hp.at];exact hg
 have hp':=(hp.drop hgs).2
 have hSl:=hp'.len.1
 have hSp:=pageC_512 hSl
 refine acalls_of cx_ok dr_ok Tryz.func46 (by kernel_rfl) rfl (nt:=28) (rs:=[.tmp 4]) rfl rfl ?_
 repeat' first|((with_reducible first|apply cs|apply ws)<;>intro h<;>try simp only[h])|simp only[↓wBA,tHj,convA,seval,wH]
 have aS:=Ap.app σ [some (Ob.row 2 [[AV.p (.v (.int .i64 (n:Nat))),AV.p (.v (.int .i64 (j+1:Nat)))]])]
 refine (ahat (h.ap aS) hn hp hb hg hk1).mono ?_
 rintro _ s2 ⟨rfl,U2,P2,f2,h2,k2⟩
 have l2:=f2.len
 simp only[length_append,length_cons,length_nil]at l2
 have x2:=f2.get (t:=σ.length) (x:=some (.row 2 [[AV.p (.v (.int .i64 (n:Nat))),AV.p (.v (.int .i64 (j+1:Nat)))]])) (by simp) (fun e=>Nat.lt_irrefl _ (hlt _ e))
 have y2:=at_lt x2
 repeat' first|((with_reducible first|apply cs|apply ws)<;>intro h<;>try simp only[h])|simp only[↓wBA,tHj,convA,seval,wH,pageA,hpc,hl,zl512,zB_512,len_zero512,z5,x2,y2,recP,hSl,hSp]|((with_reducible show ACalls _ _ _ _ _);refine (adropP (v n) (j+1:Nat) hl _).eq ?_)
 have a3:=Ap.app s2 [some (Ob.row 512 [pageC (dropL (v n) ((j+1:Nat):Int)).1])]
 refine (abWrt (h2.ap a3) hn0 (by rw[k2.pages];exact hn) _ hSl hp'.len.2).mono ?_
 rintro _ s5 ⟨rfl,U5,f5,h5⟩
 have l5:=f5.len
 simp only[length_append,length_cons,length_nil]at l5
 repeat' first|((with_reducible first|apply cs|apply ws)<;>intro h<;>try simp only[h])|simp only[↓wBA,tHj,convA,seval,wH]
 all_goals refine ret_st ?_ (by first|exact Nat.le_refl _|(simp only[length_set,length_append];omega)|omega)
 all_goals simp only[resA.eq_1,resL.eq_1,resL.eq_2,resV.eq_1,resV.eq_2,↓wBA,tHj,convA,seval,wH]
 exact⟨U5,P2,(((Ap.fr aS).trans f2).trans (Ap.fr a3)).trans f5,h5,k2⟩
end
end Go.Proofs.YthhbnenaihkggaaGreat
