/- Logs: bytes of numbers, heads, what a log is in a state. Logs: numbers as bytes. Logs: room, append. Logs: append. Logs: the head is written. -/
import Derived.Test.YthhbnenaihkggaaGreatM21
set_option linter.unusedSimpArgs false
set_option linter.unusedVariables false
set_option linter.defProp false
set_option maxRecDepth 100000
set_option maxHeartbeats 32000000
namespace Go.Proofs.YthhbnenaihkggaaGreat
open Go.RowKit
open List (append_assoc cons_append length_append length_set length_take nil_append)
def leB (n:Nat):Nat→List UInt8
 |0=>[]
 |k+1=>leB n k++[UInt8.ofNat (n / 256 ^ k % 256)]
theorem leB_len (n:Nat):∀ k,(leB n k).length=k
 |0=>rfl
 |k+1=>by simp[leB,leB_len n k]
def numB:List UInt8→Nat
 |[]=>0
 |b::l=>b.toNat+256*numB l
theorem numB_app (c:UInt8):∀ l:List UInt8,numB (l++[c])=numB l+c.toNat*256 ^ l.length
 |[]=>by simp[numB]
 |b::l=>by
  simp only[cons_append,numB,numB_app c l,List.length_cons,Nat.pow_succ]
  rw[Nat.mul_add,Nat.add_assoc]
  congr 2
  rw[Nat.mul_left_comm,Nat.mul_comm 256]
theorem numB_lt:∀ l:List UInt8,numB l<256 ^ l.length
 |[]=>by simp[numB]
 |b::l=>by
  have h1:=numB_lt l
  have h2:=b.toNat_lt
  simp only[numB,List.length_cons,Nat.pow_succ]
  omega
theorem numB_leB (n:Nat):∀ k,numB (leB n k)=n % 256 ^ k
 |0=>by simp[leB,numB,Nat.mod_one]
 |k+1=>by
  have hb:(UInt8.ofNat (n / 256 ^ k % 256)).toNat=n / 256 ^ k % 256:=by
   rw[UInt8.toNat_ofNat'];exact Nat.mod_eq_of_lt (Nat.mod_lt _ (by omega))
  rw[leB,numB_app,numB_leB n k,leB_len,hb,Nat.pow_succ,Nat.mod_mul,Nat.mul_comm (256 ^ k)]
theorem take_succ_num {l:List UInt8}{i:Nat}(h:i<l.length):numB (l.take (i+1))=numB (l.take i)+l[i].toNat*256 ^ i:=by
 rw[List.take_succ_eq_append_getElem h,numB_app,length_take,Nat.min_eq_left (by omega)]
theorem or_bits (w x y:Nat):(BitVec.ofInt w (x:Int) ||| BitVec.ofInt w (y:Int)).toNat=(x % 2 ^ w) ||| (y % 2 ^ w):=by
 rw[BitVec.toNat_or,BitVec.ofInt_natCast,BitVec.ofInt_natCast,BitVec.toNat_ofNat,BitVec.toNat_ofNat]
theorem or_num {l:List UInt8}{i:Nat}(h:i<l.length)(hi:i<8):IntKind.u64.wrap ((BitVec.ofInt IntKind.u64.bits (numB (l.take i):Nat) ||| BitVec.ofInt IntKind.u64.bits (IntKind.u64.wrap ((l[i].toNat:Int)*2 ^ (8*i)))).toNat)=((numB (l.take (i+1)):Nat):Int):=by
 have h1:=numB_lt (l.take i)
 rw[length_take,Nat.min_eq_left (by omega)]at h1
 have h2:=l[i].toNat_lt
 have hp:(256:Nat) ^ i=2 ^ (8*i):=by rw[show (256:Nat)=2 ^ 8 from rfl,←Nat.pow_mul]
 have h3:2 ^ (8*i)*256≤18446744073709551616:=by
  have:2 ^ (8*i)*256=2 ^ (8*i+8):=by rw[Nat.pow_add]
  rw[this]
  have:2 ^ (8*i+8)≤2 ^ 64:=Nat.pow_le_pow_right (by omega) (by omega)
  exact this
 rw[take_succ_num h,hp]
 rw[hp]at h1
 generalize l[i].toNat=b at*
 generalize numB (l.take i)=x at*
 generalize hq:2 ^ (8*i)=q at*
 have hbq:b*q<18446744073709551616:=Nat.lt_of_lt_of_le (Nat.mul_lt_mul_of_pos_right h2 (by omega)) (by rw[Nat.mul_comm];exact h3)
 have e1:IntKind.u64.wrap ((b:Int)*2 ^ (8*i))=((b*q:Nat):Int):=by
  have:(2:Int) ^ (8*i)=((q:Nat):Int):=by rw[← hq];simp
  rw[this,←Int.natCast_mul]
  exact IntKind.wrap_u64 _▸(by omega)
 rw[e1]
 rw[or_bits,show 2 ^ IntKind.u64.bits=18446744073709551616 from rfl,Nat.mod_eq_of_lt (by omega),Nat.mod_eq_of_lt (by omega)]
 have e3:x ||| b*q=x+b*q:=by
  have:=Nat.two_pow_add_eq_or_of_lt (i:=8*i) (b:=x) (by rw[hq];exact h1) b
  rw[hq]at this
  rw[Nat.or_comm,Nat.mul_comm b q,←this];omega
 rw[e3]
 have:x+b*q<18446744073709551616:=by
  have h4:b*q≤255*q:=Nat.mul_le_mul_right _ (by omega)
  omega
 exact IntKind.wrap_u64 _▸(by omega)
theorem byte_num (n i:Nat)(hn:n<18446744073709551616)(hi:i<8):IntKind.u8.wrap ((n:Int).fdiv (2 ^ (8*i)))=((UInt8.ofNat (n / 256 ^ i % 256)).toNat:Int):=by
 have hp:(256:Nat) ^ i=2 ^ (8*i):=by rw[show (256:Nat)=2 ^ 8 from rfl,←Nat.pow_mul]
 have e1:(n:Int).fdiv (2 ^ (8*i))=((n / 256 ^ i:Nat):Int):=by
  rw[hp,Int.natCast_ediv]
  have:((2 ^ (8*i):Nat):Int)=(2:Int) ^ (8*i):=by simp
  rw[this,Int.fdiv_eq_ediv_of_nonneg]
  exact Int.pow_nonneg (by omega)
 rw[e1,UInt8.toNat_ofNat',Nat.mod_mod]
 rw[IntKind.wrap_u8];omega
def headB (s:List UInt8):Nat×Nat:=(numB (s.take 8),numB ((s.drop 8).take 4))
def headS (c n:Nat):List UInt8:=leB c 8++leB n 4++List.replicate 52 0
theorem headS_len (c n:Nat):(headS c n).length=64:=by simp[headS,leB_len]
theorem headB_S {c n:Nat}(hc:c<18446744073709551616)(hn:n<4294967296):headB (headS c n)=(c,n):=by
 unfold headB headS
 rw[append_assoc,List.take_left' (leB_len c 8),List.drop_left' (leB_len c 8),List.take_left' (leB_len n 4),numB_leB,numB_leB]
 simp only[Prod.mk.injEq]
 exact⟨Nat.mod_eq_of_lt hc,Nat.mod_eq_of_lt hn⟩
def headD (m:List (Nat×List UInt8)):Nat×Nat:=
 let h0:=headB (secAt m 0)
 let h1:=headB (secAt m 1)
 let a:=if 0<h0.1 then h0 else (0,0)
 if a.1<h1.1 then h1 else a
structure Heads (m:List (Nat×List UInt8))(c n:Nat):Prop where
 says:headD m=(c,n)
 le0:(headB (secAt m 0)).1≤c
 le1:(headB (secAt m 1)).1≤c
theorem secAt_set (m:List (Nat×List UInt8))(k i:Nat)(s:List UInt8):secAt (setM m k s) i=if i=k then s else secAt m i:=by
 unfold secAt
 rw[lk_setM]
 split<;>rfl
theorem Heads.keep {m:List (Nat×List UInt8)}{c n:Nat}(h:Heads m c n){k:Nat}(hk:2≤k)(s:List UInt8):Heads (setM m k s) c n:=by
 have e0:secAt (setM m k s) 0=secAt m 0:=by rw[secAt_set,if_neg (by omega)]
 have e1:secAt (setM m k s) 1=secAt m 1:=by rw[secAt_set,if_neg (by omega)]
 exact⟨by unfold headD;rw[e0,e1];exact h.says,by rw[e0];exact h.le0,by rw[e1];exact h.le1⟩
theorem Heads.sealed {m:List (Nat×List UInt8)}{c n:Nat}(h:Heads m c n)(n':Nat)(hc:c+1<18446744073709551616)(hn:n'<4294967296):Heads (setM m ((c+1) % 2) (headS (c+1) n')) (c+1) n':=by
 have hb:=headB_S hc hn
 rcases Nat.mod_two_eq_zero_or_one (c+1)with e|e
 ·rw[e]
  have e0:secAt (setM m 0 (headS (c+1) n')) 0=headS (c+1) n':=by rw[secAt_set,if_pos rfl]
  have e1:secAt (setM m 0 (headS (c+1) n')) 1=secAt m 1:=by rw[secAt_set,if_neg (by omega)]
  have:=h.le1
  refine⟨?_,by rw[e0,hb];exact Nat.le_refl _,by rw[e1];omega⟩
  have g:¬ (c+1<(headB (secAt m 1)).1):=by omega
  simp[headD,e0,e1,hb,g]
 ·rw[e]
  have e0:secAt (setM m 1 (headS (c+1) n')) 1=headS (c+1) n':=by rw[secAt_set,if_pos rfl]
  have e1:secAt (setM m 1 (headS (c+1) n')) 0=secAt m 0:=by rw[secAt_set,if_neg (by omega)]
  have:=h.le0
  refine⟨?_,by rw[e1];omega,by rw[e0,hb];exact Nat.le_refl _⟩
  have g:(if 0<(headB (secAt m 0)).1 then headB (secAt m 0)else (0,0)).1<c+1:=by
   split
   ·omega
   ·exact Nat.zero_lt_succ _
  simp only[headD,e0,e1,hb,if_pos g]
theorem heads_nil:Heads [] 0 0:=by
 have:headB (secAt [] 0)=(0,0):=by decide
 have h1:headB (secAt [] 1)=(0,0):=by decide
 exact⟨by unfold headD;rw[this,h1];rfl,by rw[this];exact Nat.le_refl _,by rw[h1];exact Nat.le_refl _⟩
def bRows (l:List UInt8):List (List AV):=l.map fun b=>[.p (byteP b)]
theorem bRows_len (l:List UInt8):(bRows l).length=l.length:=by simp[bRows]
theorem rows_enc (l:List UInt8):List.map (fun c=>List.map AV.p c) (encB l)=bRows l:=by simp[encB,bRows]
theorem bRows_app (l m:List UInt8):bRows l++bRows m=bRows (l++m):=by simp[bRows]
theorem bRows_take (l:List UInt8){n:Nat}(h:l.length=n):List.take n (bRows l)=bRows l:=by rw[← h,←bRows_len,List.take_length]
def StrAt (σ:St)(a:AV)(w:Option Nat)(S:List UInt8):Prop:=
 (a= .p (.v (.slice none 0 0))∧w=none∧S=[])∨∃ t ls,a= .ms t 1 0 S.length∧w=some t∧σ[t]? =some (some (.row 1 ls))∧ls.take S.length=bRows S∧S.length≤ls.length
structure LogV where
 d:Nat
 disk:DiskV
 ctr:Nat
 len:Nat
 str:List UInt8
 wait:Nat
structure LogIn (σ:St)(l d:Nat)(F:Nat→Prop)(w:Option Nat)(a:AV)(L:LogV):Prop where
 o:σ[l]? =some (some (.row 5 [[.mp d 6 0 0,.p (.v (.int .u64 (L.ctr:Nat))),.p (.v (.int .u64 (L.len:Nat))),a,intV .i64 (L.wait:Nat)]]))
 disk:DiskAt σ d F L.disk
 str:StrAt σ a w L.str
 nl:¬ F l
 nw:∀ t,w=some t→¬ F t
 big:3≤L.disk.size
 room:L.str.length≤(L.disk.size - 2)*64
 le:L.len≤L.str.length
 heads:Heads L.disk.now L.ctr L.len
 secs:∀ k,(secAt L.disk.now k).length=64
 dry:L.disk.wait=[]
 id:L.d=d
 on:∀ k,k<L.len→(secAt L.disk.now (2+k / 64))[k % 64]? =L.str[k]?
 dr:L.wait=0→L.len=L.str.length
def LogAt (σ:St)(l:Nat)(G:Nat→Prop)(L:LogV):Prop:=∃ d F w a,LogIn σ l d F w a L∧∀ t,G t↔(t=l∨F t∨w=some t)
theorem LogAt.lt {σ:St}{l:Nat}{G:Nat→Prop}{L:LogV}(h:LogAt σ l G L):∀ t,G t→t<σ.length:=by
 obtain⟨d,F,w,a,h,hG⟩:=h
 intro t ht
 rcases (hG t).1 ht with rfl|hF|hw
 ·exact at_lt h.o
 ·exact h.disk.lt t hF
 ·rcases h.str with⟨_,h1,_⟩|⟨t',ls,_,h1,h2,_⟩
  ·rw[h1]at hw;cases hw
  ·rw[h1]at hw;simp only[Option.some.injEq]at hw;subst hw;exact at_lt h2
theorem StrAt.same {σ σ':St}{a:AV}{w:Option Nat}{S:List UInt8}(h:StrAt σ a w S)(hs:∀ t,w=some t→σ'[t]? =σ[t]?):StrAt σ' a w S:=by
 rcases h with h|⟨t,ls,h1,h2,h3,h4⟩
 ·exact .inl h
 ·exact .inr ⟨t,ls,h1,h2,by rw[hs t h2];exact h3,h4⟩
theorem LogAt.same {σ σ':St}{l:Nat}{G:Nat→Prop}{L:LogV}(h:LogAt σ l G L)(hs:∀ t,G t→σ'[t]? =σ[t]?):LogAt σ' l G L:=by
 obtain⟨d,F,w,a,h,hG⟩:=h
 exact⟨d,F,w,a,⟨by rw[hs l ((hG l).2 (.inl rfl))];exact h.o,h.disk.same fun t ht=>hs t ((hG t).2 (.inr (.inl ht))),h.str.same fun t ht=>hs t ((hG t).2 (.inr (.inr ht))),h.nl,h.nw,h.big,h.room,h.le,h.heads,h.secs,h.dry,h.id,h.on,h.dr⟩,hG⟩
theorem LogAt.frame {σ σ':St}{l:Nat}{G K K':Nat→Prop}{L:LogV}(h:LogAt σ l G L)(hf:Fr σ σ' K K')(hd:∀ t,G t→K t→False):LogAt σ' l G L:=
 h.same fun t ht=>hf.keep t (h.lt t ht) fun hg=>hd t ht hg
theorem LogAt.app {σ:St}{l:Nat}{G:Nat→Prop}{L:LogV}(h:LogAt σ l G L)(τ:St):LogAt (σ++τ) l G L:=h.same fun t ht=>List.getElem?_append_left (h.lt t ht)
theorem LogAt.mk' {σ σ':St}{l d:Nat}{F K K':Nat→Prop}{w w':Option Nat}{a a':AV}{L L':LogV}(h:LogIn σ l d F w a L)(hf:Fr σ σ' K K')(hK:∀ t,F t→K t→False)(hd:L'.disk=L.disk)
 (ho:σ'[l]? =some (some (.row 5 [[.mp d 6 0 0,.p (.v (.int .u64 (L'.ctr:Nat))),.p (.v (.int .u64 (L'.len:Nat))),a',intV .i64 (L'.wait:Nat)]]))) (hs:StrAt σ' a' w' L'.str) (hn:∀ t,w'=some t→σ.length≤t∨w=some t)
 (hr:L'.str.length≤(L.disk.size - 2)*64) (hle:L'.len≤L'.str.length) (hh:L'.ctr=L.ctr∧L'.len=L.len) (hp:∀ k,k<L.len→L'.str[k]? =L.str[k]?) (hq:L'.wait=0→L'.len=L'.str.length) (hi:L'.d=L.d:=by rfl):LogAt σ' l (fun t=>t=l∨F t∨w'=some t) L':=
 ⟨d,F,w',a',⟨ho,by rw[hd];exact h.disk.frame hf hK,hs,h.nl,fun t ht hF=>(hn t ht).elim (fun hl=>Nat.lt_irrefl _ (Nat.lt_of_lt_of_le (h.disk.lt t hF) hl)) (fun e=>h.nw t e hF),by rw[hd];exact h.big,by rw[hd];exact hr,hle,by rw[hd,hh.1,hh.2];exact h.heads,by rw[hd];exact h.secs,by rw[hd];exact h.dry,hi.trans h.id,fun k hk=>by rw[hh.2]at hk;rw[hd,hp k hk];exact h.on k hk,hq⟩,fun t=>Iff.rfl⟩
def tWa:=aa wX <| aa wbu <| aa T3 <| aa T5 <| aa T23 T125
theorem anumber {σ:St}{t e o:Nat}{c:List AV}(l:List UInt8)(ht:σ[t]? =some (some (.row e [c])))(hl:l.length≤8)(hc:∀ i,(h:i<l.length)→c[o+i]? =some (.p (byteP l[i]))):
 ACalls Tryz.prog 65 [.bs t e 0 o l.length] σ fun r σ'=>σ'=σ∧r= .p (.v (.int .u64 (numB l:Nat))):=by
 refine acalls_of cx_ok dr_ok Tryz.func65 (by kernel_rfl) rfl (nt:=21) (rs:=[.tmp 2]) rfl rfl ?_
 repeat' first|((with_reducible first|apply cs|apply ws)<;>intro h<;>try simp only[h])|simp only[↓wBA,tWa,convA,seval,wH]
 refine awp_loopS (X:={ i:Nat // i≤l.length }) (fun i=>l.length - i.1) (fun i=>[(3,.p (.v (.int .u64 (numB (l.take i.1):Nat)))),(7,intV .i64 (i.1:Nat))]) [4,8,9,10,11,12,13,14,15,16,17,18,19,20] (fun i s=>s=σ) (⟨0,by omega⟩) ?_ ?_ ?_ ?_
 ·simp only[wHl,wHf,List.take_zero,numB]
 ·rfl
 ·rintro _ _ rfl;exact Nat.le_refl _
 ·intro x J s hI
  simp only[wHl]
  obtain⟨i,hi⟩:=x
  subst hI
  dsimp only
  by_cases hlt:i<l.length
  ·have hdec:=dT (i:=i) (n:=l.length) (by omega)
   have hi0:=nnI i
   have hw1:=wI i (by omega)
   have hg:=hc i hlt
   have hor:=or_num hlt (by omega)
   have hbd:((i:Int)<(l.length:Int))=True:=eq_true (by omega)
   have hm:IntKind.i64.wrap (8*(i:Int))=((8*i:Nat):Int):=by rw[wrap_i64 (by omega) (by omega)];simp
   have hu:IntKind.u64.wrap ((l[i]).toNat:Int)=((l[i]).toNat:Int):=by have:=(l[i]).toNat_lt;exact IntKind.wrap_u64 _▸(by omega)
   have hmn:min (8*i) IntKind.u64.bits=8*i:=Nat.min_eq_left (by show 8*i≤64;omega)
   have hng:(((8*i:Nat):Int)<0)=False:=eq_false (by omega)
   repeat' first|((with_reducible first|apply cs|apply ws)<;>intro h<;>try simp only[h])|simp only[↓wBA,tWa,convA,seval,wH,wHl,ht,hdec,hi0,hg,hbd,hw1,hm,hu,hmn,hng,hor,byteP]
   all_goals exact⟨⟨i+1,by omega⟩,by show l.length - (i+1)<l.length - i;omega,rfl⟩
  ·have hdec:=dF (i:=i) (n:=l.length) (by omega)
   have he:i=l.length:=by omega
   subst he
   repeat' first|((with_reducible first|apply cs|apply ws)<;>intro h<;>try simp only[h])|simp only[↓wBA,tWa,convA,seval,wH,wHl,ht,hdec]
   all_goals refine ret_st ?_ (by first|exact Nat.le_refl _|(simp only[length_set,length_append];omega)|omega)
   all_goals simp only[resA.eq_1,resL.eq_1,resL.eq_2,resV.eq_1,resV.eq_2,↓wBA,tWa,convA,seval,wH,List.take_length]
def wA (n:Nat):Nat→Nat→AV
 |0,_=>.p (.v (.slice none 0 0))
 |i+1,t=>.own t 1 (encB (leB n (i+1)))
theorem encB_len (l:List UInt8):(encB l).length=l.length:=by simp[encB]
theorem encB_leB (n i:Nat):encB (leB n i)++[[.v (.int .u8 ((UInt8.ofNat (n / 256 ^ i % 256)).toNat:Int))]]=encB (leB n (i+1)):=by simp[encB,leB,byteP]
def bT:Nat→St
 |0=>[]
 |k+1=>some (.right 5 1)::some (.right 5 (k+1))::List.replicate k (some (.right 5 1))
theorem bT_len (k:Nat):(bT (k+1)).length=k+2:=by simp[bT]
theorem bT_8:(bT 8).length=9:=rfl
theorem bT_4:(bT 4).length=5:=rfl
theorem bT_81:(bT 8)[1]? =some (some (.right 5 8)):=rfl
theorem bT_41:(bT 4)[1]? =some (some (.right 5 4)):=rfl
theorem wBt:(type_of% @bT_8)∧(type_of% @bT_4)∧(type_of% @bT_81)∧(type_of% @bT_41):=⟨@bT_8,@bT_4,@bT_81,@bT_41⟩
theorem abytes (n k:Nat)(hn:n<18446744073709551616)(hk:0<k)(hk8:k≤8)(σ:St):
 ACalls Tryz.prog 88 [.p (.v (.int .u64 (n:Nat))),intV .i64 (k:Nat)] σ fun r σ'=>σ'=σ++bT k∧r= .own (σ.length+1) 1 (encB (leB n k)):=by
 refine acalls_of cx_ok dr_ok Tryz.func88 (by kernel_rfl) rfl (nt:=19) (rs:=[.tmp 4]) rfl rfl ?_
 repeat' first|((with_reducible first|apply cs|apply ws)<;>intro h<;>try simp only[h])|simp only[↓wBA,tWa,convA,seval,wH]
 refine awp_loopS (X:={ q:Nat // q≤k }) (fun q=>k - q.1) (fun q=>[(5,wA n q.1 (σ.length+1)),(8,intV .i64 (q.1:Nat))]) [6,9,10,11,12,13,14,15,16,17,18,19] (fun q s=>s=σ++bT q.1) (⟨0,by simp⟩) ?_ ?_ ?_ ?_
 ·simp only[wHl,wHf,wA]
 ·simp[bT]
 ·rintro _ _ rfl;simp
 ·intro x J s hI
  simp only[wHl]
  obtain⟨i,hi⟩:=x
  subst hI
  dsimp only at*
  by_cases hlt:i<k
  ·have hdec:=dT (i:=i) (n:=k) (by omega)
   have hi0:=nnI i
   have hw1:=wI i (by omega)
   have hm:IntKind.i64.wrap (8*(i:Int))=((8*i:Nat):Int):=by rw[wrap_i64 (by omega) (by omega)];simp
   have hmn:min (8*i) IntKind.u64.bits=8*i:=Nat.min_eq_left (by show 8*i≤64;omega)
   have hng:(((8*i:Nat):Int)<0)=False:=eq_false (by omega)
   have hby:=byte_num n i hn (by omega)
   have l1:=lM (n:=1) (by omega)
   have l2:=lM (n:=i+1) (by omega)
   have l3:=tL (n:=i+1) (by omega)
   cases i with
   |zero=>
    have d0:=dT (i:=0) (n:=k) (by omega)
    have b0:IntKind.u8.wrap ((n:Int).fdiv (2 ^ min (Int.toNat 0) IntKind.u64.bits))=((UInt8.ofNat (n / 256 ^ 0 % 256)).toNat:Int):=by have:=hby;simpa using this
    have w1:IntKind.i64.wrap (0+1)=1:=by decide
    have w2:IntKind.i64.wrap 1=1:=by decide
    have e0:σ++bT 0=σ:=List.append_nil σ
    repeat' first|((with_reducible first|apply cs|apply ws)<;>intro h<;>try simp only[h])|simp only[↓wBA,tWa,convA,seval,wH,wHl,wA,encB_len,leB_len,e0,d0,b0,w1,w2,wz0,hdec,hi0,hw1,hm,hmn,hng,hby,appendA,srcA,l1,l2,l3]
    all_goals first
     |(exfalso;simp at h;omega)
     |(have b1:encB (leB n 1)=[[.v (.int .u8 (IntKind.u8.wrap ((n:Int).fdiv 1)))]]:=by rw[← encB_leB];simp only[leB,encB,List.map_nil,nil_append];rw[← b0];simp
       refine⟨⟨1,by omega⟩,by show k - 1<k - 0;omega,by simp[bT],?_⟩
       simp only[b1];rfl)
   |succ i=>
    have ei:(σ++bT (i+1))[σ.length+1]? =some (some (.right 5 (i+1))):=by simp[bT]
    have el:(σ.length+1<(σ++bT (i+1)).length)=True:=eq_true (by simp[bT])
    have es:(σ++bT (i+1)).set (σ.length+1) (some (.right 5 (i+2)))++[some (.right 5 1)]=σ++bT (i+1+1):=by
     rw[List.set_append_right _ _ (by omega)]
     simp only[bT,Nat.add_sub_cancel_left,List.set_cons_succ,List.set_cons_zero,append_assoc,cons_append,List.replicate_succ']
    have q:(1<i+2)=True:=eq_true (by omega)
    repeat' first|((with_reducible first|apply cs|apply ws)<;>intro h<;>try simp only[h])|simp only[↓wBA,tWa,convA,seval,wH,wHl,wA,encB_len,leB_len,hdec,hi0,hw1,hm,hmn,hng,hby,appendA,srcA,l1,l2,l3,ei,bT_len,q,Nat.mul_one]
    all_goals
     rw[encB_leB]
     exact⟨⟨i+1+1,by omega⟩,by show k - (i+1+1)<k - (i+1);omega,es,rfl⟩
  ·have hdec:=dF (i:=i) (n:=k) (by omega)
   have he:i=k:=by omega
   subst he
   obtain⟨j,rfl⟩:∃ j,i=j+1:=⟨i - 1,by omega⟩
   repeat' first|((with_reducible first|apply cs|apply ws)<;>intro h<;>try simp only[h])|simp only[↓wBA,tWa,convA,seval,wH,wHl,hdec,wA]
   all_goals refine ret_st ?_ (by first|exact Nat.le_refl _|(simp only[length_set,length_append];omega)|omega)
   all_goals simp only[resA.eq_1,resL.eq_1,resL.eq_2,resV.eq_1,resV.eq_2,↓wBA,tWa,convA,seval,wH]
theorem abytes' (n k:Nat)(hn:n<18446744073709551616)(hk:0<k)(hk8:k≤8)(σ:St):
 ACalls Tryz.prog 88 [.p (.v (.int .u64 (n:Nat))),intV .i64 (k:Nat)] σ fun r σ'=>Ap σ σ'∧∃ t,r= .own t 1 (encB (leB n k)):=
 (abytes n k hn hk hk8 σ).mono fun r s h=>⟨⟨bT k,h.1⟩,_,h.2⟩
def pl53_3Wb:Plan:=(.det 0 (.det 1 (.det 2 (.det 4 (.det 5 (.det 6 (.two 3 (.act 7 (.det 8 (.det 9 (.det 10 (.det 11 (.det 12 .done)))))) 7 (.det 8 (.act 3 (.det 9 (.det 10 (.det 11 (.det 12 .done)))))))))))))
def pl53_5Wb:Plan:=(.det 0 (.det 1 (.det 2 (.det 3 (.det 4 (.det 5 (.det 6 (.det 7 (.det 10 (.act 8 (.fin 9 (.fin 11 (.det 12 (.det 13 (.fin 14 .done)))))))))))))))
def tWb:=aa wX <| aa wbu <| aa T3 <| aa T23 <| aa T39 <| aa T79 <| aa T125 T129
theorem awroom {σ:St}{l:Nat}{G:Nat→Prop}{L:LogV}(h:LogAt σ l G L):ACalls Tryz.prog 66 [.mp l 5 0 0] σ fun r σ'=>σ'=σ∧r=intV .i64 ((L.disk.size - 2)*64:Nat):=by
 obtain⟨d,F,w,a,h,hG⟩:=h
 have h0:=h.o
 have hs:=adsize h.disk
 have hb:=h.big
 have hb2:L.disk.size≤65536:=by obtain⟨kn,kk,w',a',es,hd,hF⟩:=h.disk;exact hd.big
 have w1:IntKind.i64.wrap ((L.disk.size:Int) - 2)=((L.disk.size - 2:Nat):Int):=by rw[wrap_i64 (by omega) (by omega)];omega
 have w2:IntKind.i64.wrap (((L.disk.size - 2:Nat):Int)*64)=(((L.disk.size - 2)*64:Nat):Int):=by rw[wrap_i64 (by omega) (by omega)];simp
 refine acalls_of cx_ok dr_ok Tryz.func66 (by kernel_rfl) rfl (nt:=9) (rs:=[.tmp 2]) rfl rfl ?_
 repeat' first|((with_reducible first|apply cs|apply ws)<;>intro h<;>try simp only[h])|simp only[↓wBA,tWb,convA,seval,wH,h0,w1,w2]|((with_reducible show ACalls _ _ _ _ _);refine hs.eq ?_)
 all_goals refine ret_st ?_ (by first|exact Nat.le_refl _|(simp only[length_set,length_append];omega)|omega)
 all_goals simp only[resA.eq_1,resL.eq_1,resL.eq_2,resV.eq_1,resV.eq_2,↓wBA,tWb,convA,seval,wH]
theorem awfull {σ:St}{l t0:Nat}{G:Nat→Prop}{L:LogV}(h:LogAt σ l G L)(r:List UInt8)(hr:r.length≤1000000000000)(hfit:(L.disk.size - 2)*64<L.str.length+4+r.length):
 ACalls Tryz.prog 53 [.mp l 5 0 0,.own t0 1 (encB r)] σ fun x σ'=>σ'=σ∧x=intV .i64 21:=by
 have hroom:=awroom h
 obtain⟨d,F,w,a,h,hG⟩:=h
 have h0:=h.o
 have l0:=at_lt h0
 have hb2:L.disk.size≤65536:=by obtain⟨kn,kk,w',a',es,hd,hF⟩:=h.disk;exact hd.big
 have hst:=h.room
 have w1:IntKind.i64.wrap ((((L.disk.size - 2)*64:Nat):Int) - (L.str.length:Int))=(((L.disk.size - 2)*64:Nat):Int) - (L.str.length:Int):=wrap_i64 (by omega) (by omega)
 have w2:IntKind.i64.wrap ((((L.disk.size - 2)*64:Nat):Int) - (L.str.length:Int) - 4)=(((L.disk.size - 2)*64:Nat):Int) - (L.str.length:Int) - 4:=wrap_i64 (by omega) (by omega)
 have hdec:decide ((r.length:Int)>(((L.disk.size - 2)*64:Nat):Int) - (L.str.length:Int) - 4)=true:=by simp only[decide_eq_true_eq];omega
 refine acalls_of cx_ok dr_ok Tryz.func53 (by kernel_rfl) rfl (nt:=40) (rs:=[.tmp 4]) rfl rfl ?_
 rcases h.str with⟨rfl,rfl,hS⟩|⟨t,ls,rfl,rfl,h2,h3,h4⟩
 ·rw[hS]at w1 w2 hdec
  simp only[List.length_nil,cz]at w1 w2 hdec
  repeat' first|((with_reducible first|apply cs|apply ws|apply wd|apply wu)<;>intro h<;>try simp only[h])|simp only[↓wBA,tWb,convA,seval,pl53_3Wb,pl53_5Wb,wH,h0,l0,encB_len,w1,w2,hdec]|((with_reducible show ACalls _ _ _ _ _);refine hroom.eq ?_)|(with_reducible first|refine dQ pl53_3Wb 13 (some 9) ?_|refine dQ pl53_5Wb 15 (some 21) ?_)|with_reducible refine And.intro ?_ ?_
  all_goals refine ret_st ?_ (by first|exact Nat.le_refl _|(simp only[length_set,length_append];omega)|omega)
  all_goals simp only[resA.eq_1,resL.eq_1,resL.eq_2,resV.eq_1,resV.eq_2,↓wBA,tWb,convA,seval,wH]
 ·skip
  repeat' first|((with_reducible first|apply cs|apply ws|apply wd|apply wu)<;>intro h<;>try simp only[h])|simp only[↓wBA,tWb,convA,seval,pl53_3Wb,pl53_5Wb,wH,h0,l0,encB_len,w1,w2,hdec]|((with_reducible show ACalls _ _ _ _ _);refine hroom.eq ?_)|(with_reducible first|refine dQ pl53_3Wb 13 (some 9) ?_|refine dQ pl53_5Wb 15 (some 21) ?_)|with_reducible refine And.intro ?_ ?_
  all_goals refine ret_st ?_ (by first|exact Nat.le_refl _|(simp only[length_set,length_append];omega)|omega)
  all_goals simp only[resA.eq_1,resL.eq_1,resL.eq_2,resV.eq_1,resV.eq_2,↓wBA,tWb,convA,seval,wH]
def pl53_3Wc:Plan:=(.det 0 (.det 1 (.det 2 (.det 4 (.det 5 (.det 6 (.two 3 (.act 7 (.det 8 (.det 9 (.det 10 (.det 11 (.det 12 .done)))))) 7 (.det 8 (.act 3 (.det 9 (.det 10 (.det 11 (.det 12 .done)))))))))))))
def pl53_5Wc:Plan:=(.det 0 (.det 1 (.det 2 (.det 3 (.det 4 (.det 5 (.det 6 (.det 7 (.det 10 (.act 8 (.fin 9 (.fin 11 (.det 12 (.det 13 (.fin 14 .done)))))))))))))))
def tWc:=aa wX <| aa wbu <| aa T3 <| aa T23 <| aa T79 <| aa T125 T129
theorem awappend {σ:St}{l t0:Nat}{G:Nat→Prop}{L:LogV}(h:LogAt σ l G L)(r:List UInt8)(hfit:L.str.length+4+r.length≤(L.disk.size - 2)*64)(hr0:0<r.length)(hwt:L.wait≤1000000000000):
 ACalls Tryz.prog 53 [.mp l 5 0 0,.own t0 1 (encB r)] σ fun x σ'=>x=intV .i64 0∧∃ G',Fr σ σ' G G'∧LogAt σ' l G' { L with str:=L.str++leB r.length 4++r,wait:=L.wait+1 }:=by
 have hroom:=awroom h
 obtain⟨d,F,w,a,h,hG⟩:=h
 have h0:=h.o
 have l0:=at_lt h0
 have hb2:L.disk.size≤65536:=by obtain⟨kn,kk,w',a',es,hd,hF⟩:=h.disk;exact hd.big
 have hst:=h.room
 have w1:IntKind.i64.wrap ((((L.disk.size - 2)*64:Nat):Int) - (L.str.length:Int))=(((L.disk.size - 2)*64:Nat):Int) - (L.str.length:Int):=wrap_i64 (by omega) (by omega)
 have w2:IntKind.i64.wrap ((((L.disk.size - 2)*64:Nat):Int) - (L.str.length:Int) - 4)=(((L.disk.size - 2)*64:Nat):Int) - (L.str.length:Int) - 4:=wrap_i64 (by omega) (by omega)
 have hdec:decide ((r.length:Int)>(((L.disk.size - 2)*64:Nat):Int) - (L.str.length:Int) - 4)=false:=by simp only[decide_eq_false_iff_not];omega
 have w3:IntKind.u64.wrap (r.length:Int)=(r.length:Int):=IntKind.wrap_u64 _▸(by omega)
 have w4:=wI L.wait (by omega)
 have el:(encB r).length=r.length:=encB_len r
 have e4:(encB (leB r.length 4)).length=4:=by rw[encB_len,leB_len]
 have m1:=lM (n:=4) (by omega)
 have m2:=tL (n:=(4+r.length)*1) (by omega)
 have m3:=lM (n:=4+r.length) (by omega)
 refine acalls_of cx_ok dr_ok Tryz.func53 (by kernel_rfl) rfl (nt:=40) (rs:=[.tmp 4]) rfl rfl ?_
 rcases h.str with⟨rfl,rfl,hS⟩|⟨t,ls,rfl,rfl,h2,h3,h4⟩
 ·rw[hS]at w1 w2 hdec
  simp only[List.length_nil,cz]at w1 w2 hdec
  repeat' first|((with_reducible first|apply cs|apply ws|apply wd|apply wu)<;>intro h<;>try simp only[h])|simp only[↓wBA,tWc,convA,seval,pl53_3Wc,pl53_5Wc,wH,h0,l0,w1,w2,w3,w4,hdec,el,e4,m1,m2,m3,appendM,srcM,srcA,rows_enc,bRows_len,leB_len,Nat.le_refl]|((with_reducible show ACalls _ _ _ _ _);first|refine hroom.eq ?_|((refine (abytes' r.length 4 (by omega) (by omega) (by omega) _).mono ?_;rintro _ _ ⟨⟨τ,rfl⟩,t1,rfl⟩)))|(with_reducible first|refine dQ pl53_3Wc 13 (some 9) ?_|refine dQ pl53_5Wc 15 (some 21) ?_)|with_reducible refine And.intro ?_ ?_
  all_goals refine ret_st ?_ (by first|exact Nat.le_refl _|(simp only[length_set,length_append];omega)|omega)
  all_goals simp only[resA.eq_1,resL.eq_1,resL.eq_2,resV.eq_1,resV.eq_2,↓wBA,tWc,convA,seval,wH]
  all_goals
   refine⟨_,?_,LogAt.mk' (K:=fun t=>t=l) (K':=fun t=>t=l) (w':=some (σ.length+(τ.length+1))) (a':=.ms (σ.length+(τ.length+1)) 1 0 (4+r.length)) h (((((Fr.refl σ (fun t=>t=l)).set _ rfl).app _).app _).app _) (fun t ht e=>h.nl (e▸ht)) rfl ?_ (.inr ⟨_,bRows (leB r.length 4++r),?_,rfl,?_,?_,?_⟩) (fun t ht=>.inl ?_) ?_ ?_ ⟨rfl,rfl⟩ (fun k hk=> ?_) (fun e=> ?_)⟩
   ·refine ((((Fr.refl σ G).set _ ((hG _).2 (.inl rfl))).app _).app _ |>.app _).to fun t ht=> ?_
    rcases ht with rfl|ht|ht
    ·exact .inl ((hG _).2 (.inl rfl))
    ·exact .inl ((hG _).2 (.inr (.inl ht)))
    ·simp at ht;omega
   ·skip
    simp only[wH,wHe,Nat.reduceAdd,Nat.reduceLT,Nat.reduceEqDiff,Nat.reduceMul,reduceCtorEq,Nat.lt_irrefl,l0]
   ·simp[hS,leB_len]
   ·rw[bRows_take _ (leB_len _ 4),bRows_app]
    simp only[wH,wHe,Nat.reduceAdd,Nat.reduceLT,Nat.reduceEqDiff,Nat.reduceMul,reduceCtorEq,Nat.lt_irrefl,l0]
   ·rw[hS,nil_append,bRows_take _ rfl]
   ·rw[hS,nil_append,bRows_len];exact Nat.le_refl _
   ·simp at ht;omega
   ·simp[hS,leB_len];omega
   ·have:=h.le;simp only[length_append];omega
   ·have:=h.le;simp only[append_assoc];exact List.getElem?_append_left (by omega)
   ·exact absurd e (Nat.succ_ne_zero _)
 ·have l2:=at_lt h2
  have n1:(t=l)=False:=nf (ne_of_ob h2 h0 (by simp))
  have n2:(l=t)=False:=nf (ne_of_ob h0 h2 (by simp))
  have m4:=tL (n:=(L.str.length+4)*1) (by omega)
  have m5:=lM (n:=L.str.length+4) (by omega)
  have m6:=tL (n:=(L.str.length+(4+r.length))*1) (by omega)
  have m7:=lM (n:=L.str.length+(4+r.length)) (by omega)
  repeat' first|((with_reducible first|apply cs|apply ws|apply wd|apply wu)<;>intro h<;>try simp only[h])|simp only[↓wBA,tWc,convA,seval,pl53_3Wc,pl53_5Wc,wH,h0,h2,l0,l2,n1,n2,w1,w2,w3,w4,hdec,el,e4,m1,m2,m3,m4,m5,m6,m7,h3,h4,appendM,srcM,srcA,rows_enc,bRows_len,leB_len,Nat.le_refl]|((with_reducible show ACalls _ _ _ _ _);first|refine hroom.eq ?_|((refine (abytes' r.length 4 (by omega) (by omega) (by omega) _).mono ?_;rintro _ _ ⟨⟨τ,rfl⟩,t1,rfl⟩)))|(with_reducible first|refine dQ pl53_3Wc 13 (some 9) ?_|refine dQ pl53_5Wc 15 (some 21) ?_)|with_reducible refine And.intro ?_ ?_
  all_goals refine ret_st ?_ (by first|exact Nat.le_refl _|(simp only[length_set,length_append];omega)|omega)
  all_goals simp only[resA.eq_1,resL.eq_1,resL.eq_2,resV.eq_1,resV.eq_2,↓wBA,tWc,convA,seval,wH]
  all_goals
   refine⟨_,?_,LogAt.mk' (K:=fun q=>q=l∨q=t) (K':=fun q=>q=l∨q=t) (w':=some (σ.length+(τ.length+1))) (a':=.ms (σ.length+(τ.length+1)) 1 0 (L.str.length+(4+r.length))) h ((((((Fr.refl σ (fun q=>q=l∨q=t)).set _ (.inr rfl)).set _ (.inl rfl)).app _).app _).app _) (fun q hq e=>e.elim (fun e=>h.nl (e▸hq)) fun e=>h.nw t rfl (e▸hq)) rfl ?_ (.inr ⟨_,bRows (L.str++leB r.length 4++r),?_,rfl,?_,?_,?_⟩) (fun q hq=>.inl ?_) ?_ ?_ ⟨rfl,rfl⟩ (fun k hk=> ?_) (fun e=> ?_)⟩
   ·refine (((((Fr.refl σ G).set _ ((hG _).2 (.inr (.inr rfl)))).set _ ((hG _).2 (.inl rfl))).app _).app _ |>.app _).to fun q hq=> ?_
    rcases hq with rfl|ht|ht
    ·exact .inl ((hG _).2 (.inl rfl))
    ·exact .inl ((hG _).2 (.inr (.inl ht)))
    ·simp at ht;omega
   ·skip
    simp only[wH,wHe,Nat.reduceAdd,Nat.reduceLT,Nat.reduceEqDiff,Nat.reduceMul,reduceCtorEq,Nat.lt_irrefl,l0,l2,n1,n2]
   ·simp[leB_len,Nat.add_assoc]
   ·rw[bRows_app,bRows_take _ (by simp[leB_len]),bRows_app]
    simp only[wH,wHe,Nat.reduceAdd,Nat.reduceLT,Nat.reduceEqDiff,Nat.reduceMul,reduceCtorEq,Nat.lt_irrefl,l0,l2]
   ·rw[bRows_take _ rfl]
   ·rw[bRows_len];exact Nat.le_refl _
   ·simp at hq;omega
   ·simp[leB_len];omega
   ·have:=h.le;simp only[length_append];omega
   ·have:=h.le;simp only[append_assoc];exact List.getElem?_append_left (by omega)
   ·exact absurd e (Nat.succ_ne_zero _)
def pl109_3Wd:Plan:=(.det 0 (.det 1 (.det 2 (.det 4 (.det 5 (.act 3 (.fin 6 (.fin 7 (.fin 8 .done)))))))))
def pl109_4Wd:Plan:=(.det 0 (.det 1 (.det 2 (.det 3 (.det 4 (.det 5 (.det 6 (.det 7 (.det 8 (.fin 9 (.det 10 .done)))))))))))
def pl109_10Wd:Plan:=(.det 0 (.det 1 (.det 2 (.det 3 (.det 4 (.det 5 (.det 6 (.det 7 (.det 8 (.det 9 (.det 10 (.det 11 (.fin 12 (.det 13 (.det 14 (.fin 15 (.det 16 (.det 17 (.fin 18 .done)))))))))))))))))))
def tWd:=aa wX <| aa wbu <| aa T3 <| aa T23 <| aa T29 <| aa T39 <| aa T125 <| aa T127 <| aa T129 T131
theorem flat_encB (l:List UInt8):List.flatten (encB l)=l.map byteP:=by
 induction l with
 |nil=>rfl
 |cons b l ih=>simp only[encB,List.map_cons,List.flatten_cons,cons_append,nil_append]at ih ⊢;rw[ih]
theorem encB_app (l m:List UInt8):encB l++encB m=encB (l++m):=by simp[encB]
theorem hd_len (c n:Nat):(leB c 8++leB n 4).length=12:=by simp[leB_len]
theorem hd_take (c n:Nat):List.take 64 (pageC (leB c 8++leB n 4))=pageC (leB c 8++leB n 4):=List.take_of_length_le (by rw[pageC_len,hd_len];omega)
theorem hd_splice (c n:Nat):pageC (leB c 8++leB n 4)++List.drop 12 (pageC zero64)=pageC (headS c n):=by
 simp only[headS,zero64,pageC,List.map_append,List.map_replicate,List.drop_replicate,append_assoc]
theorem ACalls.gen {P:Program}{f:FuncId}{args:List AV}{X:St}{R:AV→St→Prop}(Pr:St→Prop)(h:Pr X)(k:∀ s,Pr s→ACalls P f args s R):ACalls P f args X R:=k X h
theorem DiskAt.ap {σ s:St}{d:Nat}{F:Nat→Prop}{D:DiskV}(h:DiskAt σ d F D)(hs:Ap σ s):DiskAt s d F D:=by
 obtain⟨τ,rfl⟩:=hs
 exact h.app τ
theorem awseal {σ:St}{l:Nat}{G:Nat→Prop}{L:LogV}(h:LogAt σ l G L)(n:Nat)(hn:n≤L.str.length)(hc:L.ctr+1<18446744073709551616)(hon:∀ k,k<n→(secAt L.disk.now (2+k / 64))[k % 64]? =L.str[k]?):
 ACalls Tryz.prog 109 [.mp l 5 0 0,intV .i64 (n:Nat)] σ fun x σ'=>x=intV .i64 0∧∃ G',Fr σ σ' G G'∧LogAt σ' l G' { d:=L.d,disk:={ L.disk with now:=setM L.disk.now ((L.ctr+1) % 2) (headS (L.ctr+1) n),wait:=[],kept:=secAt (setM L.disk.now ((L.ctr+1) % 2) (headS (L.ctr+1) n)) },ctr:=L.ctr+1,len:=n,str:=L.str.take n,wait:=0 }:=by
 obtain⟨d,F,w,a,h,hG⟩:=h
 have h0:=h.o
 have l0:=at_lt h0
 have hb2:L.disk.size≤65536:=by obtain⟨kn,kk,w',a',es,hd,hF⟩:=h.disk;exact hd.big
 have hst:=h.room
 have w1:IntKind.u64.wrap ((L.ctr:Int)+1)=((L.ctr+1:Nat):Int):=IntKind.wrap_u64 _▸(by omega)
 have w2:IntKind.u64.wrap (n:Int)=(n:Int):=IntKind.wrap_u64 _▸(by omega)
 have e8:(encB (leB (L.ctr+1) 8)).length=8:=by rw[encB_len,leB_len]
 have e4:(encB (leB n 4)).length=4:=by rw[encB_len,leB_len]
 have w3:IntKind.i64.wrap (((L.ctr+1:Nat):Int).tmod 2)=(((L.ctr+1) % 2:Nat):Int):=by
  have e:((L.ctr+1:Nat):Int).tmod 2=(((L.ctr+1) % 2:Nat):Int):=by rw[Int.tmod_eq_emod_of_nonneg (by omega)];omega
  rw[e,wrap_i64 (by omega) (by omega)]
 have lm1:=lM (n:=12) (by omega)
 have lm2:=lM (n:=8+4) (by omega)
 refine acalls_of cx_ok dr_ok Tryz.func109 (by kernel_rfl) rfl (nt:=62) (rs:=[.tmp 4]) rfl rfl ?_
 repeat' first|((with_reducible first|apply cs|apply ws|apply wd|apply wu)<;>intro h<;>try simp only[h])|simp only[↓wBA,tWd,convA,seval,pl109_3Wd,pl109_4Wd,pl109_10Wd,wH,wHt,wBt,h0,l0,w1,w2,e8,e4,zB_64,appendA,srcA,boundA,copyA,srcC,encB_app,flat_encB,map_byteP,hd_len,hd_take,hd_splice,pageC_len,len_zero64,leB_len,encB_len,headS_len,lm1,lm2,w3]|((with_reducible show ACalls _ _ _ _ _);first|refine (abytes (L.ctr+1) 8 (by omega) (by omega) (by omega) _).eq' ?_|refine (abytes n 4 (by omega) (by omega) (by omega) _).eq' ?_)|(with_reducible first|refine dQ pl109_3Wd 9 (some 18) ?_|refine dQ pl109_4Wd 11 (some 27) ?_|refine dQ pl109_10Wd 19 (some 48) ?_)
 refine ACalls.gen (fun s=>Ap σ s∧s[σ.length]? =some (some (.row 2 [[.p (.v (.int .u64 (L.ctr+1:Nat))),.p (.v (.int .u64 n))]]))) ⟨?_,?_⟩ fun s ⟨hs,hq⟩=> ?_
 ·exact (((((Ap.app _ _).more _).more _).set (by omega) _).set (by omega) _).more _
 ·simp only[wH,wHe,wBt,Nat.reduceAdd,Nat.reduceLT,Nat.reduceEqDiff]
 refine (adwrite (h.disk.ap hs) ((L.ctr+1) % 2) (by have:=h.big;omega) (headS (L.ctr+1) n) (headS_len _ _) (by rw[h.dry];simp)).mono ?_
 rintro _ s1 ⟨rfl,F1,hf1,hd1⟩
 have hsl:σ.length<s.length:=at_lt hq
 have k0:=hf1.get (hs.get h0) h.nl
 have k1:=hf1.get hq (fun hF=>Nat.lt_irrefl _ (h.disk.lt _ hF))
 have k2:=hf1.len
 have q0:=at_lt k0
 have q1:=at_lt k1
 have nl1:¬ F1 l:=fun hF=>(hf1.own _ hF).elim h.nl (fun hl=>by omega)
 have nl2:¬ F1 σ.length:=fun hF=>(hf1.own _ hF).elim (fun hF=>Nat.lt_irrefl _ (h.disk.lt _ hF)) (fun hl=>by omega)
 repeat' first|((with_reducible first|apply cs|apply ws|apply wd|apply wu)<;>intro h<;>try simp only[h])|simp only[↓wBA,tWd,convA,seval,pl109_3Wd,pl109_4Wd,pl109_10Wd,wH,k0,k1,q0,q1]|(with_reducible first|refine dQ pl109_3Wd 9 (some 18) ?_|refine dQ pl109_4Wd 11 (some 27) ?_|refine dQ pl109_10Wd 19 (some 48) ?_)
 refine (adsync hd1 (by simp[h.dry])).mono ?_
 rintro _ s2 ⟨rfl,F2,hf2,hd2⟩
 have j0:=hf2.get k0 nl1
 have j1:=hf2.get k1 nl2
 have j2:=hf2.len
 have p0:=at_lt j0
 have p1:=at_lt j1
 have n0:(l=σ.length)=False:=nf (by omega)
 have n1:(σ.length=l)=False:=nf (by omega)
 have nl3:¬ F2 l:=fun hF=>(hf2.own _ hF).elim nl1 (fun hl=>by omega)
 have hF12:∀ t,F2 t→F t∨σ.length≤t:=fun t hF=>(hf2.own t hF).elim (fun hF=>(hf1.own t hF).imp id (fun hl=>by omega)) (fun hl=>.inr (by omega))
 have hh:=h.heads.sealed n hc (by omega)
 have hsec:∀ k,(secAt (setM L.disk.now ((L.ctr+1) % 2) (headS (L.ctr+1) n)) k).length=64:=fun k=>by
  rw[secAt_set]
  split
  ·exact headS_len _ _
  ·exact h.secs k
 have hgo:∀ (w':Option Nat) (a':AV) (X:Option Ob) (s3:St),s3=s2.set l (some (.row 5 [[.mp d 6 0 0,.p (.v (.int .u64 (L.ctr+1:Nat))),.p (.v (.int .u64 (n:Nat))),a',.p (.v (.int .i64 0))]]))→StrAt s3 a' w' (L.str.take n)→(∀ t,w'=some t→w=some t)→
  ∃ G',Fr σ s3 G G'∧LogAt s3 l G' { d:=L.d,disk:={ L.disk with now:=setM L.disk.now ((L.ctr+1) % 2) (headS (L.ctr+1) n),wait:=[],kept:=secAt (setM L.disk.now ((L.ctr+1) % 2) (headS (L.ctr+1) n)) },ctr:=L.ctr+1,len:=n,str:=L.str.take n,wait:=0 }:=fun w' a' X s3 e hst' hw'=>by
  subst e
  refine⟨fun t=>t=l∨F2 t∨w'=some t,?_,d,F2,w',a',⟨by simp only[wH,p0];rfl,hd2.same fun t ht=>List.getElem?_set_ne fun e=>by subst e;exact nl3 ht,hst',nl3,fun t ht hF=>(hF12 t hF).elim (h.nw t (hw' t ht)) (fun hl=> ?_),h.big,by simp only[length_take];omega,by simp only[length_take];omega,hh,hsec,rfl,h.id,fun k hk=> ?_,fun _=>by simp only[length_take];omega⟩,fun t=>Iff.rfl⟩
  ·have f1:Fr σ s G G:=hs.fr
   have hFG:∀ t,F t→G t:=fun t ht=>(hG t).2 (.inr (.inl ht))
   have f2:Fr σ s2 G fun t=>F2 t∨(G t):=⟨by omega,fun t ht hn=>by
    rw[hf2.keep t (by omega) (fun hF=>(hf1.own t hF).elim (fun hF=>hn (hFG t hF)) (fun hl=>by omega)),hf1.keep t (by omega) (fun hF=>hn (hFG t hF))]
    exact f1.keep t ht hn,fun t ht=>ht.elim (fun hF=>(hF12 t hF).imp (hFG t) id) .inl⟩
   refine (f2.set _ ((hG l).2 (.inl rfl))).to fun t ht=> ?_
   rcases ht with rfl|ht|ht
   ·exact .inl ((hG _).2 (.inl rfl))
   ·exact (hF12 t ht).imp (hFG t) id
   ·exact .inl ((hG t).2 (.inr (.inr (hw' t ht))))
  ·rcases h.str with⟨_,e,_⟩|⟨t',ls,_,e,h2,_⟩
   ·rw[hw' t ht]at e;cases e
   ·rw[hw' t ht]at e;simp only[Option.some.injEq]at e;subst e;exact absurd (at_lt h2) (by omega)
  ·show (secAt (setM L.disk.now ((L.ctr+1) % 2) (headS (L.ctr+1) n)) (2+k / 64))[k % 64]? =(L.str.take n)[k]?
   rw[secAt_set,if_neg (by omega),List.getElem?_take,if_pos hk]
   exact hon k hk
 have hstr2:∀ t x,w=some t→σ[t]? =some x→s2[t]? =some x:=fun t x ht hx=>hf2.get (hf1.get (hs.get hx) (h.nw t ht)) (fun hF=>(hf1.own t hF).elim (h.nw t ht) (fun hl=>by have:=at_lt hx;omega))
 rcases h.str with⟨rfl,rfl,hS⟩|⟨t,ls,rfl,rfl,h2,h3,h4⟩
 ·have hn0:n=0:=by rw[hS]at hn;simpa using hn
  subst hn0
  repeat' first|((with_reducible first|apply cs|apply ws|apply wd|apply wu)<;>intro h<;>try simp only[h])|simp only[↓wBA,tWd,convA,seval,pl109_3Wd,pl109_4Wd,pl109_10Wd,wH,j0,j1,p0,p1,n0,n1,boundA,cz,sliceA,elemsA]|(with_reducible first|refine dQ pl109_3Wd 9 (some 18) ?_|refine dQ pl109_4Wd 11 (some 27) ?_|refine dQ pl109_10Wd 19 (some 48) ?_)
  all_goals refine ret_st ?_ (by first|exact Nat.le_refl _|(simp only[length_set,length_append];omega)|omega)
  all_goals simp only[resA.eq_1,resL.eq_1,resL.eq_2,resV.eq_1,resV.eq_2,↓wBA,tWd,convA,seval,wH]
  all_goals exact hgo none _ none _ rfl (.inl ⟨rfl,rfl,by simp⟩) (fun t ht=>by cases ht)
 ·have i2:=hstr2 t _ rfl h2
  have hnn:=nnI n
  have hnS:((n:Int)≤(L.str.length:Int))=True:=eq_true (by omega)
  repeat' first|((with_reducible first|apply cs|apply ws|apply wd|apply wu)<;>intro h<;>try simp only[h])|simp only[↓wBA,tWd,convA,seval,pl109_3Wd,pl109_4Wd,pl109_10Wd,wH,j0,j1,p0,p1,n0,n1,boundA,hnn,hnS,sliceA,elemsA]|(with_reducible first|refine dQ pl109_3Wd 9 (some 18) ?_|refine dQ pl109_4Wd 11 (some 27) ?_|refine dQ pl109_10Wd 19 (some 48) ?_)
  all_goals refine ret_st ?_ (by first|exact Nat.le_refl _|(simp only[length_set,length_append];omega)|omega)
  all_goals simp only[resA.eq_1,resL.eq_1,resL.eq_2,resV.eq_1,resV.eq_2,↓wBA,tWd,convA,seval,wH]
  all_goals exact hgo (some t) _ none _ rfl (.inr ⟨t,ls,by simp[Nat.min_eq_left hn],rfl,by rw[List.getElem?_set_ne (by intro e;exact (ne_of_ob h0 h2 (by simp)) e)];exact i2,by rw[length_take,Nat.min_eq_left hn];simp only[bRows,List.map_take];rw[← bRows,←h3,List.take_take,Nat.min_eq_left hn],by simp;omega⟩) (fun q hq=>hq)
end Go.Proofs.YthhbnenaihkggaaGreat
