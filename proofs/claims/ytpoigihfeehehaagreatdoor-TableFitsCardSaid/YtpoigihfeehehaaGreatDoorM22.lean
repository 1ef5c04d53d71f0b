/- Logs: bytes of numbers, heads, what a log is in a state. Logs: numbers as bytes. Logs: room, append. Logs: append. Logs: the head is written. Logs: what waits is written; a log is emptied. Lists of one's own. Logs: the records of bytes. -/
import Derived.Test.YtpoigihfeehehaaGreatDoorM21
set_option linter.all false
set_option maxRecDepth 100000
set_option maxHeartbeats 32000000
namespace Go.Proofs.YtpoigihfeehehaaGreatDoor
open Go.RowKit
open List (cons_append getElem?_append_left length_take nil_append)
def leB (n:Nat):Nat→List UInt8
 |0=>[]
 |k+1=>leB n k++[UInt8.ofNat (n / 256 ^ k % 256)]
theorem Cy (n:Nat):∀ k,(leB n k).length=k
 |0=>rfl
 |k+1=>by simp[leB,Cy n k]
def Jf:List UInt8→Nat
 |[]=>0
 |b::l=>b.toNat+256*Jf l
theorem Uf (c:UInt8):∀ l:List UInt8,Jf (l++[c])=Jf l+c.toNat*256 ^ l.length
 |[]=>by simp[Jf]
 |b::l=>by
  simp only[cons_append,Jf,Uf c l,List.length_cons,Nat.pow_succ]
  rw[Nat.mul_add,Nat.add_assoc]
  congr 2
  rw[Nat.mul_left_comm,Nat.mul_comm 256]
theorem Ahv:∀ l:List UInt8,Jf l<256 ^ l.length
 |[]=>by simp[Jf]
 |b::l=>by
  have h1:=Ahv l
  have h2:=b.toNat_lt
  simp only[Jf,List.length_cons,Nat.pow_succ]
  omega
theorem Kw (n:Nat):∀ k,Jf (leB n k)=n % 256 ^ k
 |0=>by simp[leB,Jf,Nat.mod_one]
 |k+1=>by
  have hb:(UInt8.ofNat (n / 256 ^ k % 256)).toNat=n / 256 ^ k % 256:=by
   rw[UInt8.toNat_ofNat'];exact Nat.mod_eq_of_lt (Nat.mod_lt _ (by omega))
  rw[leB,Uf,Kw n k,Cy,hb,Nat.pow_succ,Nat.mod_mul,Nat.mul_comm (256 ^ k)]
theorem Ug {l:List UInt8}{i:Nat}(h:i<l.length):Jf (l.take (i+1))=Jf (l.take i)+l[i].toNat*256 ^ i:=by
 rw[List.take_succ_eq_append_getElem h,Uf,length_take,Nat.min_eq_left (by omega)]
theorem Ahw (w x y:Nat):(BitVec.ofInt w (x:Int) ||| BitVec.ofInt w (y:Int)).toNat=(x % 2 ^ w) ||| (y % 2 ^ w):=by
 rw[BitVec.toNat_or,BitVec.ofInt_natCast,BitVec.ofInt_natCast,BitVec.toNat_ofNat,BitVec.toNat_ofNat]
theorem An8 {l:List UInt8}{i:Nat}(h:i<l.length)(hi:i<8):IntKind.u64.wrap ((BitVec.ofInt IntKind.u64.bits (Jf (l.take i):Nat) ||| BitVec.ofInt IntKind.u64.bits (IntKind.u64.wrap ((l[i].toNat:Int)*2 ^ (8*i)))).toNat)=((Jf (l.take (i+1)):Nat):Int):=by
 have h1:=Ahv (l.take i)
 rw[length_take,Nat.min_eq_left (by omega)]at h1
 have h2:=l[i].toNat_lt
 have hp:(256:Nat) ^ i=2 ^ (8*i):=by rw[show (256:Nat)=2 ^ 8 from rfl,←Nat.pow_mul]
 have h3:2 ^ (8*i)*256≤18446744073709551616:=by
  have:2 ^ (8*i)*256=2 ^ (8*i+8):=by rw[Nat.pow_add]
  rw[this]
  have:2 ^ (8*i+8)≤2 ^ 64:=Nat.pow_le_pow_right (by omega) (by omega)
  exact this
 rw[Ug h,hp]
 rw[hp]at h1
 generalize l[i].toNat=b at*
 generalize Jf (l.take i)=x at*
 generalize hq:2 ^ (8*i)=q at*
 have hbq:b*q<18446744073709551616:=Nat.lt_of_lt_of_le (Nat.mul_lt_mul_of_pos_right h2 (by omega)) (by rw[Nat.mul_comm];exact h3)
 have e1:IntKind.u64.wrap ((b:Int)*2 ^ (8*i))=((b*q:Nat):Int):=by
  have:(2:Int) ^ (8*i)=((q:Nat):Int):=by rw[← hq];simp
  rw[this,←Int.natCast_mul]
  exact IntKind.wrap_u64 _▸(by omega)
 rw[e1]
 rw[Ahw,show 2 ^ IntKind.u64.bits=18446744073709551616 from rfl,Nat.mod_eq_of_lt (by omega),Nat.mod_eq_of_lt (by omega)]
 have e3:x ||| b*q=x+b*q:=by
  have:=Nat.two_pow_add_eq_or_of_lt (i:=8*i) (b:=x) (by rw[hq];exact h1) b
  rw[hq]at this
  rw[Nat.or_comm,Nat.mul_comm b q,←this];omega
 rw[e3]
 have:x+b*q<18446744073709551616:=by
  have h4:b*q≤255*q:=Nat.mul_le_mul_right _ (by omega)
  omega
 exact IntKind.wrap_u64 _▸(by omega)
theorem G4 (n i:Nat)(hn:n<18446744073709551616)(hi:i<8):IntKind.u8.wrap ((n:Int).fdiv (2 ^ (8*i)))=((UInt8.ofNat (n / 256 ^ i % 256)).toNat:Int):=by
 have hp:(256:Nat) ^ i=2 ^ (8*i):=by rw[show (256:Nat)=2 ^ 8 from rfl,←Nat.pow_mul]
 have e1:(n:Int).fdiv (2 ^ (8*i))=((n / 256 ^ i:Nat):Int):=by
  rw[hp,Int.natCast_ediv]
  have:((2 ^ (8*i):Nat):Int)=(2:Int) ^ (8*i):=by simp
  rw[this,Int.fdiv_eq_ediv_of_nonneg]
  exact Int.pow_nonneg (by omega)
 rw[e1,UInt8.toNat_ofNat',Nat.mod_mod]
 rw[IntKind.wrap_u8];omega
def Gd (s:List UInt8):Nat×Nat:=(Jf (s.take 8),Jf ((s.drop 8).take 4))
def Ge (c n:Nat):List UInt8:=leB c 8++leB n 4++List.replicate 52 0
theorem Px (c n:Nat):(Ge c n).length=64:=by simp[Ge,Cy]
theorem Apm {c n:Nat}(hc:c<18446744073709551616)(hn:n<4294967296):Gd (Ge c n)=(c,n):=by
 unfold Gd Ge
 rw[List.append_assoc,List.take_left' (Cy c 8),List.drop_left' (Cy c 8),List.take_left' (Cy n 4),Kw,Kw]
 simp only[Prod.mk.injEq]
 exact⟨Nat.mod_eq_of_lt hc,Nat.mod_eq_of_lt hn⟩
def Aeo (m:List (Nat×List UInt8)):Nat×Nat:=
 let h0:=Gd (A6 m 0)
 let h1:=Gd (A6 m 1)
 let a:=if 0<h0.1 then h0 else (0,0)
 if a.1<h1.1 then h1 else a
structure Ns (m:List (Nat×List UInt8))(c n:Nat):Prop where
 says:Aeo m=(c,n)
 le0:(Gd (A6 m 0)).1≤c
 le1:(Gd (A6 m 1)).1≤c
theorem Dg (m:List (Nat×List UInt8))(k i:Nat)(s:List UInt8):A6 (Dt m k s) i=if i=k then s else A6 m i:=by
 unfold A6
 rw[Je]
 split<;>rfl
theorem Ns.keep {m:List (Nat×List UInt8)}{c n:Nat}(h:Ns m c n){k:Nat}(hk:2≤k)(s:List UInt8):Ns (Dt m k s) c n:=by
 have e0:A6 (Dt m k s) 0=A6 m 0:=by rw[Dg,if_neg (by omega)]
 have e1:A6 (Dt m k s) 1=A6 m 1:=by rw[Dg,if_neg (by omega)]
 exact⟨by unfold Aeo;rw[e0,e1];exact h.says,by rw[e0];exact h.le0,by rw[e1];exact h.le1⟩
theorem Ns.sealed {m:List (Nat×List UInt8)}{c n:Nat}(h:Ns m c n)(n':Nat)(hc:c+1<18446744073709551616)(hn:n'<4294967296):Ns (Dt m ((c+1) % 2) (Ge (c+1) n')) (c+1) n':=by
 have hb:=Apm hc hn
 rcases Nat.mod_two_eq_zero_or_one (c+1)with e|e
 ·rw[e]
  have e0:A6 (Dt m 0 (Ge (c+1) n')) 0=Ge (c+1) n':=by rw[Dg,if_pos rfl]
  have e1:A6 (Dt m 0 (Ge (c+1) n')) 1=A6 m 1:=by rw[Dg,if_neg (by omega)]
  have:=h.le1
  refine⟨?_,by rw[e0,hb];exact Nat.le_refl _,by rw[e1];omega⟩
  have g:¬ (c+1<(Gd (A6 m 1)).1):=by omega
  simp[Aeo,e0,e1,hb,g]
 ·rw[e]
  have e0:A6 (Dt m 1 (Ge (c+1) n')) 1=Ge (c+1) n':=by rw[Dg,if_pos rfl]
  have e1:A6 (Dt m 1 (Ge (c+1) n')) 0=A6 m 0:=by rw[Dg,if_neg (by omega)]
  have:=h.le0
  refine⟨?_,by rw[e1];omega,by rw[e0,hb];exact Nat.le_refl _⟩
  have g:(if 0<(Gd (A6 m 0)).1 then Gd (A6 m 0)else (0,0)).1<c+1:=by
   split
   ·omega
   ·exact Nat.zero_lt_succ _
  simp only[Aeo,e0,e1,hb,if_pos g]
theorem Ahx:Ns [] 0 0:=by
 have:Gd (A6 [] 0)=(0,0):=by decide
 have h1:Gd (A6 [] 1)=(0,0):=by decide
 exact⟨by unfold Aeo;rw[this,h1];rfl,by rw[this];exact Nat.le_refl _,by rw[h1];exact Nat.le_refl _⟩
def C1 (l:List UInt8):List (List AV):=l.map fun b=>[.p (Bq b)]
theorem Ahy (l:List UInt8):(C1 l).length=l.length:=by simp[C1]
def Zw (σ:St)(a:AV)(w:Option Nat)(S:List UInt8):Prop:=
 (a= .p (.v (.slice none 0 0))∧w=none∧S=[])∨∃ t ls,a= .ms t 1 0 S.length∧w=some t∧σ[t]? =some (some (.row 1 ls))∧ls.take S.length=C1 S∧S.length≤ls.length
structure LogV where
 d:Nat
 disk:Gc
 ctr:Nat
 len:Nat
 str:List UInt8
 wait:Nat
structure Au8 (σ:St)(l d:Nat)(F:Nat→Prop)(w:Option Nat)(a:AV)(L:LogV):Prop where
 o:σ[l]? =some (some (.row 5 [[.mp d 6 0 0,.p (.v (.int .u64 (L.ctr:Nat))),.p (.v (.int .u64 (L.len:Nat))),a,Ad .i64 (L.wait:Nat)]]))
 disk:Bi σ d F L.disk
 str:Zw σ a w L.str
 nl:¬ F l
 nw:∀ t,w=some t→¬ F t
 big:3≤L.disk.size
 room:L.str.length≤(L.disk.size - 2)*64
 le:L.len≤L.str.length
 heads:Ns L.disk.now L.ctr L.len
 secs:∀ k,(A6 L.disk.now k).length=64
 dry:L.disk.wait=[]
 id:L.d=d
 on:∀ k,k<L.len→(A6 L.disk.now (2+k / 64))[k % 64]? =L.str[k]?
 dr:L.wait=0→L.len=L.str.length
def Et (σ:St)(l:Nat)(G:Nat→Prop)(L:LogV):Prop:=∃ d F w a,Au8 σ l d F w a L∧∀ t,G t↔(t=l∨F t∨w=some t)
theorem Et.lt {σ:St}{l:Nat}{G:Nat→Prop}{L:LogV}(h:Et σ l G L):∀ t,G t→t<σ.length:=by
 obtain⟨d,F,w,a,h,hG⟩:=h
 intro t ht
 rcases (hG t).1 ht with rfl|hF|hw
 ·exact Ac h.o
 ·exact h.disk.lt t hF
 ·rcases h.str with⟨_,h1,_⟩|⟨t',ls,_,h1,h2,_⟩
  ·rw[h1]at hw;cases hw
  ·rw[h1]at hw;simp only[Option.some.injEq]at hw;subst hw;exact Ac h2
theorem Zw.same {σ σ':St}{a:AV}{w:Option Nat}{S:List UInt8}(h:Zw σ a w S)(hs:∀ t,w=some t→σ'[t]? =σ[t]?):Zw σ' a w S:=by
 rcases h with h|⟨t,ls,h1,h2,h3,h4⟩
 ·exact .inl h
 ·exact .inr ⟨t,ls,h1,h2,by rw[hs t h2];exact h3,h4⟩
theorem Et.same {σ σ':St}{l:Nat}{G:Nat→Prop}{L:LogV}(h:Et σ l G L)(hs:∀ t,G t→σ'[t]? =σ[t]?):Et σ' l G L:=by
 obtain⟨d,F,w,a,h,hG⟩:=h
 exact⟨d,F,w,a,⟨by rw[hs l ((hG l).2 (.inl rfl))];exact h.o,h.disk.same fun t ht=>hs t ((hG t).2 (.inr (.inl ht))),h.str.same fun t ht=>hs t ((hG t).2 (.inr (.inr ht))),h.nl,h.nw,h.big,h.room,h.le,h.heads,h.secs,h.dry,h.id,h.on,h.dr⟩,hG⟩
theorem Et.frame {σ σ':St}{l:Nat}{G K K':Nat→Prop}{L:LogV}(h:Et σ l G L)(hf:Fr σ σ' K K')(hd:∀ t,G t→K t→False):Et σ' l G L:=
 h.same fun t ht=>hf.keep t (h.lt t ht) fun hg=>hd t ht hg
theorem Et.app {σ:St}{l:Nat}{G:Nat→Prop}{L:LogV}(h:Et σ l G L)(τ:St):Et (σ++τ) l G L:=h.same fun t ht=>getElem?_append_left (h.lt t ht)
theorem Et.mk' {σ σ':St}{l d:Nat}{F K K':Nat→Prop}{w w':Option Nat}{a a':AV}{L L':LogV}(h:Au8 σ l d F w a L)(hf:Fr σ σ' K K')(hK:∀ t,F t→K t→False)(hd:L'.disk=L.disk)
 (ho:σ'[l]? =some (some (.row 5 [[.mp d 6 0 0,.p (.v (.int .u64 (L'.ctr:Nat))),.p (.v (.int .u64 (L'.len:Nat))),a',Ad .i64 (L'.wait:Nat)]]))) (hs:Zw σ' a' w' L'.str) (hn:∀ t,w'=some t→σ.length≤t∨w=some t)
 (hr:L'.str.length≤(L.disk.size - 2)*64) (hle:L'.len≤L'.str.length) (hh:L'.ctr=L.ctr∧L'.len=L.len) (hp:∀ k,k<L.len→L'.str[k]? =L.str[k]?) (hq:L'.wait=0→L'.len=L'.str.length) (hi:L'.d=L.d:=by rfl):Et σ' l (fun t=>t=l∨F t∨w'=some t) L':=
 ⟨d,F,w',a',⟨ho,by rw[hd];exact h.disk.frame hf hK,hs,h.nl,fun t ht hF=>(hn t ht).elim (fun hl=>Nat.lt_irrefl _ (Nat.lt_of_lt_of_le (h.disk.lt t hF) hl)) (fun e=>h.nw t e hF),by rw[hd];exact h.big,by rw[hd];exact hr,hle,by rw[hd,hh.1,hh.2];exact h.heads,by rw[hd];exact h.secs,by rw[hd];exact h.dry,hi.trans h.id,fun k hk=>by rw[hh.2]at hk;rw[hd,hp k hk];exact h.on k hk,hq⟩,fun t=>Iff.rfl⟩
def tWa:=aa wX <| aa wbu <| aa T3 <| aa T5 <| aa T70 T140
theorem Apn {σ:St}{t e o:Nat}{c:List AV}(l:List UInt8)(ht:σ[t]? =some (some (.row e [c])))(hl:l.length≤8)(hc:∀ i,(h:i<l.length)→c[o+i]? =some (.p (Bq l[i]))):
 Aa Tryz.prog 61 [.bs t e 0 o l.length] σ fun r σ'=>σ'=σ∧r= .p (.v (.int .u64 (Jf l:Nat))):=by
 refine Ab Am Ao Tryz.func61 (by kernel_rfl) rfl (nt:=21) (rs:=[.tmp 2]) rfl rfl ?_
 repeat' simp only[↓wBA,tWa,seval]
 refine As (X:={ i:Nat // i≤l.length }) (fun i=>l.length - i.1) (fun i=>[(3,.p (.v (.int .u64 (Jf (l.take i.1):Nat)))),(7,Ad .i64 (i.1:Nat))]) [4,8,9,10,11,12,13,14,15,16,17,18,19,20] (fun i s=>s=σ) (⟨0,by omega⟩) ?_ ?_ ?_ ?_
 ·simp only[wHl,wHf,List.take_zero,Jf]
 ·rfl
 ·rintro _ _ rfl;exact Nat.le_refl _
 ·intro x J s hI
  simp only[wHl]
  obtain⟨i,hi⟩:=x
  subst hI
  dsimp only
  by_cases hlt:i<l.length
  ·have hdec:=dT (i:=i) (n:=l.length) (by omega)
   have hi0:=nnI i
   have hw1:=wI i (by omega)
   have hg:=hc i hlt
   have hor:=An8 hlt (by omega)
   have hbd:((i:Int)<(l.length:Int))=True:=eq_true (by omega)
   have hm:IntKind.i64.wrap (8*(i:Int))=((8*i:Nat):Int):=by rw[wrap_i64 (by omega) (by omega)];simp
   have hu:IntKind.u64.wrap ((l[i]).toNat:Int)=((l[i]).toNat:Int):=by have:=(l[i]).toNat_lt;exact IntKind.wrap_u64 _▸(by omega)
   have hmn:min (8*i) IntKind.u64.bits=8*i:=Nat.min_eq_left (by show 8*i≤64;omega)
   have hng:(((8*i:Nat):Int)<0)=False:=eq_false (by omega)
   repeat' simp only[↓wBA,tWa,Bl,seval,wHl,ht,hi0,hg,hbd,hw1,hm,hu,hmn,hng,hor,Bq]
   all_goals exact⟨⟨i+1,by omega⟩,by show l.length - (i+1)<l.length - i;omega,rfl⟩
  ·have hdec:=dF (i:=i) (n:=l.length) (by omega)
   have he:i=l.length:=by omega
   subst he
   repeat' simp only[↓wBA,tWa,seval,wHl,hdec]
   all_goals refine rtS ?_
   all_goals simp only[A1.eq_1,Ak.eq_1,Ak.eq_2,Ax.eq_1,tWa,seval,List.take_length]
def wA (n:Nat):Nat→Nat→AV
 |0,_=>.p (.v (.slice none 0 0))
 |i+1,t=>.own t 1 (Ay (leB n (i+1)))
theorem Ca (l:List UInt8):(Ay l).length=l.length:=by simp[Ay]
theorem Abu (n i:Nat):Ay (leB n i)++[[.v (.int .u8 ((UInt8.ofNat (n / 256 ^ i % 256)).toNat:Int))]]=Ay (leB n (i+1)):=by simp[Ay,leB,Bq]
def bT:Nat→St
 |0=>[]
 |k+1=>some (.right 5 1)::some (.right 5 (k+1))::List.replicate k (some (.right 5 1))
theorem Au9 (k:Nat):(bT (k+1)).length=k+2:=by simp[bT]
theorem bT_8:(bT 8).length=9:=rfl
theorem bT_4:(bT 4).length=5:=rfl
theorem Ava:(bT 8)[1]? =some (some (.right 5 8)):=rfl
theorem Avb:(bT 4)[1]? =some (some (.right 5 4)):=rfl
theorem wBt:(type_of% @bT_8)∧(type_of% @bT_4)∧(type_of% @Ava)∧(type_of% @Avb):=⟨@bT_8,@bT_4,@Ava,@Avb⟩
theorem An9 (n k:Nat)(hn:n<18446744073709551616)(hk:0<k)(hk8:k≤8)(σ:St):
 Aa Tryz.prog 103 [.p (.v (.int .u64 (n:Nat))),Ad .i64 (k:Nat)] σ fun r σ'=>σ'=σ++bT k∧r= .own (σ.length+1) 1 (Ay (leB n k)):=by
 refine Ab Am Ao Tryz.func103 (by kernel_rfl) rfl (nt:=19) (rs:=[.tmp 4]) rfl rfl ?_
 repeat' simp only[↓wBA,tWa,seval]
 refine As (X:={ q:Nat // q≤k }) (fun q=>k - q.1) (fun q=>[(5,wA n q.1 (σ.length+1)),(8,Ad .i64 (q.1:Nat))]) [6,9,10,11,12,13,14,15,16,17,18,19] (fun q s=>s=σ++bT q.1) (⟨0,by simp⟩) ?_ ?_ ?_ ?_
 ·simp only[wHl,wHf,wA]
 ·simp[bT]
 ·rintro _ _ rfl;simp
 ·intro x J s hI
  simp only[wHl]
  obtain⟨i,hi⟩:=x
  subst hI
  dsimp only at*
  by_cases hlt:i<k
  ·have hdec:=dT (i:=i) (n:=k) (by omega)
   have hi0:=nnI i
   have hw1:=wI i (by omega)
   have hm:IntKind.i64.wrap (8*(i:Int))=((8*i:Nat):Int):=by rw[wrap_i64 (by omega) (by omega)];simp
   have hmn:min (8*i) IntKind.u64.bits=8*i:=Nat.min_eq_left (by show 8*i≤64;omega)
   have hng:(((8*i:Nat):Int)<0)=False:=eq_false (by omega)
   have hby:=G4 n i hn (by omega)
   have l1:=lM (n:=1) (by omega)
   have l2:=lM (n:=i+1) (by omega)
   have l3:=tL (n:=i+1) (by omega)
   cases i with
   |zero=>
    have d0:=dT (i:=0) (n:=k) (by omega)
    have b0:IntKind.u8.wrap ((n:Int).fdiv (2 ^ min (Int.toNat 0) IntKind.u64.bits))=((UInt8.ofNat (n / 256 ^ 0 % 256)).toNat:Int):=by have:=hby;simpa using this
    have w1:IntKind.i64.wrap (0+1)=1:=by decide
    have w2:IntKind.i64.wrap 1=1:=by decide
    have e0:σ++bT 0=σ:=List.append_nil σ
    repeat' first|((with_reducible apply cs)<;>intro h<;>try simp only[h])|simp only[↓wBA,tWa,Bl,seval,wH,wHl,wA,e0,w2,wz0,hmn,A5,E1,l1,l3]
    all_goals first
     |(exfalso;simp at h;omega)
     |(have b1:Ay (leB n 1)=[[.v (.int .u8 (IntKind.u8.wrap ((n:Int).fdiv 1)))]]:=by rw[← Abu];simp only[leB,Ay,List.map_nil,nil_append];rw[← b0];simp
       refine⟨⟨1,by omega⟩,by show k - 1<k - 0;omega,by simp[bT],?_⟩
       simp only[b1];rfl)
   |succ i=>
    have ei:(σ++bT (i+1))[σ.length+1]? =some (some (.right 5 (i+1))):=by simp[bT]
    have el:(σ.length+1<(σ++bT (i+1)).length)=True:=eq_true (by simp[bT])
    have es:(σ++bT (i+1)).set (σ.length+1) (some (.right 5 (i+2)))++[some (.right 5 1)]=σ++bT (i+1+1):=by
     rw[List.set_append_right _ _ (by omega)]
     simp only[bT,Nat.add_sub_cancel_left,List.set_cons_succ,List.set_cons_zero,List.append_assoc,cons_append,List.replicate_succ']
    have q:(1<i+2)=True:=eq_true (by omega)
    repeat' simp only[↓wBA,tWa,Bl,seval,wH,wHl,wA,Ca,Cy,hdec,hw1,hm,hmn,hng,hby,A5,E1,l2,l3,ei,Au9,q,Nat.mul_one]
    all_goals
     rw[Abu]
     exact⟨⟨i+1+1,by omega⟩,by show k - (i+1+1)<k - (i+1);omega,es,rfl⟩
  ·have hdec:=dF (i:=i) (n:=k) (by omega)
   have he:i=k:=by omega
   subst he
   obtain⟨j,rfl⟩:∃ j,i=j+1:=⟨i - 1,by omega⟩
   repeat' simp only[↓wBA,tWa,seval,wH,wHl,hdec,wA]
   all_goals refine rtS ?_
   all_goals simp only[A1.eq_1,Ak.eq_1,Ak.eq_2,Ax.eq_1,tWa,seval]
def tWb:=aa wX <| aa wbu <| aa T3 <| aa T32 <| aa T70 <| aa T80 <| aa T140 T144
theorem Avc {σ:St}{l:Nat}{G:Nat→Prop}{L:LogV}(h:Et σ l G L):Aa Tryz.prog 62 [.mp l 5 0 0] σ fun r σ'=>σ'=σ∧r=Ad .i64 ((L.disk.size - 2)*64:Nat):=by
 obtain⟨d,F,w,a,h,hG⟩:=h
 have h0:=h.o
 have hs:=Abs h.disk
 have hb:=h.big
 have hb2:L.disk.size≤65536:=by obtain⟨kn,kk,w',a',es,hd,hF⟩:=h.disk;exact hd.big
 have w1:IntKind.i64.wrap ((L.disk.size:Int) - 2)=((L.disk.size - 2:Nat):Int):=by rw[wrap_i64 (by omega) (by omega)];omega
 have w2:IntKind.i64.wrap (((L.disk.size - 2:Nat):Int)*64)=(((L.disk.size - 2)*64:Nat):Int):=by rw[wrap_i64 (by omega) (by omega)];simp
 refine Ab Am Ao Tryz.func62 (by kernel_rfl) rfl (nt:=9) (rs:=[.tmp 2]) rfl rfl ?_
 repeat' first|simp only[↓wBA,tWb,seval,h0,w1,w2]|((with_reducible show Aa _ _ _ _ _);refine hs.eq ?_)
 all_goals refine rtS ?_
 all_goals simp only[A1.eq_1,Ak.eq_1,Ak.eq_2,Ax.eq_1,tWb,seval]
def Xa:Cv:=(.det 0 (.det 1 (.det 2 (.det 4 (.det 5 (.act 3 (.fin 6 (.fin 7 (.fin 8 .done)))))))))
def Xb:Cv:=(.det 0 (.det 1 (.det 2 (.det 3 (.det 4 (.det 5 (.det 6 (.det 7 (.det 8 (.fin 9 (.det 10 .done)))))))))))
def Ih:Cv:=(.det 0 (.det 1 (.det 2 (.det 3 (.det 4 (.det 5 (.det 6 (.det 7 (.det 8 (.det 9 (.det 10 (.det 11 (.fin 12 (.det 13 (.det 14 (.fin 15 (.det 16 (.det 17 (.fin 18 .done)))))))))))))))))))
def tWd:=aa wX <| aa wbu <| aa T3 <| aa T29 <| aa T32 <| aa T70 <| aa T137 <| aa T140 <| aa T142 T144
theorem Xc (l:List UInt8):List.flatten (Ay l)=l.map Bq:=by
 induction l with
 |nil=>rfl
 |cons b l ih=>simp only[Ay,List.map_cons,List.flatten_cons,cons_append,nil_append]at ih ⊢;rw[ih]
theorem Uh (l m:List UInt8):Ay l++Ay m=Ay (l++m):=by simp[Ay]
theorem Avd (c n:Nat):(leB c 8++leB n 4).length=12:=by simp[Cy]
theorem Apo (c n:Nat):List.take 64 (Ar (leB c 8++leB n 4))=Ar (leB c 8++leB n 4):=List.take_of_length_le (by rw[Gb,Avd];omega)
theorem Ahz (c n:Nat):Ar (leB c 8++leB n 4)++List.drop 12 (Ar Fp)=Ar (Ge c n):=by
 simp only[Ge,Fp,Ar,List.map_append,List.map_replicate,List.drop_replicate,List.append_assoc]
theorem Aa.gen {P:Program}{f:FuncId}{args:List AV}{X:St}{R:AV→St→Prop}(Pr:St→Prop)(h:Pr X)(k:∀ s,Pr s→Aa P f args s R):Aa P f args X R:=k X h
theorem Bi.ap {σ s:St}{d:Nat}{F:Nat→Prop}{D:Gc}(h:Bi σ d F D)(hs:Ap σ s):Bi s d F D:=by
 obtain⟨τ,rfl⟩:=hs
 exact h.app τ
theorem Ave {σ:St}{l:Nat}{G:Nat→Prop}{L:LogV}(h:Et σ l G L)(n:Nat)(hn:n≤L.str.length)(hc:L.ctr+1<18446744073709551616)(hon:∀ k,k<n→(A6 L.disk.now (2+k / 64))[k % 64]? =L.str[k]?):
 Aa Tryz.prog 105 [.mp l 5 0 0,Ad .i64 (n:Nat)] σ fun x σ'=>x=Ad .i64 0∧∃ G',Fr σ σ' G G'∧Et σ' l G' { d:=L.d,disk:={ L.disk with now:=Dt L.disk.now ((L.ctr+1) % 2) (Ge (L.ctr+1) n),wait:=[],kept:=A6 (Dt L.disk.now ((L.ctr+1) % 2) (Ge (L.ctr+1) n)) },ctr:=L.ctr+1,len:=n,str:=L.str.take n,wait:=0 }:=by
 obtain⟨d,F,w,a,h,hG⟩:=h
 have h0:=h.o
 have l0:=Ac h0
 have hb2:L.disk.size≤65536:=by obtain⟨kn,kk,w',a',es,hd,hF⟩:=h.disk;exact hd.big
 have hst:=h.room
 have w1:IntKind.u64.wrap ((L.ctr:Int)+1)=((L.ctr+1:Nat):Int):=IntKind.wrap_u64 _▸(by omega)
 have w2:IntKind.u64.wrap (n:Int)=(n:Int):=IntKind.wrap_u64 _▸(by omega)
 have e8:(Ay (leB (L.ctr+1) 8)).length=8:=by rw[Ca,Cy]
 have e4:(Ay (leB n 4)).length=4:=by rw[Ca,Cy]
 have w3:IntKind.i64.wrap (((L.ctr+1:Nat):Int).tmod 2)=(((L.ctr+1) % 2:Nat):Int):=by
  have e:((L.ctr+1:Nat):Int).tmod 2=(((L.ctr+1) % 2:Nat):Int):=by rw[Int.tmod_eq_emod_of_nonneg (by omega)];omega
  rw[e,wrap_i64 (by omega) (by omega)]
 have lm1:=lM (n:=12) (by omega)
 have lm2:=lM (n:=8+4) (by omega)
 refine Ab Am Ao Tryz.func105 (by kernel_rfl) rfl (nt:=62) (rs:=[.tmp 4]) rfl rfl ?_
 repeat' first|simp only[↓wBA,tWd,Bl,seval,Xa,Xb,wH,wHt,wBt,h0,l0,w1,w2,e8,e4,Zu,A5,E1,Bm,Qx,srcC,Uh,Xc,Hw,Apo,Ahz,Gb,Ey,Cy,Ca,Px,lm1,w3]|((with_reducible show Aa _ _ _ _ _);first|refine (An9 (L.ctr+1) 8 (by omega) (by omega) (by omega) _).eq' ?_|refine (An9 n 4 (by omega) (by omega) (by omega) _).eq' ?_)|(with_reducible first|refine dQ Xa 9 (some 18) ?_|refine dQ Xb 11 (some 27) ?_)
 refine Aa.gen (fun s=>Ap σ s∧s[σ.length]? =some (some (.row 2 [[.p (.v (.int .u64 (L.ctr+1:Nat))),.p (.v (.int .u64 n))]]))) ⟨?_,?_⟩ fun s ⟨hs,hq⟩=> ?_
 ·exact (((((Ap.app _ _).more _).more _).set (by omega) _).set (by omega) _).more _
 ·simp only[wH,wHe,wBt,Nat.reduceAdd,Nat.reduceLT]
 refine (Zv (h.disk.ap hs) ((L.ctr+1) % 2) (by have:=h.big;omega) (Ge (L.ctr+1) n) (Px _ _) (by rw[h.dry];simp)).mono ?_
 rintro _ s1 ⟨rfl,F1,hf1,hd1⟩
 have hsl:σ.length<s.length:=Ac hq
 have k0:=hf1.get (hs.get h0) h.nl
 have k1:=hf1.get hq (fun hF=>Nat.lt_irrefl _ (h.disk.lt _ hF))
 have k2:=hf1.len
 have q0:=Ac k0
 have q1:=Ac k1
 have nl1:¬ F1 l:=fun hF=>(hf1.own _ hF).elim h.nl (fun hl=>by omega)
 have nl2:¬ F1 σ.length:=fun hF=>(hf1.own _ hF).elim (fun hF=>Nat.lt_irrefl _ (h.disk.lt _ hF)) (fun hl=>by omega)
 repeat' simp only[↓wBA,tWd,seval,k0]
 refine (Ahu hd1 (by simp[h.dry])).mono ?_
 rintro _ s2 ⟨rfl,F2,hf2,hd2⟩
 have j0:=hf2.get k0 nl1
 have j1:=hf2.get k1 nl2
 have j2:=hf2.len
 have p0:=Ac j0
 have p1:=Ac j1
 have n0:(l=σ.length)=False:=nf (by omega)
 have n1:(σ.length=l)=False:=nf (by omega)
 have nl3:¬ F2 l:=fun hF=>(hf2.own _ hF).elim nl1 (fun hl=>by omega)
 have hF12:∀ t,F2 t→F t∨σ.length≤t:=fun t hF=>(hf2.own t hF).elim (fun hF=>(hf1.own t hF).imp id (fun hl=>by omega)) (fun hl=>.inr (by omega))
 have hh:=h.heads.sealed n hc (by omega)
 have hsec:∀ k,(A6 (Dt L.disk.now ((L.ctr+1) % 2) (Ge (L.ctr+1) n)) k).length=64:=fun k=>by
  rw[Dg]
  split
  ·exact Px _ _
  ·exact h.secs k
 have hgo:∀ (w':Option Nat) (a':AV) (X:Option Ob) (s3:St),s3=s2.set l (some (.row 5 [[.mp d 6 0 0,.p (.v (.int .u64 (L.ctr+1:Nat))),.p (.v (.int .u64 (n:Nat))),a',.p (.v (.int .i64 0))]]))→Zw s3 a' w' (L.str.take n)→(∀ t,w'=some t→w=some t)→
  ∃ G',Fr σ s3 G G'∧Et s3 l G' { d:=L.d,disk:={ L.disk with now:=Dt L.disk.now ((L.ctr+1) % 2) (Ge (L.ctr+1) n),wait:=[],kept:=A6 (Dt L.disk.now ((L.ctr+1) % 2) (Ge (L.ctr+1) n)) },ctr:=L.ctr+1,len:=n,str:=L.str.take n,wait:=0 }:=fun w' a' X s3 e hst' hw'=>by
  subst e
  refine⟨fun t=>t=l∨F2 t∨w'=some t,?_,d,F2,w',a',⟨by simp only[wH,p0];rfl,hd2.same fun t ht=>List.getElem?_set_ne fun e=>by subst e;exact nl3 ht,hst',nl3,fun t ht hF=>(hF12 t hF).elim (h.nw t (hw' t ht)) (fun hl=> ?_),h.big,by simp only[length_take];omega,by simp only[length_take];omega,hh,hsec,rfl,h.id,fun k hk=> ?_,fun _=>by simp only[length_take];omega⟩,fun t=>Iff.rfl⟩
  ·have f1:Fr σ s G G:=hs.fr
   have hFG:∀ t,F t→G t:=fun t ht=>(hG t).2 (.inr (.inl ht))
   have f2:Fr σ s2 G fun t=>F2 t∨(G t):=⟨by omega,fun t ht hn=>by
    rw[hf2.keep t (by omega) (fun hF=>(hf1.own t hF).elim (fun hF=>hn (hFG t hF)) (fun hl=>by omega)),hf1.keep t (by omega) (fun hF=>hn (hFG t hF))]
    exact f1.keep t ht hn,fun t ht=>ht.elim (fun hF=>(hF12 t hF).imp (hFG t) id) .inl⟩
   refine (f2.set _ ((hG l).2 (.inl rfl))).to fun t ht=> ?_
   rcases ht with rfl|ht|ht
   ·exact .inl ((hG _).2 (.inl rfl))
   ·exact (hF12 t ht).imp (hFG t) id
   ·exact .inl ((hG t).2 (.inr (.inr (hw' t ht))))
  ·rcases h.str with⟨_,e,_⟩|⟨t',ls,_,e,h2,_⟩
   ·rw[hw' t ht]at e;cases e
   ·rw[hw' t ht]at e;simp only[Option.some.injEq]at e;subst e;exact absurd (Ac h2) (by omega)
  ·show (A6 (Dt L.disk.now ((L.ctr+1) % 2) (Ge (L.ctr+1) n)) (2+k / 64))[k % 64]? =(L.str.take n)[k]?
   rw[Dg,if_neg (by omega),List.getElem?_take,if_pos hk]
   exact hon k hk
 have hstr2:∀ t x,w=some t→σ[t]? =some x→s2[t]? =some x:=fun t x ht hx=>hf2.get (hf1.get (hs.get hx) (h.nw t ht)) (fun hF=>(hf1.own t hF).elim (h.nw t ht) (fun hl=>by have:=Ac hx;omega))
 rcases h.str with⟨rfl,rfl,hS⟩|⟨t,ls,rfl,rfl,h2,h3,h4⟩
 ·have hn0:n=0:=by rw[hS]at hn;simpa using hn
  subst hn0
  repeat' first|simp only[↓wBA,tWd,seval,Ih,wH,j0,j1,p0,Bm,cz,Bv,Br]|(with_reducible refine dQ Ih 19 (some 48) ?_)
  all_goals refine rtS ?_
  all_goals simp only[A1.eq_1,Ak.eq_1,Ak.eq_2,Ax.eq_1,tWd,seval]
  all_goals exact hgo none _ none _ rfl (.inl ⟨rfl,rfl,by simp⟩) (fun t ht=>by cases ht)
 ·have i2:=hstr2 t _ rfl h2
  have hnn:=nnI n
  have hnS:((n:Int)≤(L.str.length:Int))=True:=eq_true (by omega)
  repeat' first|simp only[↓wBA,tWd,seval,Ih,wH,j0,j1,p0,Bm,hnn,hnS,Bv,Br]|(with_reducible refine dQ Ih 19 (some 48) ?_)
  all_goals refine rtS ?_
  all_goals simp only[A1.eq_1,Ak.eq_1,Ak.eq_2,Ax.eq_1,tWd,seval]
  all_goals exact hgo (some t) _ none _ rfl (.inr ⟨t,ls,by simp[Nat.min_eq_left hn],rfl,by rw[List.getElem?_set_ne (by intro e;exact (A0 h0 h2 (by simp)) e)];exact i2,by rw[length_take,Nat.min_eq_left hn];simp only[C1,List.map_take];rw[← C1,←h3,List.take_take,Nat.min_eq_left hn],by simp;omega⟩) (fun q hq=>hq)
def Abv:Cv:=(.det 0 (.det 1 (.det 2 (.det 3 (.det 4 (.det 5 (.det 6 (.det 7 (.fin 8 .done)))))))))
def Xd:Cv:=(.det 0 (.det 1 (.det 2 (.det 3 (.det 4 (.det 5 (.det 6 (.fin 7 (.det 8 .done)))))))))
def tWe:=aa wX <| aa wbu <| aa T3 <| aa T29 <| aa T32 <| aa T70 <| aa T80 <| aa T137 <| aa T140 <| aa T142 T144
theorem App (n:Nat)(l:List UInt8):List.take n (Ar l)=Ar (List.take n l):=by simp[Ar,List.map_take]
theorem Zx (m:Nat):List.drop m (Ar Fp)=Ar (List.replicate (64 - m) 0):=by simp only[Fp,Ar,List.map_replicate,List.drop_replicate]
theorem Ah0 (l m:List UInt8):Ar l++Ar m=Ar (l++m):=by simp[Ar]
theorem Aep (l:List UInt8):(C1 l).flatten=Ar l:=by
 induction l with
 |nil=>rfl
 |cons b l ih=>simp only[C1,Ar,List.map_cons,List.flatten_cons,cons_append,nil_append]at ih ⊢;rw[ih]
theorem Apq {s:St}{t k:Nat}{S:List UInt8}{ls:List (List AV)}(ht:s[t]? =some (some (.row 1 ls)))(h3:ls.take S.length=C1 S)(h4:S.length≤ls.length)(hk:k<S.length):srcC s (.ms t 1 k (S.length - k))=some (Ar (S.drop k)):=by
 have e:(ls.drop k).take (S.length - k)=C1 (S.drop k):=by
  rw[← List.drop_take,h3]
  simp only[C1,List.map_drop]
 simp only[srcC,ht,if_true,true_and]
 rw[if_pos (by omega),e,Aep]
theorem Aeq {C:Ctx}{T E es eb t i n k:Nat}{ez:List Value}(hc:C.kind T=some (.slice E es eb ez))(hk:k<n):Bv C T (.ms t es i n) (some (.p (.v (.int .i64 (k:Nat))))) none=some (.ms t es (i+k) (n - k)):=by
 simp only[Bv,hc,Br,Bm,Hk]
 cases k with
 |zero=>
  have h2:(0:Int)≤(n:Int):=by omega
  simp[h2]
 |succ k=>
  have h1:((k+1:Nat):Int)≠0:=by omega
  have h2:(some (((k+1:Nat):Int)):Option Int)≠some 0:=by simp;omega
  have h3:(0:Int)≤((k+1:Nat):Int):=by omega
  have h4:((k+1:Nat):Int)<(n:Int):=by omega
  split
  ·rename_i e _;cases e
  ·rename_i e _;cases e
  ·rename_i e;exact (h2 e).elim
  ·rename_i heq heq2
   simp only[AV.ms.injEq]at heq
   obtain⟨rfl,rfl,rfl,rfl⟩:=heq
   simp only[Option.some.injEq]at heq2
   subst heq2
   simp
   omega
  ·exfalso
   simp_all only[AV.ms.injEq,Option.some.injEq,and_imp,ne_eq,reduceCtorEq,not_false_eq_true,forall_const]
   first|omega|(rename_i h6;exact h6 _ _ _ _ _ rfl rfl rfl rfl rfl)|skip
theorem Apr {σ:St}{l:Nat}{G:Nat→Prop}{L:LogV}(h:Et σ l G L)(hc:L.ctr+1<18446744073709551616):
 Aa Tryz.prog 59 [.mp l 5 0 0] σ fun x σ'=>x=Ad .i64 0∧∃ G' L',Fr σ σ' G G'∧Et σ' l G' L'∧L'.str=L.str∧L'.wait=0∧L'.disk.size=L.disk.size∧L'.ctr≤L.ctr+min L.wait 1∧L'.d=L.d:=by
 have hL:=h
 obtain⟨d,F,w,a,h,hG⟩:=h
 have h0:=h.o
 have l0:=Ac h0
 have hb2:L.disk.size≤65536:=by obtain⟨kn,kk,w',a',es,hd,hF⟩:=h.disk;exact hd.big
 have hst:=h.room
 have hle:=h.le
 by_cases hw:L.wait=0
 ·have w0:((L.wait:Int)==0)=true:=by simp[hw]
  refine Ab Am Ao Tryz.func59 (by kernel_rfl) rfl (nt:=67) (rs:=[.tmp 2]) rfl rfl ?_
  repeat' simp only[↓wBA,tWe,seval,h0,w0]
  all_goals refine rtS ?_
  all_goals simp only[A1.eq_1,Ak.eq_1,Ak.eq_2,Ax.eq_1,tWe,seval]
  all_goals exact⟨G,L,Fr.refl _ _,hL,rfl,hw,rfl,by omega,rfl⟩
 ·have w0:((L.wait:Int)==0)=false:=by simp[hw]
  have w1:IntKind.i64.wrap (L.len:Int)=(L.len:Int):=wrap_i64 (by omega) (by omega)
  have w2:IntKind.i64.wrap ((L.len:Int).tdiv 64)=((L.len / 64:Nat):Int):=by
   have e:(L.len:Int).tdiv 64=((L.len / 64:Nat):Int):=by rw[Int.tdiv_eq_ediv_of_nonneg (by omega)];omega
   rw[e,wrap_i64 (by omega) (by omega)]
  refine Ab Am Ao Tryz.func59 (by kernel_rfl) rfl (nt:=67) (rs:=[.tmp 2]) rfl rfl ?_
  repeat' simp only[↓wBA,tWe,Bl,seval,h0,w0,w1,w2]
  refine As (X:={ q:Nat // q≤1024*64 }) (fun q=>1024*64 - q.1) (fun q=>[(3,Ad .i64 (L.len / 64+q.1:Nat))]) [2,4,5,23,24,25,26,27,28,29,30,31,32,33,34,35,36,37,38,39,40,41,42,43,44,45,46,47,48,49,50,51,52] (fun q s=>∃ F' D',Fr σ s F F'∧Bi s d F' D'∧D'.size=L.disk.size∧Ns D'.now L.ctr L.len∧(∀ k,(A6 D'.now k).length=64)∧D'.wait.length≤q.1∧(∀ k,k<L.str.length→k<L.len∨k / 64<L.len / 64+q.1→(A6 D'.now (2+k / 64))[k % 64]? =L.str[k]?)) (⟨0,by omega⟩) ?_ ?_ ?_ ?_
  ·simp only[wHl,wHf,Nat.add_zero]
  ·exact⟨F,L.disk,Fr.refl _ _,h.disk,rfl,h.heads,h.secs,by rw[h.dry];exact Nat.le_refl _,fun k hk hkl=>h.on k (by have hkl:k<L.len∨k / 64<L.len / 64+0:=hkl;omega)⟩
  ·rintro _ _ ⟨F',D',hf,_⟩;exact hf.len
  ·intro x J s hI
   simp only[wHl]
   obtain⟨q,hq⟩:=x
   obtain⟨F1,D1,hf1,hd1,hz,hh,hsec,hwl,hon⟩:=hI
   dsimp only at*
   have k0:=hf1.get h0 h.nl
   have q0:=Ac k0
   generalize hA:L.len / 64+q=A
   have w3:IntKind.i64.wrap ((A:Int)*64)=((A*64:Nat):Int):=by rw[wrap_i64 (by omega) (by omega)];simp
   by_cases hlt:A*64<L.str.length
   ·have hdec:decide (((A*64:Nat):Int)<(L.str.length:Int))=true:=by simp only[decide_eq_true_eq];omega
    rcases h.str with⟨_,_,hS⟩|⟨t,ls,rfl,rfl,h2,h3,h4⟩
    ·rw[hS]at hlt;simp at hlt
    ·have i2:=hf1.get h2 (h.nw t rfl)
     have q2:=Ac i2
     have hsr:∀ τ,srcC (s++τ) (.ms t 1 (A*64) (L.str.length - A*64))=some (Ar (L.str.drop (A*64))):=fun τ=>Apq (by rw[getElem?_append_left q2];exact i2) h3 h4 hlt
     have hsl:=Aeq (C:=cx) (t:=t) (i:=0) En hlt
     simp only[Nat.zero_add]at hsl
     have n0:(l=s.length)=False:=nf (by omega)
     have n1:(s.length=l)=False:=nf (by omega)
     have w4:IntKind.i64.wrap ((A:Int)+2)=((A+2:Nat):Int):=by rw[wrap_i64 (by omega) (by omega)];simp
     have w5:=wI A (by omega)
     obtain⟨y,hy⟩:∃ y,List.take 64 (L.str.drop (A*64))=y:=⟨_,rfl⟩
     have hyl:y.length≤64:=by rw[← hy];simp;omega
     have hE:(if y.length=64 then Ar y else Ar y++List.drop y.length (Ar Fp))=Ar (y++List.replicate (64 - y.length) 0):=by
      split
      ·rename_i e;rw[e];simp
      ·rw[Zx,Ah0]
     have hEl:(y++List.replicate (64 - y.length) (0:UInt8)).length=64:=by simp;omega
     repeat' first|simp only[↓wBA,tWe,seval,Abv,Xd,wH,wHl,k0,q0,w3,w4,hdec,Bm,hsl,Zu,Qx,hsr,App,Gb,hy,hE,hEl,Ey]|(with_reducible first|refine dQ Abv 9 (some 33) ?_|refine dQ Xd 9 (some 42) ?_)
     have nl1:¬ F1 l:=fun hF=>(hf1.own _ hF).elim h.nl (fun hl=>by omega)
     refine (Zv (hd1.app _) (A+2) (by omega) _ hEl (by omega)).mono ?_
     rintro _ s2 ⟨rfl,F2,hf2,hd2⟩
     have j0:=hf2.get (t:=l) (by rw[getElem?_append_left q0];exact k0) nl1
     have p0:=Ac j0
     repeat' simp only[↓wBA,tWe,seval,wHl,w5]
     refine⟨⟨q+1,by omega⟩,by show 1024*64 - (q+1)<1024*64 - q;omega,⟨F2,_,(hf1.app _).trans hf2,hd2,hz,hh.keep (by omega) _,fun k=> ?_,by simp;omega,fun k hk hkl=> ?_⟩,?_⟩
     ·rw[Dg]
      split
      ·exact hEl
      ·exact hsec k
     ·show (A6 (Dt D1.now (A+2) (y++List.replicate (64 - y.length) 0)) (2+k / 64))[k % 64]? =L.str[k]?
      rw[Dg]
      by_cases e:k / 64=A
      ·rw[if_pos (by omega)]
       have hyk:y[k % 64]? =L.str[k]? :=by rw[← hy,List.getElem?_take,if_pos (by omega),List.getElem?_drop];congr 1;omega
       have hyl2:k % 64<y.length:=by rw[← hy];simp;omega
       rw[getElem?_append_left hyl2,hyk]
      ·rw[if_neg (by omega)]
       exact hon k hk (by simp only at hkl;omega)
     ·have e':((L.len / 64+(q+1):Nat):Int)=((A+1:Nat):Int):=by rw[← hA,Nat.add_assoc]
      simp only[e']
   ·have hdec:decide (((A*64:Nat):Int)<(L.str.length:Int))=false:=by simp only[decide_eq_false_iff_not];omega
    have hfin:∀ (s2:St) (F2:Nat→Prop),Fr s s2 F1 F2→Bi s2 d F2 { D1 with wait:=[],kept:=A6 D1.now }→Aa Tryz.prog 105 [.mp l 5 0 0,Ad .i64 (L.str.length:Nat)] s2 fun x σ'=>x=Ad .i64 0∧∃ G' L',Fr σ σ' G G'∧Et σ' l G' L'∧L'.str=L.str∧L'.wait=0∧L'.disk.size=L.disk.size∧L'.ctr≤L.ctr+1∧L'.d=L.d:=fun s2 F2 hf2 hd2=>by
     have f12:=hf1.trans hf2
     have hst':Zw s2 a w L.str:=h.str.same fun t ht=>by
      rcases h.str with⟨_,e,_⟩|⟨t',ls,_,e,h2,_⟩
      ·rw[e]at ht;cases ht
      ·rw[e]at ht;simp only[Option.some.injEq]at ht;subst ht
       rw[f12.get h2 (h.nw t' e),h2]
     have hwl:∀ t,w=some t→t<σ.length:=fun t ht=>by
      rcases h.str with⟨_,e,_⟩|⟨t',ls,_,e,h2,_⟩
      ·rw[e]at ht;cases ht
      ·rw[e]at ht;simp only[Option.some.injEq]at ht;subst ht;exact Ac h2
     have hl2:Et s2 l (fun t=>t=l∨F2 t∨w=some t) { L with disk:={ D1 with wait:=[],kept:=A6 D1.now } }:=
      ⟨d,F2,w,a,⟨f12.get h0 h.nl,hd2,hst',fun hF=>(f12.own l hF).elim h.nl (fun hl=>by omega),fun t ht hF=>(f12.own t hF).elim (h.nw t ht) (fun hl=>by have:=hwl t ht;omega),by show 3≤D1.size;rw[hz];exact h.big,by show L.str.length≤(D1.size - 2)*64;rw[hz];exact hst,h.le,hh,hsec,rfl,h.id,fun k hk=>hon k (by have:=h.le;have hk:k<L.len:=hk;omega) (.inl hk),h.dr⟩,fun t=>Iff.rfl⟩
     refine (Ave hl2 L.str.length (Nat.le_refl _) hc fun k hk=>hon k hk (.inr (by omega))).mono ?_
     rintro x σ' ⟨rfl,G',hf3,hl3⟩
     have f4:Fr σ s2 G fun t=>t=l∨F2 t∨w=some t:=⟨f12.len,fun t ht hn=>f12.keep t ht fun hF=>hn ((hG t).2 (.inr (.inl hF))),fun t ht=>by
      rcases ht with rfl|ht|ht
      ·exact .inl ((hG _).2 (.inl rfl))
      ·exact (f12.own t ht).imp (fun hF=>(hG t).2 (.inr (.inl hF))) id
      ·exact .inl ((hG t).2 (.inr (.inr ht)))⟩
     exact⟨rfl,G',_,f4.trans hf3,hl3,by simp,rfl,hz,by simp,rfl⟩
    rcases h.str with⟨rfl,rfl,hS⟩|⟨t,ls,rfl,rfl,h2,h3,h4⟩
    ·have hfin':=hfin
     simp only[hS,List.length_nil,cz]at hdec hfin'
     repeat' simp only[↓wBA,tWe,seval,wHl,k0,w3,hdec]
     refine (Ahu hd1 (by omega)).mono ?_
     rintro _ s2 ⟨rfl,F2,hf2,hd2⟩
     have j0:=hf2.get k0 (fun hF=>(hf1.own _ hF).elim h.nl (fun hl=>by omega))
     repeat' simp only[↓wBA,tWe,seval,wHl,j0]
     refine (hfin' s2 F2 hf2 hd2).mono ?_
     rintro _ s3 ⟨rfl,G',L',g1,g2,g3,g4,g5,g6,g7⟩
     repeat' simp only[↓wBA,tWe,seval,wHl]
     all_goals refine Sc ?_ g1.len
     all_goals simp only[A1.eq_1,Ak.eq_1,Ak.eq_2,Ax.eq_1,List.getD_cons_zero,List.getD_cons_succ]
     all_goals exact⟨trivial,G',L',g1,g2,by rw[hS];exact g3,g4,g5,by omega,g7⟩
    ·skip
     repeat' simp only[↓wBA,tWe,seval,wHl,k0,w3,hdec]
     refine (Ahu hd1 (by omega)).mono ?_
     rintro _ s2 ⟨rfl,F2,hf2,hd2⟩
     have j0:=hf2.get k0 (fun hF=>(hf1.own _ hF).elim h.nl (fun hl=>by omega))
     repeat' simp only[↓wBA,tWe,seval,wHl,j0]
     refine (hfin s2 F2 hf2 hd2).mono ?_
     rintro _ s3 ⟨rfl,G',L',g1,g2,g3,g4,g5,g6,g7⟩
     repeat' simp only[↓wBA,tWe,seval,wHl]
     all_goals refine Sc ?_ g1.len
     all_goals simp only[A1.eq_1,Ak.eq_1,Ak.eq_2,Ax.eq_1,List.getD_cons_zero,List.getD_cons_succ]
     all_goals exact⟨trivial,G',L',g1,g2,g3,g4,g5,by omega,g7⟩
def B0:AV→Option Nat
 | .own t _ _=>some t
 |_=>none
def It (q:St)(av:AV)(E:TypeId)(e:Nat)(ls:List (List PV)):Prop:=(av= .p (.v (.slice none 0 0))∧ls=[])∨∃ t,av= .own t e ls∧ls≠[]∧q[t]? =some (some (.right E (ls.length*e)))
theorem It.same {q q':St}{av:AV}{E:TypeId}{e:Nat}{ls:List (List PV)}(h:It q av E e ls)(hs:∀ t,B0 av=some t→q'[t]? =q[t]?):It q' av E e ls:=by
 rcases h with h|⟨t,rfl,h1,h2⟩
 ·exact .inl h
 ·exact .inr ⟨t,rfl,h1,by rw[hs t rfl];exact h2⟩
theorem It.lt {q:St}{av:AV}{E:TypeId}{e:Nat}{ls:List (List PV)}(h:It q av E e ls){t:Nat}(ht:B0 av=some t):t<q.length:=by
 rcases h with⟨rfl,_⟩|⟨t',rfl,h1,h2⟩
 ·cases ht
 ·simp only[B0,Option.some.injEq]at ht;subst ht;exact Ac h2
theorem E7 {q:St}{av y:AV}{E T:TypeId}{e eb:Nat}{ez:List Value}{ls m:List (List PV)}(hk:cx.kind T=some (.slice E e eb ez))(h:It q av E e ls)(hy:Lu q e y=some m)(hm:m≠[])(hb:(ls.length+m.length)*eb≤140737488355328)(hb2:ls.length+m.length≤1000000):
 ∃ av' q',A5 cx q.length T av y q=some (av',q')∧It q' av' E e (ls++m)∧q.length≤q'.length∧(∀ t,t<q.length→B0 av≠some t→q'[t]? =q[t]?)∧∀ t,B0 av'=some t→B0 av=some t∨q.length≤t:=by
 have c2:ls.length+m.length≤maxLen:=by unfold maxLen;omega
 rcases h with⟨rfl,rfl⟩|⟨t,rfl,hl,ht⟩
 ·cases m with
  |nil=>exact absurd rfl hm
  |cons c r=>
   refine⟨.own q.length e (c::r),q++[some (.right E ((c::r).length*e))],?_,.inr ⟨q.length,rfl,by simp,by simp⟩,by simp,fun t ht _=>getElem?_append_left ht,fun t ht=>.inr ?_⟩
   ·unfold A5
    rw[hk]
    simp only[hy]
    rw[if_pos ⟨by simpa using hb,by simpa using c2⟩]
    simp only[Jd rfl]
   ·simp only[B0,Option.some.injEq]at ht;omega
 ·have htl:=Ac ht
  refine⟨.own t e (ls++m),q.set t (some (.right E ((ls++m).length*e))),?_,.inr ⟨t,rfl,by simp[hl],by simp[htl]⟩,by simp,fun t' _ hn=>List.getElem?_set_ne fun e=>hn (by subst e;rfl),fun t' ht=>.inl ht⟩
  unfold A5
  rw[hk]
  simp only[hy]
  rw[if_pos ⟨trivial,hb,c2⟩,ht]
  simp
theorem Ap.of_keep {σ s:St}(hl:σ.length≤s.length)(h:∀ t,t<σ.length→s[t]? =σ[t]?):Ap σ s:=by
 refine⟨s.drop σ.length,?_⟩
 apply List.ext_getElem?
 intro t
 by_cases ht:t<σ.length
 ·rw[getElem?_append_left ht,h t ht]
 ·rw[List.getElem?_append_right (by omega),List.getElem?_drop]
  congr 1;omega
theorem Ap.of_fr {σ s:St}{F F':Nat→Prop}(h:Fr σ s F F')(hF:∀ t,F t→σ.length≤t):Ap σ s:=Ap.of_keep h.len fun t ht=>h.keep t ht fun e=>by have:=hF t e;omega
def recB (r:List UInt8):List UInt8:=leB r.length 4++r
def Ah1 (rs:List (List UInt8)):List UInt8:=rs.flatMap recB
theorem Ah2 (a b:List (List UInt8)):Ah1 (a++b)=Ah1 a++Ah1 b:=List.flatMap_append ..
theorem c4:((4:Nat):Int)=4:=rfl
end Go.Proofs.YtpoigihfeehehaaGreatDoor
