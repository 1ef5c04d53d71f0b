/- Logs: bytes of numbers, heads, what a log is in a state. Logs: numbers as bytes. Logs: room, append. Logs: append. Logs: the head is written. Logs: what waits is written; a log is emptied. Lists of one's own. Logs: the records of bytes. -/
import Derived.Test.YtpoigihfeehehaaGreatDoorM21
set_option linter.all false
set_option maxRecDepth 100000
set_option maxHeartbeats 32000000
namespace Go.Proofs.YtpoigihfeehehaaGreatDoor
open Go.RowKit
def leB (n:Nat):Nat→List UInt8
 |0=>[]
 |k+1=>leB n k++[UInt8.ofNat (n / 256 ^ k % 256)]
theorem B0 (n:Nat):∀ k,(leB n k).length=k
 |0=>rfl
 |k+1=>by simp[leB,B0 n k]
def Ja:List UInt8→Nat
 |[]=>0
 |b::l=>b.toNat+256*Ja l
theorem Ub (c:UInt8):∀ l:List UInt8,Ja (l++[c])=Ja l+c.toNat*256 ^ l.length
 |[]=>by simp[Ja]
 |b::l=>by
  simp only[ZN,Ja,Ub c l,QF,Nat.pow_succ]
  rw[Nat.mul_add,ZY]
  congr 2
  rw[Nat.mul_left_comm,XL 256]
theorem Ah8:∀ l:List UInt8,Ja l<256 ^ l.length
 |[]=>by simp[Ja]
 |b::l=>by
  have h1:=Ah8 l
  have h2:=b.toNat_lt
  simp only[Ja,QF,Nat.pow_succ]
  omega
theorem Ko (n:Nat):∀ k,Ja (leB n k)=n % 256 ^ k
 |0=>by simp[leB,Ja,Nat.mod_one]
 |k+1=>by
  have hb:(UInt8.ofNat (n / 256 ^ k % 256)).toNat=n / 256 ^ k % 256:=by
   rw[YQ];exact YL (WW _ (by omega))
  rw[leB,Ub,Ko n k,B0,hb,Nat.pow_succ,Nat.mod_mul,XL (256 ^ k)]
theorem Uc {l:List UInt8}{i:Nat}(h:i<l.length):Ja (l.take (i+1))=Ja (l.take i)+l[i].toNat*256 ^ i:=by
 rw[YC h,Ub,QZ,YO (by omega)]
theorem Ah9 (w x y:Nat):(BitVec.ofInt w (x:Int) ||| BitVec.ofInt w (y:Int)).toNat=(x % 2 ^ w) ||| (y % 2 ^ w):=by
 rw[BitVec.toNat_or,WA,WA,WK,WK]
theorem Aoj {l:List UInt8}{i:Nat}(h:i<l.length)(hi:i<8):IntKind.u64.wrap ((BitVec.ofInt IntKind.u64.bits (Ja (l.take i):Nat) ||| BitVec.ofInt IntKind.u64.bits (IntKind.u64.wrap ((l[i].toNat:Int)*2 ^ (8*i)))).toNat)=((Ja (l.take (i+1)):Nat):Int):=by
 have h1:=Ah8 (l.take i)
 rw[QZ,YO (by omega)]at h1
 have h2:=l[i].toNat_lt
 have hp:(256:Nat) ^ i=2 ^ (8*i):=by rw[show (256:Nat)=2 ^ 8 from rfl,←Nat.pow_mul]
 have h3:2 ^ (8*i)*256≤18446744073709551616:=by
  have:2 ^ (8*i)*256=2 ^ (8*i+8):=by rw[Nat.pow_add]
  rw[this]
  have:2 ^ (8*i+8)≤2 ^ 64:=Nat.pow_le_pow_right (by omega) (by omega)
  exact this
 rw[Uc h,hp]
 rw[hp]at h1
 generalize l[i].toNat=b at*
 generalize Ja (l.take i)=x at*
 generalize hq:2 ^ (8*i)=q at*
 have hbq:b*q<18446744073709551616:=ZE (Nat.mul_lt_mul_of_pos_right h2 (by omega)) (by rw[XL];exact h3)
 have e1:IntKind.u64.wrap ((b:Int)*2 ^ (8*i))=((b*q:Nat):Int):=by
  have:(2:Int) ^ (8*i)=((q:Nat):Int):=by rw[← hq];simp
  rw[this,←Int.natCast_mul]
  exact IntKind.wrap_u64 _▸(by omega)
 rw[e1]
 rw[Ah9,show 2 ^ IntKind.u64.bits=18446744073709551616 from rfl,YL (by omega),YL (by omega)]
 have e3:x ||| b*q=x+b*q:=by
  have:=Nat.two_pow_add_eq_or_of_lt (i:=8*i) (b:=x) (by rw[hq];exact h1) b
  rw[hq]at this
  rw[Nat.or_comm,XL b q,←this];omega
 rw[e3]
 have:x+b*q<18446744073709551616:=by
  have h4:b*q≤255*q:=ZL _ (by omega)
  omega
 exact IntKind.wrap_u64 _▸(by omega)
theorem G0 (n i:Nat)(hn:n<18446744073709551616)(hi:i<8):IntKind.u8.wrap ((n:Int).fdiv (2 ^ (8*i)))=((UInt8.ofNat (n / 256 ^ i % 256)).toNat:Int):=by
 have hp:(256:Nat) ^ i=2 ^ (8*i):=by rw[show (256:Nat)=2 ^ 8 from rfl,←Nat.pow_mul]
 have e1:(n:Int).fdiv (2 ^ (8*i))=((n / 256 ^ i:Nat):Int):=by
  rw[hp,Int.natCast_ediv]
  have:((2 ^ (8*i):Nat):Int)=(2:Int) ^ (8*i):=by simp
  rw[this,XP]
  exact Int.pow_nonneg (by omega)
 rw[e1,YQ,Nat.mod_mod]
 rw[IntKind.wrap_u8];omega
def Ga (s:List UInt8):Nat×Nat:=(Ja (s.take 8),Ja ((s.drop 8).take 4))
def Gb (c n:Nat):List UInt8:=leB c 8++leB n 4++List.replicate 52 0
theorem Pw (c n:Nat):(Gb c n).length=64:=by simp[Gb,B0]
theorem Apx {c n:Nat}(hc:c<18446744073709551616)(hn:n<4294967296):Ga (Gb c n)=(c,n):=by
 unfold Ga Gb
 rw[QX,WZ (B0 c 8),List.drop_left' (B0 c 8),WZ (B0 n 4),Ko,Ko]
 simp only[QJ]
 exact⟨YL hc,YL hn⟩
def Ae1 (m:List (Nat×List UInt8)):Nat×Nat:=
 let h0:=Ga (A3 m 0)
 let h1:=Ga (A3 m 1)
 let a:=if 0<h0.1 then h0 else (0,0)
 if a.1<h1.1 then h1 else a
structure Nu (m:List (Nat×List UInt8))(c n:Nat):Prop where
 says:Ae1 m=(c,n)
 le0:(Ga (A3 m 0)).1≤c
 le1:(Ga (A3 m 1)).1≤c
theorem Dd (m:List (Nat×List UInt8))(k i:Nat)(s:List UInt8):A3 (Dq m k s) i=if i=k then s else A3 m i:=by
 unfold A3
 rw[I9]
 split<;>rfl
theorem Nu.keep {m:List (Nat×List UInt8)}{c n:Nat}(h:Nu m c n){k:Nat}(hk:2≤k)(s:List UInt8):Nu (Dq m k s) c n:=by
 have e0:A3 (Dq m k s) 0=A3 m 0:=by rw[Dd,if_neg (by omega)]
 have e1:A3 (Dq m k s) 1=A3 m 1:=by rw[Dd,if_neg (by omega)]
 exact⟨by unfold Ae1;rw[e0,e1];exact h.says,by rw[e0];exact h.le0,by rw[e1];exact h.le1⟩
theorem Nu.sealed {m:List (Nat×List UInt8)}{c n:Nat}(h:Nu m c n)(n':Nat)(hc:c+1<18446744073709551616)(hn:n'<4294967296):Nu (Dq m ((c+1) % 2) (Gb (c+1) n')) (c+1) n':=by
 have hb:=Apx hc hn
 rcases Nat.mod_two_eq_zero_or_one (c+1)with e|e
 ·rw[e]
  have e0:A3 (Dq m 0 (Gb (c+1) n')) 0=Gb (c+1) n':=by rw[Dd,if_pos rfl]
  have e1:A3 (Dq m 0 (Gb (c+1) n')) 1=A3 m 1:=by rw[Dd,if_neg (by omega)]
  have:=h.le1
  refine⟨?_,by rw[e0,hb];exact QH _,by rw[e1];omega⟩
  have g:¬ (c+1<(Ga (A3 m 1)).1):=by omega
  simp[Ae1,e0,e1,hb,g]
 ·rw[e]
  have e0:A3 (Dq m 1 (Gb (c+1) n')) 1=Gb (c+1) n':=by rw[Dd,if_pos rfl]
  have e1:A3 (Dq m 1 (Gb (c+1) n')) 0=A3 m 0:=by rw[Dd,if_neg (by omega)]
  have:=h.le0
  refine⟨?_,by rw[e1];omega,by rw[e0,hb];exact QH _⟩
  have g:(if 0<(Ga (A3 m 0)).1 then Ga (A3 m 0)else (0,0)).1<c+1:=by
   split
   ·omega
   ·exact Nat.zero_lt_succ _
  simp only[Ae1,e0,e1,hb,if_pos g]
theorem Aia:Nu [] 0 0:=by
 have:Ga (A3 [] 0)=(0,0):=by decide
 have h1:Ga (A3 [] 1)=(0,0):=by decide
 exact⟨by unfold Ae1;rw[this,h1];rfl,by rw[this];exact QH _,by rw[h1];exact QH _⟩
def Cy (l:List UInt8):List (List AV):=l.map fun b=>[.p (Bo b)]
theorem Aib (l:List UInt8):(Cy l).length=l.length:=by simp[Cy]
def Z5 (σ:St)(a:AV)(w:Option Nat)(S:List UInt8):Prop:=
 (a= .p (.v (.slice none 0 0))∧w=none∧S=[])∨∃ t ls,a= .ms t 1 0 S.length∧w=some t∧σ[t]? =some (some (.row 1 ls))∧ls.take S.length=Cy S∧S.length≤ls.length
structure LogV where
 d:Nat
 disk:F9
 ctr:Nat
 len:Nat
 str:List UInt8
 wait:Nat
structure Avf (σ:St)(l d:Nat)(F:Nat→Prop)(w:Option Nat)(a:AV)(L:LogV):Prop where
 o:σ[l]? =some (some (.row 5 [[.mp d 6 0 0,.p (.v (.int .u64 (L.ctr:Nat))),.p (.v (.int .u64 (L.len:Nat))),a,Ad .i64 (L.wait:Nat)]]))
 disk:Bf σ d F L.disk
 str:Z5 σ a w L.str
 nl:¬ F l
 nw:∀ t,w=some t→¬ F t
 big:3≤L.disk.size
 room:L.str.length≤(L.disk.size - 2)*64
 le:L.len≤L.str.length
 heads:Nu L.disk.now L.ctr L.len
 secs:∀ k,(A3 L.disk.now k).length=64
 dry:L.disk.wait=[]
 id:L.d=d
 on:∀ k,k<L.len→(A3 L.disk.now (2+k / 64))[k % 64]? =L.str[k]?
 dr:L.wait=0→L.len=L.str.length
def Er (σ:St)(l:Nat)(G:Nat→Prop)(L:LogV):Prop:=∃ d F w a,Avf σ l d F w a L∧∀ t,G t↔(t=l∨F t∨w=some t)
theorem Er.lt {σ:St}{l:Nat}{G:Nat→Prop}{L:LogV}(h:Er σ l G L):∀ t,G t→t<σ.length:=by
 obtain⟨d,F,w,a,h,hG⟩:=h
 intro t ht
 rcases (hG t).1 ht with rfl|hF|hw
 ·exact Ac h.o
 ·exact h.disk.lt t hF
 ·rcases h.str with⟨_,h1,_⟩|⟨t',ls,_,h1,h2,_⟩
  ·rw[h1]at hw;cases hw
  ·rw[h1]at hw;simp only[QB]at hw;subst hw;exact Ac h2
theorem Z5.same {σ σ':St}{a:AV}{w:Option Nat}{S:List UInt8}(h:Z5 σ a w S)(hs:∀ t,w=some t→σ'[t]? =σ[t]?):Z5 σ' a w S:=by
 rcases h with h|⟨t,ls,h1,h2,h3,h4⟩
 ·exact .inl h
 ·exact .inr ⟨t,ls,h1,h2,by rw[hs t h2];exact h3,h4⟩
theorem Er.same {σ σ':St}{l:Nat}{G:Nat→Prop}{L:LogV}(h:Er σ l G L)(hs:∀ t,G t→σ'[t]? =σ[t]?):Er σ' l G L:=by
 obtain⟨d,F,w,a,h,hG⟩:=h
 exact⟨d,F,w,a,⟨by rw[hs l ((hG l).2 (.inl rfl))];exact h.o,h.disk.same fun t ht=>hs t ((hG t).2 (.inr (.inl ht))),h.str.same fun t ht=>hs t ((hG t).2 (.inr (.inr ht))),h.nl,h.nw,h.big,h.room,h.le,h.heads,h.secs,h.dry,h.id,h.on,h.dr⟩,hG⟩
theorem Er.frame {σ σ':St}{l:Nat}{G K K':Nat→Prop}{L:LogV}(h:Er σ l G L)(hf:Fr σ σ' K K')(hd:∀ t,G t→K t→False):Er σ' l G L:=
 h.same fun t ht=>hf.keep t (h.lt t ht) fun hg=>hd t ht hg
theorem Er.app {σ:St}{l:Nat}{G:Nat→Prop}{L:LogV}(h:Er σ l G L)(τ:St):Er (σ++τ) l G L:=h.same fun t ht=>QD (h.lt t ht)
theorem Er.mk' {σ σ':St}{l d:Nat}{F K K':Nat→Prop}{w w':Option Nat}{a a':AV}{L L':LogV}(h:Avf σ l d F w a L)(hf:Fr σ σ' K K')(hK:∀ t,F t→K t→False)(hd:L'.disk=L.disk)
 (ho:σ'[l]? =some (some (.row 5 [[.mp d 6 0 0,.p (.v (.int .u64 (L'.ctr:Nat))),.p (.v (.int .u64 (L'.len:Nat))),a',Ad .i64 (L'.wait:Nat)]]))) (hs:Z5 σ' a' w' L'.str) (hn:∀ t,w'=some t→σ.length≤t∨w=some t)
 (hr:L'.str.length≤(L.disk.size - 2)*64) (hle:L'.len≤L'.str.length) (hh:L'.ctr=L.ctr∧L'.len=L.len) (hp:∀ k,k<L.len→L'.str[k]? =L.str[k]?) (hq:L'.wait=0→L'.len=L'.str.length) (hi:L'.d=L.d:=by rfl):Er σ' l (fun t=>t=l∨F t∨w'=some t) L':=
 ⟨d,F,w',a',⟨ho,by rw[hd];exact h.disk.frame hf hK,hs,h.nl,fun t ht hF=>(hn t ht).elim (fun hl=>ZJ _ (ZE (h.disk.lt t hF) hl)) (fun e=>h.nw t e hF),by rw[hd];exact h.big,by rw[hd];exact hr,hle,by rw[hd,hh.1,hh.2];exact h.heads,by rw[hd];exact h.secs,by rw[hd];exact h.dry,hi.trans h.id,fun k hk=>by rw[hh.2]at hk;rw[hd,hp k hk];exact h.on k hk,hq⟩,fun t=>Iff.rfl⟩
def tWa:=aa wX <| aa wbu <| aa T3 <| aa T5 <| aa T70 T140
theorem Apy {σ:St}{t e o:Nat}{c:List AV}(l:List UInt8)(ht:σ[t]? =some (some (.row e [c])))(hl:l.length≤8)(hc:∀ i,(h:i<l.length)→c[o+i]? =some (.p (Bo l[i]))):
 Aa Tryz.prog 61 [.bs t e 0 o l.length] σ fun r σ'=>σ'=σ∧r= .p (.v (.int .u64 (Ja l:Nat))):=by
 refine Ab Am An Tryz.func61 (by kernel_rfl) rfl (nt:=21) (rs:=[.tmp 2]) rfl rfl ?_
 repeat' simp only[↓wBA,tWa,seval]
 refine Ar (X:={ i:Nat // i≤l.length }) (fun i=>l.length - i.1) (fun i=>[(3,.p (.v (.int .u64 (Ja (l.take i.1):Nat)))),(7,Ad .i64 (i.1:Nat))]) [4,8,9,10,11,12,13,14,15,16,17,18,19,20] (fun i s=>s=σ) (⟨0,by omega⟩) ?_ ?_ ?_ ?_
 ·simp only[wHl,wHf,XH,Ja]
 ·rfl
 ·rintro _ _ rfl;exact QH _
 ·intro x J s hI
  simp only[wHl]
  obtain⟨i,hi⟩:=x
  subst hI
  dsimp only
  by_cases hlt:i<l.length
  ·have hdec:=dT (i:=i) (n:=l.length) (by omega)
   have hi0:=nnI i
   have hw1:=wI i (by omega)
   have hg:=hc i hlt
   have hor:=Aoj hlt (by omega)
   have hbd:((i:Int)<(l.length:Int))=True:=eq_true (by omega)
   have hm:IntKind.i64.wrap (8*(i:Int))=((8*i:Nat):Int):=by rw[wrap_i64 (by omega) (by omega)];simp
   have hu:IntKind.u64.wrap ((l[i]).toNat:Int)=((l[i]).toNat:Int):=by have:=(l[i]).toNat_lt;exact IntKind.wrap_u64 _▸(by omega)
   have hmn:min (8*i) IntKind.u64.bits=8*i:=YO (by show 8*i≤64;omega)
   have hng:(((8*i:Nat):Int)<0)=False:=eq_false (by omega)
   repeat' simp only[↓wBA,tWa,Cv,seval,wHl,ht,hi0,hg,hbd,hw1,hm,hu,hmn,hng,hor,Bo]
   all_goals exact⟨⟨i+1,by omega⟩,by show l.length - (i+1)<l.length - i;omega,rfl⟩
  ·have hdec:=dF (i:=i) (n:=l.length) (by omega)
   have he:i=l.length:=by omega
   subst he
   repeat' simp only[↓wBA,tWa,seval,wHl,hdec]
   all_goals refine rtS ?_
   all_goals simp only[wRe,tWa,seval,ZS]
def wA (n:Nat):Nat→Nat→AV
 |0,_=>.p (.v (.slice none 0 0))
 |i+1,t=>.own t 1 (Ax (leB n (i+1)))
theorem B6 (l:List UInt8):(Ax l).length=l.length:=by simp[Ax]
theorem Ab1 (n i:Nat):Ax (leB n i)++[[.v (.int .u8 ((UInt8.ofNat (n / 256 ^ i % 256)).toNat:Int))]]=Ax (leB n (i+1)):=by simp[Ax,leB,Bo]
def bT:Nat→St
 |0=>[]
 |k+1=>some (.right 5 1)::some (.right 5 (k+1))::List.replicate k (some (.right 5 1))
theorem Avg (k:Nat):(bT (k+1)).length=k+2:=by simp[bT]
theorem bT_8:(bT 8).length=9:=rfl
theorem bT_4:(bT 4).length=5:=rfl
theorem Avh:(bT 8)[1]? =some (some (.right 5 8)):=rfl
theorem Avi:(bT 4)[1]? =some (some (.right 5 4)):=rfl
theorem wBt:(type_of% @bT_8)∧(type_of% @bT_4)∧(type_of% @Avh)∧(type_of% @Avi):=⟨@bT_8,@bT_4,@Avh,@Avi⟩
theorem Aok (n k:Nat)(hn:n<18446744073709551616)(hk:0<k)(hk8:k≤8)(σ:St):
 Aa Tryz.prog 103 [.p (.v (.int .u64 (n:Nat))),Ad .i64 (k:Nat)] σ fun r σ'=>σ'=σ++bT k∧r= .own (σ.length+1) 1 (Ax (leB n k)):=by
 refine Ab Am An Tryz.func103 (by kernel_rfl) rfl (nt:=19) (rs:=[.tmp 4]) rfl rfl ?_
 repeat' simp only[↓wBA,tWa,seval]
 refine Ar (X:={ q:Nat // q≤k }) (fun q=>k - q.1) (fun q=>[(5,wA n q.1 (σ.length+1)),(8,Ad .i64 (q.1:Nat))]) [6,9,10,11,12,13,14,15,16,17,18,19] (fun q s=>s=σ++bT q.1) (⟨0,by simp⟩) ?_ ?_ ?_ ?_
 ·simp only[wHl,wHf,wA]
 ·simp[bT]
 ·rintro _ _ rfl;simp
 ·intro x J s hI
  simp only[wHl]
  obtain⟨i,hi⟩:=x
  subst hI
  dsimp only at*
  by_cases hlt:i<k
  ·have hdec:=dT (i:=i) (n:=k) (by omega)
   have hi0:=nnI i
   have hw1:=wI i (by omega)
   have hm:IntKind.i64.wrap (8*(i:Int))=((8*i:Nat):Int):=by rw[wrap_i64 (by omega) (by omega)];simp
   have hmn:min (8*i) IntKind.u64.bits=8*i:=YO (by show 8*i≤64;omega)
   have hng:(((8*i:Nat):Int)<0)=False:=eq_false (by omega)
   have hby:=G0 n i hn (by omega)
   have l1:=lM (n:=1) (by omega)
   have l2:=lM (n:=i+1) (by omega)
   have l3:=tL (n:=i+1) (by omega)
   cases i with
   |zero=>
    have d0:=dT (i:=0) (n:=k) (by omega)
    have b0:IntKind.u8.wrap ((n:Int).fdiv (2 ^ min (Int.toNat 0) IntKind.u64.bits))=((UInt8.ofNat (n / 256 ^ 0 % 256)).toNat:Int):=by have:=hby;simpa using this
    have w1:IntKind.i64.wrap (0+1)=1:=by decide
    have w2:IntKind.i64.wrap 1=1:=by decide
    have e0:σ++bT 0=σ:=ZT σ
    repeat' first|((with_reducible apply cs)<;>intro h<;>try simp only[h])|simp only[↓wBA,tWa,Cv,seval,wH,wHl,wA,e0,w2,wz0,hmn,A2,Ey,l1,l3]
    all_goals first
     |(exfalso;simp at h;omega)
     |(have b1:Ax (leB n 1)=[[.v (.int .u8 (IntKind.u8.wrap ((n:Int).fdiv 1)))]]:=by rw[← Ab1];simp only[leB,Ax,ZB,ZQ];rw[← b0];simp
       refine⟨⟨1,by omega⟩,by show k - 1<k - 0;omega,by simp[bT],?_⟩
       simp only[b1];rfl)
   |succ i=>
    have ei:(σ++bT (i+1))[σ.length+1]? =some (some (.right 5 (i+1))):=by simp[bT]
    have el:(σ.length+1<(σ++bT (i+1)).length)=True:=eq_true (by simp[bT])
    have es:(σ++bT (i+1)).set (σ.length+1) (some (.right 5 (i+2)))++[some (.right 5 1)]=σ++bT (i+1+1):=by
     rw[List.set_append_right _ _ (by omega)]
     simp only[bT,Nat.add_sub_cancel_left,YF,XO,QX,ZN,List.replicate_succ']
    have q:(1<i+2)=True:=eq_true (by omega)
    repeat' simp only[↓wBA,tWa,Cv,seval,wH,wHl,wA,B6,B0,hdec,hw1,hm,hmn,hng,hby,A2,Ey,l2,l3,ei,Avg,q,XK]
    all_goals
     rw[Ab1]
     exact⟨⟨i+1+1,by omega⟩,by show k - (i+1+1)<k - (i+1);omega,es,rfl⟩
  ·have hdec:=dF (i:=i) (n:=k) (by omega)
   have he:i=k:=by omega
   subst he
   obtain⟨j,rfl⟩:∃ j,i=j+1:=⟨i - 1,by omega⟩
   repeat' simp only[↓wBA,tWa,seval,wH,wHl,hdec,wA]
   all_goals refine rtS ?_
   all_goals simp only[wRe,tWa,seval]
def tWb:=aa wX <| aa wbu <| aa T3 <| aa T32 <| aa T70 <| aa T80 <| aa T140 T144
theorem Avj {σ:St}{l:Nat}{G:Nat→Prop}{L:LogV}(h:Er σ l G L):Aa Tryz.prog 62 [.mp l 5 0 0] σ fun r σ'=>σ'=σ∧r=Ad .i64 ((L.disk.size - 2)*64:Nat):=by
 obtain⟨d,F,w,a,h,hG⟩:=h
 have h0:=h.o
 have hs:=Abz h.disk
 have hb:=h.big
 have hb2:L.disk.size≤65536:=by obtain⟨kn,kk,w',a',es,hd,hF⟩:=h.disk;exact hd.big
 have w1:IntKind.i64.wrap ((L.disk.size:Int) - 2)=((L.disk.size - 2:Nat):Int):=by rw[wrap_i64 (by omega) (by omega)];omega
 have w2:IntKind.i64.wrap (((L.disk.size - 2:Nat):Int)*64)=(((L.disk.size - 2)*64:Nat):Int):=by rw[wrap_i64 (by omega) (by omega)];simp
 refine Ab Am An Tryz.func62 (by kernel_rfl) rfl (nt:=9) (rs:=[.tmp 2]) rfl rfl ?_
 repeat' first|simp only[↓wBA,tWb,seval,h0,w1,w2]|((with_reducible show Aa _ _ _ _ _);refine hs.eq ?_)
 all_goals refine rtS ?_
 all_goals simp only[wRe,tWb,seval]
def Xc:Cq:=(.det 0 (.det 1 (.det 2 (.det 4 (.det 5 (.act 3 (.fin 6 (.fin 7 (.fin 8 .done)))))))))
def Xd:Cq:=(.det 0 (.det 1 (.det 2 (.det 3 (.det 4 (.det 5 (.det 6 (.det 7 (.det 8 (.fin 9 (.det 10 .done)))))))))))
def Ic:Cq:=(.det 0 (.det 1 (.det 2 (.det 3 (.det 4 (.det 5 (.det 6 (.det 7 (.det 8 (.det 9 (.det 10 (.det 11 (.fin 12 (.det 13 (.det 14 (.fin 15 (.det 16 (.det 17 (.fin 18 .done)))))))))))))))))))
def tWd:=aa wX <| aa wbu <| aa T3 <| aa T29 <| aa T32 <| aa T70 <| aa T137 <| aa T140 <| aa T142 T144
theorem Xe (l:List UInt8):List.flatten (Ax l)=l.map Bo:=by
 induction l with
 |nil=>rfl
 |cons b l ih=>simp only[Ax,QK,XE,ZN,ZQ]at ih ⊢;rw[ih]
theorem Ud (l m:List UInt8):Ax l++Ax m=Ax (l++m):=by simp[Ax]
theorem Avk (c n:Nat):(leB c 8++leB n 4).length=12:=by simp[B0]
theorem Apz (c n:Nat):List.take 64 (Aq (leB c 8++leB n 4))=Aq (leB c 8++leB n 4):=ZF (by rw[F8,Avk];omega)
theorem Aic (c n:Nat):Aq (leB c 8++leB n 4)++List.drop 12 (Aq Fh)=Aq (Gb c n):=by
 simp only[Gb,Fh,Aq,ZH,WL,List.drop_replicate,QX]
theorem Aa.gen {P:Program}{f:FuncId}{args:List AV}{X:St}{R:AV→St→Prop}(Pr:St→Prop)(h:Pr X)(k:∀ s,Pr s→Aa P f args s R):Aa P f args X R:=k X h
theorem Bf.ap {σ s:St}{d:Nat}{F:Nat→Prop}{D:F9}(h:Bf σ d F D)(hs:Ap σ s):Bf s d F D:=by
 obtain⟨τ,rfl⟩:=hs
 exact h.app τ
theorem Avl {σ:St}{l:Nat}{G:Nat→Prop}{L:LogV}(h:Er σ l G L)(n:Nat)(hn:n≤L.str.length)(hc:L.ctr+1<18446744073709551616)(hon:∀ k,k<n→(A3 L.disk.now (2+k / 64))[k % 64]? =L.str[k]?):
 Aa Tryz.prog 105 [.mp l 5 0 0,Ad .i64 (n:Nat)] σ fun x σ'=>x=Ad .i64 0∧∃ G',Fr σ σ' G G'∧Er σ' l G' { d:=L.d,disk:={ L.disk with now:=Dq L.disk.now ((L.ctr+1) % 2) (Gb (L.ctr+1) n),wait:=[],kept:=A3 (Dq L.disk.now ((L.ctr+1) % 2) (Gb (L.ctr+1) n)) },ctr:=L.ctr+1,len:=n,str:=L.str.take n,wait:=0 }:=by
 obtain⟨d,F,w,a,h,hG⟩:=h
 have h0:=h.o
 have l0:=Ac h0
 have hb2:L.disk.size≤65536:=by obtain⟨kn,kk,w',a',es,hd,hF⟩:=h.disk;exact hd.big
 have hst:=h.room
 have w1:IntKind.u64.wrap ((L.ctr:Int)+1)=((L.ctr+1:Nat):Int):=IntKind.wrap_u64 _▸(by omega)
 have w2:IntKind.u64.wrap (n:Int)=(n:Int):=IntKind.wrap_u64 _▸(by omega)
 have e8:(Ax (leB (L.ctr+1) 8)).length=8:=by rw[B6,B0]
 have e4:(Ax (leB n 4)).length=4:=by rw[B6,B0]
 have w3:IntKind.i64.wrap (((L.ctr+1:Nat):Int).tmod 2)=(((L.ctr+1) % 2:Nat):Int):=by
  have e:((L.ctr+1:Nat):Int).tmod 2=(((L.ctr+1) % 2:Nat):Int):=by rw[WR (by omega)];omega
  rw[e,wrap_i64 (by omega) (by omega)]
 have lm1:=lM (n:=12) (by omega)
 have lm2:=lM (n:=8+4) (by omega)
 refine Ab Am An Tryz.func105 (by kernel_rfl) rfl (nt:=62) (rs:=[.tmp 4]) rfl rfl ?_
 repeat' first|simp only[↓wBA,tWd,Cv,seval,Xc,Xd,wH,wHt,wBt,h0,l0,w1,w2,e8,e4,Z3,A2,Ey,Bh,Qv,srcC,Ud,Xe,Hv,Apz,Aic,F8,Ew,B0,B6,Pw,lm1,w3]|((with_reducible show Aa _ _ _ _ _);first|refine (Aok (L.ctr+1) 8 (by omega) (by omega) (by omega) _).eq' ?_|refine (Aok n 4 (by omega) (by omega) (by omega) _).eq' ?_)|(with_reducible first|refine dQ Xc 9 (some 18) ?_|refine dQ Xd 11 (some 27) ?_)
 refine Aa.gen (fun s=>Ap σ s∧s[σ.length]? =some (some (.row 2 [[.p (.v (.int .u64 (L.ctr+1:Nat))),.p (.v (.int .u64 n))]]))) ⟨?_,?_⟩ fun s ⟨hs,hq⟩=> ?_
 ·exact (((((Ap.app _ _).more _).more _).set (by omega) _).set (by omega) _).more _
 ·simp only[wH,wHe,wBt,Nat.reduceAdd,Nat.reduceLT]
 refine (Z4 (h.disk.ap hs) ((L.ctr+1) % 2) (by have:=h.big;omega) (Gb (L.ctr+1) n) (Pw _ _) (by rw[h.dry];simp)).mono ?_
 rintro _ s1 ⟨rfl,F1,hf1,hd1⟩
 have hsl:σ.length<s.length:=Ac hq
 have k0:=hf1.get (hs.get h0) h.nl
 have k1:=hf1.get hq (fun hF=>ZJ _ (h.disk.lt _ hF))
 have k2:=hf1.len
 have q0:=Ac k0
 have q1:=Ac k1
 have nl1:¬ F1 l:=fun hF=>(hf1.own _ hF).elim h.nl (fun hl=>by omega)
 have nl2:¬ F1 σ.length:=fun hF=>(hf1.own _ hF).elim (fun hF=>ZJ _ (h.disk.lt _ hF)) (fun hl=>by omega)
 repeat' simp only[↓wBA,tWd,seval,k0]
 refine (Ah7 hd1 (by simp[h.dry])).mono ?_
 rintro _ s2 ⟨rfl,F2,hf2,hd2⟩
 have j0:=hf2.get k0 nl1
 have j1:=hf2.get k1 nl2
 have j2:=hf2.len
 have p0:=Ac j0
 have p1:=Ac j1
 have n0:(l=σ.length)=False:=nf (by omega)
 have n1:(σ.length=l)=False:=nf (by omega)
 have nl3:¬ F2 l:=fun hF=>(hf2.own _ hF).elim nl1 (fun hl=>by omega)
 have hF12:∀ t,F2 t→F t∨σ.length≤t:=fun t hF=>(hf2.own t hF).elim (fun hF=>(hf1.own t hF).imp id (fun hl=>by omega)) (fun hl=>.inr (by omega))
 have hh:=h.heads.sealed n hc (by omega)
 have hsec:∀ k,(A3 (Dq L.disk.now ((L.ctr+1) % 2) (Gb (L.ctr+1) n)) k).length=64:=fun k=>by
  rw[Dd]
  split
  ·exact Pw _ _
  ·exact h.secs k
 have hgo:∀ (w':Option Nat) (a':AV) (X:Option Ob) (s3:St),s3=s2.set l (some (.row 5 [[.mp d 6 0 0,.p (.v (.int .u64 (L.ctr+1:Nat))),.p (.v (.int .u64 (n:Nat))),a',.p (.v (.int .i64 0))]]))→Z5 s3 a' w' (L.str.take n)→(∀ t,w'=some t→w=some t)→
  ∃ G',Fr σ s3 G G'∧Er s3 l G' { d:=L.d,disk:={ L.disk with now:=Dq L.disk.now ((L.ctr+1) % 2) (Gb (L.ctr+1) n),wait:=[],kept:=A3 (Dq L.disk.now ((L.ctr+1) % 2) (Gb (L.ctr+1) n)) },ctr:=L.ctr+1,len:=n,str:=L.str.take n,wait:=0 }:=fun w' a' X s3 e hst' hw'=>by
  subst e
  refine⟨fun t=>t=l∨F2 t∨w'=some t,?_,d,F2,w',a',⟨by simp only[wH,p0];rfl,hd2.same fun t ht=>QO fun e=>by subst e;exact nl3 ht,hst',nl3,fun t ht hF=>(hF12 t hF).elim (h.nw t (hw' t ht)) (fun hl=> ?_),h.big,by simp only[QZ];omega,by simp only[QZ];omega,hh,hsec,rfl,h.id,fun k hk=> ?_,fun _=>by simp only[QZ];omega⟩,fun t=>Iff.rfl⟩
  ·have f1:Fr σ s G G:=hs.fr
   have hFG:∀ t,F t→G t:=fun t ht=>(hG t).2 (.inr (.inl ht))
   have f2:Fr σ s2 G fun t=>F2 t∨(G t):=⟨by omega,fun t ht hn=>by
    rw[hf2.keep t (by omega) (fun hF=>(hf1.own t hF).elim (fun hF=>hn (hFG t hF)) (fun hl=>by omega)),hf1.keep t (by omega) (fun hF=>hn (hFG t hF))]
    exact f1.keep t ht hn,fun t ht=>ht.elim (fun hF=>(hF12 t hF).imp (hFG t) id) .inl⟩
   refine (f2.set _ ((hG l).2 (.inl rfl))).to fun t ht=> ?_
   rcases ht with rfl|ht|ht
   ·exact .inl ((hG _).2 (.inl rfl))
   ·exact (hF12 t ht).imp (hFG t) id
   ·exact .inl ((hG t).2 (.inr (.inr (hw' t ht))))
  ·rcases h.str with⟨_,e,_⟩|⟨t',ls,_,e,h2,_⟩
   ·rw[hw' t ht]at e;cases e
   ·rw[hw' t ht]at e;simp only[QB]at e;subst e;exact absurd (Ac h2) (by omega)
  ·show (A3 (Dq L.disk.now ((L.ctr+1) % 2) (Gb (L.ctr+1) n)) (2+k / 64))[k % 64]? =(L.str.take n)[k]?
   rw[Dd,if_neg (by omega),QT,if_pos hk]
   exact hon k hk
 have hstr2:∀ t x,w=some t→σ[t]? =some x→s2[t]? =some x:=fun t x ht hx=>hf2.get (hf1.get (hs.get hx) (h.nw t ht)) (fun hF=>(hf1.own t hF).elim (h.nw t ht) (fun hl=>by have:=Ac hx;omega))
 rcases h.str with⟨rfl,rfl,hS⟩|⟨t,ls,rfl,rfl,h2,h3,h4⟩
 ·have hn0:n=0:=by rw[hS]at hn;simpa using hn
  subst hn0
  repeat' first|simp only[↓wBA,tWd,seval,Ic,wH,j0,j1,p0,Bh,cz,Bl,Bp]|(with_reducible refine dQ Ic 19 (some 48) ?_)
  all_goals refine rtS ?_
  all_goals simp only[wRe,tWd,seval]
  all_goals exact hgo none _ none _ rfl (.inl ⟨rfl,rfl,by simp⟩) (fun t ht=>by cases ht)
 ·have i2:=hstr2 t _ rfl h2
  have hnn:=nnI n
  have hnS:((n:Int)≤(L.str.length:Int))=True:=eq_true (by omega)
  repeat' first|simp only[↓wBA,tWd,seval,Ic,wH,j0,j1,p0,Bh,hnn,hnS,Bl,Bp]|(with_reducible refine dQ Ic 19 (some 48) ?_)
  all_goals refine rtS ?_
  all_goals simp only[wRe,tWd,seval]
  all_goals exact hgo (some t) _ none _ rfl (.inr ⟨t,ls,by simp[YO hn],rfl,by rw[QO (by intro e;exact (Ay h0 h2 (by simp)) e)];exact i2,by rw[QZ,YO hn];simp only[Cy,WO];rw[← Cy,←h3,List.take_take,YO hn],by simp;omega⟩) (fun q hq=>hq)
def Ab2:Cq:=(.det 0 (.det 1 (.det 2 (.det 3 (.det 4 (.det 5 (.det 6 (.det 7 (.fin 8 .done)))))))))
def Xf:Cq:=(.det 0 (.det 1 (.det 2 (.det 3 (.det 4 (.det 5 (.det 6 (.fin 7 (.det 8 .done)))))))))
def tWe:=aa wX <| aa wbu <| aa T3 <| aa T29 <| aa T32 <| aa T70 <| aa T80 <| aa T137 <| aa T140 <| aa T142 T144
theorem Ap0 (n:Nat)(l:List UInt8):List.take n (Aq l)=Aq (List.take n l):=by simp[Aq,WO]
theorem Z6 (m:Nat):List.drop m (Aq Fh)=Aq (List.replicate (64 - m) 0):=by simp only[Fh,Aq,WL,List.drop_replicate]
theorem Aid (l m:List UInt8):Aq l++Aq m=Aq (l++m):=by simp[Aq]
theorem Ae2 (l:List UInt8):(Cy l).flatten=Aq l:=by
 induction l with
 |nil=>rfl
 |cons b l ih=>simp only[Cy,Aq,QK,XE,ZN,ZQ]at ih ⊢;rw[ih]
theorem Ap1 {s:St}{t k:Nat}{S:List UInt8}{ls:List (List AV)}(ht:s[t]? =some (some (.row 1 ls)))(h3:ls.take S.length=Cy S)(h4:S.length≤ls.length)(hk:k<S.length):srcC s (.ms t 1 k (S.length - k))=some (Aq (S.drop k)):=by
 have e:(ls.drop k).take (S.length - k)=Cy (S.drop k):=by
  rw[← List.drop_take,h3]
  simp only[Cy,VA]
 simp only[srcC,ht,if_true,true_and]
 rw[if_pos (by omega),e,Ae2]
theorem Ae3 {C:Ctx}{T E es eb t i n k:Nat}{ez:List Value}(hc:C.kind T=some (.slice E es eb ez))(hk:k<n):Bl C T (.ms t es i n) (some (.p (.v (.int .i64 (k:Nat))))) none=some (.ms t es (i+k) (n - k)):=by
 simp only[Bl,hc,Bp,Bh,Hi]
 cases k with
 |zero=>
  have h2:(0:Int)≤(n:Int):=by omega
  simp[h2]
 |succ k=>
  have h1:((k+1:Nat):Int)≠0:=by omega
  have h2:(some (((k+1:Nat):Int)):Option Int)≠some 0:=by simp;omega
  have h3:(0:Int)≤((k+1:Nat):Int):=by omega
  have h4:((k+1:Nat):Int)<(n:Int):=by omega
  split
  ·rename_i e _;cases e
  ·rename_i e _;cases e
  ·rename_i e;exact (h2 e).elim
  ·rename_i heq heq2
   simp only[AV.ms.injEq]at heq
   obtain⟨rfl,rfl,rfl,rfl⟩:=heq
   simp only[QB]at heq2
   subst heq2
   simp
   omega
  ·exfalso
   simp_all only[AV.ms.injEq,QB,and_imp,ne_eq,reduceCtorEq,not_false_eq_true,forall_const]
   first|omega|(rename_i h6;exact h6 _ _ _ _ _ rfl rfl rfl rfl rfl)|skip
theorem Ap2 {σ:St}{l:Nat}{G:Nat→Prop}{L:LogV}(h:Er σ l G L)(hc:L.ctr+1<18446744073709551616):
 Aa Tryz.prog 59 [.mp l 5 0 0] σ fun x σ'=>x=Ad .i64 0∧∃ G' L',Fr σ σ' G G'∧Er σ' l G' L'∧L'.str=L.str∧L'.wait=0∧L'.disk.size=L.disk.size∧L'.ctr≤L.ctr+min L.wait 1∧L'.d=L.d:=by
 have hL:=h
 obtain⟨d,F,w,a,h,hG⟩:=h
 have h0:=h.o
 have l0:=Ac h0
 have hb2:L.disk.size≤65536:=by obtain⟨kn,kk,w',a',es,hd,hF⟩:=h.disk;exact hd.big
 have hst:=h.room
 have hle:=h.le
 by_cases hw:L.wait=0
 ·have w0:((L.wait:Int)==0)=true:=by simp[hw]
  refine Ab Am An Tryz.func59 (by kernel_rfl) rfl (nt:=67) (rs:=[.tmp 2]) rfl rfl ?_
  repeat' simp only[↓wBA,tWe,seval,h0,w0]
  all_goals refine rtS ?_
  all_goals simp only[wRe,tWe,seval]
  all_goals exact⟨G,L,Fr.refl _ _,hL,rfl,hw,rfl,by omega,rfl⟩
 ·have w0:((L.wait:Int)==0)=false:=by simp[hw]
  have w1:IntKind.i64.wrap (L.len:Int)=(L.len:Int):=wrap_i64 (by omega) (by omega)
  have w2:IntKind.i64.wrap ((L.len:Int).tdiv 64)=((L.len / 64:Nat):Int):=by
   have e:(L.len:Int).tdiv 64=((L.len / 64:Nat):Int):=by rw[XQ (by omega)];omega
   rw[e,wrap_i64 (by omega) (by omega)]
  refine Ab Am An Tryz.func59 (by kernel_rfl) rfl (nt:=67) (rs:=[.tmp 2]) rfl rfl ?_
  repeat' simp only[↓wBA,tWe,Cv,seval,h0,w0,w1,w2]
  refine Ar (X:={ q:Nat // q≤1024*64 }) (fun q=>1024*64 - q.1) (fun q=>[(3,Ad .i64 (L.len / 64+q.1:Nat))]) [2,4,5,23,24,25,26,27,28,29,30,31,32,33,34,35,36,37,38,39,40,41,42,43,44,45,46,47,48,49,50,51,52] (fun q s=>∃ F' D',Fr σ s F F'∧Bf s d F' D'∧D'.size=L.disk.size∧Nu D'.now L.ctr L.len∧(∀ k,(A3 D'.now k).length=64)∧D'.wait.length≤q.1∧(∀ k,k<L.str.length→k<L.len∨k / 64<L.len / 64+q.1→(A3 D'.now (2+k / 64))[k % 64]? =L.str[k]?)) (⟨0,by omega⟩) ?_ ?_ ?_ ?_
  ·simp only[wHl,wHf,XD]
  ·exact⟨F,L.disk,Fr.refl _ _,h.disk,rfl,h.heads,h.secs,by rw[h.dry];exact QH _,fun k hk hkl=>h.on k (by have hkl:k<L.len∨k / 64<L.len / 64+0:=hkl;omega)⟩
  ·rintro _ _ ⟨F',D',hf,_⟩;exact hf.len
  ·intro x J s hI
   simp only[wHl]
   obtain⟨q,hq⟩:=x
   obtain⟨F1,D1,hf1,hd1,hz,hh,hsec,hwl,hon⟩:=hI
   dsimp only at*
   have k0:=hf1.get h0 h.nl
   have q0:=Ac k0
   generalize hA:L.len / 64+q=A
   have w3:IntKind.i64.wrap ((A:Int)*64)=((A*64:Nat):Int):=by rw[wrap_i64 (by omega) (by omega)];simp
   by_cases hlt:A*64<L.str.length
   ·have hdec:decide (((A*64:Nat):Int)<(L.str.length:Int))=true:=by simp only[decide_eq_true_eq];omega
    rcases h.str with⟨_,_,hS⟩|⟨t,ls,rfl,rfl,h2,h3,h4⟩
    ·rw[hS]at hlt;simp at hlt
    ·have i2:=hf1.get h2 (h.nw t rfl)
     have q2:=Ac i2
     have hsr:∀ τ,srcC (s++τ) (.ms t 1 (A*64) (L.str.length - A*64))=some (Aq (L.str.drop (A*64))):=fun τ=>Ap1 (by rw[QD q2];exact i2) h3 h4 hlt
     have hsl:=Ae3 (C:=cx) (t:=t) (i:=0) E3 hlt
     simp only[ZC]at hsl
     have n0:(l=s.length)=False:=nf (by omega)
     have n1:(s.length=l)=False:=nf (by omega)
     have w4:IntKind.i64.wrap ((A:Int)+2)=((A+2:Nat):Int):=by rw[wrap_i64 (by omega) (by omega)];simp
     have w5:=wI A (by omega)
     obtain⟨y,hy⟩:∃ y,List.take 64 (L.str.drop (A*64))=y:=⟨_,rfl⟩
     have hyl:y.length≤64:=by rw[← hy];simp;omega
     have hE:(if y.length=64 then Aq y else Aq y++List.drop y.length (Aq Fh))=Aq (y++List.replicate (64 - y.length) 0):=by
      split
      ·rename_i e;rw[e];simp
      ·rw[Z6,Aid]
     have hEl:(y++List.replicate (64 - y.length) (0:UInt8)).length=64:=by simp;omega
     repeat' first|simp only[↓wBA,tWe,seval,Ab2,Xf,wH,wHl,k0,q0,w3,w4,hdec,Bh,hsl,Z3,Qv,hsr,Ap0,F8,hy,hE,hEl,Ew]|(with_reducible first|refine dQ Ab2 9 (some 33) ?_|refine dQ Xf 9 (some 42) ?_)
     have nl1:¬ F1 l:=fun hF=>(hf1.own _ hF).elim h.nl (fun hl=>by omega)
     refine (Z4 (hd1.app _) (A+2) (by omega) _ hEl (by omega)).mono ?_
     rintro _ s2 ⟨rfl,F2,hf2,hd2⟩
     have j0:=hf2.get (t:=l) (by rw[QD q0];exact k0) nl1
     have p0:=Ac j0
     repeat' simp only[↓wBA,tWe,seval,wHl,w5]
     refine⟨⟨q+1,by omega⟩,by show 1024*64 - (q+1)<1024*64 - q;omega,⟨F2,_,(hf1.app _).trans hf2,hd2,hz,hh.keep (by omega) _,fun k=> ?_,by simp;omega,fun k hk hkl=> ?_⟩,?_⟩
     ·rw[Dd]
      split
      ·exact hEl
      ·exact hsec k
     ·show (A3 (Dq D1.now (A+2) (y++List.replicate (64 - y.length) 0)) (2+k / 64))[k % 64]? =L.str[k]?
      rw[Dd]
      by_cases e:k / 64=A
      ·rw[if_pos (by omega)]
       have hyk:y[k % 64]? =L.str[k]? :=by rw[← hy,QT,if_pos (by omega),ZK];congr 1;omega
       have hyl2:k % 64<y.length:=by rw[← hy];simp;omega
       rw[QD hyl2,hyk]
      ·rw[if_neg (by omega)]
       exact hon k hk (by simp only at hkl;omega)
     ·have e':((L.len / 64+(q+1):Nat):Int)=((A+1:Nat):Int):=by rw[← hA,ZY]
      simp only[e']
   ·have hdec:decide (((A*64:Nat):Int)<(L.str.length:Int))=false:=by simp only[decide_eq_false_iff_not];omega
    have hfin:∀ (s2:St) (F2:Nat→Prop),Fr s s2 F1 F2→Bf s2 d F2 { D1 with wait:=[],kept:=A3 D1.now }→Aa Tryz.prog 105 [.mp l 5 0 0,Ad .i64 (L.str.length:Nat)] s2 fun x σ'=>x=Ad .i64 0∧∃ G' L',Fr σ σ' G G'∧Er σ' l G' L'∧L'.str=L.str∧L'.wait=0∧L'.disk.size=L.disk.size∧L'.ctr≤L.ctr+1∧L'.d=L.d:=fun s2 F2 hf2 hd2=>by
     have f12:=hf1.trans hf2
     have hst':Z5 s2 a w L.str:=h.str.same fun t ht=>by
      rcases h.str with⟨_,e,_⟩|⟨t',ls,_,e,h2,_⟩
      ·rw[e]at ht;cases ht
      ·rw[e]at ht;simp only[QB]at ht;subst ht
       rw[f12.get h2 (h.nw t' e),h2]
     have hwl:∀ t,w=some t→t<σ.length:=fun t ht=>by
      rcases h.str with⟨_,e,_⟩|⟨t',ls,_,e,h2,_⟩
      ·rw[e]at ht;cases ht
      ·rw[e]at ht;simp only[QB]at ht;subst ht;exact Ac h2
     have hl2:Er s2 l (fun t=>t=l∨F2 t∨w=some t) { L with disk:={ D1 with wait:=[],kept:=A3 D1.now } }:=
      ⟨d,F2,w,a,⟨f12.get h0 h.nl,hd2,hst',fun hF=>(f12.own l hF).elim h.nl (fun hl=>by omega),fun t ht hF=>(f12.own t hF).elim (h.nw t ht) (fun hl=>by have:=hwl t ht;omega),by show 3≤D1.size;rw[hz];exact h.big,by show L.str.length≤(D1.size - 2)*64;rw[hz];exact hst,h.le,hh,hsec,rfl,h.id,fun k hk=>hon k (by have:=h.le;have hk:k<L.len:=hk;omega) (.inl hk),h.dr⟩,fun t=>Iff.rfl⟩
     refine (Avl hl2 L.str.length (QH _) hc fun k hk=>hon k hk (.inr (by omega))).mono ?_
     rintro x σ' ⟨rfl,G',hf3,hl3⟩
     have f4:Fr σ s2 G fun t=>t=l∨F2 t∨w=some t:=⟨f12.len,fun t ht hn=>f12.keep t ht fun hF=>hn ((hG t).2 (.inr (.inl hF))),fun t ht=>by
      rcases ht with rfl|ht|ht
      ·exact .inl ((hG _).2 (.inl rfl))
      ·exact (f12.own t ht).imp (fun hF=>(hG t).2 (.inr (.inl hF))) id
      ·exact .inl ((hG t).2 (.inr (.inr ht)))⟩
     exact⟨rfl,G',_,f4.trans hf3,hl3,by simp,rfl,hz,by simp,rfl⟩
    rcases h.str with⟨rfl,rfl,hS⟩|⟨t,ls,rfl,rfl,h2,h3,h4⟩
    ·have hfin':=hfin
     simp only[hS,QI,cz]at hdec hfin'
     repeat' simp only[↓wBA,tWe,seval,wHl,k0,w3,hdec]
     refine (Ah7 hd1 (by omega)).mono ?_
     rintro _ s2 ⟨rfl,F2,hf2,hd2⟩
     have j0:=hf2.get k0 (fun hF=>(hf1.own _ hF).elim h.nl (fun hl=>by omega))
     repeat' simp only[↓wBA,tWe,seval,wHl,j0]
     refine (hfin' s2 F2 hf2 hd2).mono ?_
     rintro _ s3 ⟨rfl,G',L',g1,g2,g3,g4,g5,g6,g7⟩
     repeat' simp only[↓wBA,tWe,seval,wHl]
     all_goals refine R6 ?_ g1.len
     all_goals simp only[wRe,WE,WF]
     all_goals exact⟨trivial,G',L',g1,g2,by rw[hS];exact g3,g4,g5,by omega,g7⟩
    ·skip
     repeat' simp only[↓wBA,tWe,seval,wHl,k0,w3,hdec]
     refine (Ah7 hd1 (by omega)).mono ?_
     rintro _ s2 ⟨rfl,F2,hf2,hd2⟩
     have j0:=hf2.get k0 (fun hF=>(hf1.own _ hF).elim h.nl (fun hl=>by omega))
     repeat' simp only[↓wBA,tWe,seval,wHl,j0]
     refine (hfin s2 F2 hf2 hd2).mono ?_
     rintro _ s3 ⟨rfl,G',L',g1,g2,g3,g4,g5,g6,g7⟩
     repeat' simp only[↓wBA,tWe,seval,wHl]
     all_goals refine R6 ?_ g1.len
     all_goals simp only[wRe,WE,WF]
     all_goals exact⟨trivial,G',L',g1,g2,g3,g4,g5,by omega,g7⟩
def Ch:AV→Option Nat
 | .own t _ _=>some t
 |_=>none
def Kr (q:St)(av:AV)(E:TypeId)(e:Nat)(ls:List (List PV)):Prop:=(av= .p (.v (.slice none 0 0))∧ls=[])∨∃ t,av= .own t e ls∧ls≠[]∧q[t]? =some (some (.right E (ls.length*e)))
theorem Kr.same {q q':St}{av:AV}{E:TypeId}{e:Nat}{ls:List (List PV)}(h:Kr q av E e ls)(hs:∀ t,Ch av=some t→q'[t]? =q[t]?):Kr q' av E e ls:=by
 rcases h with h|⟨t,rfl,h1,h2⟩
 ·exact .inl h
 ·exact .inr ⟨t,rfl,h1,by rw[hs t rfl];exact h2⟩
theorem Kr.lt {q:St}{av:AV}{E:TypeId}{e:Nat}{ls:List (List PV)}(h:Kr q av E e ls){t:Nat}(ht:Ch av=some t):t<q.length:=by
 rcases h with⟨rfl,_⟩|⟨t',rfl,h1,h2⟩
 ·cases ht
 ·simp only[Ch,QB]at ht;subst ht;exact Ac h2
theorem G3 {q:St}{av y:AV}{E T:TypeId}{e eb:Nat}{ez:List Value}{ls m:List (List PV)}(hk:cx.kind T=some (.slice E e eb ez))(h:Kr q av E e ls)(hy:Lx q e y=some m)(hm:m≠[])(hb:(ls.length+m.length)*eb≤140737488355328)(hb2:ls.length+m.length≤1000000):
 ∃ av' q',A2 cx q.length T av y q=some (av',q')∧Kr q' av' E e (ls++m)∧q.length≤q'.length∧(∀ t,t<q.length→Ch av≠some t→q'[t]? =q[t]?)∧∀ t,Ch av'=some t→Ch av=some t∨q.length≤t:=by
 have c2:ls.length+m.length≤maxLen:=by unfold maxLen;omega
 rcases h with⟨rfl,rfl⟩|⟨t,rfl,hl,ht⟩
 ·cases m with
  |nil=>exact absurd rfl hm
  |cons c r=>
   refine⟨.own q.length e (c::r),q++[some (.right E ((c::r).length*e))],?_,.inr ⟨q.length,rfl,by simp,by simp⟩,by simp,fun t ht _=>QD ht,fun t ht=>.inr ?_⟩
   ·unfold A2
    rw[hk]
    simp only[hy]
    rw[if_pos ⟨by simpa using hb,by simpa using c2⟩]
    simp only[I8 rfl]
   ·simp only[Ch,QB]at ht;omega
 ·have htl:=Ac ht
  refine⟨.own t e (ls++m),q.set t (some (.right E ((ls++m).length*e))),?_,.inr ⟨t,rfl,by simp[hl],by simp[htl]⟩,by simp,fun t' _ hn=>QO fun e=>hn (by subst e;rfl),fun t' ht=>.inl ht⟩
  unfold A2
  rw[hk]
  simp only[hy]
  rw[if_pos ⟨trivial,hb,c2⟩,ht]
  simp
theorem Ap.of_keep {σ s:St}(hl:σ.length≤s.length)(h:∀ t,t<σ.length→s[t]? =σ[t]?):Ap σ s:=by
 refine⟨s.drop σ.length,?_⟩
 apply XM
 intro t
 by_cases ht:t<σ.length
 ·rw[QD ht,h t ht]
 ·rw[QY (by omega),ZK]
  congr 1;omega
theorem Ap.of_fr {σ s:St}{F F':Nat→Prop}(h:Fr σ s F F')(hF:∀ t,F t→σ.length≤t):Ap σ s:=Ap.of_keep h.len fun t ht=>h.keep t ht fun e=>by have:=hF t e;omega
def recB (r:List UInt8):List UInt8:=leB r.length 4++r
def Aie (rs:List (List UInt8)):List UInt8:=rs.flatMap recB
theorem Aif (a b:List (List UInt8)):Aie (a++b)=Aie a++Aie b:=WG ..
theorem c4:((4:Nat):Int)=4:=rfl
