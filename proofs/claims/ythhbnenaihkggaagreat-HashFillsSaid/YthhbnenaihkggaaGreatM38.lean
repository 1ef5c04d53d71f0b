/- Hash indexes: bytes, numbers, sums, buckets. Hash indexes: open, page, find, count, Buckets. How places are compared, as the world sees it. -/
import Derived.Test.YthhbnenaihkggaaGreatM37
import Derived.Test.YthhbnenaihkggaaGreatM15
import Derived.Sort.Grow
import Derived.Lib.Small
import Derived.StillTailTactics
import Derived.Shelf.SlSortCmp.WholeK
import Derived.Ground.SlsfProg
import Derived.Test.YthhbnenaihkggaaGreatProg
set_option linter.unusedSimpArgs false
set_option linter.unusedVariables false
set_option linter.defProp false
set_option maxRecDepth 100000
set_option maxHeartbeats 32000000
namespace Go.Proofs.YthhbnenaihkggaaGreat
open Go.RowKit
def pl59_1Xa:Plan:=(.det 0 (.det 1 (.det 2 (.det 3 (.det 4 (.det 5 (.det 6 (.det 7 (.det 8 (.det 9 (.det 10 (.det 11 (.det 12 (.det 13 (.det 14 (.det 15 (.det 16 .done)))))))))))))))))
def tXa:=aa wX <| aa wbu <| aa T3 <| aa T5 <| aa T23 <| aa T45 T164
theorem or_lo (x y:Nat)(hx:x<65536)(hy:y<256):IntKind.i64.wrap ((BitVec.ofInt IntKind.i64.bits (x:Int) ||| BitVec.ofInt IntKind.i64.bits ((y:Int)*65536)).toNat:Int)=((x+65536*y:Nat):Int):=by
 have h3:(BitVec.ofInt IntKind.i64.bits (x:Int) ||| BitVec.ofInt IntKind.i64.bits ((y:Int)*65536)).toNat=x+65536*y:=by
  rw[show (y:Int)*65536=((y*65536:Nat):Int) by omega]
  show (BitVec.ofInt 64 (x:Int) ||| BitVec.ofInt 64 ((y*65536:Nat):Int)).toNat=_
  rw[BitVec.ofInt_natCast,BitVec.ofInt_natCast,BitVec.toNat_or,BitVec.toNat_ofNat,BitVec.toNat_ofNat,Nat.mod_eq_of_lt (by omega),Nat.mod_eq_of_lt (by omega)]
  rw[Nat.or_comm,Nat.mul_comm y 65536,show 65536=2 ^ 16 from rfl,←Nat.two_pow_add_eq_or_of_lt (by omega)]
  omega
 rw[h3,wrap_i64 (by omega) (by omega)]
theorem xor_nat (x y:Nat)(hx:x<4294967296)(hy:y<256):((BitVec.ofInt IntKind.u32.bits (x:Int) ^^^ BitVec.ofInt IntKind.u32.bits (y:Int)).toNat)=x ^^^ y:=by
 show (BitVec.ofInt 32 (x:Int) ^^^ BitVec.ofInt 32 (y:Int)).toNat=x ^^^ y
 rw[BitVec.ofInt_natCast,BitVec.ofInt_natCast,BitVec.toNat_xor,BitVec.toNat_ofNat,BitVec.toNat_ofNat,Nat.mod_eq_of_lt (by omega),Nat.mod_eq_of_lt (by omega)]
theorem xor_lt (x y:Nat)(hx:x<4294967296)(hy:y<256):x ^^^ y<4294967296:=Nat.xor_lt_two_pow (n:=32) hx (by omega)
theorem or3 {k:Nat}(h:k<16777216):IntKind.i64.wrap ((BitVec.ofInt IntKind.i64.bits ((k % 65536:Nat):Int) ||| BitVec.ofInt IntKind.i64.bits (IntKind.i64.wrap (IntKind.i64.wrap ((UInt8.ofNat (k / 65536)).toNat:Int)*2 ^ min 16 IntKind.i64.bits))).toNat:Int)=(k:Int):=by
 have h2:=(UInt8.ofNat (k / 65536)).toNat_lt
 have h3:(2:Int) ^ min 16 IntKind.i64.bits=65536:=by decide
 rw[h3,wrap_i64 (n:=((UInt8.ofNat (k / 65536)).toNat:Int)) (by omega) (by omega),wrap_i64 (n:=((UInt8.ofNat (k / 65536)).toNat:Int)*65536) (by omega) (by omega)]
 rw[or_lo _ _ (Nat.mod_lt _ (by omega)) h2,UInt8.toNat_ofNat']
 omega
theorem or2' (k:Nat):IntKind.i64.wrap ((BitVec.ofInt IntKind.i64.bits (IntKind.i64.wrap ((UInt8.ofNat k).toNat:Int)) ||| BitVec.ofInt IntKind.i64.bits (IntKind.i64.wrap (IntKind.i64.wrap ((UInt8.ofNat (k / 256)).toNat:Int)*2 ^ min 8 IntKind.i64.bits))).toNat:Int)=((k % 65536:Nat):Int):=by
 have h:=or2 (k:=k % 65536) (Nat.mod_lt _ (by omega))
 have e1:UInt8.ofNat (k % 65536)=UInt8.ofNat k:=by apply UInt8.toNat_inj.1;rw[UInt8.toNat_ofNat',UInt8.toNat_ofNat'];omega
 have e2:UInt8.ofNat (k % 65536 / 256)=UInt8.ofNat (k / 256):=by apply UInt8.toNat_inj.1;rw[UInt8.toNat_ofNat',UInt8.toNat_ofNat'];omega
 rw[e1,e2]at h
 exact h
theorem axnum (k:Nat)(hk:k<16777216)(σ:St):ACalls Tryz.prog 59 [.p (.sl 1 (encB (num3 k)))] σ fun r σ'=>σ'=σ∧r=intV .i64 (k:Nat):=by
 have e1:=or2' k
 have e2:=or3 hk
 refine acalls_of cx_ok dr_ok Tryz.func59 (by kernel_rfl) rfl (nt:=18) (rs:=[.tmp 2]) rfl rfl ?_
 repeat' first|((with_reducible first|apply cs|apply ws|apply wd|apply wu)<;>intro h<;>try simp only[h])|simp only[↓wBA,tXa,convA,seval,pl59_1Xa,wH,encB,num3,List.map_cons,List.map_nil,byteP,e1,e2]|(with_reducible refine dQ pl59_1Xa 17 (some 3) ?_)
 all_goals refine ret_st ?_ (by first|exact Nat.le_refl _|(simp only[List.length_set,List.length_append];omega)|omega)
 all_goals simp only[resA.eq_1,resL.eq_1,resL.eq_2,resV.eq_1,resV.eq_2,↓wBA,tXa,convA,seval,wH,encB,num3,List.map_cons,List.map_nil,byteP,e1,e2]
theorem axbytes (k:Nat)(hk:k<16777216)(σ:St):ACalls Tryz.prog 41 [intV .i64 (k:Nat)] σ fun r σ'=>Ap σ σ'∧r= .p (.sl 1 (encB (num3 k))):=by
 have e1:IntKind.u8.wrap (k:Int)=((UInt8.ofNat k).toNat:Int):=by rw[IntKind.wrap_u8,UInt8.toNat_ofNat'];omega
 have e2:IntKind.u8.wrap ((k:Int).fdiv (2 ^ min 8 IntKind.i64.bits))=((UInt8.ofNat (k / 256)).toNat:Int):=by
  have:(2:Int) ^ min 8 IntKind.i64.bits=256:=by decide
  rw[this,Int.fdiv_eq_ediv_of_nonneg _ (by omega),IntKind.wrap_u8,UInt8.toNat_ofNat'];omega
 have e3:IntKind.u8.wrap ((k:Int).fdiv (2 ^ min 16 IntKind.i64.bits))=((UInt8.ofNat (k / 65536)).toNat:Int):=by
  have:(2:Int) ^ min 16 IntKind.i64.bits=65536:=by decide
  rw[this,Int.fdiv_eq_ediv_of_nonneg _ (by omega),IntKind.wrap_u8,UInt8.toNat_ofNat'];omega
 have h:ACalls Tryz.prog 41 [intV .i64 (k:Nat)] σ fun r σ'=>Ap σ σ'∧r= .own σ.length 1 (encB (num3 k)):=by
  refine acalls_of cx_ok dr_ok Tryz.func41 (by kernel_rfl) rfl (nt:=11) (rs:=[.tmp 2]) rfl rfl ?_
  repeat' first|((with_reducible first|apply cs|apply ws)<;>intro h<;>try simp only[h])|simp only[↓wBA,tXa,convA,seval,wH,e1,e2,e3]
  all_goals refine ret_st ?_ (by first|exact Nat.le_refl _|(simp only[List.length_set,List.length_append];omega)|omega)
  all_goals simp only[resA.eq_1,resL.eq_1,resL.eq_2,resV.eq_1,resV.eq_2,↓wBA,tXa,convA,seval,wH]
  exact⟨Ap.app _ _,by simp only[encB,num3,List.map_cons,List.map_nil,byteP]⟩
 refine h.ans ?_
 rintro _ s ⟨ha,rfl⟩
 exact⟨_,⟨ha,rfl⟩,fun M v=>own_data⟩
theorem axsum (key:List UInt8)(hkey:key.length≤140737488351232)(x:PV)(hx:BX x key)(σ:St):ACalls Tryz.prog 60 [.p x] σ fun r σ'=>σ'=σ∧r=intV .i64 (fnvL key:Nat):=by
 have hlx:lenA cx 23 (.p x)=some key.length:=RecA.len (σ:=σ) (.inl ⟨x,rfl,hx⟩)
 have hb0:=fnvL_lt key
 have hwe:IntKind.i64.wrap ((fnvL key:Nat):Int)=((fnvL key:Nat):Int):=wrap_i64 (by omega) (by omega)
 have hf0:((fnvL (key.take 0):Nat):Int)=2166136261:=by simp[fnvL]
 refine acalls_of cx_ok dr_ok Tryz.func60 (by kernel_rfl) rfl (nt:=19) (rs:=[.tmp 2]) rfl rfl ?_
 simp only[↓wBA,tXa,convA,seval,wH,hlx]
 refine awp_loopS (X:={ i:Nat // i≤key.length }) (fun i=>key.length - i.1) (fun i=>[(3,.p (.v (.int .u32 (fnvL (key.take i.1):Nat)))),(8,intV .i64 (i.1:Nat))]) [5,9,10,11,12,13,14,15,16,17] (fun i s=>s=σ) (⟨0,by omega⟩) ?_ ?_ ?_ ?_
 ·simp only[wHl,wHf,hf0]
 ·rfl
 ·rintro _ _ rfl;exact Nat.le_refl _
 ·intro y J s hI
  simp only[wHl]
  obtain⟨i,hi⟩:=y
  subst hI
  dsimp only at*
  have hi0:=nnI i
  have hwi:=wI i (by omega)
  by_cases hlt:i<key.length
  ·have e1:=dT (i:=i) (n:=key.length) hlt
   obtain⟨c,hc⟩:∃ c,key[i]? =some c:=⟨key[i],by simp⟩
   obtain rfl:x= .sl 1 (encB key):=by
    rcases hx with h|⟨_,h⟩
    ·exact h
    ·rw[h]at hlt;simp at hlt
   have hg:(encB key)[i]? =some [byteP c]:=by simp[encB,hc]
   have hif:((i:Int)<((encB key).length:Int))=True:=eq_true (by simp[encB];omega)
   have hb:=fnvL_lt (key.take i)
   have hcl:=c.toNat_lt
   have hs:=fnv_succ hc
   have hx1:=xor_nat _ _ hb hcl
   have hx2:=xor_lt _ _ hb hcl
   have hwc:IntKind.u32.wrap (c.toNat:Int)=(c.toNat:Int):=by rw[IntKind.wrap_u32];omega
   have hwx:IntKind.u32.wrap ((fnvL (key.take i) ^^^ c.toNat:Nat):Int)=((fnvL (key.take i) ^^^ c.toNat:Nat):Int):=by rw[IntKind.wrap_u32];omega
   have hwm:IntKind.u32.wrap (((fnvL (key.take i) ^^^ c.toNat:Nat):Int)*16777619)=((fnvL (key.take (i+1)):Nat):Int):=by rw[IntKind.wrap_u32,hs];unfold fnvS;omega
   repeat' first|((with_reducible first|apply cs|apply ws)<;>intro h<;>try simp only[h])|simp only[↓wBA,tXa,convA,seval,wH,wHl,e1,hg,hif,hi0,byteP,hwc,hx1,hwx,hwm,hwi]
   exact⟨⟨i+1,by omega⟩,by show key.length - (i+1)<key.length - i;omega,by simp only[wHl,wHf]⟩
  ·obtain rfl:i=key.length:=by omega
   have e1:=dF (i:=key.length) (n:=key.length) hlt
   rw[List.take_length]
   repeat' first|((with_reducible first|apply cs|apply ws)<;>intro h<;>try simp only[h])|simp only[↓wBA,tXa,convA,seval,wH,wHl,e1,hwe]
   all_goals refine ret_st ?_ (by first|exact Nat.le_refl _|(simp only[List.length_set,List.length_append];omega)|omega)
   all_goals simp only[resA.eq_1,resL.eq_1,resL.eq_2,resV.eq_1,resV.eq_2,↓wBA,tXa,convA,seval,wH]
theorem axbucket (key:List UInt8)(hkey:key.length≤140737488351232)(x:PV)(hx:BX x key)(n:Nat)(hn1:1≤n)(hn:n≤1000000)(σ:St):ACalls Tryz.prog 28 [.p x,intV .i64 (n:Nat)] σ fun r σ'=>σ'=σ∧r=intV .i64 (bktH (fnvL key) n:Nat):=by
 have hb0:=fnvL_lt key
 have hp0:(((2 ^ 0:Nat):Nat):Int)=1:=rfl
 refine acalls_of cx_ok dr_ok Tryz.func28 (by kernel_rfl) rfl (nt:=23) (rs:=[.tmp 4]) rfl rfl ?_
 simp only[↓wBA,tXa,convA,seval,wH]
 refine awp_loopS (X:={ j:Nat // 2 ^ j≤n }) (fun j=>n - 2 ^ j.1) (fun j=>[(5,intV .i64 (2 ^ j.1:Nat))]) [7,8,9,10,11,12] (fun j s=>s=σ) (⟨0,by simpa using hn1⟩) ?_ ?_ ?_ ?_
 ·simp only[wHl,wHf,hp0]
 ·rfl
 ·rintro _ _ rfl;exact Nat.le_refl _
 ·intro y J s hI
  simp only[wHl]
  obtain⟨j,hj⟩:=y
  subst hI
  dsimp only at*
  have hp:0<2 ^ j:=Nat.two_pow_pos j
  have hw2:IntKind.i64.wrap (2*((2 ^ j:Nat):Int))=((2*2 ^ j:Nat):Int):=by rw[wrap_i64 (by omega) (by omega)];omega
  have hw3:IntKind.i64.wrap (((2 ^ j:Nat):Int)*2)=((2*2 ^ j:Nat):Int):=by rw[wrap_i64 (by omega) (by omega)];omega
  by_cases hlt:2*2 ^ j≤n
  ·have e1:decide (((2*2 ^ j:Nat):Int)≤(n:Int))=true:=by simp only[decide_eq_true_eq];omega
   repeat' first|((with_reducible first|apply cs|apply ws)<;>intro h<;>try simp only[h])|simp only[↓wBA,tXa,convA,seval,wH,wHl,hw2,hw3,e1]
   exact⟨⟨j+1,by rw[Nat.pow_succ];omega⟩,by show n - 2 ^ (j+1)<n - 2 ^ j;rw[Nat.pow_succ];omega,by simp only[wHl,wHf,Nat.pow_succ,Nat.mul_comm]⟩
  ·have e1:decide (((2*2 ^ j:Nat):Int)≤(n:Int))=false:=by simp only[decide_eq_false_iff_not];omega
   have hl:=lvl_eq (n:=n) hj (by omega)
   rw[← hl]at hw2 e1 hp hlt ⊢
   have hr:((fnvL key:Nat):Int).tmod ((2*lvl n:Nat):Int)=((fnvL key % (2*lvl n):Nat):Int):=by rw[Int.tmod_eq_emod_of_nonneg (by omega)];rfl
   have hmz:(((2*lvl n:Nat):Int)==0)=false:=by simp;omega
   have hmz':(((2*lvl n:Nat):Int)=0)=False:=eq_false (by omega)
   have hml:fnvL key % (2*lvl n)<2*lvl n:=Nat.mod_lt _ (by omega)
   have hwr:IntKind.i64.wrap ((fnvL key % (2*lvl n):Nat):Int)=((fnvL key % (2*lvl n):Nat):Int):=wrap_i64 (by omega) (by omega)
   by_cases hge:n≤fnvL key % (2*lvl n)
   ·have e2:decide (((fnvL key % (2*lvl n):Nat):Int)≥(n:Int))=true:=by simp only[decide_eq_true_eq];omega
    have e2':decide ((n:Int)≤((fnvL key % (2*lvl n):Nat):Int))=true:=by simp only[decide_eq_true_eq];omega
    have hbk:bktH (fnvL key) n=fnvL key % (2*lvl n) - lvl n:=by unfold bktH;rw[if_pos hge]
    have hll:=lvl_le hn1
    have hws:IntKind.i64.wrap (((fnvL key % (2*lvl n):Nat):Int) - ((lvl n:Nat):Int))=((bktH (fnvL key) n:Nat):Int):=by rw[wrap_i64 (by omega) (by omega),hbk];omega
    repeat' first|((with_reducible first|apply cs|apply ws)<;>intro h<;>try simp only[h])|simp only[↓wBA,tXa,convA,seval,wH,wHl,hw2,e1,hr,hmz,hmz',hwr,e2,e2',hws]|((with_reducible show ACalls _ _ _ _ _);refine (axsum key hkey x hx _).eq ?_)
    all_goals refine ret_st ?_ (by first|exact Nat.le_refl _|(simp only[List.length_set,List.length_append];omega)|omega)
    all_goals simp only[resA.eq_1,resL.eq_1,resL.eq_2,resV.eq_1,resV.eq_2,↓wBA,tXa,convA,seval,wH]
   ·have e2:decide (((fnvL key % (2*lvl n):Nat):Int)≥(n:Int))=false:=by simp only[decide_eq_false_iff_not];omega
    have e2':decide ((n:Int)≤((fnvL key % (2*lvl n):Nat):Int))=false:=by simp only[decide_eq_false_iff_not];omega
    have hbk:bktH (fnvL key) n=fnvL key % (2*lvl n):=by unfold bktH;rw[if_neg hge]
    repeat' first|((with_reducible first|apply cs|apply ws)<;>intro h<;>try simp only[h])|simp only[↓wBA,tXa,convA,seval,wH,wHl,hw2,e1,hr,hmz,hmz',hwr,e2,e2']|((with_reducible show ACalls _ _ _ _ _);refine (axsum key hkey x hx _).eq ?_)
    all_goals refine ret_st ?_ (by first|exact Nat.le_refl _|(simp only[List.length_set,List.length_append];omega)|omega)
    all_goals simp only[resA.eq_1,resL.eq_1,resL.eq_2,resV.eq_1,resV.eq_2,↓wBA,tXa,convA,seval,wH,hbk]
theorem app_more {q:St}{t tk:Nat}{y:AV}{E T:TypeId}{e eb:Nat}{ez:List Value}{ls m:List (List PV)}(hk:cx.kind T=some (.slice E e eb ez))(ht:q[t]? =some (some (.right E (ls.length*e))))(hy:srcD q e y=some m)(hb:(ls.length+m.length)*eb≤140737488355328)(hb2:ls.length+m.length≤1000000):
 appendA cx tk T (.own t e ls) y q=some (.own t e (ls++m),q.set t (some (.right E ((ls++m).length*e)))):=by
 have c2:ls.length+m.length≤maxLen:=by unfold maxLen;omega
 unfold appendA
 rw[hk]
 simp only[hy]
 rw[if_pos ⟨trivial,hb,c2⟩,ht]
 simp
theorem src_bx {q:St}{x:PV}{r:List UInt8}(hx:BX x r):srcD q 1 (.p x)=some (encB r):=by
 rcases hx with rfl|⟨rfl,rfl⟩<;>rfl
theorem axentry {e:HEn}(he:e.Ok){x:PV}(hx:BX x e.k)(σ:St):ACalls Tryz.prog 43 [.p x,.agg [intV .i64 (e.p:Nat),intV .i64 (e.s:Nat)]] σ fun r σ'=>Ap σ σ'∧r= .p (.sl 1 (encB (encX e))):=by
 obtain⟨k,p,s⟩:=e
 obtain⟨h1,h2,h3⟩:=he
 dsimp only at*
 have b1:∀ n:Nat,IntKind.u8.wrap (n:Int)=((UInt8.ofNat n).toNat:Int):=fun n=>by rw[IntKind.wrap_u8,UInt8.toNat_ofNat'];omega
 have b2:∀ n:Nat,IntKind.u8.wrap ((n:Int).fdiv (2 ^ min 8 IntKind.i64.bits))=((UInt8.ofNat (n / 256)).toNat:Int):=fun n=>by
  have:(2:Int) ^ min 8 IntKind.i64.bits=256:=by decide
  rw[this,Int.fdiv_eq_ediv_of_nonneg _ (by omega),IntKind.wrap_u8,UInt8.toNat_ofNat'];omega
 have h:ACalls Tryz.prog 43 [.p x,.agg [intV .i64 (p:Nat),intV .i64 (s:Nat)]] σ fun r σ'=>Ap σ σ'∧∃ t,r= .own t 1 (encB (encX ⟨k,p,s⟩)):=by
  refine acalls_of cx_ok dr_ok Tryz.func43 (by kernel_rfl) rfl (nt:=20) (rs:=[.tmp 4]) rfl rfl ?_
  repeat' first|((with_reducible first|apply cs|apply ws)<;>intro h<;>try simp only[h])|simp only[↓wBA,tXa,convA,seval,wH,b1,b2]
  have hel:(encB k).length=k.length:=by simp[encB]
  rw[app_more (t:=σ.length+1) ck_23 (by rw[List.getElem?_append_right (by simp)];simp) (src_bx hx) (by simp only[List.length_cons,List.length_nil];omega) (by simp only[List.length_cons,List.length_nil];omega)]
  repeat' first|((with_reducible first|apply cs|apply ws)<;>intro h<;>try simp only[h])|simp only[↓wBA,tXa,convA,seval,wH,b1,b2]
  all_goals refine ret_st ?_ (by first|exact Nat.le_refl _|(simp only[List.length_set,List.length_append];omega)|omega)
  all_goals simp only[resA.eq_1,resL.eq_1,resL.eq_2,resV.eq_1,resV.eq_2,↓wBA,tXa,convA,seval,wH]
  refine⟨?_,σ.length+1,by simp only[encB,encX,List.map_cons,List.map_nil,List.map_append,byteP,List.cons_append,List.nil_append]⟩
  exact (Ap.app _ _).more _
 refine h.ans ?_
 rintro _ s ⟨ha,t,rfl⟩
 exact⟨_,⟨ha,rfl⟩,fun M v=>own_data⟩
def pl42_2Xc:Plan:=(.det 0 (.det 1 (.det 2 (.det 3 (.det 4 (.det 5 (.det 6 (.det 7 (.act 8 (.act 9 (.fin 10 (.det 11 (.det 12 (.det 13 (.det 14 (.det 15 .done))))))))))))))))
def pl44_2Xc:Plan:=(.det 0 (.det 1 (.det 2 (.det 3 (.det 4 (.det 5 (.det 6 (.det 7 (.det 8 (.act 9 (.fin 10 (.det 11 (.det 12 .done)))))))))))))
def tXc:=aa wX <| aa wbu <| aa T3 <| aa T9 <| aa T23 <| aa T25 <| aa T29 <| aa T45 <| aa T63 <| aa T65 T73
def dirR (root c:Nat)(bs:List (List Nat)):List (List PV):=(dirE root (dirS c bs)).map entR
def ixC (b root c:Nat)(bs:List (List Nat)):List AV:=[.mp b 2 0 0,.p (.sl 3 (dirR root c bs))]
theorem dirR_len {root c:Nat}{bs:List (List Nat)}:(dirR root c bs).length=bs.length+1:=by unfold dirR;rw[List.length_map,dirE_len,dirS_len]
theorem dirR_zero {root c:Nat}{bs:List (List Nat)}:(dirR root c bs)[0]? =some [.v (.int .i64 (root:Nat)),.v (.int .i64 (1:Nat)),.sl 1 (encB (num3 c))]:=by
 unfold dirR;rw[List.getElem?_map,dirE_get];rfl
theorem dirR_succ {root c k:Nat}{bs:List (List Nat)}{b:List Nat}(h:bs[k]? =some b):(dirR root c bs)[k+1]? =some [.v (.int .i64 (root:Nat)),.v (.int .i64 (1+(k+1):Nat)),.sl 1 (encB (num3 (b.headD 0)))]:=by
 unfold dirR;rw[List.getElem?_map,dirE_get]
 have:(dirS c bs)[k+1]? =some (num3 (b.headD 0)):=by simp[dirS,h]
 rw[this];rfl
theorem lsV_ne {e:Nat}{ls:List (List PV)}(h:ls≠[]):lsV e ls= .p (.sl e ls):=by unfold lsV;rw[if_neg h]
theorem lsV_p (e:Nat)(ls:List (List PV)):∃ y,lsV e ls= .p y∧(ls≠[]→y= .sl e ls)∧(ls=[]→y= .v (.slice none 0 0)):=by
 unfold lsV
 by_cases h:ls=[]
 ·exact⟨_,if_pos h,fun h'=>absurd h h',fun _=>rfl⟩
 ·exact⟨_,if_neg h,fun _=>rfl,fun h'=>absurd h' h⟩
theorem len_p {T E:TypeId}{es eb e:Nat}{ez:List Value}{ls:List (List PV)}{y:PV}(hk:cx.kind T=some (.slice E es eb ez))(h1:ls≠[]→y= .sl e ls)(h2:ls=[]→y= .v (.slice none 0 0)):lenA cx T (.p y)=some ls.length:=by
 by_cases h:ls=[]
 ·rw[h2 h,h];unfold lenA;rw[hk];rfl
 ·rw[h1 h];unfold lenA;rw[hk];rfl
section
variable {σ:St} {b p dd l kh root c:Nat} {U:Nat→Prop} {P:PoolV} {v:Nat→List UInt8} {T:Nat→Bool} {bs:List (List Nat)} {E:List HEn}
theorem axopen (h:Bt σ b p dd l kh U P v)(hx:Ix v T P.pages root bs E c)(hb:Bud P 1):
 ACalls Tryz.prog 25 [.mp b 2 0 0,intV .i64 (root:Nat)] σ fun r σ'=>r= .tup [.agg (ixC b root c bs),intV .i64 0]∧∃ U' P',Fr σ σ' U U'∧Bt σ' b p dd l kh U' P' v∧Kp P P' 0:=by
 obtain⟨hH,hE⟩:=hx.heapD
 have hlt:=h.lt
 have hn1:=hx.n1
 have hrl:=dirR_len (root:=root) (c:=c) (bs:=bs)
 have hne:dirR root c bs≠[]:=fun e=>by rw[e]at hrl;simp at hrl
 have hla:lenA cx 63 (.p (.sl 3 (dirR root c bs)))=some (bs.length+1):=by
  unfold lenA
  rw[ck_63]
  simp[elemsA,hrl]
 have e1:decide (((bs.length+1:Nat):Int)<2)=false:=by simp only[decide_eq_false_iff_not];omega
 refine acalls_of cx_ok dr_ok Tryz.func25 (by kernel_rfl) rfl (nt:=23) (rs:=[.cell 4 65,.tmp 5]) rfl rfl ?_
 repeat' first|((with_reducible first|apply cs|apply ws)<;>intro h<;>try simp only[h])|simp only[↓wBA,tXc,convA,seval,wH]
 have a1:=Ap.app σ [some (Ob.row 2 [[AV.p (.v (.pointer none)),AV.p (.v (.slice none 0 0))]])]
 have b1:(σ++[some (Ob.row 2 [[AV.p (.v (.pointer none)),AV.p (.v (.slice none 0 0))]])])[σ.length]? =some (some (Ob.row 2 [[AV.p (.v (.pointer none)),AV.p (.v (.slice none 0 0))]])):=by simp
 refine (ascan (h.ap a1) hH (by simp) hb (by simp)).mono ?_
 rintro _ s1 ⟨rfl,U1,P1,f1,h1,k1⟩
 rw[hE,show (dirE root (dirS c bs)).map entR=dirR root c bs from rfl,lsV_ne hne]
 have hU0:¬ U σ.length:=fun e=>Nat.lt_irrefl _ (hlt _ e)
 have b2:=f1.get b1 hU0
 have y2:=at_lt b2
 have hU1:¬ U1 σ.length:=fun e=>(f1.own _ e).elim hU0 fun e=>by simp at e;omega
 have q1:=f1.len
 simp only[List.length_append,List.length_cons,List.length_nil]at q1
 repeat' first|((with_reducible first|apply cs|apply ws)<;>intro h<;>try simp only[h])|simp only[↓wBA,tXc,convA,seval,wH,hla,e1,b2,y2]
 all_goals refine ret_st ?_ (by first|exact Nat.le_refl _|(simp only[List.length_set,List.length_append];omega)|omega)
 all_goals simp only[resA.eq_1,resL.eq_1,resL.eq_2,resV.eq_1,resV.eq_2,↓wBA,tXc,convA,seval,wH,b2,y2]
 exact⟨rfl,U1,P1,(a1.fr.trans f1).setN (Nat.le_refl _) _,h1.set hU1 _,k1⟩
theorem axpage {k:Nat}{b':List Nat}(hk:bs[k]? =some b')(hbig:b'.headD 0<16777216)(hl:bs.length≤1000000):
 ACalls Tryz.prog 27 [.agg (ixC b root c bs),intV .i64 (k:Nat)] σ fun r σ'=>Ap σ σ'∧r=intV .i64 (b'.headD 0:Nat):=by
 have hkl:=(List.getElem?_eq_some_iff.1 hk).1
 have hw:=wI k (by omega)
 have hg:=dirR_succ (root:=root) (c:=c) hk
 have hrl:=dirR_len (root:=root) (c:=c) (bs:=bs)
 have hif:(((k+1:Nat):Int)<((dirR root c bs).length:Int))=True:=eq_true (by rw[hrl];omega)
 have h0:=nnI (k+1)
 refine acalls_of cx_ok dr_ok Tryz.func27 (by kernel_rfl) rfl (nt:=11) (rs:=[.tmp 4]) rfl rfl ?_
 repeat' first|((with_reducible first|apply cs|apply ws)<;>intro h<;>try simp only[h])|simp only[↓wBA,tXc,convA,seval,wH,ixC,hw,hg,hif,h0]|((with_reducible show ACalls _ _ _ _ _);refine (axnum _ hbig _).eq ?_)
 all_goals refine ret_st ?_ (by first|exact Nat.le_refl _|(simp only[List.length_set,List.length_append];omega)|omega)
 all_goals simp only[resA.eq_1,resL.eq_1,resL.eq_2,resV.eq_1,resV.eq_2,↓wBA,tXc,convA,seval,wH]
 exact Ap.app _ _
theorem conv_str (r:List UInt8):convB cx 23 9 (.p (.sl 1 (encB r)))=some (.p (.v (.string ⟨r.toArray⟩))):=by
 unfold convB
 rw[ck_23,ck_9]
 simp only[ck_5]
 simp only[elemsA,bytesOf_enc];rfl
theorem sl_four {e:HEn}:sliceA cx 23 (.p (.sl 1 (encB (encX e)))) (some (.p (.v (.int .i64 4)))) none=some (.p (.sl 1 (encB e.k))):=by
 have hl:(encB (encX e)).length=e.k.length+4:=by simp[encB,encX]
 unfold sliceA
 rw[ck_23]
 simp only[elemsA,boundA,intA]
 rw[if_pos (⟨trivial,by omega,by rw[hl];omega,Int.le_refl _⟩:True∧(0:Int)≤4∧(4:Int)≤((encB (encX e)).length:Int)∧((encB (encX e)).length:Int)≤((encB (encX e)).length:Int))]
 rw[Int.toNat_natCast,List.take_length]
 rfl
theorem str_same (a:List UInt8):binStr .eql ⟨a.toArray⟩ ⟨a.toArray⟩=some (.bool true):=by simp[binStr]
theorem str_not {a b:List UInt8}(h:a≠b):binStr .eql ⟨a.toArray⟩ ⟨b.toArray⟩=some (.bool false):=by simp[binStr,h]
theorem Bt.big2 (h:Bt σ b p dd l kh U P v){ns:List Nat}(hh:Heap v T P.pages ns):ns.length≤7000∧ns.headD 0<16777216:=by
 have h1:=hh.len
 have h2:=h.big
 refine⟨by omega,?_⟩
 cases ns with
 |nil=>simp
 |cons a r=>have:=(hh.tk a (by simp)).2.1;simp;omega
theorem axfind {e:HEn}{x:PV}(h:Bt σ b p dd l kh U P v)(hx:Ix v T P.pages root bs E c)(hb:Bud P 1)(hl:bs.length≤1000000)(he:e.Ok)(hxk:BX x e.k):
 ACalls Tryz.prog 42 [.agg (ixC b root c bs),.p x,.agg [intV .i64 (e.p:Nat),intV .i64 (e.s:Nat)]] σ fun r σ'=>(∃ U' P',Fr σ σ' U U'∧Bt σ' b p dd l kh U' P' v∧Kp P P' 0)∧
  ((e∈E∧∃ n k b',bs[bkE bs.length e]? =some b'∧n∈b'∧HRec v b' n k=some (encX e)∧r= .tup [.agg [intV .i64 (n:Nat),intV .i64 (k:Nat)],boolV true,intV .i64 0])∨(e∉E∧r= .tup [.agg [intV .i64 0,intV .i64 0],boolV false,intV .i64 0])):=by
 have hlt:=h.lt
 obtain⟨b',hb'⟩:=hx.bkt e
 have hH:=hx.bk b' (List.mem_of_getElem? hb')
 obtain⟨hbl,hbh⟩:=h.big2 hH
 have hrl:=dirR_len (root:=root) (c:=c) (bs:=bs)
 have hn1:=hx.n1
 have hla:lenA cx 63 (.p (.sl 3 (dirR root c bs)))=some (bs.length+1):=by
  unfold lenA
  rw[ck_63]
  simp[elemsA,hrl]
 have hw1:IntKind.i64.wrap (((bs.length+1:Nat):Int) - 1)=((bs.length:Nat):Int):=by rw[wrap_i64 (by omega) (by omega)];omega
 have hkl:e.k.length≤140737488351232:=by have:=he.1;omega
 have hcs:=conv_str (encX e)
 refine acalls_of cx_ok dr_ok Tryz.func42 (by kernel_rfl) rfl (nt:=46) (rs:=[.cell 6 45,.tmp 7,.tmp 8]) rfl rfl ?_
 repeat' first|((with_reducible first|apply cs|apply ws|apply wd|apply wu)<;>intro h<;>try simp only[h])|simp only[↓wBA,tXc,convA,seval,pl42_2Xc,wH,ixC]|(with_reducible refine dQ pl42_2Xc 16 (some 19) ?_)
 refine (axentry he hxk _).mono ?_
 rintro _ s1 ⟨a1,rfl⟩
 have a0:Ap σ (σ++[some (Ob.row 2 [[AV.mp b 2 0 0,AV.p (PV.sl 3 (dirR root c bs))]])]++[some (Ob.row 2 [[AV.p (PV.v (Value.int IntKind.i64 (e.p:Nat))),AV.p (PV.v (Value.int IntKind.i64 (e.s:Nat)))]])]++[some (Ob.row 2 [[AV.p (PV.v (Value.int IntKind.i64 0)),AV.p (PV.v (Value.int IntKind.i64 0))]])]):=((Ap.app _ _).more _).more _
 obtain⟨S0,hS0⟩:∃ S0,S0=σ++[some (Ob.row 2 [[AV.mp b 2 0 0,AV.p (PV.sl 3 (dirR root c bs))]])]++[some (Ob.row 2 [[AV.p (PV.v (Value.int IntKind.i64 (e.p:Nat))),AV.p (PV.v (Value.int IntKind.i64 (e.s:Nat)))]])]++[some (Ob.row 2 [[AV.p (PV.v (Value.int IntKind.i64 0)),AV.p (PV.v (Value.int IntKind.i64 0))]])]:=⟨_,rfl⟩
 have g0:S0[σ.length]? =some (some (Ob.row 2 [[AV.mp b 2 0 0,AV.p (PV.sl 3 (dirR root c bs))]])):=by rw[hS0];simp
 have g2:S0[σ.length+2]? =some (some (Ob.row 2 [[AV.p (PV.v (Value.int IntKind.i64 0)),AV.p (PV.v (Value.int IntKind.i64 0))]])):=by rw[hS0];simp
 have l0:S0.length=σ.length+3:=by rw[hS0];simp
 rw[← hS0]at a0 a1
 have m0:=a1.get g0
 have m2:=a1.get g2
 have y0:=at_lt m0
 have y2:=at_lt m2
 have a01:=a0.trans a1
 have l1:=a1.len
 repeat' first|((with_reducible first|apply cs|apply ws|apply wd|apply wu)<;>intro h<;>try simp only[h])|simp only[↓wBA,tXc,convA,seval,pl42_2Xc,wH,hcs,m0,y0,hla,hw1]|((with_reducible show ACalls _ _ _ _ _);refine (axbucket e.k hkl x hxk bs.length hn1 hl _).eq ?_)|(with_reducible refine dQ pl42_2Xc 16 (some 19) ?_)
 refine (axpage hb' hbh hl).mono ?_
 rintro _ s2 ⟨a2,rfl⟩
 have a2':=a2.unmask m0
 have l2:=a2.len
 simp only[List.length_set]at l2
 have z2:σ.length<s2.length:=by omega
 have hm:(s1.set σ.length none)[σ.length]? =some none:=by rw[List.getElem?_set_self y0]
 repeat' first|((with_reducible first|apply cs|apply ws|apply wd|apply wu)<;>intro h<;>try simp only[h])|simp only[↓wBA,tXc,convA,seval,pl42_2Xc,wH,m0,z2,hm,List.set_set]|(with_reducible refine dQ pl42_2Xc 16 (some 19) ?_)
 obtain⟨S2,hS2⟩:∃ S,S=s2.set σ.length (some (Ob.row 2 [[AV.mp b 2 0 0,AV.p (PV.sl 3 (dirR root c bs))]])):=⟨_,rfl⟩
 rw[← hS2]at a2' ⊢
 have a02:=a01.trans a2'
 have hfst:b'[0]? =some (b'.headD 0):=by
  cases b' with
  |nil=>exact absurd rfl hH.ne
  |cons a r=>rfl
 refine (ascan (h.ap a02) hH hfst hb hbl).mono ?_
 rintro _ s3 ⟨rfl,U3,P3,f3,h3,k3⟩
 have f03:=a02.fr.trans f3
 have n2:=f3.get (a2'.get m2) (fun e=>by have:=hlt _ e;omega)
 have l2':=a2'.len
 have l3:=f3.len
 have z3:=at_lt n2
 have hU3:¬ U3 (σ.length+2):=fun e=>(f3.own _ e).elim (fun e=>by have:=hlt _ e;omega) fun e=>by omega
 obtain⟨L,hL⟩:∃ L,L=entH v b':=⟨_,rfl⟩
 rw[← hL]
 obtain⟨y,hy,hy1,hy2⟩:=lsV_p 3 (L.map entR)
 have hly:lenA cx 63 (.p y)=some L.length:=by rw[len_p ck_63 hy1 hy2,List.length_map]
 have hLl:L.length≤900000:=by have:=entH_len v b';rw[← hL]at this;omega
 rw[hy]
 repeat' first|((with_reducible first|apply cs|apply ws|apply wd|apply wu)<;>intro h<;>try simp only[h])|simp only[↓wBA,tXc,convA,seval,pl42_2Xc,wH,hly]|(with_reducible refine dQ pl42_2Xc 16 (some 19) ?_)
 refine awp_loopS (X:={ i:Nat // i≤L.length }) (fun i=>L.length - i.1) (fun i=>[(34,intV .i64 (i.1:Nat))]) [7,8,13,35,36,37,38,39,40,41,42,43,44,45,46] (fun i s=>Ap s3 s∧∀ j r,j<i.1→L[j]? =some r→r.2.2≠encX e) (⟨0,by omega⟩) ?_ ?_ ?_ ?_
 ·simp only[wHl,wHf]
 ·exact⟨Ap.refl _,fun j r hj=>absurd hj (Nat.not_lt_zero _)⟩
 ·rintro _ _ ⟨h,_⟩;exact h.len
 ·intro w J s hI
  simp only[wHl]
  obtain⟨i,hi⟩:=w
  obtain⟨aq,hno⟩:=hI
  dsimp only at*
  have lq:=aq.len
  have hi0:=nnI i
  have hwi:=wI i (by omega)
  have o2:=aq.get n2
  have w2:=at_lt o2
  by_cases hlt':i<L.length
  ·have e1:=dT (i:=i) (n:=L.length) hlt'
   obtain⟨⟨n,k,rec⟩,hr⟩:∃ r,L[i]? =some r:=⟨L[i],by simp⟩
   obtain rfl:y= .sl 3 (L.map entR):=hy1 (fun e=>by rw[List.map_eq_nil_iff]at e;rw[e]at hlt';simp at hlt')
   have hg:(L.map entR)[i]? =some [.v (.int .i64 (n:Nat)),.v (.int .i64 (k:Nat)),.sl 1 (encB rec)]:=by rw[List.getElem?_map,hr];rfl
   have hif:((i:Int)<((L.map entR).length:Int))=True:=eq_true (by rw[List.length_map];omega)
   have hif':((i:Int)<(L.length:Int))=True:=eq_true (by omega)
   have hcr:=conv_str rec
   by_cases hq:rec=encX e
   ·have hse:=str_same (encX e)
    rw[hq]at hcr hg
    repeat' first|((with_reducible first|apply cs|apply ws|apply wd|apply wu)<;>intro h<;>try simp only[h])|simp only[↓wBA,tXc,convA,seval,pl42_2Xc,wH,wHl,e1,hg,hif,hif',hi0,hcr,hse,o2,w2]|(with_reducible refine dQ pl42_2Xc 16 (some 19) ?_)
    all_goals refine ret_st ?_ (by first|exact Nat.le_refl _|(simp only[List.length_set,List.length_append];omega)|omega)
    all_goals simp only[resA.eq_1,resL.eq_1,resL.eq_2,resV.eq_1,resV.eq_2,↓wBA,tXc,convA,seval,wH,wHl,o2,w2]
    have hmem:(n,k,rec)∈entH v b':=by rw[← hL];exact List.mem_of_getElem? hr
    have hrec:=(mem_entH hH n k rec).1 hmem
    rw[hq]at hrec
    refine⟨⟨U3,P3,((f03.trans aq.fr).setN (by omega) _).app _,((h3.ap aq).set hU3 _).ap (Ap.app _ _),k3⟩,.inl ⟨(hx.mem he hb').1 ?_,n,k,b',hb',?_,hrec,rfl⟩⟩
    ·unfold recH;rw[← hq];exact List.mem_map.2 ⟨_,hmem,rfl⟩
    ·unfold HRec at hrec
     split at hrec
     ·assumption
     ·cases hrec
   ·have hse:=str_not hq
    repeat' first|((with_reducible first|apply cs|apply ws|apply wd|apply wu)<;>intro h<;>try simp only[h])|simp only[↓wBA,tXc,convA,seval,pl42_2Xc,wH,wHl,e1,hg,hif,hif',hi0,hcr,hse,o2,w2,hwi]|(with_reducible refine dQ pl42_2Xc 16 (some 19) ?_)
    refine⟨⟨i+1,by omega⟩,by show L.length - (i+1)<L.length - i;omega,⟨aq.more _,fun j r hj hjr=> ?_⟩,by simp only[wHl,wHf]⟩
    by_cases hji:j=i
    ·subst hji;rw[hr]at hjr;simp only[Option.some.injEq]at hjr;subst hjr;exact hq
    ·have hj':j<i+1:=hj
     exact hno j r (by omega) hjr
  ·obtain rfl:i=L.length:=by omega
   have e1:=dF (i:=L.length) (n:=L.length) hlt'
   repeat' first|((with_reducible first|apply cs|apply ws|apply wd|apply wu)<;>intro h<;>try simp only[h])|simp only[↓wBA,tXc,convA,seval,pl42_2Xc,wH,wHl,e1,o2,w2]|(with_reducible refine dQ pl42_2Xc 16 (some 19) ?_)
   all_goals refine ret_st ?_ (by first|exact Nat.le_refl _|(simp only[List.length_set,List.length_append];omega)|omega)
   all_goals simp only[resA.eq_1,resL.eq_1,resL.eq_2,resV.eq_1,resV.eq_2,↓wBA,tXc,convA,seval,wH,wHl,o2,w2]
   refine⟨⟨U3,P3,f03.trans aq.fr,h3.ap aq,k3⟩,.inr fun hm=> ?_⟩
   have h5:=(hx.mem he hb').2 hm
   unfold recH at h5
   rw[← hL]at h5
   obtain⟨r,hr1,hr2⟩:=List.mem_map.1 h5
   obtain⟨j,hj⟩:=List.getElem?_of_mem hr1
   exact hno j r (List.getElem?_eq_some_iff.1 hj).1 hj hr2
theorem axcount {by_:Int}{c':Nat}(h:Bt σ b p dd l kh U P v)(hx:Ix v T P.pages root bs E c)(hb:Bud P 1)(hc:c<16777216)(hc':(c:Int)+by_=c')(hc2:c'<16777216):
 ACalls Tryz.prog 44 [.agg (ixC b root c bs),intV .i64 by_] σ fun r σ'=>r= .tup [intV .i64 (c':Nat),intV .i64 0]∧∃ U' P',Fr σ σ' U U'∧Bt σ' b p dd l kh U' P' (upV v root (setL (v root) 1 (num3 c')).1)∧Kp P P' 0∧Ix (upV v root (setL (v root) 1 (num3 c')).1) T P.pages root bs E c':=by
 have hlt:=h.lt
 have hg:=dirR_zero (root:=root) (c:=c) (bs:=bs)
 have hrl:=dirR_len (root:=root) (c:=c) (bs:=bs)
 have hif:((0:Int)<((dirR root c bs).length:Int))=True:=eq_true (by rw[hrl];omega)
 have hw:IntKind.i64.wrap ((c:Int)+by_)=((c':Nat):Int):=by rw[hc',wrap_i64 (by omega) (by omega)]
 have hp:=dir_set (c':=c') hx.dir
 have hgt:getL (v root) ((1:Nat):Int)=some (num3 c):=hx.dir.at 0
 refine acalls_of cx_ok dr_ok Tryz.func44 (by kernel_rfl) rfl (nt:=24) (rs:=[.tmp 4,.tmp 5]) rfl rfl ?_
 repeat' first|((with_reducible first|apply cs|apply ws|apply wd|apply wu)<;>intro h<;>try simp only[h])|simp only[↓wBA,tXc,convA,seval,pl44_2Xc,wH,ixC,hg,hif,hw]|((with_reducible show ACalls _ _ _ _ _);refine (axnum _ hc _).eq ?_)|(with_reducible refine dQ pl44_2Xc 13 (some 15) ?_)
 refine (axbytes c' hc2 _).mono ?_
 rintro _ s1 ⟨a1,rfl⟩
 obtain⟨S1,hS1⟩:∃ S,S=s1.set σ.length (some (Ob.row 2 [[AV.mp b 2 0 0,AV.p (PV.sl 3 (dirR root c bs))]])):=⟨_,rfl⟩
 have l1:=a1.len
 simp only[List.length_append,List.length_cons,List.length_nil]at l1
 have am:Ap σ S1:=by
  have:(σ++[some (Ob.row 2 [[AV.mp b 2 0 0,AV.p (PV.sl 3 (dirR root c bs))]])]).set σ.length none=σ++[none]:=by simp
  have:=Ap.unmask (t:=σ.length) (x:=some (Ob.row 2 [[AV.mp b 2 0 0,AV.p (PV.sl 3 (dirR root c bs))]])) (σ:=σ++[some (Ob.row 2 [[AV.mp b 2 0 0,AV.p (PV.sl 3 (dirR root c bs))]])]) (by rw[this];exact a1) (by simp)
  rw[hS1]
  exact (Ap.app _ _).trans this
 repeat' first|((with_reducible first|apply cs|apply ws|apply wd|apply wu)<;>intro h<;>try simp only[h])|simp only[↓wBA,tXc,convA,seval,pl44_2Xc,wH,l1]|(with_reducible refine dQ pl44_2Xc 13 (some 15) ?_)
 rw[← hS1]
 have hs:=ahset (k:=1) (x:=.sl 1 (encB (num3 c'))) (r':=num3 c') (h.ap am) hx.rt.1 hx.rt.2.1 hx.dir hb hgt (Nat.le_refl _) (.inl rfl) (Nat.le_refl _)
 simp only[show ((1:Nat):Int)=1 from rfl]at hs
 refine hs.mono ?_
 rintro _ s2 ⟨rfl,U2,P2,f2,h2,k2⟩
 have l2:=f2.len
 have lm:=am.len
 repeat' first|((with_reducible first|apply cs|apply ws|apply wd|apply wu)<;>intro h<;>try simp only[h])|simp only[↓wBA,tXc,convA,seval,pl44_2Xc,wH]|(with_reducible refine dQ pl44_2Xc 13 (some 15) ?_)
 all_goals refine ret_st ?_ (by first|exact Nat.le_refl _|(simp only[List.length_set,List.length_append];omega)|omega)
 all_goals simp only[resA.eq_1,resL.eq_1,resL.eq_2,resV.eq_1,resV.eq_2,↓wBA,tXc,convA,seval,wH]
 exact⟨U2,P2,am.fr.trans f2,h2,k2,hx.count hp⟩
theorem axbuckets (h:Bt σ b p dd l kh U P v)(hx:Ix v T P.pages root bs E c)(hb:Bud P 1)(hl:bs.length≤1000000):
 ACalls Tryz.prog 11 [.mp b 2 0 0,intV .i64 (root:Nat)] σ fun r σ'=>r= .tup [intV .i64 (bs.length:Nat),intV .i64 0]∧∃ U' P',Fr σ σ' U U'∧Bt σ' b p dd l kh U' P' v∧Kp P P' 0:=by
 have hlt:=h.lt
 have hrl:=dirR_len (root:=root) (c:=c) (bs:=bs)
 have hla:lenA cx 63 (.p (.sl 3 (dirR root c bs)))=some (bs.length+1):=by
  unfold lenA
  rw[ck_63]
  simp[elemsA,hrl]
 have hw1:IntKind.i64.wrap (((bs.length+1:Nat):Int) - 1)=((bs.length:Nat):Int):=by rw[wrap_i64 (by omega) (by omega)];omega
 refine acalls_of cx_ok dr_ok Tryz.func11 (by kernel_rfl) rfl (nt:=21) (rs:=[.tmp 4,.tmp 5]) rfl rfl ?_
 repeat' first|((with_reducible first|apply cs|apply ws)<;>intro h<;>try simp only[h])|simp only[↓wBA,tXc,convA,seval,wH]
 refine (axopen h hx hb).mono ?_
 rintro _ s1 ⟨rfl,U1,P1,f1,h1,k1⟩
 have l1:=f1.len
 repeat' first|((with_reducible first|apply cs|apply ws)<;>intro h<;>try simp only[h])|simp only[↓wBA,tXc,convA,seval,wH,ixC,hla,hw1]
 all_goals refine ret_st ?_ (by first|exact Nat.le_refl _|(simp only[List.length_set,List.length_append];omega)|omega)
 all_goals simp only[resA.eq_1,resL.eq_1,resL.eq_2,resV.eq_1,resV.eq_2,↓wBA,tXc,convA,seval,wH]
 exact⟨U1,P1,f1.app _,h1.ap (Ap.app _ _),k1⟩
end
end Go.Proofs.YthhbnenaihkggaaGreat
namespace Go.Proofs.YthhbnenaihkggaaGreat
open Go.RowKit Go.Sort
def encR2 (x:Nat×Nat):List Value:=[.int .i64 (x.1:Nat),.int .i64 (x.2:Nat)]
def cfR (x y:Nat×Nat):Int:=if Lib.compareInt x.1 y.1=0 then Lib.compareInt x.2 y.2 else Lib.compareInt x.1 y.1
theorem cmpNaN (x:Int)(w:World):Calls Tryz.prog 63 #[.int .i64 x] w fun e w'=>e= .returned (.bool false)∧w'=w:=by
 go_enter Tryz.func63,Tryz.ntmps63
 go_wp2
 go_ret
 exact⟨by simp,rfl⟩
theorem cmpInt (x y:Int)(w:World):Calls Tryz.prog 32 #[.int .i64 x,.int .i64 y] w fun e w'=>e= .returned (.int .i64 (Lib.compareInt x y))∧w'=w:=by
 go_enter Tryz.func32,Tryz.ntmps32
 go_wp2_with (go_at_call 63;refine (cmpNaN _ _).mono ?_;rintro e w' ⟨rfl,hw⟩;rw[hw])
 all_goals (go_ret;refine⟨?_,rfl⟩;unfold Lib.compareInt;(repeat' split)<;>first|rfl|(exfalso;omega))
theorem cmpOr (x y:Int)(b c:Nat)(w:World)(h0:w.cell? ⟨b,0,none⟩=some (.int .i64 x))(h1:w.cell? ⟨b,1,none⟩=some (.int .i64 y)):
 Calls Tryz.prog 31 #[.slice (some ⟨b,0,none⟩) (2:Nat) c] w fun e w'=>e= .returned (.int .i64 (if x=0 then y else x))∧w'=w:=by
 have H0:=Lib.hid h0;have H1:=Lib.hid h1;clear h0 h1
 go_enter Tryz.func31,Tryz.ntmps31
 go_wp2
 go_loop [8] (fun i=>∃ k:Nat,k≤2∧i= .int .i64 k∧(1≤k→x=0)∧(2≤k→y=0)) (fun i=>2 - (intOf i).toNat)
 case atStart=>exact⟨0,by omega,rfl,by omega,by omega⟩
 case round=>
  obtain⟨k,hk,rfl,hx,hy⟩:=hrel
  have hk3:k=0∨k=1∨k=2:=by omega
  rcases hk3 with rfl|rfl|rfl
  ·have g0:w.cell? ⟨b,0+0,none⟩=some (.int .i64 x):=H0.out
   by_cases hz:x=0
   ·subst hz
    go_wp2
    go_round
    case rel=>exact⟨1,by omega,by go_num,fun _=>trivial,by omega⟩
    case measure=>simp[intOf]
   ·go_wp2
    go_ret
    exact⟨by simp[hz],rfl⟩
  ·obtain rfl:x=0:=hx (by omega)
   have g1:w.cell? ⟨b,0+1,none⟩=some (.int .i64 y):=H1.out
   by_cases hz:y=0
   ·subst hz
    go_wp2
    go_round
    case rel=>exact⟨2,by omega,by go_num,fun _=>trivial,fun _=>trivial⟩
    case measure=>simp[intOf]
   ·go_wp2
    go_ret
    exact⟨by simp,rfl⟩
  ·obtain rfl:x=0:=hx (by omega)
   obtain rfl:y=0:=hy (by omega)
   go_wp2
   go_ret
   exact⟨by simp,rfl⟩
theorem findCmp (x y:Nat×Nat)(W:World):Calls Tryz.prog 30 (#[.agg (encR2 x).toArray,.agg (encR2 y).toArray]++ #[]) W fun e w'=>e= .returned (.int .i64 (cfR x y))∧∃ q os',w'=grow (W.drewN q) os':=by
 unfold cfR encR2
 generalize (x.1:Int)=x1
 generalize (x.2:Int)=x2
 generalize (y.1:Int)=y1
 generalize (y.2:Int)=y2
 show Calls Tryz.prog 30 #[.agg #[.int .i64 x1,.int .i64 x2],.agg #[.int .i64 y1,.int .i64 y2]] W _
 have hc1:=fun W'=>cmpInt x1 y1 W'
 have hc2:=fun W'=>cmpInt x2 y2 W'
 generalize Lib.compareInt x1 y1=r1 at*
 generalize Lib.compareInt x2 y2=r2 at*
 generalize hz:(if r1=0 then r2 else r1)=z
 go_enter Tryz.func30,Tryz.ntmps30
 go_wp2
 obtain⟨A,hA⟩:∃ A,A=Obj.cells #[.int .i64 x1,.int .i64 x2] 45:=⟨_,rfl⟩
 obtain⟨B,hB⟩:∃ B,B=Obj.cells #[.int .i64 y1,.int .i64 y2] 45:=⟨_,rfl⟩
 obtain⟨W3,hW3⟩:∃ W3,W3=((W.alloc A).alloc B).drew:=⟨_,rfl⟩
 have g0:W3.heap[W.heap.size]? =some A:=by rw[hW3];exact heap_alloc2_old W A B
 have g1:W3.heap[W.heap.size+1]? =some B:=by rw[hW3];exact heap_alloc2_new W A B
 have c0:W3.cell? ⟨W.heap.size,0,none⟩=some (.int .i64 x1):=by rw[hA]at g0;unfold World.cell?;simp only[g0];rfl
 have c1:W3.cell? ⟨W.heap.size,1,none⟩=some (.int .i64 x2):=by rw[hA]at g0;unfold World.cell?;simp only[g0];rfl
 have c2:W3.cell? ⟨W.heap.size+1,0,none⟩=some (.int .i64 y1):=by rw[hB]at g1;unfold World.cell?;simp only[g1];rfl
 have c3:W3.cell? ⟨W.heap.size+1,1,none⟩=some (.int .i64 y2):=by rw[hB]at g1;unfold World.cell?;simp only[g1];rfl
 rw[← hA,←hB]
 refine wp_region_still_tail 10 (by kernel_rfl) (by kernel_rfl) ?_
 simp only[List.take_succ_cons,List.take_zero,List.drop_succ_cons,List.drop_zero]
 change wpStill _ _ ((W.alloc A).alloc B).drew (fun a'=>wpList _ _ _ _ a' ((W.alloc A).alloc B).drew) _ _
 rw[← hW3]
 have H3:=Lib.hid hW3
 clear hW3 g0 g1
 repeat still_step
 still_call (hc1 _)
 repeat still_step
 still_call (hc2 _)
 refine wpStill_nil ?_
 obtain⟨C,hC⟩:∃ C,C=Obj.cells #[.int .i64 r1,.int .i64 r2] 3:=⟨_,rfl⟩
 have hn:(W3.alloc C).heap[W3.heap.size]? =some (.cells #[.int .i64 r1,.int .i64 r2] 3 (0,0)):=by rw[hC];exact heap_alloc_new _ _
 have hor:=cmpOr r1 r2 W3.heap.size 2 (W3.alloc C) (by unfold World.cell?;simp only[hn];rfl) (by unfold World.cell?;simp only[hn];rfl)
 rw[hC,hz]at hor
 clear hz
 clear hn
 go_wp2_with (go_at_call 31;refine hor.mono ?_;rintro e w' ⟨rfl,rfl⟩)
 go_ret
 refine⟨rfl,1,#[A,B,C],?_⟩
 rw[H3.out,←hC]
 show (((W.drew).alloc A).alloc B).alloc C=_
 rw[alloc_eq_grow,alloc_eq_grow,alloc_eq_grow,grow_grow,grow_grow]
 rfl
end Go.Proofs.YthhbnenaihkggaaGreat
/-
 DERIVED: THE SHELF's CONTRACTS AT THIS DUMP,IN PLAIN WORDS (tools/lay-plain.mjs out of 'TryzShelf.lean',which tools/lay-shelf.mjs wrote): THE SAME DECLARATIONS UNDER THE SAME NAMES: 'import','namespace','open','def','theorem' AND NOTHING ELSE: no command of the shelf's: FOR A HAND-IN. Each laying: the table of numbers ('.._ren') and one theorem,a field a fact of the dump's own or the kernel's comparison;each contract: ONE APPLICATION.
-/
namespace Go.Proofs
open Go.Shelf
def Tryz.sortRid_ren:Go.Shelf.Ren:=⟨fun|6=>29|15=>62|14=>61|28=>98|29=>99|20=>90|21=>91|22=>92|23=>93|24=>94|25=>95|26=>96|27=>97|46=>119|47=>120|48=>121|49=>122|50=>123|57=>128|n=>n,fun|22=>28|24=>45|25=>77|3=>3|39=>51|0=>0|53=>164|55=>125|4=>4|46=>167|45=>166|50=>171|5=>5|9=>9|66=>190|70=>194|76=>204|77=>205|n=>n,fun|n=>n⟩
theorem Tryz.sortRid:Go.Proofs.SlLaysF0.n6 Tryz.prog Tryz.sortRid_ren:={
 mixed:=by kernel_rfl
 f6:=⟨Tryz.f29.name,by decide,Tryz.func29.trans (congrArg some (by kernel_rfl))⟩
 f14:=⟨Tryz.f61.name,by decide,Tryz.func61.trans (congrArg some (by kernel_rfl))⟩
 f15:=Tryz.func62.trans (congrArg some (by kernel_rfl))
 f20:=⟨Tryz.f90.name,by decide,Tryz.func90.trans (congrArg some (by kernel_rfl))⟩
 f21:=⟨Tryz.f91.name,by decide,Tryz.func91.trans (congrArg some (by kernel_rfl))⟩
 f22:=⟨Tryz.f92.name,by decide,Tryz.func92.trans (congrArg some (by kernel_rfl))⟩
 f23:=⟨Tryz.f93.name,by decide,Tryz.func93.trans (congrArg some (by kernel_rfl))⟩
 f24:=⟨Tryz.f94.name,by decide,Tryz.func94.trans (congrArg some (by kernel_rfl))⟩
 f25:=⟨Tryz.f95.name,by decide,Tryz.func95.trans (congrArg some (by kernel_rfl))⟩
 f26:=⟨Tryz.f96.name,by decide,Tryz.func96.trans (congrArg some (by kernel_rfl))⟩
 f27:=⟨Tryz.f97.name,by decide,Tryz.func97.trans (congrArg some (by kernel_rfl))⟩
 f28:=Tryz.func98.trans (congrArg some (by kernel_rfl))
 f29:=Tryz.func99.trans (congrArg some (by kernel_rfl))
 f46:=⟨Tryz.f119.name,by decide,Tryz.func119.trans (congrArg some (by kernel_rfl))⟩
 f47:=Tryz.func120.trans (congrArg some (by kernel_rfl))
 f48:=Tryz.func121.trans (congrArg some (by kernel_rfl))
 f49:=⟨Tryz.f122.name,by decide,Tryz.func122.trans (congrArg some (by kernel_rfl))⟩
 f50:=⟨Tryz.f123.name,by decide,Tryz.func123.trans (congrArg some (by kernel_rfl))⟩
 f57:=⟨Tryz.f128.name,by decide,Tryz.func128.trans (congrArg some (by kernel_rfl))⟩
 t0:=Tryz.underlying0
 a0:=Tryz.isAgg0
 z0:=Tryz.sizeOf0
 v0:=Tryz.zeroValue0
 t3:=Tryz.underlying3
 a3:=Tryz.isAgg3
 z3:=Tryz.sizeOf3
 v3:=Tryz.zeroValue3
 t4:=Tryz.underlying4
 a4:=Tryz.isAgg4
 z4:=Tryz.sizeOf4
 v4:=Tryz.zeroValue4
 t5:=Tryz.underlying5
 a5:=Tryz.isAgg5
 z5:=Tryz.sizeOf5
 v5:=Tryz.zeroValue5
 t9:=Tryz.underlying9
 a9:=Tryz.isAgg9
 z9:=Tryz.sizeOf9
 v9:=Tryz.zeroValue9
 t22:=Tryz.underlying28
 a22:=Tryz.isAgg28
 z22:=Tryz.sizeOf28
 v22:=Tryz.zeroValue28
 t25:=Tryz.underlying77
 a25:=Tryz.isAgg77
 z25:=Tryz.sizeOf77
 v25:=Tryz.zeroValue77
 t39:=Tryz.underlying51
 a39:=Tryz.isAgg51
 z39:=Tryz.sizeOf51
 v39:=Tryz.zeroValue51
 t45:=Tryz.underlying166
 a45:=Tryz.isAgg166
 z45:=Tryz.sizeOf166
 v45:=Tryz.zeroValue166
 t46:=Tryz.underlying167
 a46:=Tryz.isAgg167
 z46:=Tryz.sizeOf167
 v46:=Tryz.zeroValue167
 t50:=Tryz.underlying171
 a50:=Tryz.isAgg171
 z50:=Tryz.sizeOf171
 v50:=Tryz.zeroValue171
 t53:=Tryz.underlying164
 a53:=Tryz.isAgg164
 z53:=Tryz.sizeOf164
 v53:=Tryz.zeroValue164
 t55:=Tryz.underlying125
 a55:=Tryz.isAgg125
 z55:=Tryz.sizeOf125
 v55:=Tryz.zeroValue125
 t66:=Tryz.underlying190
 a66:=Tryz.isAgg190
 z66:=Tryz.sizeOf190
 v66:=Tryz.zeroValue190
 t70:=Tryz.underlying194
 a70:=Tryz.isAgg194
 z70:=Tryz.sizeOf194
 v70:=Tryz.zeroValue194
 t76:=Tryz.underlying204
 a76:=Tryz.isAgg204
 z76:=Tryz.sizeOf204
 v76:=Tryz.zeroValue204
 t77:=Tryz.underlying205
 a77:=Tryz.isAgg205
 z77:=Tryz.sizeOf205
 v77:=Tryz.zeroValue205 }
end Go.Proofs
