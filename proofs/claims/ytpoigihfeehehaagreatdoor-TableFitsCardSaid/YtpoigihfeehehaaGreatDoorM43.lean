/- Values' keys. table.Scan. slices.Concat of bytes; slices.ContainsFunc of values; a table's tools. slices.ContainsFunc of values; a table's tools; numbers that may be. Hash indexes: what is in them. -/
import Derived.Test.YtpoigihfeehehaaGreatDoorM41
import Derived.Test.YtpoigihfeehehaaGreatDoorM22
import Derived.Test.YtpoigihfeehehaaGreatDoorM42
import Derived.Lib.ReplaceLaws
import Derived.Test.YtpoigihfeehehaaGreatDoorM34
set_option linter.all false
set_option maxRecDepth 100000
set_option maxHeartbeats 32000000
namespace Go.Proofs.YtpoigihfeehehaaGreatDoor
open Go.RowKit
open List (getElem?_map length_append length_cons length_map length_nil map_append map_cons map_nil mem_cons nodup_cons take_length)
def tTk:=aa wX <| aa wbu <| aa T2 <| aa T3 <| aa T4 <| aa T5 <| aa T9 <| aa T24 <| aa T70 T140
theorem Yf {M:A2}:∀ {us vs:List Value},Af M (us.map fun u=>AV.p (.v u)) vs→vs=us
 |[],vs,h=>by simpa [Af]using h
 |u::us,vs,h=>by
  simp only[map_cons,Af]at h
  obtain⟨v,vs',rfl,h1,h2⟩:=h
  rw[(Cg h1).2,Yf h2]
theorem Aa.libT {P:Program}{f:FuncId}{us:List Value}{v:Value}{σ:St}(he:Enters P f)(hp:plain v=true)
 (h:∀ M:A2,Glob M σ→Calls P f us.toArray M.w fun e w'=>e= .returned v∧Below M.w.heap.size M.w w'):Aa P f (us.map fun u=>.p (.v u)) σ fun r s=>s=σ∧r= .p (.v v):=by
 refine⟨he,fun M vs hM hv=> ?_⟩
 obtain rfl:=Yf hv
 refine (h M hM.glob).mono ?_
 rintro e w' ⟨rfl,hb⟩
 have hE:Ext M σ { M with w:=w' } σ:=
  ⟨fun _ _ h h'=>⟨h,h',rfl⟩,C9 (fun _=>rfl) (fun _=>rfl) (fun _=>rfl),fun _ _ h=>h,fun b o ho=>World.cell?_of_block (hb.block b (hM.imm b o ho)),fun b hl _=>⟨hb.block b hl,fun _ h=>h⟩,fun t ob b h1 h2=>.inr ⟨t,ob,h1,h2⟩,hb.size,hb.os,hb.tape,hb.output⟩
 exact⟨v,.p (.v v),σ,{ M with w:=w' },rfl,rfl,hE,⟨fun t ob ht=>(hM.obj t ob ht).later hE.later rfl rfl rfl fun b h=>⟨hb.block b (hM.lt t b h),fun _ h=>h⟩,hM.inj,hM.fresh,fun t b h=>Nat.lt_of_lt_of_le (hM.lt t b h) hb.size,fun b o h=>Nat.lt_of_lt_of_le (hM.imm b o h) hb.size,hM.glob.ext hE⟩,Bd hp,Nat.le_refl _,rfl,rfl⟩
def Aqx (s a b:ByteArray):ByteArray:=⟨(Lib.replaceAll s.data.toList a.data.toList b.data.toList).toArray⟩
theorem Amf {M:A2}{σ:St}(h:Glob M σ):∃ m T,M.w.heap[0]? =some (.cells #[.int .i64 m] T (0,0)):=by
 obtain⟨cs,T,h1,⟨m,rfl⟩,_⟩:=h (0,fun cs=>∃ m,cs= #[.int .i64 m]) (List.mem_append.2 (.inr (List.mem_singleton.2 rfl)))
 exact⟨m,T,h1⟩
theorem A1o (s a b:ByteArray)(hs:s.size<4294967281)(h1:1≤a.size)(hlen:s.size+Lib.countB s a*b.size≤140737488355328)(σ:St):Aa Tryz.prog 136 [.p (.v (.string s)),.p (.v (.string a)),.p (.v (.string b))] σ fun r s'=>s'=σ∧r= .p (.v (.string (Aqx s a b))):=by
 refine Aa.libT (us:=[.string s,.string a,.string b]) ⟨_,Tryz.func136,by kernel_rfl,rfl⟩ rfl fun M hG=> ?_
 obtain⟨m,T,g1⟩:=Amf hG
 exact Tryz.strings_ReplaceAll s a b m M.w hs (by rw[cell_of_row _ _ _ _ _ _ g1];rfl) h1 hlen
theorem A1p {a:Nat}(h:a<18446744073709551616):a ^^^ 9223372036854775808=(a+9223372036854775808) % 18446744073709551616:=by
 have e1:(9223372036854775808:Nat)=2 ^ 63:=by decide
 have e2:(18446744073709551616:Nat)=2 ^ 64:=by decide
 rw[e1,e2,Nat.add_comm]
 rw[e2]at h
 refine Nat.eq_of_testBit_eq fun j=> ?_
 rw[Nat.testBit_xor,Nat.testBit_mod_two_pow,Nat.testBit_two_pow]
 rcases Nat.lt_trichotomy j 63 with hj|hj|hj
 ·rw[Nat.testBit_two_pow_add_gt hj,decide_eq_false (by omega:¬ 63=j),decide_eq_true (by omega:j<64),Bool.xor_false,Bool.true_and]
 ·subst hj
  rw[Nat.testBit_two_pow_add_eq,decide_eq_true rfl,decide_eq_true (by omega:63<64),Bool.xor_true,Bool.true_and]
 ·rw[Nat.testBit_lt_two_pow (x:=a) (i:=j) (Nat.lt_of_lt_of_le h (Nat.pow_le_pow_right (by omega) (by omega))),decide_eq_false (by omega:¬ 63=j),decide_eq_false (by omega:¬ j<64),Bool.xor_false,Bool.false_and]
theorem Aqy (n:Int):IntKind.u64.wrap ((BitVec.ofInt IntKind.u64.bits (IntKind.u64.wrap n) ^^^ BitVec.ofInt IntKind.u64.bits 9223372036854775808).toNat:Int)=(((IntKind.u64.wrap (n+9223372036854775808)).toNat:Nat):Int):=by
 obtain⟨g0,g1⟩:=Ql n
 obtain⟨g2,g3⟩:=Ql (n+9223372036854775808)
 obtain⟨a,ha⟩:∃ a:Nat,IntKind.u64.wrap n=(a:Int):=⟨(IntKind.u64.wrap n).toNat,by omega⟩
 have hx:(BitVec.ofInt IntKind.u64.bits (IntKind.u64.wrap n) ^^^ BitVec.ofInt IntKind.u64.bits 9223372036854775808).toNat=(a+9223372036854775808) % 18446744073709551616:=by
  rw[ha,BitVec.toNat_xor,←A1p (by omega)]
  congr 1
  ·rw[BitVec.ofInt_natCast,BitVec.toNat_ofNat];exact Nat.mod_eq_of_lt (by show a<18446744073709551616;omega)
 rw[hx]
 rw[IntKind.wrap_u64]at*
 rw[IntKind.wrap_u64]
 omega
theorem Aqz (u:Nat)(hu:u<18446744073709551616)(σ:St):Aa Tryz.prog 75 [.p (.v (.int .u64 (u:Nat))),Az true] σ fun r s=>s=σ∧r= .p (.sl 1 (Ay (beB u))):=by
 refine Aa.pureF (R:=fun r=>r= .p (.sl 1 (Ay (beB u)))) ?_ rfl σ
 obtain⟨f,hf⟩:∃ f:Nat→UInt8,f=fun j=>UInt8.ofNat (u / 256 ^ (7 - j) % 256):=⟨_,rfl⟩
 have hbe:beB u=(List.range 8).map f:=by rw[hf];rfl
 rw[hbe]
 refine Ab Am Ao Tryz.func75 (by kernel_rfl) rfl (nt:=21) (rs:=[.tmp 4]) rfl rfl ?_
 repeat' simp only[↓wBA,tTk,seval]
 refine As (X:={ q:Nat×AV // q.1≤8 }) (fun q=>8 - q.1.1) (fun q=>[(5,q.1.2),(7,Ad .i64 (q.1.1:Nat))]) [6,8,9,10,11,12,13,14,15,16,17,18,19,20,21] (fun q s=>It s q.1.2 5 1 (Ay ((List.range q.1.1).map f))) (⟨(0,.p (.v (.slice none 0 0))),by simp⟩) ?_ ?_ ?_ ?_
 ·simp only[wHl,wHf]
 ·exact .inl ⟨rfl,rfl⟩
 ·rintro _ _ _;exact Nat.zero_le _
 ·intro q J s hI
  simp only[wHl]
  obtain⟨⟨i,av⟩,hi⟩:=q
  dsimp only at*
  by_cases hlt:i<8
  ·have hdec:decide ((i:Int)<8)=true:=by simp;omega
   have hwi:=wI i (by omega)
   have hw7:IntKind.i64.wrap (7 - (i:Int))=((7 - i:Nat):Int):=by rw[wrap_i64 (by omega) (by omega)];omega
   have hm:IntKind.i64.wrap (8*((7 - i:Nat):Int))=((8*(7 - i):Nat):Int):=by rw[wrap_i64 (by omega) (by omega)];simp
   have hmn:min (8*(7 - i)) IntKind.u64.bits=8*(7 - i):=Nat.min_eq_left (by show 8*(7 - i)≤64;omega)
   have hng:(((8*(7 - i):Nat):Int)<0)=False:=eq_false (by omega)
   have hby:=G4 u (7 - i) hu (by omega)
   rw[show UInt8.ofNat (u / 256 ^ (7 - i) % 256)=f i by rw[hf]]at hby
   have how3:=hI.same (q':=s++[some (.right 5 1)]) fun q hq=>List.getElem?_append_left (hI.lt hq)
   have hll:(Ay ((List.range i).map f)).length=i:=by rw[Ca];simp
   obtain⟨av3,s3,h1,h2,h3,h4,h5⟩:=E7 (q:=s++[some (.right 5 1)]) (y:=.own s.length 1 [[.v (.int .u8 ((f i).toNat:Int))]]) (m:=[[.v (.int .u8 ((f i).toNat:Int))]]) En how3 rfl (by simp) (by rw[hll];simp;omega) (by rw[hll];simp;omega)
   simp only[length_append,length_cons,length_nil,Nat.zero_add]at h1 h3 h4 h5
   repeat' simp only[↓wBA,tTk,Bl,seval,wH,wHl,hdec,hw7,hm,hmn,hng,hby,h1,hwi]
   refine⟨⟨(i+1,av3),by show i+1≤8;omega⟩,by show 8 - (i+1)<8 - i;omega,?_,by simp only[]⟩
   dsimp only
   rw[List.range_succ,map_append,Ay,map_append]
   exact h2
  ·obtain rfl:i=8:=by omega
   have hdec:decide (((8:Nat):Int)<8)=false:=by decide
   repeat' simp only[↓wBA,tTk,seval,wHl]
   all_goals refine rtS ?_
   all_goals simp only[A1.eq_1,Ak.eq_1,Ak.eq_2,Ax.eq_1,tTk,seval]
   rcases hI with⟨_,h⟩|⟨t,rfl,_,_⟩
   ·have:=congrArg List.length h
    rw[Ca]at this;simp at this
   ·exact⟨rfl,rfl⟩
def cxZ:Ctx:={ cx with muts:=[] }
theorem Aot:cxZ.ok Tryz.prog:=Am
theorem Awt:Hq Tryz.prog (E4 Tryz.prog cxZ):=J9 Aot (by kernel_rfl)
theorem A1q (t:TypeId):cxZ.kind t=cx.kind t:=nr rfl
theorem tyZ (t:TypeId):cxZ.ty t=cx.ty t:=nr rfl
theorem A1r:cxZ.muts=[]:=nr rfl
theorem app8:∀ (a b:List UInt8),Ay a++Ay b=Ay (a++b):=fun a b=>by simp[Ay]
theorem A1s {v:Va}(hv:okW v)(σ:St):Aa Tryz.prog 85 [vaA v] σ fun r s=>s=σ∧r= .tup [.p (.sl 1 (Ay (Gk v))),Ad .i64 0]:=by
 have hok:=aokV v
 rw[hv.1]at hok
 obtain⟨k,n,x⟩:=v
 have hk:=hv.kinds
 simp only at hk
 have hkl:=Uy hv
 obtain⟨K,hK⟩:∃ K,K=Gk (k,n,x):=⟨_,rfl⟩
 rw[← hK]at hkl ⊢
 refine Aa.pureF (R:=fun r=>r= .tup [.p (.sl 1 (Ay K)),Ad .i64 0]) ?_ rfl σ
 have hw8:IntKind.u8.wrap k=((UInt8.ofNat k.toNat).toNat:Int):=by
  rw[Eb (by omega),Of (by omega) (by omega)];omega
 rcases hk with rfl|rfl|rfl|rfl
 ·skip
  refine Ab Am Ao Tryz.func85 (by kernel_rfl) rfl (nt:=41) (rs:=[.tmp 2,.tmp 3]) rfl rfl ?_
  repeat' first|simp only[↓wBA,tTk,Bl,seval,vaA,vaC]|((with_reducible show Aa _ _ _ _ _);refine (hok _).eq ?_)
  all_goals refine rtS ?_
  all_goals simp only[A1.eq_1,Ak.eq_1,Ak.eq_2,Ax.eq_1,tTk,seval]
  rw[hK,hw8]
  exact⟨rfl,rfl⟩
 ·have hxk:=Aqy n
  obtain⟨u,hu⟩:∃ u,u=(IntKind.u64.wrap (n+9223372036854775808)).toNat:=⟨_,rfl⟩
  have hub:u<18446744073709551616:=by have:=Ql (n+9223372036854775808);omega
  rw[← hu]at hxk
  have hbl:(beB u).length=8:=rfl
  have hbl':(Ay (beB u)).length=8:=by rw[Ca];rfl
  refine Ab Am Ao Tryz.func85 (by kernel_rfl) rfl (nt:=41) (rs:=[.tmp 2,.tmp 3]) rfl rfl ?_
  repeat' first|simp only[↓wBA,tTk,Bl,seval,vaA,vaC,hxk,A5,E1,hbl']|((with_reducible show Aa _ _ _ _ _);first|refine (hok _).eq ?_|refine (Aqz u hub _).eq ?_)
  all_goals refine rtS ?_
  all_goals simp only[A1.eq_1,Ak.eq_1,Ak.eq_2,Ax.eq_1,tTk,seval]
  rw[hK,hw8]
  show _∧_=AV.tup [.p (.sl 1 (Ay (_::beB (IntKind.u64.wrap (n+9223372036854775808)).toNat))),_]
  rw[← hu]
  exact⟨rfl,rfl⟩
 ·obtain⟨hn,_⟩:=hv.two
  have hwn:IntKind.u8.wrap n=((UInt8.ofNat n.toNat).toNat:Int):=by
   rw[Eb (by omega),Of (by omega) (by omega)];omega
  refine Ab Aot Awt Tryz.func85 (by kernel_rfl) rfl (nt:=41) (rs:=[.tmp 2,.tmp 3]) rfl rfl ?_
  repeat' first|simp only[↓wBA,tTk,Bl,seval,A1q,tyZ,A1r,vaA,vaC,A5,E1]|((with_reducible show Aa _ _ _ _ _);refine (hok _).eq ?_)
  all_goals refine rtS ?_
  all_goals simp only[A1.eq_1,Ak.eq_1,Ak.eq_2,Ax.eq_1,tTk,seval]
  rw[hK,hw8,hwn]
  exact⟨rfl,rfl⟩
 ·obtain⟨rfl,hx⟩:=hv.three
  have hct:Lib.countB x ⟨#[0]⟩≤x.size:=Lib.countB_le ⟨#[0]⟩ (by decide) _ x (Nat.le_refl _)
  have hrp:=A1o x ⟨#[0]⟩ ⟨#[0,255]⟩ (by omega) (by decide) (by show x.size+_*2≤_;omega)
  have hre:Aqx x ⟨#[0]⟩ ⟨#[0,255]⟩=⟨(esc x.data.toList).toArray⟩:=by unfold Aqx;rw[← Aqs]
  rw[hre]at hrp
  have hel:=Aab x.data.toList
  have h2:x.data.toList.length=x.size:=by rw[Array.length_toList];rfl
  obtain⟨E,hE⟩:∃ E,E=esc x.data.toList:=⟨_,rfl⟩
  rw[← hE]at hrp hel
  have hbp:Hb ⟨E.toArray⟩=Ay E:=rfl
  have hEl:=Ca E
  have q1:=tL (n:=1+E.length) (by omega)
  have q2:=lM (n:=1+E.length) (by omega)
  have q3:=tL (n:=E.length+1) (by omega)
  have q4:=lM (n:=E.length+1) (by omega)
  have q5:=tL (n:=E.length+1+2) (by omega)
  have q6:=lM (n:=E.length+1+2) (by omega)
  have q7:=tL (n:=E.length+3) (by omega)
  have q8:=lM (n:=E.length+3) (by omega)
  refine Ab Am Ao Tryz.func85 (by kernel_rfl) rfl (nt:=41) (rs:=[.tmp 2,.tmp 3]) rfl rfl ?_
  repeat' first|simp only[↓wBA,tTk,Bl,seval,wH,vaA,vaC,L8,Af1,ne_eq,not_false_eq_true,A5,E1,hbp,hEl,q1,q2,q5,q6,Nat.mul_one]|((with_reducible show Aa _ _ _ _ _);first|refine (hok _).eq ?_|refine (hrp _).eq ?_)
  all_goals refine rtS ?_
  all_goals simp only[A1.eq_1,Ak.eq_1,Ak.eq_2,Ax.eq_1,tTk,seval]
  rw[hK,hw8]
  show _∧_=AV.tup [.p (.sl 1 (Ay (_::(esc x.data.toList++[0,0])))),_]
  rw[← hE]
  refine⟨rfl,?_⟩
  show AV.tup [.p (.sl 1 _),_]=_
  simp[Ay,Bq,Tv]
theorem Aac {v:Va}(hv:okW v)(σ:St):Aa Tryz.prog 44 [vaA v] σ fun r s=>s=σ∧r= .p (.sl 1 (Ay (Gk v))):=by
 refine Aa.pureF (R:=fun r=>r= .p (.sl 1 (Ay (Gk v)))) ?_ rfl σ
 have hk:=A1s hv
 generalize Gk v=K at*
 obtain⟨k,n,x⟩:=v
 simp only[vaA,vaC,map_cons,map_nil]at hk ⊢
 refine Ab Am Ao Tryz.func44 (by kernel_rfl) rfl (nt:=10) (rs:=[.tmp 2]) rfl rfl ?_
 repeat' first|simp only[↓wBA,tTk,seval]|((with_reducible show Aa _ _ _ _ _);refine (hk _).eq ?_)
 all_goals refine rtS ?_
 all_goals simp only[A1.eq_1,Ak.eq_1,Ak.eq_2,Ax.eq_1,tTk,seval]
 exact⟨rfl,rfl⟩
def tTg:=aa wX <| aa wbu <| aa T3 <| aa T29 <| aa T38 <| aa T46 <| aa T56 <| aa T62 <| aa T116 T120
def Ver.Ok (x:Ver):Prop:=x.2.1.1≤16777216∧x.2.1.2≤16777216∧(∀ v∈x.2.2,okW v)∧x.2.2≠[]∧x.2.2.length≤255
def verR (x:Ver):Nat×Nat×List UInt8:=(x.1.1,x.1.2,rcB x.2.1.1 x.2.1.2 x.2.2)
def ltV (x y:Ver):Prop:=x.1.1<y.1.1∨(x.1.1=y.1.1∧x.1.2<y.1.2)
structure TabH (v:Nat→List UInt8)(T:Nat→Bool)(np:Nat)(ns:List Nat)(E:List Ver):Prop where
 heap:Nl v T np ns
 pm:(Jt v ns).Perm (E.map verR)
 ok:∀ x∈E,x.Ok
 st:E.Pairwise ltV
theorem Acu {α β:Type}{f:α→β}{l m:List β}(h:l.Perm m):∀ E:List α,m=E.map f→∃ D:List α,D.Perm E∧l=D.map f:=by
 induction h with
 |nil=>intro E hE;exact⟨E,List.Perm.refl _,hE⟩
 |cons x _ ih=>
  intro E hE
  cases E with
  |nil=>simp at hE
  |cons e E=>
   simp only[map_cons,List.cons.injEq]at hE
   obtain⟨D,h1,h2⟩:=ih E hE.2
   exact⟨e::D,h1.cons e,by rw[map_cons,h2,hE.1]⟩
 |swap x y l=>
  intro E hE
  match E,hE with
  |a::b::E,hE=>
   simp only[map_cons,List.cons.injEq]at hE
   exact⟨b::a::E,List.Perm.swap a b E,by rw[map_cons,map_cons,hE.1,hE.2.1,hE.2.2]⟩
 |trans _ _ ih1 ih2=>
  intro E hE
  obtain⟨D,h1,h2⟩:=ih2 E hE
  obtain⟨C,h3,h4⟩:=ih1 D h2
  exact⟨C,h3.trans h1,h4⟩
theorem Yg:∀ {E L:List Ver},L.Perm E→L.Pairwise leV→E.Pairwise ltV→L=E
 |[],L,hp,_,_=>hp.eq_nil
 |e::E,[],hp,_,_=>absurd hp.symm.eq_nil (by simp)
 |e::E,x::L,hp,hl,he=>by
  obtain⟨l1,l2⟩:=List.pairwise_cons.1 hl
  obtain⟨e1,e2⟩:=List.pairwise_cons.1 he
  have hxe:x=e:=by
   by_cases h:x=e
   ·exact h
   have h1:x∈e::E:=hp.mem_iff.1 (by simp)
   have h2:e∈x::L:=hp.mem_iff.2 (by simp)
   rcases mem_cons.1 h1 with h1|h1
   ·exact absurd h1 h
   rcases mem_cons.1 h2 with h2|h2
   ·exact h2.symm
   have a:=l1 e h2
   have b:=e1 x h1
   unfold leV at a
   unfold ltV at b
   omega
  subst hxe
  rw[Yg (hp.cons_inv) l2 e2]
def cxD:Ctx:={ cx with muts:=[56*100000+40,56*100000+104] }
theorem Aju:cxD.ok Tryz.prog:=Am
theorem Aou:Hq Tryz.prog (E4 Tryz.prog cxD):=J9 Aju (by kernel_rfl)
theorem Q9 (t:TypeId):cxD.kind t=cx.kind t:=nr rfl
theorem tyD (t:TypeId):cxD.ty t=cx.ty t:=nr rfl
theorem Awu:cxD.muts=[56*100000+40,56*100000+104]:=nr rfl
theorem lenD {T:TypeId}{x:AV}:Bf cxD T x=Bf cx T x:=nr rfl
theorem Awv (e:Nat)(ls:List (List PV)):∃ y,lsV e ls= .p y∧(ls≠[]→y= .sl e ls)∧(ls=[]→y= .v (.slice none 0 0)):=by
 unfold lsV
 by_cases h:ls=[]
 ·exact⟨_,if_pos h,fun h'=>absurd h h',fun _=>rfl⟩
 ·exact⟨_,if_neg h,fun _=>rfl,fun h'=>absurd h' h⟩
theorem Aww {T E:TypeId}{es eb e:Nat}{ez:List Value}{ls:List (List PV)}{y:PV}(hk:cx.kind T=some (.slice E es eb ez))(h1:ls≠[]→y= .sl e ls)(h2:ls=[]→y= .v (.slice none 0 0)):Bf cx T (.p y)=some ls.length:=by
 by_cases h:ls=[]
 ·rw[h2 h,h];unfold Bf;rw[hk];rfl
 ·rw[h1 h];unfold Bf;rw[hk];simp[Br]
theorem Qc.lfT {q:St}{av:AV}{e:Nat}{ls:List (List AV)}(h:Qc q av e ls):leaf av=true∧Ct av=some [av]:=by
 rcases h with⟨rfl,_⟩|⟨t,rfl,_⟩<;>exact⟨rfl,rfl⟩
abbrev tabA (x0 x1 x2:PV)(first:Nat)(x4:PV):AV:=.agg [.p x0,.p x1,.p x2,.p (.v (.int .i64 (first:Nat))),.p x4]
section
variable {σ:St} {b p dd l kh first:Nat} {U:Nat→Prop} {P:Al} {v:Nat→List UInt8} {T:Nat→Bool} {ns:List Nat} {E:List Ver}
theorem Awx (h:Bt σ b p dd l kh U P v)(hh:TabH v T P.pages ns E)(hf:ns[0]? =some first)(hb:Bud P 1)(hns:ns.length≤7000)(x0 x1 x2 x4:PV):
 Aa Tryz.prog 16 [.mp b 2 0 0,tabA x0 x1 x2 first x4] σ fun r σ'=>∃ (av:AV) (U':Nat→Prop) (P':Al),r= .tup [av,Ad .i64 0]∧Qc σ' av 5 (E.map E0)∧Fr σ σ' U U'∧Bt σ' b p dd l kh U' P' v∧Kp P P' 0∧∀ t,N8 av=some t→σ.length≤t∧¬ U' t:=by
 have hlt:=h.lt
 obtain⟨D,hDp,hDl⟩:=Acu hh.pm E rfl
 have hDlen:=hDp.length_eq
 have hEl:(Jt v ns).length=D.length:=by rw[hDl,length_map]
 have hDb:D.length≤900000:=by have:=Up v ns;omega
 have hDok:∀ x∈D,x.Ok:=fun x hx=>hh.ok x (hDp.mem_iff.1 hx)
 refine Ab Aju Aou Tryz.func16 (by kernel_rfl) rfl (nt:=42) (rs:=[.tmp 4,.tmp 5]) rfl rfl ?_
 repeat' simp only[↓wBA,tTg,seval,wH,Q9,tyD]
 have aS:=Ap.app σ [some (Ob.row 5 [[AV.p x0,AV.p x1,AV.p x2,AV.p (.v (.int .i64 (first:Nat))),AV.p x4]])]
 refine (A08 (h.ap aS) hh.heap hf hb hns).mono ?_
 rintro _ s3 ⟨rfl,U3,P3,f3,h3,k3⟩
 have l3:=f3.len
 simp only[length_append,length_cons,length_nil]at l3
 have hlt3:=h3.lt
 rw[hDl]
 obtain⟨y,hy,hy1,hy2⟩:=Awv 3 ((D.map verR).map Yu)
 have hly:Bf cx 116 (.p y)=some D.length:=by rw[Aww Kn hy1 hy2,length_map,length_map]
 rw[hy]
 repeat' simp only[↓wBA,tTg,seval,lenD,hly]
 refine As (X:={ q:Nat×AV // q.1≤D.length }) (fun q=>D.length - q.1.1) (fun q=>[(8,q.1.2),(25,Ad .i64 (q.1.1:Nat))]) [4,5,10,11,12,26,27,28,29,30,31,32,33,34,35,36,37,38,39,40,41] (fun q s=>Ap s3 s∧Qc s q.1.2 5 ((D.take q.1.1).map E0)∧∀ t,N8 q.1.2=some t→s3.length≤t) (⟨(0,.p (.v (.slice none 0 0))),by simp⟩) ?_ ?_ ?_ ?_
 ·simp only[wHl,wHf]
 ·exact⟨Ap.refl _,.inl ⟨rfl,rfl⟩,fun t ht=>by cases ht⟩
 ·rintro _ _ ⟨h,_⟩;exact h.len
 ·intro w J s hI
  simp only[wHl]
  obtain⟨⟨i,av⟩,hi⟩:=w
  obtain⟨aq,hmu,hms⟩:=hI
  dsimp only at*
  have lq:=aq.len
  have hi0:=nnI i
  have hwi:=wI i (by omega)
  have hav:=hmu.lfT
  by_cases hlt':i<D.length
  ·have e1:=dT (i:=i) (n:=D.length) hlt'
   obtain⟨x,hx⟩:∃ x,D[i]? =some x:=⟨D[i],by simp⟩
   obtain⟨o1,o2,o3,o4,o5⟩:=hDok x (List.mem_of_getElem? hx)
   have htk:D.take (i+1)=D.take i++[x]:=by rw[List.take_add_one,hx];rfl
   obtain⟨⟨xp,xs⟩,⟨xm,xt⟩,xl⟩:=x
   simp only at o1 o2 o3 o4 o5
   have hver:=Acs (p:=xp) (s:=xs) (m:=xm) (t:=xt) (by omega) (by omega) o3 o4 o5
   obtain rfl:y= .sl 3 ((D.map verR).map Yu):=hy1 (fun e=>by rw[List.map_eq_nil_iff,List.map_eq_nil_iff]at e;rw[e]at hlt';simp at hlt')
   have hg:((D.map verR).map Yu)[i]? =some [.v (.int .i64 (xp:Nat)),.v (.int .i64 (xs:Nat)),.sl 1 (Ay (rcB xm xt xl))]:=by rw[getElem?_map,getElem?_map,hx];rfl
   have hif:((i:Int)<(((D.map verR).map Yu).length:Int))=True:=eq_true (by rw[length_map,length_map];omega)
   have hif':((i:Int)<(D.length:Int))=True:=eq_true (by omega)
   obtain⟨rr,hrr⟩:∃ rr,rr=Ay (rcB xm xt xl):=⟨_,rfl⟩
   rw[← hrr]at hg hver
   repeat' first|simp only[↓wBA,tTg,seval,wH,wHl,Q9,tyD,Awu,hg,hif',hi0]|((with_reducible show Aa _ _ _ _ _);refine (hver _).eq ?_)
   have hll:((D.take i).map E0).length=i:=by rw[length_map,List.length_take];omega
   obtain⟨Q,hQ⟩:∃ Q,Q=s++[some (Ob.row 3 [[AV.p (.v (.int .i64 (xp:Nat))),AV.p (.v (.int .i64 (xs:Nat))),AV.p (.sl 1 rr)]])]++[some (Ob.row 5 [[AV.p (.v (.int .i64 (xp:Nat))),AV.p (.v (.int .i64 (xs:Nat))),AV.p (.v (.int .i64 (xm:Nat))),AV.p (.v (.int .i64 (xt:Nat))),AV.p (.sl 3 (enV xl))]])]++[some (Ob.right 62 5)]:=⟨_,rfl⟩
   have aQ:Ap s Q:=by rw[hQ];exact ((Ap.app _ _).more _).more _
   have lQ:Q.length=s.length+3:=by rw[hQ];simp
   obtain⟨q',hq',r1,r2,r3⟩:=Ais (C:=cxD) (q:=Q) (y:=.own (s.length+2) 5 [verC ((xp,xs),(xm,xt),xl)]) (m:=[E0 ((xp,xs),(xm,xt),xl)]) ((Q9 _).trans Pm) (hmu.same fun t ht=>by obtain⟨τ,hτ⟩:=aQ;rw[hτ];exact List.getElem?_append_left (hmu.lt ht)) rfl (by simp) (by rw[hll];simp only[length_cons,length_nil];omega) (by rw[hll];simp only[length_cons,length_nil];omega)
   rw[lQ,hll]at hq'
   rw[lQ]at r1 r2 r3
   rw[hQ]at hq'
   simp only[verC]at hq'
   repeat' simp only[↓wBA,tTg,seval,wHl,hq',hwi]
   have hml:(((D.take (i+1)).map E0)).length=i+1:=by rw[length_map,List.length_take];omega
   refine⟨⟨(i+1,.ms (s.length+3) 5 0 (i+1)),by show i+1≤D.length;omega⟩,by show D.length - (i+1)<D.length - i;omega,⟨Ap.of_keep (by omega) fun t ht=> ?_,.inr ⟨s.length+3,by rw[hml],by rw[htk];simp,by rw[htk,map_append];exact r1⟩,fun t ht=> ?_⟩,by simp only[]⟩
   ·rw[r3 t (by omega) (fun e=>by have:=hms t e;omega)]
    have a1:=aq.trans aQ
    obtain⟨τ,hτ⟩:=a1
    rw[hτ,List.getElem?_append_left ht]
   ·simp only[N8,Option.some.injEq]at ht;omega
  ·obtain rfl:i=D.length:=by omega
   have e1:=dF (i:=D.length) (n:=D.length) hlt'
   rw[take_length]at hmu
   repeat' simp only[↓wBA,tTg,seval,wHl,e1]
   refine (Ajt (by omega) hmu).mono ?_
   rintro _ s5 ⟨rfl,L',hp,hs,hm5,l5,hk5⟩
   obtain rfl:=Yg (hp.trans hDp) hs hh.st
   repeat' simp only[↓wBA,tTg,seval,wHl]
   all_goals refine rtS ?_
   all_goals simp only[A1.eq_1,Ak.eq_1,Ak.eq_2,Ax.eq_1,tTg,seval]
   have a35:Ap s3 s5:=Ap.of_keep (by omega) fun t ht=>by
    rw[hk5 t fun e=>by have:=hms t e;omega]
    obtain⟨τ,hτ⟩:=aq
    rw[hτ,List.getElem?_append_left ht]
   exact⟨_,U3,P3,rfl,hm5,(aS.fr.trans f3).trans a35.fr,h3.ap a35,k3,fun t ht=>⟨by have:=hms t ht;omega,fun hu=>by have:=hlt3 t hu;have:=hms t ht;omega⟩⟩
end
def tTh:=aa wX <| aa wbu <| aa T3 <| aa T9 <| aa T70 T81
theorem Awy (n:Nat)(h0:0<n)(h1:n≤1000000)(σ:St):Aa Tryz.prog 78 [.p (.v (.slice none 0 0)),Ad .i64 (n:Int)] σ fun r s=>r= .own σ.length 1 []∧s=σ++[some (.right 5 0)]:=by
 refine Ab Am Ao Tryz.func78 (by kernel_rfl) rfl (nt:=25) (rs:=[.tmp 4]) rfl rfl ?_
 have hc:=fun (σ:St) tk=>Anc (C:=cx) (σ:=σ) (pos:=some 10) (tk:=tk) En
 have hc2:=fun (σ:St) tk=>Anc (C:=cx) (σ:=σ) (pos:=some 19) (tk:=tk) En
 simp only[Sw]at hc hc2
 have d1:decide ((n:Int)<0)=false:=decide_eq_false (by omega)
 have d2:decide ((n:Int)>0)=true:=decide_eq_true (by omega)
 have w1:IntKind.i64.wrap (n:Int)=(n:Int):=wrap_i64 (by omega) (by omega)
 have hz:=fun (σ:St) tk=>Af2 (C:=cx) (σ:=σ) (tk:=tk) (k:=.i64) En ck_3 h0 (by omega) (by unfold maxLen;omega)
 have hs:=fun t=>Af3 (C:=cx) (t:=t) (k:=n) (kk:=.i64) En
 have hsn:Bv cx 70 (.p (.v (.slice none 0 0))) none (some (.p (.v (.int .i64 0))))=some (.p (.v (.slice none 0 0))):=by simp only[Bv,En,Br,Bm,Hk,Sw]
 simp only[Sw]at hz
 have hb:=fun (σ:St) tk x y=>L8 (C:=cx) (σ:=σ) (pos:=some 22) (tk:=tk) (T:=70) (T':=3) (x:=x) (y:=y) rfl (by decide)
 repeat' simp only[↓wBA,tTh,seval,wH,hb,hc,hc2,d1,d2,w1,hz,hs,hsn,wz0,Int.sub_self,Int.sub_zero]
 all_goals refine rtS ?_
 all_goals simp only[A1.eq_1,Ak.eq_1,Ak.eq_2,Ax.eq_1,tTh,seval]
theorem Amg:Ay []=[]:=nr rfl
theorem acat {xs:List (List UInt8)}(h0:0<xs.flatten.length)(h1:xs.flatten.length≤100000)(hxl:xs.length≤1000)(σ:St):
 Aa Tryz.prog 41 [.p (.sl 1 (xs.map fun x=>[.sl 1 (Ay x)]))] σ fun r s=>s=σ∧r= .p (.sl 1 (Ay xs.flatten)):=by
 refine Aa.pureF (R:=fun r=>r= .p (.sl 1 (Ay xs.flatten))) ?_ rfl σ
 have hln:(xs.map fun x=>[PV.sl 1 (Ay x)]).length=xs.length:=length_map ..
 have hsum:∀ i x,xs[i]? =some x→(xs.take (i+1)).flatten=(xs.take i).flatten++x:=fun i x hx=>by
  rw[List.take_add_one,hx];simp
 have hle:∀ i,(xs.take i).flatten.length≤xs.flatten.length:=fun i=>by
  have:=congrArg (fun l=>(List.flatten l).length) (List.take_append_drop i xs)
  simp only[List.flatten_append,length_append]at this
  omega
 have hgr:=Awy xs.flatten.length h0 (by omega)
 refine Ab Am Ao Tryz.func41 (by kernel_rfl) rfl (nt:=35) (rs:=[.tmp 2]) rfl rfl ?_
 repeat' simp only[↓wBA,tTh,seval,hln]
 refine As (X:={ i:Nat // i≤xs.length }) (fun i=>xs.length - i.1) (fun i=>[(3,Ad .i64 ((xs.take i.1).flatten.length:Nat)),(11,Ad .i64 (i.1:Nat))]) [5,12,13,14,15,16,17,18,19,20,21,22] (fun i s=>s=[]) (⟨0,by omega⟩) ?_ ?_ ?_ ?_
 ·simp only[wHl,wHf,List.take_zero,List.flatten_nil,length_nil]
 ·rfl
 ·rintro _ _ _;exact Nat.zero_le _
 ·intro y J s hI
  simp only[wHl]
  subst hI
  obtain⟨i,hi⟩:=y
  dsimp only at*
  have hi0:=nnI i
  have hwi:=wI i (by omega)
  by_cases hlt:i<xs.length
  ·have e1:=dT (i:=i) (n:=xs.length) hlt
   obtain⟨x,hx⟩:∃ x,xs[i]? =some x:=⟨xs[i],by simp⟩
   have hg:(xs.map fun x=>[PV.sl 1 (Ay x)])[i]? =some [.sl 1 (Ay x)]:=by rw[getElem?_map,hx];rfl
   have hif:((i:Int)<(xs.length:Int))=True:=eq_true (by omega)
   have hlx:=H2 x
   have hs:=hsum i x hx
   have hl2:=hle (i+1)
   rw[hs,length_append]at hl2
   have hw:IntKind.i64.wrap (((xs.take i).flatten.length:Int)+(x.length:Int))=(((xs.take (i+1)).flatten.length:Nat):Int):=by rw[hs,length_append,wrap_i64 (by omega) (by omega)];omega
   have hn:decide ((((xs.take (i+1)).flatten.length:Nat):Int)<0)=false:=decide_eq_false (by omega)
   repeat' simp only[↓wBA,tTh,seval,wHl,hi0,hg,hif,hlx,hw,hn,hwi]
   exact⟨⟨i+1,by omega⟩,by show xs.length - (i+1)<xs.length - i;omega,rfl⟩
  ·obtain rfl:i=xs.length:=by omega
   have e1:=dF (i:=xs.length) (n:=xs.length) hlt
   have htl:xs.take xs.length=xs:=take_length
   repeat' simp only[↓wBA,tTh,seval,wHl,e1,htl]
   refine (hgr _).mono ?_
   rintro _ s1 ⟨rfl,rfl⟩
   repeat' simp only[↓wBA,tTh,seval,hln]
   refine As (X:={ i:Nat // i≤xs.length }) (fun i=>xs.length - i.1) (fun i=>[(6,AV.own 0 1 (Ay (xs.take i.1).flatten)),(27,Ad .i64 (i.1:Nat))]) [8,28,29,30,31,32,33,34] (fun i s=>s=[some (.right 5 ((xs.take i.1).flatten.length*1))]) (⟨0,by omega⟩) ?_ ?_ ?_ ?_
   ·simp only[wHl,wHf,List.take_zero,List.flatten_nil,Amg]
   ·rfl
   ·rintro _ _ rfl;exact Nat.le_refl _
   ·intro y J s hI
    simp only[wHl]
    subst hI
    obtain⟨i,hi⟩:=y
    dsimp only at*
    have hi0:=nnI i
    have hwi:=wI i (by omega)
    by_cases hlt:i<xs.length
    ·have e1:=dT (i:=i) (n:=xs.length) hlt
     obtain⟨x,hx⟩:∃ x,xs[i]? =some x:=⟨xs[i],by simp⟩
     have hg:(xs.map fun x=>[PV.sl 1 (Ay x)])[i]? =some [.sl 1 (Ay x)]:=by rw[getElem?_map,hx];rfl
     have hif:((i:Int)<(xs.length:Int))=True:=eq_true (by omega)
     have hs:=hsum i x hx
     have hl2:=hle (i+1)
     rw[hs,length_append]at hl2
     have hap:A5 cx 1 70 (.own 0 1 (Ay (xs.take i).flatten)) (.p (.sl 1 (Ay x))) [some (.right 5 ((xs.take i).flatten.length*1))]=some (.own 0 1 (Ay (xs.take (i+1)).flatten),[some (.right 5 ((xs.take (i+1)).flatten.length*1))]):=by
      unfold A5
      rw[En]
      simp only[Lu,E1,if_true,Ca,List.getElem?_cons_zero,true_and]
      rw[if_pos ⟨by omega,by unfold maxLen;omega⟩,hs,app8]
      simp[Ca]
     repeat' simp only[↓wBA,tTh,seval,wHl,hi0,hg,hif,hap,hwi]
     exact⟨⟨i+1,by omega⟩,by show xs.length - (i+1)<xs.length - i;omega,rfl,rfl⟩
    ·obtain rfl:i=xs.length:=by omega
     have e1:=dF (i:=xs.length) (n:=xs.length) hlt
     have htl:xs.take xs.length=xs:=take_length
     repeat' simp only[↓wBA,tTh,seval,wHl,e1,htl]
     all_goals refine rtS ?_
     all_goals simp only[A1.eq_1,Ak.eq_1,Ak.eq_2,Ax.eq_1,tTh,seval]
     exact⟨rfl,rfl⟩
def tTi:=aa wX <| aa wbu <| aa T3 <| aa T4 <| aa T24 <| aa T35 <| aa T37 <| aa T54 T111
theorem abad (v:Va)(σ:St):Aa Tryz.prog 36 [vaA v] σ fun r s=>s=σ∧r=Az (!okV v):=by
 refine Aa.pureF (R:=fun r=>r=Az (!okV v)) ?_ rfl σ
 have hok:=aokV v
 generalize okV v=q at*
 obtain⟨k,n,x⟩:=v
 simp only[vaA,vaC,map_cons,map_nil]at hok ⊢
 refine Ab Am Ao Tryz.func36 (by kernel_rfl) rfl (nt:=5) (rs:=[.tmp 2]) rfl rfl ?_
 repeat' first|((with_reducible first|apply cs|apply ws)<;>intro h<;>try simp only[h])|simp only[↓wBA,tTi,Bl,seval,wH]|((with_reducible show Aa _ _ _ _ _);refine (hok _).eq ?_)
 all_goals refine rtS ?_
 all_goals simp only[A1.eq_1,Ak.eq_1,Ak.eq_2,Ax.eq_1,Ax.eq_2,↓wBA,tTi,Bl,seval,wH]
 exact⟨rfl,rfl⟩
theorem A1t (l:List Va)(hl:l.length≤4398046511104)(σ:St):Aa Tryz.prog 74 [.p (.sl 3 (enV l)),.fn 36 [] []] σ fun r s=>s=σ∧∃ n:Int,r=Ad .i64 n∧decide (n≥0)= !l.all okV:=by
 refine Aa.pureF (R:=fun r=>∃ n:Int,r=Ad .i64 n∧decide (n≥0)= !l.all okV) ?_ rfl σ
 have hln:=Fb l
 refine Ab Am Ao Tryz.func74 (by kernel_rfl) rfl (nt:=17) (rs:=[.tmp 4]) rfl rfl ?_
 repeat' first|((with_reducible first|apply cs|apply ws)<;>intro h<;>try simp only[h])|simp only[↓wBA,tTi,Bl,seval,wH,hln]
 refine As (X:={ i:Nat // i≤l.length }) (fun i=>l.length - i.1) (fun i=>[(8,Ad .i64 (i.1:Nat))]) [4,5,9,10,11,12,13,14,15,16,17,18] (fun i s=>s=[]∧∀ v∈l.take i.1,okV v=true) (⟨0,by omega⟩) ?_ ?_ ?_ ?_
 ·simp only[wHl,wHf]
 ·exact⟨rfl,by simp⟩
 ·rintro _ _ _;exact Nat.zero_le _
 ·intro y J s hI
  simp only[wHl]
  obtain⟨i,hi⟩:=y
  obtain⟨rfl,hall⟩:=hI
  dsimp only at*
  have hi0:=nnI i
  have hwi:=wI i (by omega)
  by_cases hlt:i<l.length
  ·have e1:=dT (i:=i) (n:=l.length) hlt
   have hif:((i:Int)<(l.length:Int))=True:=eq_true (by omega)
   have hg:=Qj l i hlt
   have htk:l.take (i+1)=l.take i++[l[i]]:=List.take_succ_eq_append_getElem hlt
   have hb:=abad l[i]
   have hmem:l[i]∈l:=List.getElem_mem hlt
   generalize hv:l[i]=v at*
   cases hq:okV v with
   |true=>
    rw[hq]at hb
    obtain⟨k,n,x⟩:=v
    simp only[vaA,vaC,map_cons,map_nil]at hb hg
    repeat' first|((with_reducible first|apply cs|apply ws)<;>intro h<;>try simp only[h])|simp only[↓wBA,tTi,Bl,seval,wH,wHl,hln,e1,hi0,hg,hif,hwi]|((with_reducible show Aa _ _ _ _ _);refine (hb _).eq ?_)
    refine⟨⟨i+1,by omega⟩,by show l.length - (i+1)<l.length - i;omega,fun w hw=> ?_,by simp only[wHl,wHf]⟩
    dsimp only at hw
    rw[htk]at hw
    rcases List.mem_append.1 hw with h|h
    ·exact hall w h
    ·simp only[List.mem_singleton]at h;subst h;exact hq
   |false=>
    rw[hq]at hb
    have hf:l.all okV=false:=by rw[List.all_eq_false];exact⟨_,hmem,by simp[hq]⟩
    obtain⟨k,n,x⟩:=v
    simp only[vaA,vaC,map_cons,map_nil]at hb hg
    repeat' first|((with_reducible first|apply cs|apply ws)<;>intro h<;>try simp only[h])|simp only[↓wBA,tTi,Bl,seval,wH,wHl,hln,e1,hi0,hg,hif,hwi]|((with_reducible show Aa _ _ _ _ _);refine (hb _).eq ?_)
    all_goals refine rtS ?_
    all_goals simp only[A1.eq_1,Ak.eq_1,Ak.eq_2,Ax.eq_1,Ax.eq_2,↓wBA,tTi,Bl,seval,wH]
    exact⟨rfl,i,rfl,by rw[hf];simp⟩
  ·obtain rfl:i=l.length:=by omega
   have e1:=dF (i:=l.length) (n:=l.length) hlt
   rw[take_length]at hall
   have hf:l.all okV=true:=List.all_eq_true.2 hall
   repeat' first|((with_reducible first|apply cs|apply ws)<;>intro h<;>try simp only[h])|simp only[↓wBA,tTi,Bl,seval,wH,wHl,hln,e1]
   all_goals refine rtS ?_
   all_goals simp only[A1.eq_1,Ak.eq_1,Ak.eq_2,Ax.eq_1,Ax.eq_2,↓wBA,tTi,Bl,seval,wH]
   exact⟨rfl,-1,rfl,by rw[hf];rfl⟩
theorem Ajv (l:List Va)(hl:l.length≤4398046511104)(σ:St):Aa Tryz.prog 35 [.p (.sl 3 (enV l)),.fn 36 [] []] σ fun r s=>s=σ∧r=Az (!l.all okV):=by
 refine Aa.pureF (R:=fun r=>r=Az (!l.all okV)) ?_ rfl σ
 refine Ab Am Ao Tryz.func35 (by kernel_rfl) rfl (nt:=7) (rs:=[.tmp 4]) rfl rfl ?_
 repeat' first|((with_reducible first|apply cs|apply ws)<;>intro h<;>try simp only[h])|simp only[↓wBA,tTi,Bl,seval,wH]
 refine (A1t l hl _).mono ?_
 rintro _ s ⟨rfl,n,rfl,hn⟩
 repeat' first|((with_reducible first|apply cs|apply ws)<;>intro h<;>try simp only[h])|simp only[↓wBA,tTi,Bl,seval,wH,hn]
 all_goals refine rtS ?_
 all_goals simp only[A1.eq_1,Ak.eq_1,Ak.eq_2,Ax.eq_1,Ax.eq_2,↓wBA,tTi,Bl,seval,wH]
 exact⟨rfl,rfl⟩
def wiN (n:Int):Bool:=decide (0≤n)&&decide (n≤16777216)
theorem Aad (n:Int)(σ:St):Aa Tryz.prog 38 [Ad .i64 n] σ fun r s=>s=σ∧r=Az (wiN n):=by
 refine Aa.pureF (R:=fun r=>r=Az (wiN n)) ?_ rfl σ
 unfold wiN
 refine Ab Am Ao Tryz.func38 (by kernel_rfl) rfl (nt:=8) (rs:=[.tmp 2]) rfl rfl ?_
 cases h1:decide (0≤n)with
 |true=>
  have h1':decide (n≥0)=true:=h1
  repeat' first|((with_reducible first|apply cs|apply ws)<;>intro h<;>try simp only[h])|simp only[↓wBA,tTi,Bl,seval,wH,h1']
  all_goals refine rtS ?_
  all_goals simp only[A1.eq_1,Ak.eq_1,Ak.eq_2,Ax.eq_1,Ax.eq_2,↓wBA,tTi,Bl,seval,wH]
  exact⟨rfl,rfl⟩
 |false=>
  have h1':decide (n≥0)=false:=h1
  repeat' first|((with_reducible first|apply cs|apply ws)<;>intro h<;>try simp only[h])|simp only[↓wBA,tTi,Bl,seval,wH,h1']
  all_goals refine rtS ?_
  all_goals simp only[A1.eq_1,Ak.eq_1,Ak.eq_2,Ax.eq_1,Ax.eq_2,↓wBA,tTi,Bl,seval,wH]
  exact⟨rfl,rfl⟩
abbrev Idx:=ByteArray×ByteArray×Nat×Bool
def Gm (x:Idx):List PV:=[.v (.string x.1),.v (.string x.2.1),.v (.int .i64 (x.2.2.1:Nat)),.v (.bool x.2.2.2)]
def idxA (x:Idx):AV:=.agg ((Gm x).map .p)
def Aq0:AV:=.agg [.fn 82 [] [],.fn 83 [] [],.fn 84 [] []]
theorem aof (x:Idx)(hx:x.2.2.2=false)(σ:St):Aa Tryz.prog 43 [idxA x] σ fun r s=>s=σ∧r=Aq0:=by
 refine Aa.pureF (R:=fun r=>r=Aq0) ?_ rfl σ
 obtain⟨a,b,c,d⟩:=x
 simp only at hx
 subst hx
 simp only[idxA,Gm,map_cons,map_nil]
 refine Ab Am Ao Tryz.func43 (by kernel_rfl) rfl (nt:=6) (rs:=[.cell 2 111]) rfl rfl ?_
 repeat' first|((with_reducible first|apply cs|apply ws)<;>intro h<;>try simp only[h])|simp only[↓wBA,tTi,Bl,seval,wH]
 all_goals refine rtS ?_
 all_goals simp only[A1.eq_1,Ak.eq_1,Ak.eq_2,Ax.eq_1,Ax.eq_2,↓wBA,tTi,Bl,seval,wH]
 exact⟨rfl,rfl⟩
structure HEn where
 k:List UInt8
 p:Nat
 s:Nat
def HEn.Ok (e:HEn):Prop:=e.k.length≤140∧e.p<65536∧e.s<65536
theorem Qo {α β:Type}(f:α→β):∀ l:List α,(l.map f).Nodup→l.Nodup
 |[],_=>List.nodup_nil
 |a::l,h=>by
  obtain⟨h1,h2⟩:=nodup_cons.1 h
  exact nodup_cons.2 ⟨fun hm=>h1 (List.mem_map.2 ⟨a,hm,rfl⟩),Qo f l h2⟩
section
variable {v v':Nat→List UInt8} {T T':Nat→Bool} {np n k:Nat} {ns ns':List Nat} {r:List UInt8}
theorem Ajw (h:Nl v T np ns):(Jt v ns).Nodup:=Qo _ _ (Sn v ns h.nd)
theorem Amh (h:Nl v T np ns)(h':Nl v' T' np ns')(old:Jr v ns n k=none)(get:∀ n' k',Jr v' ns' n' k'=if n'=n∧k'=k then some r else Jr v ns n' k'):(Jt v' ns').Perm ((n,k,r)::Jt v ns):=by
 refine (List.perm_ext_iff_of_nodup (Ajw h') (nodup_cons.2 ⟨fun hm=> ?_,Ajw h⟩)).2 fun ⟨a,c,x⟩=> ?_
 ·rw[Ik h,old]at hm;cases hm
 ·rw[Ik h',get,mem_cons,Ik h]
  by_cases e:a=n∧c=k
  ·rw[if_pos e]
   obtain⟨rfl,rfl⟩:=e
   rw[old]
   simp[eq_comm]
  ·rw[if_neg e]
   constructor
   ·exact .inr
   ·rintro (h|h)
    ·simp only[Prod.mk.injEq]at h;exact absurd ⟨h.1,h.2.1⟩ e
    ·exact h
end
theorem Ae0 {v v':Nat→List UInt8}{ns:List Nat}(h:∀ n∈ns,v' n=v n):Jt v' ns=Jt v ns:=by
 unfold Jt
 induction ns with
 |nil=>rfl
 |cons a ns ih=>rw[List.flatMap_cons,List.flatMap_cons,h a (by simp),ih fun n hn=>h n (by simp[hn])]
section
variable {v v':Nat→List UInt8} {T T':Nat→Bool} {np root n k q c:Nat} {bs:List (List Nat)} {b b':List Nat} {E E':List HEn} {e:HEn}
end
end Go.Proofs.YtpoigihfeehehaaGreatDoor
