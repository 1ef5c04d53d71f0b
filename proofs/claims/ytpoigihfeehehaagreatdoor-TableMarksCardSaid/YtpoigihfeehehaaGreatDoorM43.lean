/- Values' keys. table.Scan. slices.Concat of bytes; slices.ContainsFunc of values; a table's tools. slices.ContainsFunc of values; a table's tools; numbers that may be. Hash indexes: what is in them. Trees, plain: how many pages there are: levels. -/
import Derived.Test.YtpoigihfeehehaaGreatDoorM41
import Derived.Test.YtpoigihfeehehaaGreatDoorM22
import Derived.Test.YtpoigihfeehehaaGreatDoorM42
import Derived.Lib.ReplaceLaws
import Derived.Test.YtpoigihfeehehaaGreatDoorM34
import Derived.Test.YtpoigihfeehehaaGreatDoorM40
set_option linter.all false
set_option maxRecDepth 100000
set_option maxHeartbeats 32000000
namespace Go.Proofs.YtpoigihfeehehaaGreatDoor
open Go.RowKit
def tTk:=aa wX <| aa wbu <| aa T2 <| aa T3 <| aa T4 <| aa T5 <| aa T9 <| aa T24 <| aa T70 T140
theorem Yh {M:Az}:∀ {us vs:List Value},Af M (us.map fun u=>AV.p (.v u)) vs→vs=us
 |[],vs,h=>by simpa [Af]using h
 |u::us,vs,h=>by
  simp only[QK,Af]at h
  obtain⟨v,vs',rfl,h1,h2⟩:=h
  rw[(Cf h1).2,Yh h2]
theorem Aa.libT {P:Program}{f:FuncId}{us:List Value}{v:Value}{σ:St}(he:Enters P f)(hp:plain v=true)
 (h:∀ M:Az,Glob M σ→Calls P f us.toArray M.w fun e w'=>e= .returned v∧Below M.w.heap.size M.w w'):Aa P f (us.map fun u=>.p (.v u)) σ fun r s=>s=σ∧r= .p (.v v):=by
 refine⟨he,fun M vs hM hv=> ?_⟩
 obtain rfl:=Yh hv
 refine (h M hM.glob).mono ?_
 rintro e w' ⟨rfl,hb⟩
 have hE:Ext M σ { M with w:=w' } σ:=
  ⟨fun _ _ h h'=>⟨h,h',rfl⟩,C5 (fun _=>rfl) (fun _=>rfl) (fun _=>rfl),fun _ _ h=>h,fun b o ho=>World.cell?_of_block (hb.block b (hM.imm b o ho)),fun b hl _=>⟨hb.block b hl,fun _ h=>h⟩,fun t ob b h1 h2=>.inr ⟨t,ob,h1,h2⟩,hb.size,hb.os,hb.tape,hb.output⟩
 exact⟨v,.p (.v v),σ,{ M with w:=w' },rfl,rfl,hE,⟨fun t ob ht=>(hM.obj t ob ht).later hE.later rfl rfl rfl fun b h=>⟨hb.block b (hM.lt t b h),fun _ h=>h⟩,hM.inj,hM.fresh,fun t b h=>ZE (hM.lt t b h) hb.size,fun b o h=>ZE (hM.imm b o h) hb.size,hM.glob.ext hE⟩,Bb hp,QH _,rfl,rfl⟩
def Aq7 (s a b:ByteArray):ByteArray:=⟨(Lib.replaceAll s.data.toList a.data.toList b.data.toList).toArray⟩
theorem Amq {M:Az}{σ:St}(h:Glob M σ):∃ m T,M.w.heap[0]? =some (.cells #[.int .i64 m] T (0,0)):=by
 obtain⟨cs,T,h1,⟨m,rfl⟩,_⟩:=h (0,fun cs=>∃ m,cs= #[.int .i64 m]) (QS.2 (.inr (ZR.2 rfl)))
 exact⟨m,T,h1⟩
theorem A18 (s a b:ByteArray)(hs:s.size<4294967281)(h1:1≤a.size)(hlen:s.size+Lib.countB s a*b.size≤140737488355328)(σ:St):Aa Tryz.prog 136 [.p (.v (.string s)),.p (.v (.string a)),.p (.v (.string b))] σ fun r s'=>s'=σ∧r= .p (.v (.string (Aq7 s a b))):=by
 refine Aa.libT (us:=[.string s,.string a,.string b]) ⟨_,Tryz.func136,by kernel_rfl,rfl⟩ rfl fun M hG=> ?_
 obtain⟨m,T,g1⟩:=Amq hG
 exact Tryz.strings_ReplaceAll s a b m M.w hs (by rw[cell_of_row _ _ _ _ _ _ g1];rfl) h1 hlen
theorem A19 {a:Nat}(h:a<18446744073709551616):a ^^^ 9223372036854775808=(a+9223372036854775808) % 18446744073709551616:=by
 have e1:(9223372036854775808:Nat)=2 ^ 63:=by decide
 have e2:(18446744073709551616:Nat)=2 ^ 64:=by decide
 rw[e1,e2,VI]
 rw[e2]at h
 refine Nat.eq_of_testBit_eq fun j=> ?_
 rw[Nat.testBit_xor,Nat.testBit_mod_two_pow,Nat.testBit_two_pow]
 rcases WC j 63 with hj|hj|hj
 ·rw[Nat.testBit_two_pow_add_gt hj,decide_eq_false (by omega:¬ 63=j),decide_eq_true (by omega:j<64),Bool.xor_false,Bool.true_and]
 ·subst hj
  rw[Nat.testBit_two_pow_add_eq,decide_eq_true rfl,decide_eq_true (by omega:63<64),Bool.xor_true,Bool.true_and]
 ·rw[Nat.testBit_lt_two_pow (x:=a) (i:=j) (ZE h (Nat.pow_le_pow_right (by omega) (by omega))),decide_eq_false (by omega:¬ 63=j),decide_eq_false (by omega:¬ j<64),Bool.xor_false,Bool.false_and]
theorem Aq8 (n:Int):IntKind.u64.wrap ((BitVec.ofInt IntKind.u64.bits (IntKind.u64.wrap n) ^^^ BitVec.ofInt IntKind.u64.bits 9223372036854775808).toNat:Int)=(((IntKind.u64.wrap (n+9223372036854775808)).toNat:Nat):Int):=by
 obtain⟨g0,g1⟩:=Ql n
 obtain⟨g2,g3⟩:=Ql (n+9223372036854775808)
 obtain⟨a,ha⟩:∃ a:Nat,IntKind.u64.wrap n=(a:Int):=⟨(IntKind.u64.wrap n).toNat,by omega⟩
 have hx:(BitVec.ofInt IntKind.u64.bits (IntKind.u64.wrap n) ^^^ BitVec.ofInt IntKind.u64.bits 9223372036854775808).toNat=(a+9223372036854775808) % 18446744073709551616:=by
  rw[ha,BitVec.toNat_xor,←A19 (by omega)]
  congr 1
  ·rw[WA,WK];exact YL (by show a<18446744073709551616;omega)
 rw[hx]
 rw[IntKind.wrap_u64]at*
 rw[IntKind.wrap_u64]
 omega
theorem Aq9 (u:Nat)(hu:u<18446744073709551616)(σ:St):Aa Tryz.prog 75 [.p (.v (.int .u64 (u:Nat))),Av true] σ fun r s=>s=σ∧r= .p (.sl 1 (Ax (beB u))):=by
 refine Aa.pureF (R:=fun r=>r= .p (.sl 1 (Ax (beB u)))) ?_ rfl σ
 obtain⟨f,hf⟩:∃ f:Nat→UInt8,f=fun j=>UInt8.ofNat (u / 256 ^ (7 - j) % 256):=⟨_,rfl⟩
 have hbe:beB u=(List.range 8).map f:=by rw[hf];rfl
 rw[hbe]
 refine Ab Am An Tryz.func75 (by kernel_rfl) rfl (nt:=21) (rs:=[.tmp 4]) rfl rfl ?_
 repeat' simp only[↓wBA,tTk,seval]
 refine Ar (X:={ q:Nat×AV // q.1≤8 }) (fun q=>8 - q.1.1) (fun q=>[(5,q.1.2),(7,Ad .i64 (q.1.1:Nat))]) [6,8,9,10,11,12,13,14,15,16,17,18,19,20,21] (fun q s=>Kr s q.1.2 5 1 (Ax ((List.range q.1.1).map f))) (⟨(0,.p (.v (.slice none 0 0))),by simp⟩) ?_ ?_ ?_ ?_
 ·simp only[wHl,wHf]
 ·exact .inl ⟨rfl,rfl⟩
 ·rintro _ _ _;exact YS _
 ·intro q J s hI
  simp only[wHl]
  obtain⟨⟨i,av⟩,hi⟩:=q
  dsimp only at*
  by_cases hlt:i<8
  ·have hdec:decide ((i:Int)<8)=true:=by simp;omega
   have hwi:=wI i (by omega)
   have hw7:IntKind.i64.wrap (7 - (i:Int))=((7 - i:Nat):Int):=by rw[wrap_i64 (by omega) (by omega)];omega
   have hm:IntKind.i64.wrap (8*((7 - i:Nat):Int))=((8*(7 - i):Nat):Int):=by rw[wrap_i64 (by omega) (by omega)];simp
   have hmn:min (8*(7 - i)) IntKind.u64.bits=8*(7 - i):=YO (by show 8*(7 - i)≤64;omega)
   have hng:(((8*(7 - i):Nat):Int)<0)=False:=eq_false (by omega)
   have hby:=G0 u (7 - i) hu (by omega)
   rw[show UInt8.ofNat (u / 256 ^ (7 - i) % 256)=f i by rw[hf]]at hby
   have how3:=hI.same (q':=s++[some (.right 5 1)]) fun q hq=>QD (hI.lt hq)
   have hll:(Ax ((List.range i).map f)).length=i:=by rw[B6];simp
   obtain⟨av3,s3,h1,h2,h3,h4,h5⟩:=G3 (q:=s++[some (.right 5 1)]) (y:=.own s.length 1 [[.v (.int .u8 ((f i).toNat:Int))]]) (m:=[[.v (.int .u8 ((f i).toNat:Int))]]) E3 how3 rfl (by simp) (by rw[hll];simp;omega) (by rw[hll];simp;omega)
   simp only[QE,QF,QI,ZC]at h1 h3 h4 h5
   repeat' simp only[↓wBA,tTk,Cv,seval,wH,wHl,hdec,hw7,hm,hmn,hng,hby,h1,hwi]
   refine⟨⟨(i+1,av3),by show i+1≤8;omega⟩,by show 8 - (i+1)<8 - i;omega,?_,by simp only[]⟩
   dsimp only
   rw[WY,ZH,Ax,ZH]
   exact h2
  ·obtain rfl:i=8:=by omega
   have hdec:decide (((8:Nat):Int)<8)=false:=by decide
   repeat' simp only[↓wBA,tTk,seval,wHl]
   all_goals refine rtS ?_
   all_goals simp only[wRe,tTk,seval]
   rcases hI with⟨_,h⟩|⟨t,rfl,_,_⟩
   ·have:=congrArg List.length h
    rw[B6]at this;simp at this
   ·exact⟨rfl,rfl⟩
def cxZ:Ctx:={ cx with muts:=[] }
theorem Ao4:cxZ.ok Tryz.prog:=Am
theorem Aw2:Ho Tryz.prog (Dh Tryz.prog cxZ):=J4 Ao4 (by kernel_rfl)
theorem A2a (t:TypeId):cxZ.kind t=cx.kind t:=nr rfl
theorem tyZ (t:TypeId):cxZ.ty t=cx.ty t:=nr rfl
theorem A2b:cxZ.muts=[]:=nr rfl
theorem app8:∀ (a b:List UInt8),Ax a++Ax b=Ax (a++b):=fun a b=>by simp[Ax]
theorem A2c {v:Va}(hv:okW v)(σ:St):Aa Tryz.prog 85 [vaA v] σ fun r s=>s=σ∧r= .tup [.p (.sl 1 (Ax (Gj v))),Ad .i64 0]:=by
 have hok:=aokV v
 rw[hv.1]at hok
 obtain⟨k,n,x⟩:=v
 have hk:=hv.kinds
 simp only at hk
 have hkl:=Uv hv
 obtain⟨K,hK⟩:∃ K,K=Gj (k,n,x):=⟨_,rfl⟩
 rw[← hK]at hkl ⊢
 refine Aa.pureF (R:=fun r=>r= .tup [.p (.sl 1 (Ax K)),Ad .i64 0]) ?_ rfl σ
 have hw8:IntKind.u8.wrap k=((UInt8.ofNat k.toNat).toNat:Int):=by
  rw[E7 (by omega),Uu (by omega) (by omega)];omega
 rcases hk with rfl|rfl|rfl|rfl
 ·skip
  refine Ab Am An Tryz.func85 (by kernel_rfl) rfl (nt:=41) (rs:=[.tmp 2,.tmp 3]) rfl rfl ?_
  repeat' first|simp only[↓wBA,tTk,Cv,seval,vaA,vaC]|((with_reducible show Aa _ _ _ _ _);refine (hok _).eq ?_)
  all_goals refine rtS ?_
  all_goals simp only[wRe,tTk,seval]
  rw[hK,hw8]
  exact⟨rfl,rfl⟩
 ·have hxk:=Aq8 n
  obtain⟨u,hu⟩:∃ u,u=(IntKind.u64.wrap (n+9223372036854775808)).toNat:=⟨_,rfl⟩
  have hub:u<18446744073709551616:=by have:=Ql (n+9223372036854775808);omega
  rw[← hu]at hxk
  have hbl:(beB u).length=8:=rfl
  have hbl':(Ax (beB u)).length=8:=by rw[B6];rfl
  refine Ab Am An Tryz.func85 (by kernel_rfl) rfl (nt:=41) (rs:=[.tmp 2,.tmp 3]) rfl rfl ?_
  repeat' first|simp only[↓wBA,tTk,Cv,seval,vaA,vaC,hxk,A2,Ey,hbl']|((with_reducible show Aa _ _ _ _ _);first|refine (hok _).eq ?_|refine (Aq9 u hub _).eq ?_)
  all_goals refine rtS ?_
  all_goals simp only[wRe,tTk,seval]
  rw[hK,hw8]
  show _∧_=AV.tup [.p (.sl 1 (Ax (_::beB (IntKind.u64.wrap (n+9223372036854775808)).toNat))),_]
  rw[← hu]
  exact⟨rfl,rfl⟩
 ·obtain⟨hn,_⟩:=hv.two
  have hwn:IntKind.u8.wrap n=((UInt8.ofNat n.toNat).toNat:Int):=by
   rw[E7 (by omega),Uu (by omega) (by omega)];omega
  refine Ab Ao4 Aw2 Tryz.func85 (by kernel_rfl) rfl (nt:=41) (rs:=[.tmp 2,.tmp 3]) rfl rfl ?_
  repeat' first|simp only[↓wBA,tTk,Cv,seval,A2a,tyZ,A2b,vaA,vaC,A2,Ey]|((with_reducible show Aa _ _ _ _ _);refine (hok _).eq ?_)
  all_goals refine rtS ?_
  all_goals simp only[wRe,tTk,seval]
  rw[hK,hw8,hwn]
  exact⟨rfl,rfl⟩
 ·obtain⟨rfl,hx⟩:=hv.three
  have hct:Lib.countB x ⟨#[0]⟩≤x.size:=Lib.countB_le ⟨#[0]⟩ (by decide) _ x (QH _)
  have hrp:=A18 x ⟨#[0]⟩ ⟨#[0,255]⟩ (by omega) (by decide) (by show x.size+_*2≤_;omega)
  have hre:Aq7 x ⟨#[0]⟩ ⟨#[0,255]⟩=⟨(esc x.data.toList).toArray⟩:=by unfold Aq7;rw[← Aq3]
  rw[hre]at hrp
  have hel:=Aaj x.data.toList
  have h2:x.data.toList.length=x.size:=by rw[YK];rfl
  obtain⟨E,hE⟩:∃ E,E=esc x.data.toList:=⟨_,rfl⟩
  rw[← hE]at hrp hel
  have hbp:G9 ⟨E.toArray⟩=Ax E:=rfl
  have hEl:=B6 E
  have q1:=tL (n:=1+E.length) (by omega)
  have q2:=lM (n:=1+E.length) (by omega)
  have q3:=tL (n:=E.length+1) (by omega)
  have q4:=lM (n:=E.length+1) (by omega)
  have q5:=tL (n:=E.length+1+2) (by omega)
  have q6:=lM (n:=E.length+1+2) (by omega)
  have q7:=tL (n:=E.length+3) (by omega)
  have q8:=lM (n:=E.length+3) (by omega)
  refine Ab Am An Tryz.func85 (by kernel_rfl) rfl (nt:=41) (rs:=[.tmp 2,.tmp 3]) rfl rfl ?_
  repeat' first|simp only[↓wBA,tTk,Cv,seval,wH,vaA,vaC,Ma,Agd,ne_eq,not_false_eq_true,A2,Ey,hbp,hEl,q1,q2,q5,q6,XK]|((with_reducible show Aa _ _ _ _ _);first|refine (hok _).eq ?_|refine (hrp _).eq ?_)
  all_goals refine rtS ?_
  all_goals simp only[wRe,tTk,seval]
  rw[hK,hw8]
  show _∧_=AV.tup [.p (.sl 1 (Ax (_::(esc x.data.toList++[0,0])))),_]
  rw[← hE]
  refine⟨rfl,?_⟩
  show AV.tup [.p (.sl 1 _),_]=_
  simp[Ax,Bo,Tr]
theorem Aak {v:Va}(hv:okW v)(σ:St):Aa Tryz.prog 44 [vaA v] σ fun r s=>s=σ∧r= .p (.sl 1 (Ax (Gj v))):=by
 refine Aa.pureF (R:=fun r=>r= .p (.sl 1 (Ax (Gj v)))) ?_ rfl σ
 have hk:=A2c hv
 generalize Gj v=K at*
 obtain⟨k,n,x⟩:=v
 simp only[vaA,vaC,QK,ZB]at hk ⊢
 refine Ab Am An Tryz.func44 (by kernel_rfl) rfl (nt:=10) (rs:=[.tmp 2]) rfl rfl ?_
 repeat' first|simp only[↓wBA,tTk,seval]|((with_reducible show Aa _ _ _ _ _);refine (hk _).eq ?_)
 all_goals refine rtS ?_
 all_goals simp only[wRe,tTk,seval]
 exact⟨rfl,rfl⟩
def tTg:=aa wX <| aa wbu <| aa T3 <| aa T29 <| aa T38 <| aa T46 <| aa T56 <| aa T62 <| aa T116 T120
def Ver.Ok (x:Ver):Prop:=x.2.1.1≤16777216∧x.2.1.2≤16777216∧(∀ v∈x.2.2,okW v)∧x.2.2≠[]∧x.2.2.length≤255
def Q5 (x:Ver):Nat×Nat×List UInt8:=(x.1.1,x.1.2,rcB x.2.1.1 x.2.1.2 x.2.2)
def ltV (x y:Ver):Prop:=x.1.1<y.1.1∨(x.1.1=y.1.1∧x.1.2<y.1.2)
structure TabH (v:Nat→List UInt8)(T:Nat→Bool)(np:Nat)(ns:List Nat)(E:List Ver):Prop where
 heap:Nn v T np ns
 pm:(Jn v ns).Perm (E.map Q5)
 ok:∀ x∈E,x.Ok
 st:E.Pairwise ltV
theorem Ac3 {α β:Type}{f:α→β}{l m:List β}(h:l.Perm m):∀ E:List α,m=E.map f→∃ D:List α,D.Perm E∧l=D.map f:=by
 induction h with
 |nil=>intro E hE;exact⟨E,List.Perm.refl _,hE⟩
 |cons x _ ih=>
  intro E hE
  cases E with
  |nil=>simp at hE
  |cons e E=>
   simp only[QK,YI]at hE
   obtain⟨D,h1,h2⟩:=ih E hE.2
   exact⟨e::D,h1.cons e,by rw[QK,h2,hE.1]⟩
 |swap x y l=>
  intro E hE
  match E,hE with
  |a::b::E,hE=>
   simp only[QK,YI]at hE
   exact⟨b::a::E,List.Perm.swap a b E,by rw[QK,QK,hE.1,hE.2.1,hE.2.2]⟩
 |trans _ _ ih1 ih2=>
  intro E hE
  obtain⟨D,h1,h2⟩:=ih2 E hE
  obtain⟨C,h3,h4⟩:=ih1 D h2
  exact⟨C,h3.trans h1,h4⟩
theorem Yi:∀ {E L:List Ver},L.Perm E→L.Pairwise leV→E.Pairwise ltV→L=E
 |[],L,hp,_,_=>hp.eq_nil
 |e::E,[],hp,_,_=>absurd hp.symm.eq_nil (by simp)
 |e::E,x::L,hp,hl,he=>by
  obtain⟨l1,l2⟩:=YJ.1 hl
  obtain⟨e1,e2⟩:=YJ.1 he
  have hxe:x=e:=by
   by_cases h:x=e
   ·exact h
   have h1:x∈e::E:=hp.mem_iff.1 (by simp)
   have h2:e∈x::L:=hp.mem_iff.2 (by simp)
   rcases QP.1 h1 with h1|h1
   ·exact absurd h1 h
   rcases QP.1 h2 with h2|h2
   ·exact h2.symm
   have a:=l1 e h2
   have b:=e1 x h1
   unfold leV at a
   unfold ltV at b
   omega
  subst hxe
  rw[Yi (hp.cons_inv) l2 e2]
def cxD:Ctx:={ cx with muts:=[56*100000+40,56*100000+104] }
theorem Aj6:cxD.ok Tryz.prog:=Am
theorem Ao5:Ho Tryz.prog (Dh Tryz.prog cxD):=J4 Aj6 (by kernel_rfl)
theorem Q6 (t:TypeId):cxD.kind t=cx.kind t:=nr rfl
theorem tyD (t:TypeId):cxD.ty t=cx.ty t:=nr rfl
theorem eqsD (t:TypeId):cxD.eqs t=cx.eqs t:=nr rfl
theorem Aw3:cxD.muts=[56*100000+40,56*100000+104]:=nr rfl
theorem lenD {T:TypeId}{x:AV}:Ba cxD T x=Ba cx T x:=nr rfl
theorem Aw4 (e:Nat)(ls:List (List PV)):∃ y,lsV e ls= .p y∧(ls≠[]→y= .sl e ls)∧(ls=[]→y= .v (.slice none 0 0)):=by
 unfold lsV
 by_cases h:ls=[]
 ·exact⟨_,if_pos h,fun h'=>absurd h h',fun _=>rfl⟩
 ·exact⟨_,if_neg h,fun _=>rfl,fun h'=>absurd h' h⟩
theorem Aw5 {T E:TypeId}{es eb e:Nat}{ez:List Value}{ls:List (List PV)}{y:PV}(hk:cx.kind T=some (.slice E es eb ez))(h1:ls≠[]→y= .sl e ls)(h2:ls=[]→y= .v (.slice none 0 0)):Ba cx T (.p y)=some ls.length:=by
 by_cases h:ls=[]
 ·rw[h2 h,h];unfold Ba;rw[hk];rfl
 ·rw[h1 h];unfold Ba;rw[hk];simp[Bp]
theorem Mm.lfT {q:St}{av:AV}{e:Nat}{ls:List (List AV)}(h:Mm q av e ls):leaf av=true∧Cu av=some [av]:=by
 rcases h with⟨rfl,_⟩|⟨t,rfl,_⟩<;>exact⟨rfl,rfl⟩
abbrev tabA (x0 x1 x2:PV)(first:Nat)(x4:PV):AV:=.agg [.p x0,.p x1,.p x2,.p (.v (.int .i64 (first:Nat))),.p x4]
section
variable {σ:St} {b p dd l kh first:Nat} {U:Nat→Prop} {P:Ak} {v:Nat→List UInt8} {T:Nat→Bool} {ns:List Nat} {E:List Ver}
theorem Aj7 (h:Bt σ b p dd l kh U P v)(hh:TabH v T P.pages ns E)(hf:ns[0]? =some first)(hb:Bud P 1)(hns:ns.length≤7000)(x0 x1 x2 x4:PV):
 Aa Tryz.prog 16 [.mp b 2 0 0,tabA x0 x1 x2 first x4] σ fun r σ'=>∃ (av:AV) (U':Nat→Prop) (P':Ak),r= .tup [av,Ad .i64 0]∧Mm σ' av 5 (E.map Dt)∧Fr σ σ' U U'∧Bt σ' b p dd l kh U' P' v∧Kp P P' 0∧∀ t,N8 av=some t→σ.length≤t∧¬ U' t:=by
 have hlt:=h.lt
 obtain⟨D,hDp,hDl⟩:=Ac3 hh.pm E rfl
 have hDlen:=hDp.length_eq
 have hEl:(Jn v ns).length=D.length:=by rw[hDl,QL]
 have hDb:D.length≤900000:=by have:=Um v ns;omega
 have hDok:∀ x∈D,x.Ok:=fun x hx=>hh.ok x (hDp.mem_iff.1 hx)
 refine Ab Aj6 Ao5 Tryz.func16 (by kernel_rfl) rfl (nt:=42) (rs:=[.tmp 4,.tmp 5]) rfl rfl ?_
 repeat' simp only[↓wBA,tTg,seval,wH,Q6,tyD]
 have aS:=Ap.app σ [some (Ob.row 5 [[AV.p x0,AV.p x1,AV.p x2,AV.p (.v (.int .i64 (first:Nat))),AV.p x4]])]
 refine (A1s (h.ap aS) hh.heap hf hb hns).mono ?_
 rintro _ s3 ⟨rfl,U3,P3,f3,h3,k3⟩
 have l3:=f3.len
 simp only[QE,QF,QI]at l3
 have hlt3:=h3.lt
 rw[hDl]
 obtain⟨y,hy,hy1,hy2⟩:=Aw4 3 ((D.map Q5).map Y2)
 have hly:Ba cx 116 (.p y)=some D.length:=by rw[Aw5 Kh hy1 hy2,QL,QL]
 rw[hy]
 repeat' simp only[↓wBA,tTg,seval,lenD,hly]
 refine Ar (X:={ q:Nat×AV // q.1≤D.length }) (fun q=>D.length - q.1.1) (fun q=>[(8,q.1.2),(25,Ad .i64 (q.1.1:Nat))]) [4,5,10,11,12,26,27,28,29,30,31,32,33,34,35,36,37,38,39,40,41] (fun q s=>Ap s3 s∧Mm s q.1.2 5 ((D.take q.1.1).map Dt)∧∀ t,N8 q.1.2=some t→s3.length≤t) (⟨(0,.p (.v (.slice none 0 0))),by simp⟩) ?_ ?_ ?_ ?_
 ·simp only[wHl,wHf]
 ·exact⟨Ap.refl _,.inl ⟨rfl,rfl⟩,fun t ht=>by cases ht⟩
 ·rintro _ _ ⟨h,_⟩;exact h.len
 ·intro w J s hI
  simp only[wHl]
  obtain⟨⟨i,av⟩,hi⟩:=w
  obtain⟨aq,hmu,hms⟩:=hI
  dsimp only at*
  have lq:=aq.len
  have hi0:=nnI i
  have hwi:=wI i (by omega)
  have hav:=hmu.lfT
  by_cases hlt':i<D.length
  ·have e1:=dT (i:=i) (n:=D.length) hlt'
   obtain⟨x,hx⟩:∃ x,D[i]? =some x:=⟨D[i],by simp⟩
   obtain⟨o1,o2,o3,o4,o5⟩:=hDok x (QG hx)
   have htk:D.take (i+1)=D.take i++[x]:=by rw[YU,hx];rfl
   obtain⟨⟨xp,xs⟩,⟨xm,xt⟩,xl⟩:=x
   simp only at o1 o2 o3 o4 o5
   have hver:=Ac2 (p:=xp) (s:=xs) (m:=xm) (t:=xt) (by omega) (by omega) o3 o4 o5
   obtain rfl:y= .sl 3 ((D.map Q5).map Y2):=hy1 (fun e=>by rw[YZ,YZ]at e;rw[e]at hlt';simp at hlt')
   have hg:((D.map Q5).map Y2)[i]? =some [.v (.int .i64 (xp:Nat)),.v (.int .i64 (xs:Nat)),.sl 1 (Ax (rcB xm xt xl))]:=by rw[QR,QR,hx];rfl
   have hif:((i:Int)<(((D.map Q5).map Y2).length:Int))=True:=eq_true (by rw[QL,QL];omega)
   have hif':((i:Int)<(D.length:Int))=True:=eq_true (by omega)
   obtain⟨rr,hrr⟩:∃ rr,rr=Ax (rcB xm xt xl):=⟨_,rfl⟩
   rw[← hrr]at hg hver
   repeat' first|simp only[↓wBA,tTg,seval,wH,wHl,Q6,tyD,Aw3,hg,hif',hi0]|((with_reducible show Aa _ _ _ _ _);refine (hver _).eq ?_)
   have hll:((D.take i).map Dt).length=i:=by rw[QL,QZ];omega
   obtain⟨Q,hQ⟩:∃ Q,Q=s++[some (Ob.row 3 [[AV.p (.v (.int .i64 (xp:Nat))),AV.p (.v (.int .i64 (xs:Nat))),AV.p (.sl 1 rr)]])]++[some (Ob.row 5 [[AV.p (.v (.int .i64 (xp:Nat))),AV.p (.v (.int .i64 (xs:Nat))),AV.p (.v (.int .i64 (xm:Nat))),AV.p (.v (.int .i64 (xt:Nat))),AV.p (.sl 3 (enV xl))]])]++[some (Ob.right 62 5)]:=⟨_,rfl⟩
   have aQ:Ap s Q:=by rw[hQ];exact ((Ap.app _ _).more _).more _
   have lQ:Q.length=s.length+3:=by rw[hQ];simp
   obtain⟨q',hq',r1,r2,r3⟩:=Ai5 (C:=cxD) (q:=Q) (y:=.own (s.length+2) 5 [verC ((xp,xs),(xm,xt),xl)]) (m:=[Dt ((xp,xs),(xm,xt),xl)]) ((Q6 _).trans Mf) (hmu.same fun t ht=>by obtain⟨τ,hτ⟩:=aQ;rw[hτ];exact QD (hmu.lt ht)) rfl (by simp) (by rw[hll];simp only[QF,QI];omega) (by rw[hll];simp only[QF,QI];omega)
   rw[lQ,hll]at hq'
   rw[lQ]at r1 r2 r3
   rw[hQ]at hq'
   simp only[verC]at hq'
   repeat' simp only[↓wBA,tTg,seval,wHl,hq',hwi]
   have hml:(((D.take (i+1)).map Dt)).length=i+1:=by rw[QL,QZ];omega
   refine⟨⟨(i+1,.ms (s.length+3) 5 0 (i+1)),by show i+1≤D.length;omega⟩,by show D.length - (i+1)<D.length - i;omega,⟨Ap.of_keep (by omega) fun t ht=> ?_,.inr ⟨s.length+3,by rw[hml],by rw[htk];simp,by rw[htk,ZH];exact r1⟩,fun t ht=> ?_⟩,by simp only[]⟩
   ·rw[r3 t (by omega) (fun e=>by have:=hms t e;omega)]
    have a1:=aq.trans aQ
    obtain⟨τ,hτ⟩:=a1
    rw[hτ,QD ht]
   ·simp only[N8,QB]at ht;omega
  ·obtain rfl:i=D.length:=by omega
   have e1:=dF (i:=D.length) (n:=D.length) hlt'
   rw[ZS]at hmu
   repeat' simp only[↓wBA,tTg,seval,wHl,e1]
   refine (Aj5 (by omega) hmu).mono ?_
   rintro _ s5 ⟨rfl,L',hp,hs,hm5,l5,hk5⟩
   obtain rfl:=Yi (hp.trans hDp) hs hh.st
   repeat' simp only[↓wBA,tTg,seval,wHl]
   all_goals refine rtS ?_
   all_goals simp only[wRe,tTg,seval]
   have a35:Ap s3 s5:=Ap.of_keep (by omega) fun t ht=>by
    rw[hk5 t fun e=>by have:=hms t e;omega]
    obtain⟨τ,hτ⟩:=aq
    rw[hτ,QD ht]
   exact⟨_,U3,P3,rfl,hm5,(aS.fr.trans f3).trans a35.fr,h3.ap a35,k3,fun t ht=>⟨by have:=hms t ht;omega,fun hu=>by have:=hlt3 t hu;have:=hms t ht;omega⟩⟩
end
def tTh:=aa wX <| aa wbu <| aa T3 <| aa T9 <| aa T70 T81
theorem Aw6 (n:Nat)(h0:0<n)(h1:n≤1000000)(σ:St):Aa Tryz.prog 78 [.p (.v (.slice none 0 0)),Ad .i64 (n:Int)] σ fun r s=>r= .own σ.length 1 []∧s=σ++[some (.right 5 0)]:=by
 refine Ab Am An Tryz.func78 (by kernel_rfl) rfl (nt:=25) (rs:=[.tmp 4]) rfl rfl ?_
 have hc:=fun (σ:St) tk=>Ano (C:=cx) (σ:=σ) (pos:=some 10) (tk:=tk) E3
 have hc2:=fun (σ:St) tk=>Ano (C:=cx) (σ:=σ) (pos:=some 19) (tk:=tk) E3
 simp only[Sq]at hc hc2
 have d1:decide ((n:Int)<0)=false:=decide_eq_false (by omega)
 have d2:decide ((n:Int)>0)=true:=decide_eq_true (by omega)
 have w1:IntKind.i64.wrap (n:Int)=(n:Int):=wrap_i64 (by omega) (by omega)
 have hz:=fun (σ:St) tk=>Age (C:=cx) (σ:=σ) (tk:=tk) (k:=.i64) E3 ck_3 h0 (by omega) (by unfold maxLen;omega)
 have hs:=fun t=>Agf (C:=cx) (t:=t) (k:=n) (kk:=.i64) E3
 have hsn:Bl cx 70 (.p (.v (.slice none 0 0))) none (some (.p (.v (.int .i64 0))))=some (.p (.v (.slice none 0 0))):=by simp only[Bl,E3,Bp,Bh,Hi,Sq]
 simp only[Sq]at hz
 have hb:=fun (σ:St) tk x y=>Ma (C:=cx) (σ:=σ) (pos:=some 22) (tk:=tk) (T:=70) (T':=3) (x:=x) (y:=y) rfl (by decide)
 repeat' simp only[↓wBA,tTh,seval,wH,hb,hc,hc2,d1,d2,w1,hz,hs,hsn,wz0,Int.sub_self,Int.sub_zero]
 all_goals refine rtS ?_
 all_goals simp only[wRe,tTh,seval]
theorem Amr:Ax []=[]:=nr rfl
theorem acat {xs:List (List UInt8)}(h0:0<xs.flatten.length)(h1:xs.flatten.length≤100000)(hxl:xs.length≤1000)(σ:St):
 Aa Tryz.prog 41 [.p (.sl 1 (xs.map fun x=>[.sl 1 (Ax x)]))] σ fun r s=>s=σ∧r= .p (.sl 1 (Ax xs.flatten)):=by
 refine Aa.pureF (R:=fun r=>r= .p (.sl 1 (Ax xs.flatten))) ?_ rfl σ
 have hln:(xs.map fun x=>[PV.sl 1 (Ax x)]).length=xs.length:=QL ..
 have hsum:∀ i x,xs[i]? =some x→(xs.take (i+1)).flatten=(xs.take i).flatten++x:=fun i x hx=>by
  rw[YU,hx];simp
 have hle:∀ i,(xs.take i).flatten.length≤xs.flatten.length:=fun i=>by
  have:=congrArg (fun l=>(List.flatten l).length) (ZI i xs)
  simp only[List.flatten_append,QE]at this
  omega
 have hgr:=Aw6 xs.flatten.length h0 (by omega)
 refine Ab Am An Tryz.func41 (by kernel_rfl) rfl (nt:=35) (rs:=[.tmp 2]) rfl rfl ?_
 repeat' simp only[↓wBA,tTh,seval,hln]
 refine Ar (X:={ i:Nat // i≤xs.length }) (fun i=>xs.length - i.1) (fun i=>[(3,Ad .i64 ((xs.take i.1).flatten.length:Nat)),(11,Ad .i64 (i.1:Nat))]) [5,12,13,14,15,16,17,18,19,20,21,22] (fun i s=>s=[]) (⟨0,by omega⟩) ?_ ?_ ?_ ?_
 ·simp only[wHl,wHf,XH,List.flatten_nil,QI]
 ·rfl
 ·rintro _ _ _;exact YS _
 ·intro y J s hI
  simp only[wHl]
  subst hI
  obtain⟨i,hi⟩:=y
  dsimp only at*
  have hi0:=nnI i
  have hwi:=wI i (by omega)
  by_cases hlt:i<xs.length
  ·have e1:=dT (i:=i) (n:=xs.length) hlt
   obtain⟨x,hx⟩:∃ x,xs[i]? =some x:=⟨xs[i],by simp⟩
   have hg:(xs.map fun x=>[PV.sl 1 (Ax x)])[i]? =some [.sl 1 (Ax x)]:=by rw[QR,hx];rfl
   have hif:((i:Int)<(xs.length:Int))=True:=eq_true (by omega)
   have hlx:=Lj x
   have hs:=hsum i x hx
   have hl2:=hle (i+1)
   rw[hs,QE]at hl2
   have hw:IntKind.i64.wrap (((xs.take i).flatten.length:Int)+(x.length:Int))=(((xs.take (i+1)).flatten.length:Nat):Int):=by rw[hs,QE,wrap_i64 (by omega) (by omega)];omega
   have hn:decide ((((xs.take (i+1)).flatten.length:Nat):Int)<0)=false:=decide_eq_false (by omega)
   repeat' simp only[↓wBA,tTh,seval,wHl,hi0,hg,hif,hlx,hw,hn,hwi]
   exact⟨⟨i+1,by omega⟩,by show xs.length - (i+1)<xs.length - i;omega,rfl⟩
  ·obtain rfl:i=xs.length:=by omega
   have e1:=dF (i:=xs.length) (n:=xs.length) hlt
   have htl:xs.take xs.length=xs:=ZS
   repeat' simp only[↓wBA,tTh,seval,wHl,e1,htl]
   refine (hgr _).mono ?_
   rintro _ s1 ⟨rfl,rfl⟩
   repeat' simp only[↓wBA,tTh,seval,hln]
   refine Ar (X:={ i:Nat // i≤xs.length }) (fun i=>xs.length - i.1) (fun i=>[(6,AV.own 0 1 (Ax (xs.take i.1).flatten)),(27,Ad .i64 (i.1:Nat))]) [8,28,29,30,31,32,33,34] (fun i s=>s=[some (.right 5 ((xs.take i.1).flatten.length*1))]) (⟨0,by omega⟩) ?_ ?_ ?_ ?_
   ·simp only[wHl,wHf,XH,List.flatten_nil,Amr]
   ·rfl
   ·rintro _ _ rfl;exact QH _
   ·intro y J s hI
    simp only[wHl]
    subst hI
    obtain⟨i,hi⟩:=y
    dsimp only at*
    have hi0:=nnI i
    have hwi:=wI i (by omega)
    by_cases hlt:i<xs.length
    ·have e1:=dT (i:=i) (n:=xs.length) hlt
     obtain⟨x,hx⟩:∃ x,xs[i]? =some x:=⟨xs[i],by simp⟩
     have hg:(xs.map fun x=>[PV.sl 1 (Ax x)])[i]? =some [.sl 1 (Ax x)]:=by rw[QR,hx];rfl
     have hif:((i:Int)<(xs.length:Int))=True:=eq_true (by omega)
     have hs:=hsum i x hx
     have hl2:=hle (i+1)
     rw[hs,QE]at hl2
     have hap:A2 cx 1 70 (.own 0 1 (Ax (xs.take i).flatten)) (.p (.sl 1 (Ax x))) [some (.right 5 ((xs.take i).flatten.length*1))]=some (.own 0 1 (Ax (xs.take (i+1)).flatten),[some (.right 5 ((xs.take (i+1)).flatten.length*1))]):=by
      unfold A2
      rw[E3]
      simp only[Lx,Ey,if_true,B6,YT,true_and]
      rw[if_pos ⟨by omega,by unfold maxLen;omega⟩,hs,app8]
      simp[B6]
     repeat' simp only[↓wBA,tTh,seval,wHl,hi0,hg,hif,hap,hwi]
     exact⟨⟨i+1,by omega⟩,by show xs.length - (i+1)<xs.length - i;omega,rfl,rfl⟩
    ·obtain rfl:i=xs.length:=by omega
     have e1:=dF (i:=xs.length) (n:=xs.length) hlt
     have htl:xs.take xs.length=xs:=ZS
     repeat' simp only[↓wBA,tTh,seval,wHl,e1,htl]
     all_goals refine rtS ?_
     all_goals simp only[wRe,tTh,seval]
     exact⟨rfl,rfl⟩
def tTi:=aa wX <| aa wbu <| aa T3 <| aa T4 <| aa T24 <| aa T35 <| aa T37 <| aa T54 T111
theorem abad (v:Va)(σ:St):Aa Tryz.prog 36 [vaA v] σ fun r s=>s=σ∧r=Av (!okV v):=by
 refine Aa.pureF (R:=fun r=>r=Av (!okV v)) ?_ rfl σ
 have hok:=aokV v
 generalize okV v=q at*
 obtain⟨k,n,x⟩:=v
 simp only[vaA,vaC,QK,ZB]at hok ⊢
 refine Ab Am An Tryz.func36 (by kernel_rfl) rfl (nt:=5) (rs:=[.tmp 2]) rfl rfl ?_
 repeat' first|simp only[↓wBA,tTi,seval]|((with_reducible show Aa _ _ _ _ _);refine (hok _).eq ?_)
 all_goals refine rtS ?_
 all_goals simp only[wRe,tTi,seval]
 exact⟨rfl,rfl⟩
theorem A2d (l:List Va)(hl:l.length≤4398046511104)(σ:St):Aa Tryz.prog 74 [.p (.sl 3 (enV l)),.fn 36 [] []] σ fun r s=>s=σ∧∃ n:Int,r=Ad .i64 n∧decide (n≥0)= !l.all okV:=by
 refine Aa.pureF (R:=fun r=>∃ n:Int,r=Ad .i64 n∧decide (n≥0)= !l.all okV) ?_ rfl σ
 have hln:=Ea l
 refine Ab Am An Tryz.func74 (by kernel_rfl) rfl (nt:=17) (rs:=[.tmp 4]) rfl rfl ?_
 repeat' simp only[↓wBA,tTi,seval,hln]
 refine Ar (X:={ i:Nat // i≤l.length }) (fun i=>l.length - i.1) (fun i=>[(8,Ad .i64 (i.1:Nat))]) [4,5,9,10,11,12,13,14,15,16,17,18] (fun i s=>s=[]∧∀ v∈l.take i.1,okV v=true) (⟨0,by omega⟩) ?_ ?_ ?_ ?_
 ·simp only[wHl,wHf]
 ·exact⟨rfl,by simp⟩
 ·rintro _ _ _;exact YS _
 ·intro y J s hI
  simp only[wHl]
  obtain⟨i,hi⟩:=y
  obtain⟨rfl,hall⟩:=hI
  dsimp only at*
  have hi0:=nnI i
  have hwi:=wI i (by omega)
  by_cases hlt:i<l.length
  ·have e1:=dT (i:=i) (n:=l.length) hlt
   have hif:((i:Int)<(l.length:Int))=True:=eq_true (by omega)
   have hg:=Ji l i hlt
   have htk:l.take (i+1)=l.take i++[l[i]]:=YC hlt
   have hb:=abad l[i]
   have hmem:l[i]∈l:=XU hlt
   generalize hv:l[i]=v at*
   cases hq:okV v with
   |true=>
    rw[hq]at hb
    obtain⟨k,n,x⟩:=v
    simp only[vaA,vaC,QK,ZB]at hb hg
    repeat' first|simp only[↓wBA,tTi,seval,wHl,hi0,hg,hif,hwi]|((with_reducible show Aa _ _ _ _ _);refine (hb _).eq ?_)
    refine⟨⟨i+1,by omega⟩,by show l.length - (i+1)<l.length - i;omega,fun w hw=> ?_,by simp only[]⟩
    dsimp only at hw
    rw[htk]at hw
    rcases QS.1 hw with h|h
    ·exact hall w h
    ·simp only[ZR]at h;subst h;exact hq
   |false=>
    rw[hq]at hb
    have hf:l.all okV=false:=by rw[List.all_eq_false];exact⟨_,hmem,by simp[hq]⟩
    obtain⟨k,n,x⟩:=v
    simp only[vaA,vaC,QK,ZB]at hb hg
    repeat' first|simp only[↓wBA,tTi,seval,wHl,hi0,hg,hif]|((with_reducible show Aa _ _ _ _ _);refine (hb _).eq ?_)
    all_goals refine rtS ?_
    all_goals simp only[wRe,tTi,seval]
    exact⟨rfl,i,rfl,by rw[hf];simp⟩
  ·obtain rfl:i=l.length:=by omega
   have e1:=dF (i:=l.length) (n:=l.length) hlt
   rw[ZS]at hall
   have hf:l.all okV=true:=ZA.2 hall
   repeat' simp only[↓wBA,tTi,seval,wHl,e1]
   all_goals refine rtS ?_
   all_goals simp only[wRe,tTi,seval]
   exact⟨rfl,-1,rfl,by rw[hf];rfl⟩
theorem Aj8 (l:List Va)(hl:l.length≤4398046511104)(σ:St):Aa Tryz.prog 35 [.p (.sl 3 (enV l)),.fn 36 [] []] σ fun r s=>s=σ∧r=Av (!l.all okV):=by
 refine Aa.pureF (R:=fun r=>r=Av (!l.all okV)) ?_ rfl σ
 refine Ab Am An Tryz.func35 (by kernel_rfl) rfl (nt:=7) (rs:=[.tmp 4]) rfl rfl ?_
 repeat' simp only[↓wBA,tTi,seval]
 refine (A2d l hl _).mono ?_
 rintro _ s ⟨rfl,n,rfl,hn⟩
 repeat' simp only[↓wBA,tTi,seval,hn]
 all_goals refine rtS ?_
 all_goals simp only[wRe,tTi,seval]
 exact⟨rfl,rfl⟩
def wiN (n:Int):Bool:=decide (0≤n)&&decide (n≤16777216)
theorem Jl (n:Int)(σ:St):Aa Tryz.prog 38 [Ad .i64 n] σ fun r s=>s=σ∧r=Av (wiN n):=by
 refine Aa.pureF (R:=fun r=>r=Av (wiN n)) ?_ rfl σ
 unfold wiN
 refine Ab Am An Tryz.func38 (by kernel_rfl) rfl (nt:=8) (rs:=[.tmp 2]) rfl rfl ?_
 cases h1:decide (0≤n)with
 |true=>
  have h1':decide (n≥0)=true:=h1
  repeat' simp only[↓wBA,tTi,seval,h1']
  all_goals refine rtS ?_
  all_goals simp only[wRe,tTi,seval]
  exact⟨rfl,rfl⟩
 |false=>
  have h1':decide (n≥0)=false:=h1
  repeat' simp only[↓wBA,tTi,seval,h1']
  all_goals refine rtS ?_
  all_goals simp only[wRe,tTi,seval]
  exact⟨rfl,rfl⟩
abbrev Idx:=ByteArray×ByteArray×Nat×Bool
def Fv (x:Idx):List PV:=[.v (.string x.1),.v (.string x.2.1),.v (.int .i64 (x.2.2.1:Nat)),.v (.bool x.2.2.2)]
def idxA (x:Idx):AV:=.agg ((Fv x).map .p)
def Ara:AV:=.agg [.fn 82 [] [],.fn 83 [] [],.fn 84 [] []]
theorem aof (x:Idx)(hx:x.2.2.2=false)(σ:St):Aa Tryz.prog 43 [idxA x] σ fun r s=>s=σ∧r=Ara:=by
 refine Aa.pureF (R:=fun r=>r=Ara) ?_ rfl σ
 obtain⟨a,b,c,d⟩:=x
 simp only at hx
 subst hx
 simp only[idxA,Fv,QK,ZB]
 refine Ab Am An Tryz.func43 (by kernel_rfl) rfl (nt:=6) (rs:=[.cell 2 111]) rfl rfl ?_
 repeat' simp only[↓wBA,tTi,seval,wH]
 all_goals refine rtS ?_
 all_goals simp only[wRe,tTi,seval]
 exact⟨rfl,rfl⟩
structure HEn where
 k:List UInt8
 p:Nat
 s:Nat
def HEn.Ok (e:HEn):Prop:=e.k.length≤140∧e.p<65536∧e.s<65536
theorem Qo {α β:Type}(f:α→β):∀ l:List α,(l.map f).Nodup→l.Nodup
 |[],_=>List.nodup_nil
 |a::l,h=>by
  obtain⟨h1,h2⟩:=ZU.1 h
  exact ZU.2 ⟨fun hm=>h1 (ZP.2 ⟨a,hm,rfl⟩),Qo f l h2⟩
section
variable {v v':Nat→List UInt8} {T T':Nat→Bool} {np n k:Nat} {ns ns':List Nat} {r:List UInt8}
theorem Aal (h:Nn v T np ns):(Jn v ns).Nodup:=Qo _ _ (Se v ns h.nd)
theorem Ams (h:Nn v T np ns)(h':Nn v' T' np ns')(old:Iz v ns n k=none)(get:∀ n' k',Iz v' ns' n' k'=if n'=n∧k'=k then some r else Iz v ns n' k'):(Jn v' ns').Perm ((n,k,r)::Jn v ns):=by
 refine (List.perm_ext_iff_of_nodup (Aal h') (ZU.2 ⟨fun hm=> ?_,Aal h⟩)).2 fun ⟨a,c,x⟩=> ?_
 ·rw[Ec h,old]at hm;cases hm
 ·rw[Ec h',get,QP,Ec h]
  by_cases e:a=n∧c=k
  ·rw[if_pos e]
   obtain⟨rfl,rfl⟩:=e
   rw[old]
   simp[eq_comm]
  ·rw[if_neg e]
   constructor
   ·exact .inr
   ·rintro (h|h)
    ·simp only[QJ]at h;exact absurd ⟨h.1,h.2.1⟩ e
    ·exact h
end
theorem Afd {v v':Nat→List UInt8}{ns:List Nat}(h:∀ n∈ns,v' n=v n):Jn v' ns=Jn v ns:=by
 unfold Jn
 induction ns with
 |nil=>rfl
 |cons a ns ih=>rw[YA,YA,h a (by simp),ih fun n hn=>h n (by simp[hn])]
section
variable {v v':Nat→List UInt8} {T T':Nat→Bool} {np root n k q c:Nat} {bs:List (List Nat)} {b b':List Nat} {E E':List HEn} {e:HEn}
end
def cn:(h:Nat)→BTr h→Nat→Nat
 |0,_,j=>if j=0 then 1 else 0
 |h+1,t,j=>if j=h+1 then 1 else ((show NL h from t).map fun x=>cn h x.2.2 j).sum
def cnL {h:Nat}(l:NL h)(j:Nat):Nat:=(l.map fun x=>cn h x.2.2 j).sum
def cnO {h:Nat}:Option (Ent×Nat×BTr h)→Nat→Nat
 |none,_=>0
 |some z,j=>cn h z.2.2 j
theorem Uw {h:Nat}(a b:NL h)(j:Nat):cnL (a++b) j=cnL a j+cnL b j:=by simp[cnL]
theorem Ik {h:Nat}(x:Ent×Nat×BTr h)(b:NL h)(j:Nat):cnL (x::b) j=cn h x.2.2 j+cnL b j:=by simp[cnL]
theorem Arb {h:Nat}(o:Option (Ent×Nat×BTr h))(j:Nat):cnL o.toList j=cnO o j:=by cases o<;>simp[cnL,cnO]
theorem Lk (h:Nat)(t:BTr h):cn h t h=1:=by cases h<;>simp[cn]
theorem Qp {h j:Nat}(t:NL h)(hj:j≤h):cn (h+1) t j=cnL t j:=by
 show (if j=h+1 then 1 else _)=_
 rw[if_neg (by omega)];rfl
def Ux (f:Nat→Nat):Nat→Nat
 |0=>f 0
 |h+1=>f 0+Ux (fun j=>f (j+1)) h
theorem Ac4:∀ (h:Nat) (f:Nat→Nat),Ux f (h+1)=Ux f h+f (h+1)
 |0,f=>rfl
 |h+1,f=>by
  have:=Ac4 h fun j=>f (j+1)
  simp only[Ux]at this ⊢;omega
theorem Mt:∀ (h:Nat) {f g:Nat→Nat},(∀ j,j≤h→f j=g j)→Ux f h=Ux g h
 |0,f,g,hf=>hf 0 (QH _)
 |h+1,f,g,hf=>by simp only[Ux];rw[hf 0 (by omega),Mt h fun j hj=>hf (j+1) (by omega)]
theorem Ac5:∀ (h:Nat) (f g:Nat→Nat),Ux (fun j=>f j+g j) h=Ux f h+Ux g h
 |0,f,g=>rfl
 |h+1,f,g=>by simp only[Ux];rw[Ac5 h];omega
theorem Yj:∀ (h:Nat),Ux (fun _=>0) h=0
 |0=>rfl
 |h+1=>by simp only[Ux];rw[Yj h]
theorem Ao6:∀ (h n:Nat) (t:BTr h),(pgT h n t).length=Ux (cn h t) h
 |0,n,t=>rfl
 |h+1,n,t=>by
  rw[Ac4,Lk,Mt (g:=cnL (show NL h from t)) h fun j hj=>Qp (show NL h from t) hj]
  rw[show (pgT (h+1) n t).length=(flP (show NL h from t)).length+1 from rfl]
  have:∀ l:NL h,(flP l).length=Ux (cnL l) h:=by
   intro l
   induction l with
   |nil=>rw[show cnL ([]:NL h)=fun _=>0 from rfl,Yj];rfl
   |cons x l ih=>
    rw[C7,QE,Ao6 h,ih,←Ac5]
    exact Mt h fun j _=>(Ik x l j).symm
  rw[this]
def SzT:(h:Nat)→BTr h→Prop
 |0,t=>szL (B1 t)≤496∧∀ e∈(show List Ent from t),e.k.length≤140
 |h+1,t=>szL (A9 (show NL h from t))≤496∧(∀ x∈(show NL h from t),x.1.k.length≤140)∧∀ x∈(show NL h from t),SzT h x.2.2
theorem Hg.szT {v:Nat→List UInt8}:∀ {h n:Nat} {t:BTr h},Hg v h n t→SzT h t
 |0,n,t,ht=>⟨D4.sz ht,fun e he=>(D4.ok ht ⟨e,0⟩ (ZP.2 ⟨e,he,rfl⟩)).1.1⟩
 |h+1,n,t,ht=>⟨ht.1.sz,fun x hx=>(ht.1.ok ⟨x.1,x.2.1⟩ (ZP.2 ⟨x,hx,rfl⟩)).1.1,fun x hx=>(ht.2 x hx).szT⟩
theorem Ac6:∀ {h:Nat} {t t':BTr h} {e:Ent} {more:Option (Ent×Nat×BTr h)},SzT h t→e.k.length≤140→Ur h t e t' more→∀ z,more=some z→z.1.k.length≤140
 |0,t,t',e,more,hz,he,hi,z,hm=>by
  rcases hi.2 with⟨_,_,rfl⟩|⟨_,_,_,m,y,hy,_,rfl⟩
  ·cases hm
  ·obtain rfl:=VG hm
   obtain⟨y0,h1,rfl⟩:=ZP.1 (QG hy)
   rcases QS.1 h1 with h1|h1
   ·exact hz.2 _ (ZM h1)
   ·rcases QP.1 h1 with rfl|h1
    ·exact he
    ·exact hz.2 _ (ZX h1)
 |h+1,t,t',e,more,hz,he,hi,z,hm=>by
  obtain⟨l1,x,l2,s',more',rfl,_,hin,hs⟩:=hi
  have ih:=Ac6 (hz.2.2 x (by simp)) he hin
  rcases hs with⟨_,_,rfl⟩|⟨_,_,_,m,y,hy,_,rfl⟩
  ·cases hm
  ·obtain rfl:=VG hm
   obtain⟨y0,h1,rfl⟩:=ZP.1 (QG hy)
   simp only[QS,QP,Option.mem_toList]at h1
   rcases h1 with h1|rfl|h1|h1
   ·exact hz.2.1 y0 (by simp[h1])
   ·exact hz.2.1 x (by simp)
   ·exact ih y0 h1
   ·exact hz.2.1 y0 (by simp[h1])
theorem Ao7 {a b c d:Nat}(h1:a=c)(h2:b=d):a+b=c+d:=by rw[h1,h2]
theorem A2e {h:Nat}{l:NL h}{t':BTr (h+1)}{more:Option (Ent×Nat×BTr (h+1))}(hs:SpR A9 l (show NL h from t') more):(∀ j,j≤h→cn (h+1) t' j+cnO more j=cnL l j)∧((more=none∧cn (h+1) t' (h+1)+cnO more (h+1)=1)∨(more≠none∧496<szL (A9 l)∧cn (h+1) t' (h+1)+cnO more (h+1)=2)):=by
 rcases hs with⟨s1,h1,rfl⟩|⟨s1,_,_,m,y,_,h1,rfl⟩
 ·subst h1
  exact⟨fun j hj=>Qp t' hj,.inl ⟨rfl,Lk (h+1) t'⟩⟩
 ·refine⟨fun j hj=> ?_,.inr ⟨Option.some_ne_none _,s1,?_⟩⟩
  ·have a1:cn (h+1) t' j=cnL (l.take (C2 (A9 l))) j:=by rw[← h1];exact Qp _ hj
   have a2:cnO (h:=h+1) (some (y.e,m,l.drop (C2 (A9 l)))) j=cnL (l.drop (C2 (A9 l))) j:=Qp _ hj
   have a3:=Uw (l.take (C2 (A9 l))) (l.drop (C2 (A9 l))) j
   rw[ZI]at a3
   exact (Ao7 a1 a2).trans a3.symm
  ·have a1:=Lk (h+1) t'
   have a2:cnO (h:=h+1) (some (y.e,m,l.drop (C2 (A9 l)))) (h+1)=1:=Lk (h+1) _
   exact Ao7 a1 a2
theorem Aj9:∀ {h:Nat} {t t':BTr h} {e:Ent} {more:Option (Ent×Nat×BTr h)},SzT h t→Ur h t e t' more→∃ δ:Nat→Nat,(∀ j,δ j≤1)∧(∀ j,δ (j+1)≤δ j)∧(∀ j,j≤h→cn h t' j+cnO more j=cn h t j+δ j)∧(more≠none→δ h=1)∧(more=none→δ h=0)
 |0,t,t',e,more,hz,hi=>by
  rcases hi.2 with⟨_,_,rfl⟩|⟨_,_,_,m,y,hy,_,rfl⟩
  ·refine⟨fun _=>0,fun _=>YS _,fun _=>QH _,fun j hj=> ?_,fun h=>absurd rfl h,fun _=>rfl⟩
   obtain rfl:j=0:=Nat.le_zero.1 hj
   rfl
  ·refine⟨fun j=>if j=0 then 1 else 0,fun j=>by dsimp only;split<;>omega,fun j=>by dsimp only;rw[if_neg (by omega)];exact Nat.zero_le _,fun j hj=> ?_,fun _=>rfl,fun h=>by cases h⟩
   obtain rfl:j=0:=Nat.le_zero.1 hj
   rfl
 |h+1,t,t',e,more,hz,hi=>by
  obtain⟨l1,x,l2,s',more',rfl,_,hin,hs⟩:=hi
  obtain⟨δ,d1,d2,d3,d4,d5⟩:=Aj9 (hz.2.2 x (by simp)) hin
  obtain⟨l,hl⟩:∃ l:NL h,l=l1++(x.1,x.2.1,s')::(more'.toList++l2):=⟨_,rfl⟩
  rw[← hl]at hs
  have hc:∀ j,j≤h→cnL l j=cnL (l1++x::l2:NL h) j+δ j:=fun j hj=>by
   rw[hl,Uw,Ik,Uw,Arb,Uw,Ik]
   have:=d3 j hj
   dsimp only;omega
  obtain⟨c1,c2⟩:=A2e hs
  have hz1:szL (A9 (l1++x::l2:NL h))≤496:=hz.1
  have k1:∀ j,j≤h→cn (h+1) t' j+cnO more j=cn (h+1) (l1++x::l2:NL h) j+δ j:=fun j hj=>(c1 j hj).trans ((hc j hj).trans (congrArg (· +δ j) (Qp (l1++x::l2:NL h) hj).symm))
  have k2:=Lk (h+1) (l1++x::l2:NL h)
  rcases c2 with⟨rfl,c2⟩|⟨c0,s1,c2⟩
  ·refine⟨fun j=>if j≤h then δ j else 0,fun j=> ?_,fun j=> ?_,fun j hj=> ?_,fun h=>absurd rfl h,fun _=>if_neg (by omega)⟩
   ·dsimp only
    split
    ·exact d1 j
    ·omega
   ·dsimp only
    by_cases e:j+1≤h
    ·rw[if_pos e,if_pos (by omega)];exact d2 j
    ·rw[if_neg e];exact YS _
   ·dsimp only
    rcases YW h j with e|e
    ·obtain rfl:j=h+1:=by omega
     rw[if_neg (by omega)]
     exact c2.trans k2.symm
    ·rw[if_pos e];exact k1 j e
  ·have hmo:more'≠none:=fun e0=>by
    subst e0
    have e1:A9 l=A9 (l1++x::l2:NL h):=by rw[hl];simp[A9]
    rw[e1]at s1
    omega
   have d4':=d4 hmo
   refine⟨fun j=>if j≤h then δ j else if j=h+1 then 1 else 0,fun j=> ?_,fun j=> ?_,fun j hj=> ?_,fun _=> ?_,fun h=>absurd h c0⟩
   ·dsimp only
    split
    ·exact d1 j
    ·split<;>omega
   ·dsimp only
    rcases WC (j+1) (h+1)with e|e|e
    ·rw[if_pos (by omega),if_pos (by omega)];exact d2 j
    ·rw[if_neg (by omega),if_pos e,if_pos (by omega)]
     obtain rfl:j=h:=by omega
     omega
    ·rw[if_neg (by omega),if_neg (by omega)];exact YS _
   ·dsimp only
    rcases YW h j with e|e
    ·obtain rfl:j=h+1:=by omega
     rw[if_neg (by omega),if_pos rfl]
     exact c2.trans (congrArg (· +1) k2.symm)
    ·rw[if_pos e];exact k1 j e
   ·dsimp only
    rw[if_neg (by omega),if_pos rfl]
theorem Aka : ∀ {h : Nat} {t t' : BTr h} {e : Ent} {more : Option (Ent × Nat × BTr h)}, Ur h t e t' more → (Bj h t').length + (match more with
    | none => 0
    | some z => (Bj h z.2.2).length) = (Bj h t).length + 1
  | 0, t, t', e, more, hi => by
    have hl : (List.take (Iq (B1 t) e) (show List Ent from t) ++ e :: List.drop (Iq (B1 t) e) (show List Ent from t)).length = (show List Ent from t).length + 1 := by
      rw [QE, QF, QZ, WJ]; omega
    rcases hi.2 with ⟨_, rfl, rfl⟩ | ⟨_, _, _, m, y, hy, rfl, rfl⟩
    · exact hl
    · show (List.take _ _).length + (List.drop _ _).length = _
      rw [← QE, ZI]; exact hl
  | h + 1, t, t', e, more, hi => by
    obtain ⟨l1, x, l2, s', more', rfl, _, hin, hs⟩ := hi
    have ih := Aka hin
    obtain ⟨l, hl⟩ : ∃ l : NL h, l = l1 ++ (x.1, x.2.1, s') :: (more'.toList ++ l2) := ⟨_, rfl⟩
    rw [← hl] at hs
    have hc : (l.flatMap fun x => Bj h x.2.2).length = ((l1 ++ x :: l2 : NL h).flatMap fun x => Bj h x.2.2).length + 1 := by
      rw [hl]
      cases more' with
      | none => simp only [Option.toList, ZQ, WG, YA, QE] at ih ⊢; omega
      | some z => simp only [Option.toList, ZN, ZQ, WG, YA, QE] at ih ⊢; omega
    rcases hs with ⟨_, rfl, rfl⟩ | ⟨_, _, _, m, y, hy, rfl, rfl⟩
    · exact hc
    · show ((List.take _ l).flatMap fun x => Bj h x.2.2).length + ((List.drop _ l).flatMap fun x => Bj h x.2.2).length = _
      rw [← QE, ← WG, ZI]; exact hc
