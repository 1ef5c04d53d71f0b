/- Rows of values are read; numbers of versions. slices.SortFunc of versions, on the machine. -/
import Derived.Test.YtpoigihfeehehaaGreatDoorM41
import Derived.Test.YtpoigihfeehehaaGreatDoorM22
import Derived.Shelf.SlSortCmp.WholeK
import Derived.Ground.SlsfProg
import Derived.Test.YtpoigihfeehehaaGreatDoorProg
import Derived.Test.YtpoigihfeehehaaGreatDoorM34
import Derived.Shelf.SlSortCmp.NoneTotal
import Derived.Shelf.Strings.Builder1
import Derived.Shelf.Strings.Builder2
import Derived.Shelf.Small.Bits
import Derived.Shelf.Strconv.Itoa0
import Derived.Shelf.Strings.Search1
import Derived.Shelf.Strings.Search2
import Derived.Shelf.Strings.Search3
import Derived.Shelf.Strings.Count
import Derived.Shelf.LaysM
import Derived.Shelf.Strings.Shaped
import Derived.Shelf.Strings.Split
import Derived.Shelf.Strings.Replace
import Derived.Shelf.Unicode.DecodeSlow
set_option linter.all false
set_option maxRecDepth 100000
set_option maxHeartbeats 32000000
namespace Go.Proofs.YtpoigihfeehehaaGreatDoor
open Go.RowKit
def Ac0:Cq:=(.det 0 (.det 1 (.det 2 (.det 3 (.det 4 (.det 5 (.det 6 (.det 7 (.det 8 (.det 9 (.det 10 (.det 11 (.det 12 (.det 13 (.det 14 (.det 15 (.det 16 (.det 17 (.det 18 (.det 19 (.det 20 (.det 21 (.det 22 .done)))))))))))))))))))))))
def Ac1:Cq:=(.det 0 (.det 1 (.det 2 (.det 3 (.det 5 (.det 6 (.det 7 (.det 9 (.det 11 (.act 4 (.act 8 (.det 10 (.fin 12 (.det 13 .done))))))))))))))
def tTd:=aa wX <| aa wbu <| aa T3 <| aa T4 <| aa T5 <| aa T29 <| aa T51 <| aa T54 <| aa T62 <| aa T70 <| aa T120 <| aa T242 T244
theorem A17 {l:List Va}(hl:∀ v∈l,okW v)(h0:l≠[])(h255:l.length≤255)(σ:St):
 Aa Tryz.prog 90 [.p (.sl 1 (Ax (rwB l)))] σ fun r s=>s=σ∧r= .tup [.p (.sl 3 (enV l)),Ad .i64 0]:=by
 refine Aa.pureF (R:=fun r=>r= .tup [.p (.sl 3 (enV l)),Ad .i64 0]) ?_ rfl σ
 have hb:((UInt8.ofNat l.length).toNat:Int)=(l.length:Int):=by rw[E7 (by omega)]
 have hw:IntKind.i64.wrap (l.length:Int)=(l.length:Int):=by rw[wrap_i64 (by omega) (by omega)]
 refine Ab Am An Tryz.func90 (by kernel_rfl) rfl (nt:=48) (rs:=[.tmp 2,.tmp 3]) rfl rfl ?_
 repeat' simp only[↓wBA,tTd,seval,wH]
 refine (Jk (t:=0) (b:=UInt8.ofNat l.length) (l:=l.flatMap valB) rfl).mono ?_
 rintro _ s1 ⟨rfl,rfl⟩
 repeat' simp only[↓wBA,tTd,Cv,seval,Bo,hb,hw]
 refine Ar (X:={ q:Nat×AV // q.1≤l.length }) (fun q=>l.length - q.1.1) (fun q=>[(5,q.1.2),(6,Ad .i64 ((l.length - q.1.1:Nat):Int))]) [15,16,17,18,19,20,21,22,23,24,25,26,27,28,29,30] (fun q s=>1≤s.length∧s[0]? =some (rdO ((l.drop q.1.1).flatMap valB))∧Kr s q.1.2 24 3 (enV (l.take q.1.1))∧Ch q.1.2≠some 0) (⟨(0,.p (.v (.slice none 0 0))),by simp⟩) ?_ ?_ ?_ ?_
 ·simp only[wHl,wHf,Nat.sub_zero]
 ·exact⟨by simp,rfl,.inl ⟨rfl,rfl⟩,by simp[Ch]⟩
 ·rintro _ _ ⟨h,_⟩;simpa using h
 ·intro q J s hI
  simp only[wHl]
  obtain⟨⟨i,av⟩,hi⟩:=q
  obtain⟨hs1,hs0,how,hno⟩:=hI
  dsimp only at*
  have ys:=Ac hs0
  by_cases hlt:i<l.length
  ·have e1:decide (((l.length - i:Nat):Int)>0)=true:=decide_eq_true (by omega)
   have hwi:IntKind.i64.wrap (((l.length - i:Nat):Int) - 1)=((l.length - (i+1):Nat):Int):=by rw[wrap_i64 (by omega) (by omega)];omega
   have hdr:(l.drop i).flatMap valB=valB l[i]++(l.drop (i+1)).flatMap valB:=by rw[YB hlt,YA]
   rw[hdr]at hs0
   have htk:enV (l.take (i+1))=enV (l.take i)++[vaC l[i]]:=by rw[YC hlt,Aq2];rfl
   have hll:(enV (l.take i)).length=i:=by rw[Ea,QZ];omega
   repeat' simp only[↓wBA,tTd,seval,wHl,e1,hs0]
   refine (A16 (hl _ (XU hlt)) hs0).mono ?_
   rintro _ s2 ⟨rfl,a2⟩
   have q2:=a2.len
   simp only[ZW]at q2
   have hs2:=a2.get (t:=0) (XW ys)
   have how2:Kr s2 av 24 3 (enV (l.take i)):=how.same fun t ht=>by
    obtain⟨τ,rfl⟩:=a2
    have:=how.lt ht
    rw[QD (by simpa using this),QO fun e=>hno (by rw[ht,e])]
   have how3:=how2.same (q':=s2++[some (.right 24 3)]) fun q hq=>QD (how2.lt hq)
   obtain⟨av3,s3,h1,h2,h3,h4,h5⟩:=G3 (q:=s2++[some (.right 24 3)]) (y:=.own s2.length 3 [vaC l[i]]) (m:=[vaC l[i]]) W8 how3 rfl (by simp) (by rw[hll];simp;omega) (by rw[hll];simp;omega)
   simp only[QE,QF,QI,ZC]at h1 h3 h4 h5
   obtain⟨v,hv⟩:∃ v,v=l[i]:=⟨_,rfl⟩
   rw[← hv]at h1 h2 htk ⊢
   obtain⟨k,n,x⟩:=v
   simp only[vaC]at h1
   repeat' simp only[↓wBA,tTd,seval,wH,wHl,vaA,vaC,h1,hwi]
   refine⟨⟨(i+1,av3),by show i+1≤l.length;omega⟩,by show l.length - (i+1)<l.length - i;omega,⟨by omega,?_,?_,fun e=> ?_⟩,by simp only[]⟩
   ·dsimp only
    rw[h4 0 (by omega) hno,QD (by omega)];exact hs2
   ·dsimp only
    rw[htk];exact h2
   ·exact (h5 0 e).elim hno fun e=>by omega
  ·obtain rfl:i=l.length:=by omega
   have e1:decide (((l.length - l.length:Nat):Int)>0)=false:=decide_eq_false (by omega)
   rw[List.drop_length,WQ]at hs0
   rw[ZS]at how
   have hln:=Lj []
   have hz:((([]:List UInt8).length:Int)==0)=true:=rfl
   repeat' simp only[↓wBA,tTd,seval,wHl,e1,hs0,hln]
   refine (Qn (l:=[]) hs0).mono ?_
   rintro _ s2 ⟨rfl,rfl⟩
   repeat' simp only[↓wBA,tTd,seval,wHl,hs0]
   all_goals refine rtS ?_
   all_goals simp only[wRe,tTd,seval]
   rcases how with⟨_,h⟩|⟨t,rfl,_,_⟩
   ·exact absurd (YZ.1 h) h0
   ·exact⟨rfl,rfl⟩
theorem m08:min 8 IntKind.i64.bits=8*1:=nr (by decide)
theorem m16:min 16 IntKind.i64.bits=8*2:=nr (by decide)
theorem m24:min 24 IntKind.i64.bits=8*3:=nr (by decide)
theorem Amo {n:Nat}(hn:n<4294967296)(σ:St):Aa Tryz.prog 42 [Ad .i64 (n:Nat)] σ fun r s=>s=σ∧r= .p (.sl 1 (Ax (leB n 4))):=by
 refine Aa.pureF (R:=fun r=>r= .p (.sl 1 (Ax (leB n 4)))) ?_ rfl σ
 have b0:IntKind.u8.wrap (n:Int)=((UInt8.ofNat (n / 256 ^ 0 % 256)).toNat:Int):=by have:=G0 n 0 (by omega) (by omega);simpa using this
 have b1:IntKind.u8.wrap ((n:Int).fdiv (2 ^ min 8 IntKind.i64.bits))=((UInt8.ofNat (n / 256 ^ 1 % 256)).toNat:Int):=by rw[m08];exact G0 n 1 (by omega) (by omega)
 have b2:IntKind.u8.wrap ((n:Int).fdiv (2 ^ min 16 IntKind.i64.bits))=((UInt8.ofNat (n / 256 ^ 2 % 256)).toNat:Int):=by rw[m16];exact G0 n 2 (by omega) (by omega)
 have b3:IntKind.u8.wrap ((n:Int).fdiv (2 ^ min 24 IntKind.i64.bits))=((UInt8.ofNat (n / 256 ^ 3 % 256)).toNat:Int):=by rw[m24];exact G0 n 3 (by omega) (by omega)
 refine Ab Am An Tryz.func42 (by kernel_rfl) rfl (nt:=14) (rs:=[.tmp 2]) rfl rfl ?_
 repeat' simp only[↓wBA,tTd,Cv,seval]
 all_goals refine rtS ?_
 all_goals simp only[wRe,tTd,seval]
 rw[b0,b1,b2,b3]
 exact⟨rfl,rfl⟩
theorem orN {x y i:Nat}(hx:x<2 ^ i)(hs:x+y*2 ^ i<9223372036854775808):IntKind.i64.wrap ((BitVec.ofInt IntKind.i64.bits (x:Int) ||| BitVec.ofInt IntKind.i64.bits ((y*2 ^ i:Nat):Int)).toNat:Int)=((x+y*2 ^ i:Nat):Int):=by
 generalize hq:2 ^ i=q at*
 have h1:y*q<18446744073709551616:=by omega
 rw[Ah9,show 2 ^ IntKind.i64.bits=18446744073709551616 from rfl,YL (by omega),YL (by omega)]
 have e3:x ||| y*q=x+y*q:=by
  have:=Nat.two_pow_add_eq_or_of_lt (i:=i) (b:=x) (by rw[hq];exact hx) y
  rw[hq]at this
  rw[Nat.or_comm,XL y q,←this];omega
 rw[e3,wrap_i64 (by omega) (by omega)]
theorem Awz (a b c d:UInt8)(l:List UInt8)(σ:St):Aa Tryz.prog 91 [.p (.sl 1 (Ax (a::b::c::d::l)))] σ fun r s=>s=σ∧r=Ad .i64 ((Ja [a,b,c,d]:Nat):Int):=by
 refine Aa.pureF (R:=fun r=>r=Ad .i64 ((Ja [a,b,c,d]:Nat):Int)) ?_ rfl σ
 have ha:=a.toNat_lt
 have hb:=b.toNat_lt
 have hc:=c.toNat_lt
 have hd:=d.toNat_lt
 have hln:(Ax (a::b::c::d::l)).length=l.length+4:=by rw[B6];simp
 have c0:(Ax (a::b::c::d::l))[0]? =some [.v (.int .u8 (a.toNat:Int))]:=rfl
 have c1:(Ax (a::b::c::d::l))[1]? =some [.v (.int .u8 (b.toNat:Int))]:=rfl
 have c2:(Ax (a::b::c::d::l))[2]? =some [.v (.int .u8 (c.toNat:Int))]:=rfl
 have c3:(Ax (a::b::c::d::l))[3]? =some [.v (.int .u8 (d.toNat:Int))]:=rfl
 have hN:Ja [a,b,c,d]=a.toNat+b.toNat*2 ^ 8+c.toNat*2 ^ 16+d.toNat*2 ^ 24:=by simp only[Ja];omega
 rw[hN]
 generalize a.toNat=xa at*
 generalize b.toNat=xb at*
 generalize c.toNat=xc at*
 generalize d.toNat=xd at*
 have d0:((0:Int)<(((l.length+4:Nat)):Int))=True:=eq_true (by omega)
 have d1:((1:Int)<(((l.length+4:Nat)):Int))=True:=eq_true (by omega)
 have d2:((2:Int)<(((l.length+4:Nat)):Int))=True:=eq_true (by omega)
 have d3:((3:Int)<(((l.length+4:Nat)):Int))=True:=eq_true (by omega)
 have wa:IntKind.i64.wrap (xa:Int)=(xa:Int):=wrap_i64 (by omega) (by omega)
 have wb:IntKind.i64.wrap (xb:Int)=(xb:Int):=wrap_i64 (by omega) (by omega)
 have wc:IntKind.i64.wrap (xc:Int)=(xc:Int):=wrap_i64 (by omega) (by omega)
 have wd:IntKind.i64.wrap (xd:Int)=(xd:Int):=wrap_i64 (by omega) (by omega)
 have s1:IntKind.i64.wrap ((xb:Int)*2 ^ min 8 IntKind.i64.bits)=((xb*2 ^ 8:Nat):Int):=by rw[m08,wrap_i64 (by omega) (by omega)];omega
 have s2:IntKind.i64.wrap ((xc:Int)*2 ^ min 16 IntKind.i64.bits)=((xc*2 ^ 16:Nat):Int):=by rw[m16,wrap_i64 (by omega) (by omega)];omega
 have s3:IntKind.i64.wrap ((xd:Int)*2 ^ min 24 IntKind.i64.bits)=((xd*2 ^ 24:Nat):Int):=by rw[m24,wrap_i64 (by omega) (by omega)];omega
 have o1:=orN (x:=xa) (y:=xb) (i:=8) (by omega) (by omega)
 have o2:=orN (x:=xa+xb*2 ^ 8) (y:=xc) (i:=16) (by omega) (by omega)
 have o3:=orN (x:=xa+xb*2 ^ 8+xc*2 ^ 16) (y:=xd) (i:=24) (by omega) (by omega)
 refine Ab Am An Tryz.func91 (by kernel_rfl) rfl (nt:=24) (rs:=[.tmp 2]) rfl rfl ?_
 repeat' first|simp only[↓wBA,tTd,Cv,seval,Ac0,wH,c0,c1,c2,c3]|(with_reducible refine dQ Ac0 23 (some 3) ?_)
 all_goals refine rtS ?_
 all_goals simp only[wRe,tTd,seval]
 rw[wa,wb,wc,wd,s1,s2,s3,o1,o2,o3]
 exact⟨rfl,congrArg (fun k:Nat=>AV.p (.v (.int .i64 (k:Int)))) (by omega)⟩
theorem leB4 (n:Nat)(l:List UInt8):leB n 4++l=UInt8.ofNat (n / 256 ^ 0 % 256)::UInt8.ofNat (n / 256 ^ 1 % 256)::UInt8.ofNat (n / 256 ^ 2 % 256)::UInt8.ofNat (n / 256 ^ 3 % 256)::l:=rfl
theorem Ao3 {n:Nat}(hn:n<4294967296)(l:List UInt8)(σ:St):Aa Tryz.prog 91 [.p (.sl 1 (Ax (leB n 4++l)))] σ fun r s=>s=σ∧r=Ad .i64 (n:Nat):=by
 rw[leB4]
 refine (Awz _ _ _ _ l σ).mono ?_
 rintro r s ⟨rfl,rfl⟩
 refine⟨rfl,?_⟩
 have h:=Ko n 4
 rw[YL (by omega)]at h
 exact congrArg (fun k:Nat=>Ad .i64 (k:Int)) h
theorem Ac2 {p s m t:Nat}{l:List Va}(hm:m<4294967296)(ht:t<4294967296)(hl:∀ v∈l,okW v)(h0:l≠[])(h255:l.length≤255)(σ:St):
 Aa Tryz.prog 48 [.agg [Ad .i64 (p:Nat),Ad .i64 (s:Nat),.p (.sl 1 (Ax (rcB m t l)))]] σ fun r s'=>s'=σ∧r= .tup [.agg [Ad .i64 (p:Nat),Ad .i64 (s:Nat),Ad .i64 (m:Nat),Ad .i64 (t:Nat),.p (.sl 3 (enV l))],Ad .i64 0]:=by
 refine Aa.pureF (R:=fun r=>r= .tup [.agg [Ad .i64 (p:Nat),Ad .i64 (s:Nat),Ad .i64 (m:Nat),Ad .i64 (t:Nat),.p (.sl 3 (enV l))],Ad .i64 0]) ?_ rfl σ
 have hlen:(rcB m t l).length=(rwB l).length+8:=by unfold rcB;rw[QE,QE,B0,B0];omega
 have hln:=Lj (rcB m t l)
 have e1:decide (((rcB m t l).length:Int)<8)=false:=decide_eq_false (by omega)
 have h8:Bl cx 70 (.p (.sl 1 (Ax (rcB m t l)))) (some (.p (.v (.int .i64 8)))) none=some (.p (.sl 1 (Ax (rwB l)))):=Amm (rcB m t l) (n:=8) (by omega)
 have h4:Bl cx 70 (.p (.sl 1 (Ax (rcB m t l)))) (some (.p (.v (.int .i64 4)))) none=some (.p (.sl 1 (Ax (leB t 4++rwB l)))):=Amm (rcB m t l) (n:=4) (by omega)
 have hg:=A17 hl h0 h255
 have r1:=Ao3 hm (leB t 4++rwB l)
 have r2:=Ao3 ht (rwB l)
 rw[show leB m 4++(leB t 4++rwB l)=rcB m t l from rfl]at r1
 refine Ab Am An Tryz.func48 (by kernel_rfl) rfl (nt:=29) (rs:=[.cell 2 62,.tmp 3]) rfl rfl ?_
 repeat' first|simp only[↓wBA,tTd,seval,Ac1,wH,hln,e1,h8,h4]|((with_reducible show Aa _ _ _ _ _);first|refine (hg _).eq ?_|refine (r1 _).eq ?_|refine (r2 _).eq ?_)|(with_reducible refine dQ Ac1 14 (some 18) ?_)
 all_goals refine rtS ?_
 all_goals simp only[wRe,tTd,seval]
 exact⟨rfl,rfl⟩
end Go.Proofs.YtpoigihfeehehaaGreatDoor
/-
 DERIVED: THE SHELF's CONTRACTS AT THIS DUMP,IN PLAIN WORDS (tools/lay-plain.mjs out of 'TryzShelf.lean',which tools/lay-shelf.mjs wrote): THE SAME DECLARATIONS UNDER THE SAME NAMES: 'import','namespace','open','def','theorem' AND NOTHING ELSE: no command of the shelf's: FOR A HAND-IN. Each laying: the table of numbers ('.._ren') and one theorem,a field a fact of the dump's own or the kernel's comparison;each contract: ONE APPLICATION.
-/
namespace Go.Proofs
open Go.Shelf
def Tryz.sortVer_ren:Go.Shelf.Ren:=⟨fun|6=>92|15=>141|14=>140|28=>182|29=>183|20=>174|21=>175|22=>176|23=>177|24=>178|25=>179|26=>180|27=>181|46=>202|47=>203|48=>204|49=>205|50=>206|57=>223|n=>n,fun|22=>56|24=>62|25=>184|3=>3|39=>34|0=>0|53=>286|55=>140|4=>4|46=>280|45=>279|50=>266|5=>5|9=>9|66=>308|70=>312|76=>324|77=>325|n=>n,fun|n=>n⟩
theorem Tryz.sortVer:Go.Proofs.SlLaysF0.n6 Tryz.prog Tryz.sortVer_ren:={
 mixed:=by kernel_rfl
 f6:=⟨Tryz.f92.name,by decide,Tryz.func92.trans (congrArg some (by kernel_rfl))⟩
 f14:=⟨Tryz.f140.name,by decide,Tryz.func140.trans (congrArg some (by kernel_rfl))⟩
 f15:=Tryz.func141.trans (congrArg some (by kernel_rfl))
 f20:=⟨Tryz.f174.name,by decide,Tryz.func174.trans (congrArg some (by kernel_rfl))⟩
 f21:=⟨Tryz.f175.name,by decide,Tryz.func175.trans (congrArg some (by kernel_rfl))⟩
 f22:=⟨Tryz.f176.name,by decide,Tryz.func176.trans (congrArg some (by kernel_rfl))⟩
 f23:=⟨Tryz.f177.name,by decide,Tryz.func177.trans (congrArg some (by kernel_rfl))⟩
 f24:=⟨Tryz.f178.name,by decide,Tryz.func178.trans (congrArg some (by kernel_rfl))⟩
 f25:=⟨Tryz.f179.name,by decide,Tryz.func179.trans (congrArg some (by kernel_rfl))⟩
 f26:=⟨Tryz.f180.name,by decide,Tryz.func180.trans (congrArg some (by kernel_rfl))⟩
 f27:=⟨Tryz.f181.name,by decide,Tryz.func181.trans (congrArg some (by kernel_rfl))⟩
 f28:=Tryz.func182.trans (congrArg some (by kernel_rfl))
 f29:=Tryz.func183.trans (congrArg some (by kernel_rfl))
 f46:=⟨Tryz.f202.name,by decide,Tryz.func202.trans (congrArg some (by kernel_rfl))⟩
 f47:=Tryz.func203.trans (congrArg some (by kernel_rfl))
 f48:=Tryz.func204.trans (congrArg some (by kernel_rfl))
 f49:=⟨Tryz.f205.name,by decide,Tryz.func205.trans (congrArg some (by kernel_rfl))⟩
 f50:=⟨Tryz.f206.name,by decide,Tryz.func206.trans (congrArg some (by kernel_rfl))⟩
 f57:=⟨Tryz.f223.name,by decide,Tryz.func223.trans (congrArg some (by kernel_rfl))⟩
 t0:=Tryz.underlying0
 a0:=Tryz.isAgg0
 z0:=Tryz.sizeOf0
 v0:=Tryz.zeroValue0
 t3:=Tryz.underlying3
 a3:=Tryz.isAgg3
 z3:=Tryz.sizeOf3
 v3:=Tryz.zeroValue3
 t4:=Tryz.underlying4
 a4:=Tryz.isAgg4
 z4:=Tryz.sizeOf4
 v4:=Tryz.zeroValue4
 t5:=Tryz.underlying5
 a5:=Tryz.isAgg5
 z5:=Tryz.sizeOf5
 v5:=Tryz.zeroValue5
 t9:=Tryz.underlying9
 a9:=Tryz.isAgg9
 z9:=Tryz.sizeOf9
 v9:=Tryz.zeroValue9
 t22:=Tryz.underlying56
 a22:=Tryz.isAgg56
 z22:=Tryz.sizeOf56
 v22:=Tryz.zeroValue56
 t25:=Tryz.underlying184
 a25:=Tryz.isAgg184
 z25:=Tryz.sizeOf184
 v25:=Tryz.zeroValue184
 t39:=Tryz.underlying34
 a39:=Tryz.isAgg34
 z39:=Tryz.sizeOf34
 v39:=Tryz.zeroValue34
 t45:=Tryz.underlying279
 a45:=Tryz.isAgg279
 z45:=Tryz.sizeOf279
 v45:=Tryz.zeroValue279
 t46:=Tryz.underlying280
 a46:=Tryz.isAgg280
 z46:=Tryz.sizeOf280
 v46:=Tryz.zeroValue280
 t50:=Tryz.underlying266
 a50:=Tryz.isAgg266
 z50:=Tryz.sizeOf266
 v50:=Tryz.zeroValue266
 t53:=Tryz.underlying286
 a53:=Tryz.isAgg286
 z53:=Tryz.sizeOf286
 v53:=Tryz.zeroValue286
 t55:=Tryz.underlying140
 a55:=Tryz.isAgg140
 z55:=Tryz.sizeOf140
 v55:=Tryz.zeroValue140
 t66:=Tryz.underlying308
 a66:=Tryz.isAgg308
 z66:=Tryz.sizeOf308
 v66:=Tryz.zeroValue308
 t70:=Tryz.underlying312
 a70:=Tryz.isAgg312
 z70:=Tryz.sizeOf312
 v70:=Tryz.zeroValue312
 t76:=Tryz.underlying324
 a76:=Tryz.isAgg324
 z76:=Tryz.sizeOf324
 v76:=Tryz.zeroValue324
 t77:=Tryz.underlying325
 a77:=Tryz.isAgg325
 z77:=Tryz.sizeOf325
 v77:=Tryz.zeroValue325 }
end Go.Proofs
namespace Go.Proofs.YtpoigihfeehehaaGreatDoor
open Go.RowKit Go.Sort
def tTf:=aa wX <| aa wbu <| aa T56 T184
abbrev Ver:=(Nat×Nat)×(Nat×Nat)×List Va
def verC (x:Ver):List PV:=[.v (.int .i64 (x.1.1:Nat)),.v (.int .i64 (x.1.2:Nat)),.v (.int .i64 (x.2.1.1:Nat)),.v (.int .i64 (x.2.1.2:Nat)),.sl 3 (enV x.2.2)]
def Dt (x:Ver):List AV:=(verC x).map .p
def leV (x y:Ver):Prop:=x.1.1<y.1.1∨(x.1.1=y.1.1∧x.1.2≤y.1.2)
abbrev VZ:=Ver×Amj
def toW (z:VZ):VerW:=(z.1.1,z.1.2.1,z.2)
def encZ (z:VZ):List Value:=encW (toW z)
def cfZ (x y:VZ):Int:=cfW (toW x) (toW y)
theorem ltZ (x y:VZ):ltOf cfZ x y=decide (x.1.1.1<y.1.1.1∨(x.1.1.1=y.1.1.1∧x.1.1.2<y.1.1.2)):=by
 unfold ltOf cfZ cfW toW Lib.compareInt
 rcases WC x.1.1.1 y.1.1.1 with h|h|h<;>rcases WC x.1.1.2 y.1.1.2 with h'|h'|h'<;>simp[h,h',Nat.lt_asymm]<;>omega
theorem swoZ:SWO (ltOf cfZ) where
 irrefl x:=by rw[ltZ];simp
 trans x y z h1 h2:=by rw[ltZ]at *;simp at *;omega
 ntrans x y z h1 h2:=by rw[ltZ]at *;simp at *;omega
theorem Aq5:∀ w,(isAgg 62).run Tryz.prog w= .ok true w:=fun w=>by rfl
theorem Amp:∀ w,(Go.sizeOf 62).run Tryz.prog w= .ok 5 w:=fun w=>by
 have hs:(Tryz.prog.info? 62).map (·.size)=some 5:=by kernel_rfl
 cases hq:Tryz.prog.info? 62 with
 |none=>rw[hq]at hs;simp at hs
 |some i=>rw[hq]at hs;simp at hs;simp[sizeOf,typeInfo,hq,hs]
theorem Yg (d:Array VZ){i q:Nat}(hi:i<d.size)(hq:q<5):(flatK encZ 5 d)[i*5+q]! =(encZ d[i]!)[q]! :=by
 rw[get_flatK _ _ _ _ (by omega),show (i*5+q) / 5=i by omega,show (i*5+q) % 5=q by omega]
theorem Aj3 {α β:Type}{R:Nat→α→β→Prop}:∀ (L:List α) (k:Nat),(∀ i x,L[i]? =some x→∃ y,R (k+i) x y)→∃ Y:List (α×β),Y.map Prod.fst=L∧∀ i z,Y[i]? =some z→R (k+i) z.1 z.2
 |[],k,_=>⟨[],rfl,fun i z h=>by simp at h⟩
 |x::L,k,h=>by
  obtain⟨y,hy⟩:=h 0 x rfl
  obtain⟨Y,h1,h2⟩:=Aj3 (R:=R) L (k+1) fun i x hx=>by
   have:=h (i+1) x (by simpa using hx)
   rwa [show k+1+i=k+(i+1) by omega]
  refine⟨(x,y)::Y,by rw[QK,h1],fun i z hz=> ?_⟩
  cases i with
  |zero=>simp at hz;subst hz;exact hy
  |succ i=>
   have:=h2 i z (by simpa using hz)
   rwa [show k+1+i=k+(i+1) by omega]at this
theorem one_cell {M:Az}{e:Nat}{ls:List (List PV)}{u:Value}(h:Ag M (.p (.sl e ls)) u):u.oneCell'=true:=by
 simp only[Ag,Ca]at h
 rcases h with⟨_,ad,cap,rfl,_⟩|⟨b,off,cap,rfl,_⟩<;>rfl
theorem Aq6 {M:Az}{z:VZ}{q:Nat}{a:AV}(hz:Ag M (.p (.sl 3 (enV z.1.2.2))) z.2.1)(ha:(Dt z.1)[q]? =some a):leaf a=true∧Ag M a (encZ z)[q]! ∧q<5:=by
 match q,ha with
 |0,ha=>simp[Dt,verC]at ha;subst ha;exact⟨rfl,Bb rfl,by omega⟩
 |1,ha=>simp[Dt,verC]at ha;subst ha;exact⟨rfl,Bb rfl,by omega⟩
 |2,ha=>simp[Dt,verC]at ha;subst ha;exact⟨rfl,Bb rfl,by omega⟩
 |3,ha=>simp[Dt,verC]at ha;subst ha;exact⟨rfl,Bb rfl,by omega⟩
 |4,ha=>simp[Dt,verC]at ha;subst ha;exact⟨rfl,hz,by omega⟩
 |q+5,ha=>simp[Dt,verC]at ha
theorem Aw0 {M:Az}{z:VZ}{q:Nat}{u:Value}(hq:q<4)(h:∀ a,(Dt z.1)[q]? =some a→Ag M a u):u=(encZ z)[q]! :=by
 match q,hq with
 |0,_=>exact Bi (h _ rfl)
 |1,_=>exact Bi (h _ rfl)
 |2,_=>exact Bi (h _ rfl)
 |3,_=>exact Bi (h _ rfl)
theorem Al.store3 {M:Az}{σ:St}(h:Al M σ){t e b:Nat}{ls ls':List (List AV)}{cur cur':Array Value}{T:TypeId}{w':World}(ht:σ.at t (.row e ls))(hb:M.mu t=some b)(hh:M.w.heap[b]? =some (.cells cur T (0,0)))
 (hh':w'.heap[b]? =some (.cells cur' T (0,0))) (hcs':cur'.size=cur.size) (hoth:∀ k,k<M.w.heap.size→k≠b→w'.heap[k]? =M.w.heap[k]?) (hsz:M.w.heap.size≤w'.heap.size) (hos:w'.os=M.w.os) (hta:w'.tape=M.w.tape) (hou:w'.output=M.w.output)
 (hr':Cr M cur' e ls'):
 ∃ M',M'.w=w'∧Ext M σ M' (σ.set t (some (.row e ls')))∧Al M' (σ.set t (some (.row e ls'))):=by
 have htl:t<σ.length:=(QC.1 ht).1
 obtain⟨hlen,b',cur0,T0,hb',hh0,hI,hr,hcs⟩:=h.obj t _ ht
 have:b'=b:=by rw[hb]at hb';simpa using hb'.symm
 subst this
 rw[hh]at hh0
 simp only[QB,Obj.cells.injEq,and_true]at hh0
 obtain⟨rfl,rfl⟩:=hh0
 let M':Az:={ M with w:=w' }
 have hcell:∀ k q,M.I k q→M'.w.cell? ⟨k,q,none⟩=M.w.cell? ⟨k,q,none⟩:=fun k q hk=>
  World.cell?_of_block (hoth k (h.imm k q hk) (fun e=>hI q (e▸hk)))
 have hL:Later M M':=⟨fun _ _ h h'=>⟨h,h',rfl⟩,C5 (fun _=>rfl) (fun _=>rfl) (fun _=>rfl),fun _ _ h=>h,hcell⟩
 have hat:∀ s ob,St.at (σ.set t (some (.row e ls'))) s ob→(s=t∧ob= .row e ls')∨(s≠t∧σ.at s ob):=fun s ob hs=>by
  unfold St.at at hs
  rw[QW]at hs
  split at hs
  ·rename_i e;subst e;simp[]at hs;exact .inl ⟨rfl,hs.symm⟩
  ·rename_i hne;exact .inr ⟨fun e=>hne e.symm,hs⟩
 have hE:Ext M σ M' (σ.set t (some (.row e ls'))):=by
  refine⟨hL.mu,hL.own,hL.imm,hcell,fun k hk hn=>⟨hoth k hk (fun e=>hn t _ ht (e▸hb)),fun _ h=>h⟩,fun s ob k hs hk=> ?_,hsz,hos,hta,hou⟩
  rcases hat s ob hs with⟨rfl,rfl⟩|⟨h5,h6⟩
  ·exact .inr ⟨s,_,ht,hk⟩
  ·exact .inr ⟨s,ob,h6,hk⟩
 refine⟨M',rfl,hE,?_⟩
 refine⟨fun s ob hs=> ?_,fun s s' ob ob' k hs hs' hk hk'=> ?_,fun s hs=>h.fresh s (by simpa using hs),fun s k hs=>ZE (h.lt s k hs) hsz,fun k q hq=>ZE (h.imm k q hq) hsz,h.glob.ext hE⟩
 ·rcases hat s ob hs with⟨rfl,rfl⟩|⟨h5,h6⟩
  ·exact⟨hlen,b',cur',T,hb,hh',hI,hr'.later hL,hcs'.trans hcs⟩
  ·exact (h.obj s ob h6).later hL rfl rfl rfl fun k h7=>⟨hoth k (h.lt s k h7) (fun e=>h5 (h.inj s t _ _ k h6 ht h7 (e▸hb))),fun _ h=>h⟩
 ·rcases hat s ob hs with⟨rfl,rfl⟩|⟨h5,h6⟩<;>rcases hat s' ob' hs' with⟨rfl,rfl⟩|⟨h7,h8⟩
  ·rfl
  ·exact h.inj _ _ _ _ k ht h8 hk hk'
  ·exact h.inj _ _ _ _ k h6 ht hk hk'
  ·exact h.inj _ _ _ _ k h6 h8 hk hk'
theorem Aw1 {σ:St}{t:Nat}{L:List Ver}(hL:L.length≤1000000)(ht:σ[t]? =some (some (.row 5 (L.map Dt)))):
 Aa Tryz.prog 92 [.ms t 5 0 L.length,.fn 93 [] []] σ fun r s=>r= .tup []∧∃ L':List Ver,L'.Perm L∧L'.Pairwise leV∧s=σ.set t (some (.row 5 (L'.map Dt))):=by
 refine⟨en _ (by kernel_rfl),fun M vs hM hvs=> ?_⟩
 obtain⟨u1,us1,rfl,h1,u2,us2,rfl,h2,rfl⟩:∃ u us',vs=u::us'∧Ag M (.ms t 5 0 L.length) u∧∃ u2 us2,us'=u2::us2∧Ag M (.fn 93 [] []) u2∧us2=[]:=by simpa only[Af]using hvs
 obtain⟨_,b,cur,T,hb,hh,hI,hr,hcs⟩:=hM.obj t _ ht
 simp only[Ag]at h1
 obtain⟨b',c,hb',_,rfl,hn,hf⟩:=h1
 have:b'=b:=by rw[hb]at hb';simpa using hb'.symm
 subst this
 rw[← hcs]at hf
 simp only[WB,ZC]at hf
 simp only[Ag,Af]at h2
 obtain⟨_,_,rfl,rfl,rfl⟩:=h2
 have hblk:=hM.lt t b' hb
 have hnc:L.length*5≤cur.size:=by omega
 obtain⟨Z,hZ1,hZ2⟩:=Aj3 (β:=Amj) (R:=fun i x u=>cur[i*5+4]? =some u.1∧Ag M (.p (.sl 3 (enV x.2.2))) u.1) L 0 fun i x hx=>by
  have hg:(L.map Dt)[i]? =some (Dt x):=by rw[QR,hx];rfl
  obtain⟨_,u,hu,hu2⟩:=(hr i _ hg).2 4 (.p (.sl 3 (enV x.2.2))) rfl
  rw[ZC]
  exact⟨⟨u,one_cell hu2⟩,hu,hu2⟩
 simp only[ZC]at hZ2
 have hZl:Z.length=L.length:=by rw[← hZ1,QL]
 have hcell:∀ i q,i<Z.length→q<5→cur[i*5+q]? =some (encZ Z.toArray[i]!)[q]! :=fun i q hi hq=>by
  have hx:Z.toArray[i]! =Z[i]:=by rw[getElem!_pos Z.toArray i (by rw[YV];exact hi)];rfl
  have hzi:Z[i]? =some Z[i]:=by simp[hi]
  obtain⟨g1,g2⟩:=hZ2 i _ hzi
  rw[hx]
  by_cases hq4:q=4
  ·subst hq4;exact g1
  have hg:(L.map Dt)[i]? =some (Dt Z[i].1):=by rw[← hZ1];simp[hi]
  have hr':=(hr i _ hg).2
  obtain⟨a,ha⟩:∃ a,(Dt Z[i].1)[q]? =some a:=⟨_,QN (show q<(Dt Z[i].1).length from hq)⟩
  obtain⟨_,u,hu,hu2⟩:=hr' q a ha
  have hu3:=Aw0 (z:=Z[i]) (u:=u) (by omega:q<4) fun a' ha'=>by rw[ha]at ha';simp at ha';subst ha';exact hu2
  rw[hu,hu3]
 have hH:HoldsK encZ 5 M.w b' 0 Z.toArray:=fun j hj=>by
  simp only[size_flatK,YV]at hj
  have e:j=j / 5*5+j % 5:=by omega
  have hq:j % 5<5:=WW _ (by omega)
  have hi:j / 5<Z.length:=by omega
  refine⟨?_,?_⟩
  ·rw[cell_of_row _ _ _ _ _ _ hh,ZC]
   have h3:=hcell (j / 5) (j % 5) hi hq
   have h4:=Yg Z.toArray (i:=j / 5) (q:=j % 5) (by simpa using hi) hq
   rw[← e]at h3 h4
   rw[h3,h4];rfl
  ·simp only[World.frozen?,hh];simp
 have eg:∀ args w,(callFunc 93 args).run Tryz.prog w= .ok (.enter 93 args) w:=enters_of Tryz.func93 (by kernel_rfl) rfl
 have hcon:=AnyQ.slices_SortFunc Tryz.sortVer 5 Aq5 Amp encZ (fun _=>rfl) (fun x v hv=>by simp[encZ,encW]at hv;rcases hv with rfl|rfl|rfl|rfl|rfl<;>first|rfl|exact x.2.2) cfZ swoZ 93 #[] b' 0 c Z.toArray M.w eg (fun _ _ _ _ x y=>Aww (toW x) (toW y) _) hH hblk (by simp;omega)
 rw[YV]at hcon
 rw[WB,←hZl]
 change Calls Tryz.prog 92 _ _ _ at hcon
 refine hcon.mono ?_
 rintro e w' ⟨rfl,d',n,os,hp,hs,rfl⟩
 obtain⟨p1,_,p3⟩:=hp
 have hd:d'.size=Z.length:=by simpa using p1
 have p3':d'.toList.Perm Z:=by
  have e1:d'.extract 0 Z.length=d':=by rw[← hd];simp
  have e2:(Z.toArray.extract 0 Z.length).toList=Z:=by simp
  rw[e1,e2]at p3
  exact p3
 obtain⟨cur',hcur'⟩:∃ cur',cur'=putCells id 0 (flatK encZ 5 d') cur:=⟨_,rfl⟩
 have hcs':cur'.size=cur.size:=by rw[hcur'];simp[putCells]
 have hw:(sortWorldK encZ 5 M.w b' 0 n d' os).heap=M.w.heap.modify b' (onCells (putCells id 0 (flatK encZ 5 d')))++os:=rfl
 have hm:∀ k,(sortWorldK encZ 5 M.w b' 0 n d' os).heap[k]? =if k<M.w.heap.size then (M.w.heap.modify b' (onCells (putCells id 0 (flatK encZ 5 d'))))[k]? else os[k - M.w.heap.size]? :=fun k=>by
  rw[hw,Array.getElem?_append,Array.size_modify]
 have hrepZ:∀ z∈d'.toList,Ag M (.p (.sl 3 (enV z.1.2.2))) z.2.1:=fun z hz=>by
  obtain⟨i,hi⟩:=YH (p3'.mem_iff.1 hz)
  exact (hZ2 i z hi).2
 obtain⟨M',h5,h6,h7⟩:=hM.store3 (ls':=(d'.toList.map Prod.fst).map Dt) (cur':=cur') (w':=sortWorldK encZ 5 M.w b' 0 n d' os) ht hb hh (by
  rw[hm,if_pos hblk,WI,if_pos rfl,hh,hcur'];rfl) hcs' (fun k hk hne=>by
  rw[hm,if_pos hk,WI,if_neg (fun e=>hne e.symm)]) (by
  rw[hw,Array.size_append,Array.size_modify];omega) rfl rfl rfl (fun i cc hi=>by
  rw[QR,QR]at hi
  cases hx:d'.toList[i]? with
  |none=>rw[hx]at hi;simp at hi
  |some x=>
   rw[hx]at hi;simp at hi;subst hi
   obtain⟨hil,hxe⟩:=QC.1 hx
   simp only[YK]at hil
   refine⟨rfl,fun q a ha=> ?_⟩
   obtain⟨g1,g2,g3⟩:=Aq6 (M:=M) (z:=x) (hrepZ x (QG hx)) ha
   refine⟨g1,(encZ x)[q]!,?_,g2⟩
   have hlt:i*5+q<cur.size:=by omega
   have hfs:i*5+q<(flatK encZ 5 d').size:=by rw[size_flatK];omega
   rw[hcur']
   unfold putCells
   rw[Array.getElem?_mapIdx,Array.getElem?_eq_getElem hlt]
   simp only[XR,ZC,YS,true_and,hfs,if_true,Nat.sub_zero,id_eq]
   rw[Yg d' hil g3]
   have:d'[i]! =x:=by rw[getElem!_pos d' i hil];simpa using hxe
   rw[this])
 refine⟨_,.tup [],_,M',rfl,h5,h6,h7,by simp[Ag,Af],by simp,rfl,d'.toList.map Prod.fst,by rw[← hZ1];exact p3'.map _,?_,rfl⟩
 rw[List.pairwise_map,WH]
 intro i j hi hj hij
 have:=hs i j (YS _) hij (by simpa [hd]using hj)
 simp only[YK]at hi hj
 rw[getElem!_pos d' i hi,getElem!_pos d' j hj,ltZ]at this
 simp only[decide_eq_false_iff_not]at this
 show leV _ _
 unfold leV
 simp only[Array.getElem_toList]at*
 omega
theorem Aj4 (σ:St):Aa Tryz.prog 92 [.p (.v (.slice none 0 0)),.fn 93 [] []] σ fun r s=>r= .tup []∧s=σ:=by
 refine⟨en _ (by kernel_rfl),fun M vs hM hvs=> ?_⟩
 obtain⟨u1,us1,rfl,h1,u2,us2,rfl,h2,rfl⟩:∃ u us',vs=u::us'∧Ag M (.p (.v (.slice none 0 0))) u∧∃ u2 us2,us'=u2::us2∧Ag M (.fn 93 [] []) u2∧us2=[]:=by simpa only[Af]using hvs
 obtain rfl:=(Cf h1).2
 refine (AnyF.slices_SortFunc_none Tryz.sortVer none 0 u2 M.w).mono ?_
 rintro e w' ⟨rfl,rfl⟩
 exact⟨_,.tup [],σ,M,rfl,rfl,Ext.refl M σ,hM,by simp[Ag,Af],QH _,rfl,rfl⟩
theorem Aj5 {σ:St}{av:AV}{L:List Ver}(hL:L.length≤1000000)(h:Mm σ av 5 (L.map Dt)):
 Aa Tryz.prog 49 [av] σ fun r s=>r=av∧∃ L':List Ver,L'.Perm L∧L'.Pairwise leV∧Mm s av 5 (L'.map Dt)∧s.length=σ.length∧∀ t,N8 av≠some t→s[t]? =σ[t]? :=by
 rcases h with⟨rfl,h0⟩|⟨t,rfl,hne,ht⟩
 ·have hL0:L=[]:=by simpa using h0
  subst hL0
  refine Ab Am An Tryz.func49 (by kernel_rfl) rfl (nt:=5) (rs:=[.tmp 2]) rfl rfl ?_
  repeat' simp only[↓wBA,tTf,seval]
  refine (Aj4 _).mono ?_
  rintro r s ⟨rfl,rfl⟩
  repeat' simp only[↓wBA,tTf,seval]
  all_goals refine rtS ?_
  all_goals simp only[wRe,tTf,seval]
  exact⟨[],List.Perm.refl _,List.Pairwise.nil,.inl ⟨rfl,rfl⟩,fun _ _=>trivial⟩
 ·rw[QL]
  refine Ab Am An Tryz.func49 (by kernel_rfl) rfl (nt:=5) (rs:=[.tmp 2]) rfl rfl ?_
  repeat' simp only[↓wBA,tTf,seval]
  refine (Aw1 hL ht).mono ?_
  rintro _ s ⟨rfl,L',hp,hs,rfl⟩
  have hl:=hp.length_eq
  repeat' simp only[↓wBA,tTf,seval]
  all_goals refine rtS ?_
  all_goals simp only[wRe,tTf,seval,wH]
  refine⟨L',hp,hs,.inr ⟨t,by rw[QL,hl],fun e=>hne ?_,by rw[XW (Ac ht)]⟩,fun t' ht'=>QO fun e=>ht' (by rw[e];rfl)⟩
  have:L'=[]:=by simpa using e
  rw[this]at hl
  have:L=[]:=YX.1 hl.symm
  rw[this];rfl
end Go.Proofs.YtpoigihfeehehaaGreatDoor
/-
 DERIVED: THE SHELF's CONTRACTS AT THIS DUMP,IN PLAIN WORDS (tools/lay-plain.mjs out of 'TryzShelf.lean',which tools/lay-shelf.mjs wrote): THE SAME DECLARATIONS UNDER THE SAME NAMES: 'import','namespace','open','def','theorem' AND NOTHING ELSE: no command of the shelf's: FOR A HAND-IN. Each laying: the table of numbers ('.._ren') and one theorem,a field a fact of the dump's own or the kernel's comparison;each contract: ONE APPLICATION.
-/
namespace Go.Proofs
open Go.Shelf
def Tryz.lays155_ren:Go.Shelf.Ren:=⟨fun|155=>136|154=>172|138=>196|165=>197|143=>198|166=>199|197=>200|169=>201|195=>217|218=>218|240=>219|241=>220|219=>221|260=>222|276=>228|277=>229|217=>230|225=>231|224=>232|267=>233|266=>235|314=>236|n=>n,fun|9=>9|3=>3|4=>4|72=>299|0=>0|76=>303|105=>305|21=>21|5=>5|70=>297|20=>20|37=>70|75=>302|127=>323|164=>330|46=>34|119=>332|139=>335|138=>334|146=>337|51=>286|80=>307|n=>n,fun|1=>0|3=>1|4=>2|n=>n⟩
theorem Tryz.lays155:Go.Proofs.Lays.n155 Tryz.prog Tryz.lays155_ren:={
 mixed:=by kernel_rfl
 f138:=Tryz.func196.trans (congrArg some (by kernel_rfl))
 f143:=Tryz.func198.trans (congrArg some (by kernel_rfl))
 f154:=Tryz.func172.trans (congrArg some (by kernel_rfl))
 f155:=Tryz.func136.trans (congrArg some (by kernel_rfl))
 f165:=Tryz.func197.trans (congrArg some (by kernel_rfl))
 f166:=Tryz.func199.trans (congrArg some (by kernel_rfl))
 f169:=Tryz.func201.trans (congrArg some (by kernel_rfl))
 f195:=Tryz.func217.trans (congrArg some (by kernel_rfl))
 f197:=Tryz.func200.trans (congrArg some (by kernel_rfl))
 f217:=Tryz.func230.trans (congrArg some (by kernel_rfl))
 f218:=Tryz.func218.trans (congrArg some (by kernel_rfl))
 f219:=Tryz.func221.trans (congrArg some (by kernel_rfl))
 f224:=Tryz.func232.trans (congrArg some (by kernel_rfl))
 f225:=Tryz.func231.trans (congrArg some (by kernel_rfl))
 f240:=Tryz.func219.trans (congrArg some (by kernel_rfl))
 f241:=Tryz.func220.trans (congrArg some (by kernel_rfl))
 f260:=Tryz.func222.trans (congrArg some (by kernel_rfl))
 f266:=Tryz.func235.trans (congrArg some (by kernel_rfl))
 f267:=Tryz.func233.trans (congrArg some (by kernel_rfl))
 f276:=Tryz.func228.trans (congrArg some (by kernel_rfl))
 f277:=Tryz.func229.trans (congrArg some (by kernel_rfl))
 f314:=Tryz.func236.trans (congrArg some (by kernel_rfl))
 t0:=Tryz.underlying0
 a0:=Tryz.isAgg0
 z0:=Tryz.sizeOf0
 v0:=Tryz.zeroValue0
 t3:=Tryz.underlying3
 a3:=Tryz.isAgg3
 z3:=Tryz.sizeOf3
 v3:=Tryz.zeroValue3
 t4:=Tryz.underlying4
 a4:=Tryz.isAgg4
 z4:=Tryz.sizeOf4
 v4:=Tryz.zeroValue4
 t5:=Tryz.underlying5
 a5:=Tryz.isAgg5
 z5:=Tryz.sizeOf5
 v5:=Tryz.zeroValue5
 t9:=Tryz.underlying9
 a9:=Tryz.isAgg9
 z9:=Tryz.sizeOf9
 v9:=Tryz.zeroValue9
 t20:=Tryz.underlying20
 a20:=Tryz.isAgg20
 z20:=Tryz.sizeOf20
 v20:=Tryz.zeroValue20
 t21:=Tryz.underlying21
 a21:=Tryz.isAgg21
 z21:=Tryz.sizeOf21
 v21:=Tryz.zeroValue21
 t37:=Tryz.underlying70
 a37:=Tryz.isAgg70
 z37:=Tryz.sizeOf70
 v37:=Tryz.zeroValue70
 t46:=Tryz.underlying34
 a46:=Tryz.isAgg34
 z46:=Tryz.sizeOf34
 v46:=Tryz.zeroValue34
 t51:=Tryz.underlying286
 a51:=Tryz.isAgg286
 z51:=Tryz.sizeOf286
 v51:=Tryz.zeroValue286
 t70:=Tryz.underlying297
 a70:=Tryz.isAgg297
 z70:=Tryz.sizeOf297
 v70:=Tryz.zeroValue297
 t72:=Tryz.underlying299
 a72:=Tryz.isAgg299
 z72:=Tryz.sizeOf299
 v72:=Tryz.zeroValue299
 t75:=Tryz.underlying302
 a75:=Tryz.isAgg302
 z75:=Tryz.sizeOf302
 v75:=Tryz.zeroValue302
 t76:=Tryz.underlying303
 a76:=Tryz.isAgg303
 z76:=Tryz.sizeOf303
 v76:=Tryz.zeroValue303
 t105:=Tryz.underlying305
 a105:=Tryz.isAgg305
 z105:=Tryz.sizeOf305
 v105:=Tryz.zeroValue305
 t119:=Tryz.underlying332
 a119:=Tryz.isAgg332
 z119:=Tryz.sizeOf332
 t127:=Tryz.underlying323
 a127:=Tryz.isAgg323
 z127:=Tryz.sizeOf323
 v127:=Tryz.zeroValue323
 t138:=Tryz.underlying334
 a138:=Tryz.isAgg334
 z138:=Tryz.sizeOf334
 v138:=Tryz.zeroValue334
 t139:=Tryz.underlying335
 a139:=Tryz.isAgg335
 z139:=Tryz.sizeOf335
 v139:=Tryz.zeroValue335
 t146:=Tryz.underlying337
 a146:=Tryz.isAgg337
 z146:=Tryz.sizeOf337
 v146:=Tryz.zeroValue337
 t164:=Tryz.underlying330
 a164:=Tryz.isAgg330
 z164:=Tryz.sizeOf330
 v164:=Tryz.zeroValue330
 g1:=by kernel_rfl
 g3:=by kernel_rfl
 g4:=by kernel_rfl }
theorem Tryz.Builder_Extra_155:Builder.Extra Tryz.prog Tryz.lays155_ren:={
 sizeBuilder:=by kernel_rfl
 liesBuilder:=by kernel_rfl
 t5:=Tryz.underlying5
 a5:=Tryz.isAgg5
 z5:=Tryz.sizeOf5
 v5:=Tryz.zeroValue5
 infoByte:=by kernel_rfl
 cellsByte:=by kernel_rfl
 sizeByte:=by kernel_rfl
 neB5:=by decide }
open Go.RowKit Go.Lib in
theorem Tryz.strings_ReplaceAll (s old new:ByteArray)(m:Int)(w:World)(hs:s.size<4294967281)(hm:w.cell? ⟨0,0,none⟩=some (.int .i64 m))(h1:1≤old.size)(hlen:s.size+Lib.countB s old*new.size≤140737488355328):
 Calls Tryz.prog 136 #[.string s,.string old,.string new] w fun e w'=>
  e= .returned (.string ⟨(Lib.replaceAll s.data.toList old.data.toList new.data.toList).toArray⟩)∧Below w.heap.size w w':=Any.strings_ReplaceAll Tryz.lays155 Tryz.Builder_Extra_155 s old new m w hs hm h1 hlen
end Go.Proofs
