/- Hash indexes: does an index find just what a list has? -/
import Derived.Test.YthhbnenaihkggaaGreatM45
set_option linter.unusedSimpArgs false
set_option linter.unusedVariables false
set_option linter.defProp false
set_option maxRecDepth 100000
set_option maxHeartbeats 32000000
namespace Go.Proofs.YthhbnenaihkggaaGreat
open Go.RowKit
open List (length_map)
def pl24_4Xx:Plan:=(.det 0 (.det 1 (.det 2 (.det 3 (.det 4 (.det 5 (.det 6 (.det 7 (.det 8 (.det 9 (.det 10 (.det 11 (.det 12 (.det 13 (.det 14 (.det 15 .done))))))))))))))))
def tXx:=aa wX <| aa wbu <| aa T3 <| aa T4 <| aa T9 <| aa T23 <| aa T25 <| aa T28 <| aa T29 <| aa T53 T57
structure HxV (v:Nat→List UInt8)(T:Nat→Bool)(np root:Nat)(bs:List (List Nat))(E:List HEn)(ins:Nat):Prop where
 tk:Tk (v 0) np T
 t0:T 0=true
 ix:Ix v T np root bs E E.length
 few:E.length<8*bs.length
 many:8*bs.length≤ins+8
 le:E.length≤ins
 cn:cnt T np≤3+ins+roomF bs.length
 only:∀ m,T m=true→m=0∨m=root∨m∈bs.flatten
theorem HxS.v {σ:St}{b p dd l kh root np ins:Nat}{U:Nat→Prop}{P:PoolV}{v:Nat→List UInt8}{T:Nat→Bool}{bs:List (List Nat)}{E:List HEn}(h:HxS σ b p dd l kh root U P v T bs E np ins):HxV v T np root bs E ins:=⟨h.tk,h.t0,h.ix,h.few,h.many,h.le,h.cn,h.only⟩
theorem HxV.s {σ:St}{b p dd l kh root np ins:Nat}{U:Nat→Prop}{P:PoolV}{v:Nat→List UInt8}{T:Nat→Bool}{bs:List (List Nat)}{E:List HEn}(h:HxV v T np root bs E ins)(hB:Bt σ b p dd l kh U P v)(hp:P.pages=np):HxS σ b p dd l kh root U P v T bs E np ins:=⟨hB,hp,h.tk,h.t0,h.ix,h.few,h.many,h.le,h.cn,h.only⟩
theorem HxV.more {root np ins i2:Nat}{v:Nat→List UInt8}{T:Nat→Bool}{bs:List (List Nat)}{E:List HEn}(h:HxV v T np root bs E ins)(hi:ins≤i2):HxV v T np root bs E i2:=⟨h.tk,h.t0,h.ix,h.few,by have:=h.many;omega,by have:=h.le;omega,by have:=h.cn;omega,h.only⟩
theorem str_eqd (a b:List UInt8):binStr .eql (strS a) (strS b)=some (.bool (decide (a=b))):=by
 by_cases h:a=b
 ·subst h;simp[binStr]
 ·simp[binStr,h]
theorem awhole {σ:St}{b p dd lg kh root ins:Nat}{U:Nat→Prop}{P:PoolV}{v:Nat→List UInt8}{T:Nat→Bool}{bs:List (List Nat)}{l:List HEn}{np:Nat}(h:HxS σ b p dd lg kh root U P v T bs l np ins)(hi:ins≤130)(hs:l.Pairwise ltX)(hb:Bud P 1):
 ACalls Tryz.prog 24 [.mp b 2 0 0,intV .i64 (root:Nat),.p (lsX l)] σ fun r σ'=>σ.length≤σ'.length∧r=boolV true:=by
 obtain⟨hbl,hll⟩:=h.lens hi
 have hln:=lsX_len l
 have hok:=h.ix.ok
 have hn1:=h.ix.n1
 have hfw:=h.few
 refine acalls_of cx_ok dr_ok Tryz.func24 (by kernel_rfl) rfl (nt:=76) (rs:=[.tmp 6]) rfl rfl ?_
 repeat' first|((with_reducible first|apply cs|apply ws|apply wd|apply wu)<;>intro h<;>try simp only[h])|simp only[↓wBA,tXx,convA,seval,pl24_4Xx,wH]|(with_reducible refine dQ pl24_4Xx 16 (some 18) ?_)
 refine awp_loopS (X:={ i:Nat // i≤l.length }) (fun i=>l.length - i.1) (fun i=>[(7,intV .i64 (i.1:Nat))]) [6,8,9,12,13,14,15,16,17,18,19,20,21,22,23,24,25,26,27,28,29,30,31,32,33,34,35,36,37,38,39,40,41,42,43,44,45,46,47,48,49,50,51,52,53,54,55,56,57,58,59] (fun i s=>σ.length≤s.length∧∃ U' P',HxS s b p dd lg kh root U' P' v T bs l np ins∧Bud P' 1) (⟨0,by omega⟩) ?_ ?_ ?_ ?_
 ·simp only[wHl,wHf]
 ·exact⟨Nat.le_refl _,U,P,h,hb⟩
 ·rintro _ _ ⟨h,_⟩;exact h
 ·intro y J s hI
  simp only[wHl]
  obtain⟨i,hi2⟩:=y
  obtain⟨hsl,U1,P1,h1,hb1⟩:=hI
  dsimp only at*
  have hi0:=nnI i
  have hw:=wI i (by omega)
  by_cases hlt:i<l.length
  ·have e1:=dT (i:=i) (n:=l.length) hlt
   obtain⟨x,hx⟩:∃ x,l[i]? =some x:=⟨l[i],by simp⟩
   have hls:=lsX_ne (l:=l) (by rintro rfl;simp at hlt)
   have hg:=rowX_get hx
   have hif:((i:Int)<((l.map rowX).length:Int))=True:=eq_true (by rw[length_map];omega)
   have hif':((i:Int)<(l.length:Int))=True:=eq_true (by omega)
   have hxk:x.k.length≤140737488351232:=by have:=(hok x (List.mem_of_getElem? hx)).1;omega
   by_cases hskip:0<i∧∃ x',l[i - 1]? =some x'∧x.k=x'.k
   ·obtain⟨hz,x',hx',hxx⟩:=hskip
    have ez:decide ((i:Int)>0)=true:=by simp only[decide_eq_true_eq];omega
    have hw1:IntKind.i64.wrap ((i:Int) - 1)=((i - 1:Nat):Int):=by rw[wrap_i64 (by omega) (by omega)];omega
    have hg1:=rowX_get hx'
    have hi1:=nnI (i - 1)
    have hif1:(((i - 1:Nat):Int)<((l.map rowX).length:Int))=True:=eq_true (by rw[length_map];omega)
    have hif1':(((i - 1:Nat):Int)<(l.length:Int))=True:=eq_true (by omega)
    have hse:=str_eqd x.k x'.k
    simp only[hxx,decide_true]at hse
    rw[hxx]at hg
    repeat' first|((with_reducible first|apply cs|apply ws|apply wd|apply wu)<;>intro h<;>try simp only[h])|simp only[↓wBA,tXx,convA,seval,pl24_4Xx,wH,wHl,hln,hls,hg,e1,hi0,hif,hif',ez,hw1,hg1,hi1,hif1,hif1',hse,hw]|(with_reducible refine dQ pl24_4Xx 16 (some 18) ?_)
    all_goals exact⟨⟨i+1,by omega⟩,by show l.length - (i+1)<l.length - i;omega,⟨hsl,U1,P1,h1,hb1⟩,by simp only[wHl,wHf]⟩
   ·have hfd:=ahxFind h1 hi (hb1.mono (by omega)) x.k hxk
    rcases Nat.eq_zero_or_pos i with hz|hz
    case' inl=>
     have ez:decide ((i:Int)>0)=false:=by simp only[decide_eq_false_iff_not];omega
     repeat' first|((with_reducible first|apply cs|apply ws|apply wd|apply wu)<;>intro h<;>try simp only[h])|simp only[↓wBA,tXx,convA,seval,pl24_4Xx,wH,wHl,hln,hls,hg,e1,hi0,hif,hif',ez]|(with_reducible refine dQ pl24_4Xx 16 (some 18) ?_)
    case' inr=>
     obtain⟨x',hx'⟩:∃ x',l[i - 1]? =some x':=⟨l[i - 1]'(by omega),by simp⟩
     have hxx:x.k≠x'.k:=fun e=>hskip ⟨hz,x',hx',e⟩
     have ez:decide ((i:Int)>0)=true:=by simp only[decide_eq_true_eq];omega
     have hw1:IntKind.i64.wrap ((i:Int) - 1)=((i - 1:Nat):Int):=by rw[wrap_i64 (by omega) (by omega)];omega
     have hg1:=rowX_get hx'
     have hi1:=nnI (i - 1)
     have hif1:(((i - 1:Nat):Int)<((l.map rowX).length:Int))=True:=eq_true (by rw[length_map];omega)
     have hif1':(((i - 1:Nat):Int)<(l.length:Int))=True:=eq_true (by omega)
     have hse:=str_eqd x.k x'.k
     simp only[hxx,decide_false]at hse
     repeat' first|((with_reducible first|apply cs|apply ws|apply wd|apply wu)<;>intro h<;>try simp only[h])|simp only[↓wBA,tXx,convA,seval,pl24_4Xx,wH,wHl,hln,hls,hg,e1,hi0,hif,hif',ez,hw1,hg1,hi1,hif1,hif1',hse]|(with_reducible refine dQ pl24_4Xx 16 (some 18) ?_)
    all_goals
     refine hfd.mono ?_
     rintro _ s3 ⟨av,R,U3,P3,rfl,hm,hp,ho,f3,k3,h3,hms⟩
     have l3:=f3.len
     have hR:R=rFind l x.k:=rFind_eq (List.Perm.refl l) hs hp ho
     have hRl:R.length≤1000:=by
      have:=hp.length_eq
      rw[length_map]at this
      have h8:=List.length_filter_le (fun e:HEn=>e.k==x.k) l
      omega
     have hrf:=aref8Find l (by omega) x.k
     have hsm:=asame (σ:=s3) (mut_rd hm) (.inl (.inl rfl):Rd s3 1 (.p (ridV (rFind l x.k))) (ridV (rFind l x.k))) hRl
     rw[← hR]at hsm hrf
     simp only[decide_true]at hsm
     have c1v:leaf av=true∧cellsA av=some [av]:=by rcases hm with⟨rfl,_⟩|⟨t,rfl,_⟩<;>exact⟨rfl,rfl⟩
     rw[hls]at hrf
     repeat' first|((with_reducible first|apply cs|apply ws|apply wd|apply wu)<;>intro h<;>try simp only[h])|simp only[↓wBA,tXx,convA,seval,pl24_4Xx,wH,wHl,hln,hls,hg,e1,hi0,hif,hif',c1v.1,c1v.2,hw]|((with_reducible show ACalls _ _ _ _ _);first|refine (hrf _).eq ?_|refine hsm.eq ?_)|(with_reducible refine dQ pl24_4Xx 16 (some 18) ?_)
     exact⟨⟨i+1,by omega⟩,by show l.length - (i+1)<l.length - i;omega,⟨by omega,U3,P3,h3,hb1.kp0 k3⟩,by simp only[wHl,wHf]⟩
  ·obtain rfl:i=l.length:=by omega
   have e1:=dF (i:=l.length) (n:=l.length) hlt
   have n1:decide (((bs.length:Nat):Int)≥1)=true:=by simp only[decide_eq_true_eq];omega
   have hq1:(l.length:Int).tdiv 8=((l.length / 8:Nat):Int):=by rw[Int.tdiv_eq_ediv_of_nonneg (by omega)];omega
   have hq2:IntKind.i64.wrap ((l.length / 8:Nat):Int)=((l.length / 8:Nat):Int):=wrap_i64 (by omega) (by omega)
   have n2:decide (((bs.length:Nat):Int)≥((l.length / 8:Nat):Int))=true:=by simp only[decide_eq_true_eq];omega
   repeat' first|((with_reducible first|apply cs|apply ws|apply wd|apply wu)<;>intro h<;>try simp only[h])|simp only[↓wBA,tXx,convA,seval,pl24_4Xx,wH,wHl,hln,e1]|(with_reducible refine dQ pl24_4Xx 16 (some 18) ?_)
   refine (ahxBuckets h1 hi (hb1.mono (by omega))).mono ?_
   rintro _ s4 ⟨rfl,U4,P4,f4,k4,h4⟩
   have l4:=f4.len
   repeat' first|((with_reducible first|apply cs|apply ws|apply wd|apply wu)<;>intro h<;>try simp only[h])|simp only[↓wBA,tXx,convA,seval,pl24_4Xx,wH,wHl,hln,n1,n2,hq1,hq2,beq_self_eq_true]|(with_reducible refine dQ pl24_4Xx 16 (some 18) ?_)
   all_goals refine ret_st ?_ (by first|exact Nat.le_refl _|(simp only[List.length_set,List.length_append];omega)|omega)
   all_goals simp only[resA.eq_1,resL.eq_1,resL.eq_2,resV.eq_1,resV.eq_2,↓wBA,tXx,convA,seval,wH]
   omega
end Go.Proofs.YthhbnenaihkggaaGreat
