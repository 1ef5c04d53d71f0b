/- Hash indexes: an index under work, whatever is asked of it. -/
import Derived.Test.YthhbnenaihkggaaGreatM42
import Derived.Test.YthhbnenaihkggaaGreatM39
set_option linter.unusedSimpArgs false
set_option linter.unusedVariables false
set_option linter.defProp false
set_option maxRecDepth 100000
set_option maxHeartbeats 32000000
namespace Go.Proofs.YthhbnenaihkggaaGreat
open Go.RowKit
open List (length_append length_cons length_set)
def pl16_16Xl:Plan:=(.det 0 (.det 1 (.det 2 (.det 3 (.det 4 (.det 5 (.det 6 (.det 9 (.det 10 (.two 7 (.two 8 (.two 11 (.two 12 (.det 13 (.det 14 (.det 15 (.act 16 (.fin 17 (.det 18 .done)))))) 16 (.fin 12 (.det 13 (.det 14 (.det 15 (.fin 17 (.det 18 .done))))))) 16 (.fin 11 (.fin 12 (.det 13 (.det 14 (.det 15 (.fin 17 (.det 18 .done)))))))) 16 (.act 8 (.fin 11 (.fin 12 (.det 13 (.det 14 (.det 15 (.fin 17 (.det 18 .done))))))))) 16 (.act 7 (.act 8 (.fin 11 (.fin 12 (.det 13 (.det 14 (.det 15 (.fin 17 (.det 18 .done)))))))))))))))))))
def tXl:=aa wX <| aa wbu <| aa T3 <| aa T4 <| aa T23 <| aa T25 <| aa T29 <| aa T45 <| aa T63 T65
instance decHEn:DecidableEq HEn:=fun a b=>decidable_of_iff (a.k=b.k∧a.p=b.p∧a.s=b.s) (by
 obtain⟨k,p,s⟩:=a
 obtain⟨k',p',s'⟩:=b
 simp)
section
variable {σ:St} {b p dd l kh root:Nat} {U:Nat→Prop} {P:PoolV} {v:Nat→List UInt8} {T:Nat→Bool} {bs:List (List Nat)} {E:List HEn}
theorem axinsLong {n pg sl:Int}{k:List UInt8}(hl:140<k.length):ACalls Tryz.prog 16 [.mp b 2 0 0,intV .i64 n,.p (.sl 1 (encB k)),.agg [intV .i64 pg,intV .i64 sl]] σ fun r σ'=>r=intV .i64 4∧Ap σ σ':=by
 have hla:lenA cx 23 (.p (.sl 1 (encB k)))=some k.length:=RecA.len (σ:=σ) (.inl ⟨_,rfl,.inl rfl⟩)
 have e1:decide ((k.length:Int)>140)=true:=by simp only[decide_eq_true_eq];omega
 have e1':decide ((140:Int)<(k.length:Int))=true:=by simp only[decide_eq_true_eq];omega
 refine acalls_of cx_ok dr_ok Tryz.func16 (by kernel_rfl) rfl (nt:=94) (rs:=[.tmp 8]) rfl rfl ?_
 repeat' first|((with_reducible first|apply cs|apply ws|apply wd|apply wu)<;>intro h<;>try simp only[h])|simp only[↓wBA,tXl,convA,seval,pl16_16Xl,wH,hla,e1,e1']|(with_reducible refine dQ pl16_16Xl 19 (some 60) ?_)|with_reducible refine And.intro ?_ ?_
 all_goals refine ret_st ?_ (by first|exact Nat.le_refl _|(simp only[length_set,length_append];omega)|omega)
 all_goals simp only[resA.eq_1,resL.eq_1,resL.eq_2,resV.eq_1,resV.eq_2,↓wBA,tXl,convA,seval,wH]
 exact Ap.app _ _
theorem axinsBad {n pg sl:Int}{k:List UInt8}(hl:k.length≤140)(hbad:pg<0∨sl<0∨65536≤pg∨65536≤sl):ACalls Tryz.prog 16 [.mp b 2 0 0,intV .i64 n,.p (.sl 1 (encB k)),.agg [intV .i64 pg,intV .i64 sl]] σ fun r σ'=>r=intV .i64 1∧Ap σ σ':=by
 have hla:lenA cx 23 (.p (.sl 1 (encB k)))=some k.length:=RecA.len (σ:=σ) (.inl ⟨_,rfl,.inl rfl⟩)
 have e1:decide ((k.length:Int)>140)=false:=by simp only[decide_eq_false_iff_not];omega
 have e1':decide ((140:Int)<(k.length:Int))=false:=by simp only[decide_eq_false_iff_not];omega
 refine acalls_of cx_ok dr_ok Tryz.func16 (by kernel_rfl) rfl (nt:=94) (rs:=[.tmp 8]) rfl rfl ?_
 by_cases hm:pg<0∨sl<0
 ·have hmn:decide ((if sl<pg then sl else pg)<0)=true:=by simp only[decide_eq_true_eq];split<;>omega
  repeat' first|((with_reducible first|apply cs|apply ws|apply wd|apply wu)<;>intro h<;>try simp only[h])|simp only[↓wBA,tXl,convA,seval,pl16_16Xl,wH,hla,e1,e1',hmn]|(with_reducible refine dQ pl16_16Xl 19 (some 60) ?_)|with_reducible refine And.intro ?_ ?_
  all_goals refine ret_st ?_ (by first|exact Nat.le_refl _|(simp only[length_set,length_append];omega)|omega)
  all_goals simp only[resA.eq_1,resL.eq_1,resL.eq_2,resV.eq_1,resV.eq_2,↓wBA,tXl,convA,seval,wH]
  exact Ap.app _ _
 ·have hmn:decide ((if sl<pg then sl else pg)<0)=false:=by simp only[decide_eq_false_iff_not];split<;>omega
  have hmx:decide ((if sl>pg then sl else pg)≥65536)=true:=by simp only[decide_eq_true_eq];split<;>omega
  repeat' first|((with_reducible first|apply cs|apply ws|apply wd|apply wu)<;>intro h<;>try simp only[h])|simp only[↓wBA,tXl,convA,seval,pl16_16Xl,wH,hla,e1,e1',hmn,hmx]|(with_reducible refine dQ pl16_16Xl 19 (some 60) ?_)|with_reducible refine And.intro ?_ ?_
  all_goals refine ret_st ?_ (by first|exact Nat.le_refl _|(simp only[length_set,length_append];omega)|omega)
  all_goals simp only[resA.eq_1,resL.eq_1,resL.eq_2,resV.eq_1,resV.eq_2,↓wBA,tXl,convA,seval,wH]
  exact Ap.app _ _
theorem axdelBad {n pg sl:Int}{k:List UInt8}(hbad:140<k.length∨pg<0∨sl<0∨65536≤pg∨65536≤sl):ACalls Tryz.prog 17 [.mp b 2 0 0,intV .i64 n,.p (.sl 1 (encB k)),.agg [intV .i64 pg,intV .i64 sl]] σ fun r σ'=>r=intV .i64 1∧Ap σ σ':=by
 have hla:lenA cx 23 (.p (.sl 1 (encB k)))=some k.length:=RecA.len (σ:=σ) (.inl ⟨_,rfl,.inl rfl⟩)
 refine acalls_of cx_ok dr_ok Tryz.func17 (by kernel_rfl) rfl (nt:=67) (rs:=[.tmp 8]) rfl rfl ?_
 by_cases hl:140<k.length
 ·have e1:decide ((k.length:Int)>140)=true:=by simp only[decide_eq_true_eq];omega
  have e1':decide ((140:Int)<(k.length:Int))=true:=by simp only[decide_eq_true_eq];omega
  repeat' first|((with_reducible first|apply cs|apply ws)<;>intro h<;>try simp only[h])|simp only[↓wBA,tXl,convA,seval,wH,hla,e1,e1']
  all_goals refine ret_st ?_ (by first|exact Nat.le_refl _|(simp only[length_set,length_append];omega)|omega)
  all_goals simp only[resA.eq_1,resL.eq_1,resL.eq_2,resV.eq_1,resV.eq_2,↓wBA,tXl,convA,seval,wH]
  exact Ap.app _ _
 ·have e1:decide ((k.length:Int)>140)=false:=by simp only[decide_eq_false_iff_not];omega
  have e1':decide ((140:Int)<(k.length:Int))=false:=by simp only[decide_eq_false_iff_not];omega
  by_cases hm:pg<0∨sl<0
  ·have hmn:decide ((if sl<pg then sl else pg)<0)=true:=by simp only[decide_eq_true_eq];split<;>omega
   repeat' first|((with_reducible first|apply cs|apply ws)<;>intro h<;>try simp only[h])|simp only[↓wBA,tXl,convA,seval,wH,hla,e1,e1',hmn]
   all_goals refine ret_st ?_ (by first|exact Nat.le_refl _|(simp only[length_set,length_append];omega)|omega)
   all_goals simp only[resA.eq_1,resL.eq_1,resL.eq_2,resV.eq_1,resV.eq_2,↓wBA,tXl,convA,seval,wH]
   exact Ap.app _ _
  ·have hmn:decide ((if sl<pg then sl else pg)<0)=false:=by simp only[decide_eq_false_iff_not];split<;>omega
   have hmx:decide ((if sl>pg then sl else pg)≥65536)=true:=by simp only[decide_eq_true_eq];split<;>omega
   repeat' first|((with_reducible first|apply cs|apply ws)<;>intro h<;>try simp only[h])|simp only[↓wBA,tXl,convA,seval,wH,hla,e1,e1',hmn,hmx]
   all_goals refine ret_st ?_ (by first|exact Nat.le_refl _|(simp only[length_set,length_append];omega)|omega)
   all_goals simp only[resA.eq_1,resL.eq_1,resL.eq_2,resV.eq_1,resV.eq_2,↓wBA,tXl,convA,seval,wH]
   exact Ap.app _ _
def roomF:Nat→Nat
 |0=>0
 |n+1=>roomF n+(if n=0 then 0 else 8*n+1)
theorem roomF_mono:∀ {a b:Nat},a≤b→roomF a≤roomF b
 |a,0,h=>by
  obtain rfl:a=0:=Nat.le_zero.1 h
  exact Nat.le_refl _
 |a,b+1,h=>by
  by_cases e:a=b+1
  ·rw[e];exact Nat.le_refl _
  ·have:=roomF_mono (a:=a) (b:=b) (by omega)
   simp only[roomF];omega
structure HxS (σ:St)(b p dd l kh root:Nat)(U:Nat→Prop)(P:PoolV)(v:Nat→List UInt8)(T:Nat→Bool)(bs:List (List Nat))(E:List HEn)(np ins:Nat):Prop where
 bt:Bt σ b p dd l kh U P v
 pg:P.pages=np
 tk:Tk (v 0) np T
 t0:T 0=true
 ix:Ix v T np root bs E E.length
 few:E.length<8*bs.length
 many:8*bs.length≤ins+8
 le:E.length≤ins
 cn:cnt T np≤3+ins+roomF bs.length
 only:∀ m,T m=true→m=0∨m=root∨m∈bs.flatten
def okE (k:List UInt8)(pg sl:Int):Prop:=k.length≤140∧0≤pg∧0≤sl∧pg<65536∧sl<65536
instance (k:List UInt8)(pg sl:Int):Decidable (okE k pg sl):=by unfold okE;infer_instance
def mkE (k:List UInt8)(pg sl:Int):HEn:=⟨k,pg.toNat,sl.toNat⟩
def insE (E:List HEn)(k:List UInt8)(pg sl:Int):Nat×List HEn:=if 140<k.length then (4,E)else if okE k pg sl∧mkE k pg sl∉E then (0,mkE k pg sl::E)else (1,E)
def delE (E:List HEn)(k:List UInt8)(pg sl:Int):Nat×List HEn:=if okE k pg sl∧mkE k pg sl∈E then (0,E.erase (mkE k pg sl))else (1,E)
theorem HxS.ap {s:St}{np ins:Nat}(h:HxS σ b p dd l kh root U P v T bs E np ins)(a:Ap σ s):HxS s b p dd l kh root U P v T bs E np ins:=⟨h.bt.ap a,h.pg,h.tk,h.t0,h.ix,h.few,h.many,h.le,h.cn,h.only⟩
theorem HxS.more {np ins i2:Nat}(h:HxS σ b p dd l kh root U P v T bs E np ins)(hi:ins≤i2):HxS σ b p dd l kh root U P v T bs E np i2:=⟨h.bt,h.pg,h.tk,h.t0,h.ix,h.few,by have:=h.many;omega,by have:=h.le;omega,by have:=h.cn;omega,h.only⟩
theorem HxS.perm {np ins:Nat}{E':List HEn}(h:HxS σ b p dd l kh root U P v T bs E np ins)(hp:E'.Perm E):HxS σ b p dd l kh root U P v T bs E' np ins:=⟨h.bt,h.pg,h.tk,h.t0,by rw[hp.length_eq];exact h.ix.perm hp,by rw[hp.length_eq];exact h.few,h.many,by rw[hp.length_eq];exact h.le,h.cn,h.only⟩
theorem HxS.bt' {s:St}{U':Nat→Prop}{P':PoolV}{np ins:Nat}(h:HxS σ b p dd l kh root U P v T bs E np ins)(hB:Bt s b p dd l kh U' P' v)(hk:Kp P P' 0):HxS s b p dd l kh root U' P' v T bs E np ins:=⟨hB,hk.pages.trans h.pg,h.tk,h.t0,h.ix,h.few,h.many,h.le,h.cn,h.only⟩
theorem HxS.lens {np ins:Nat}(h:HxS σ b p dd l kh root U P v T bs E np ins)(hi:ins≤130):bs.length≤18∧E.length≤130:=by have:=h.many;have:=h.le;omega
theorem ahxIns {np ins:Nat}(h:HxS σ b p dd l kh root U P v T bs E np ins)(hnp:np≤3200)(hi:ins≤130)(hroom:6+2*ins+roomF (ins / 8+1)<np)(hb:Bud P 1)(k:List UInt8)(pg sl:Int):
 ACalls Tryz.prog 16 [.mp b 2 0 0,intV .i64 (root:Nat),.p (.sl 1 (encB k)),.agg [intV .i64 pg,intV .i64 sl]] σ fun r σ'=>r=intV .i64 ((insE E k pg sl).1:Nat)∧∃ U' P' v' T' bs',Fr σ σ' U U'∧Kp P P' 0∧bs.length≤bs'.length∧HxS σ' b p dd l kh root U' P' v' T' bs' (insE E k pg sl).2 np (ins+1):=by
 unfold insE
 by_cases hl:140<k.length
 ·rw[if_pos hl]
  refine (axinsLong hl).mono ?_
  rintro _ s ⟨rfl,a⟩
  exact⟨rfl,U,P,v,T,bs,a.fr,Kp.refl P _,Nat.le_refl _,(h.ap a).more (by omega)⟩
 rw[if_neg hl]
 by_cases hok:okE k pg sl
 rotate_left
 ·rw[if_neg (fun e=>hok e.1)]
  refine (axinsBad (by omega) (by unfold okE at hok;omega)).mono ?_
  rintro _ s ⟨rfl,a⟩
  exact⟨rfl,U,P,v,T,bs,a.fr,Kp.refl P _,Nat.le_refl _,(h.ap a).more (by omega)⟩
 have hok':(mkE k pg sl).Ok:=⟨hok.1,by unfold mkE;simp only;have:=hok.2;omega,by unfold mkE;simp only;have:=hok.2;omega⟩
 have e1:pg=((mkE k pg sl).p:Int):=by unfold mkE;simp only;have:=hok.2;omega
 have e2:sl=((mkE k pg sl).s:Int):=by unfold mkE;simp only;have:=hok.2;omega
 obtain⟨e,he⟩:∃ e,e=mkE k pg sl:=⟨_,rfl⟩
 have hk:k=e.k:=by rw[he];rfl
 have hmn:=h.many
 have hle:=h.le
 have hcn:=h.cn
 have hn1:=h.ix.n1
 have hrm:roomF bs.length≤roomF (ins / 8+1):=roomF_mono (by omega)
 have hpg:=h.pg
 rw[← he]at hok' e1 e2 ⊢
 rw[hk,e1,e2]
 have h0:=axinsert (x:=.sl 1 (encB e.k)) h.bt (by rw[hpg];exact h.tk) (by rw[hpg];exact hnp) h.t0 (by rw[hpg];exact h.ix) h.few (by rw[hpg];omega) hb (by omega) hok' (.inl rfl)
 refine h0.mono ?_
 rintro r s ⟨U',P',v',f,hB,kp,hc⟩
 rw[hpg]at hc
 have hoke:okE e.k e.p e.s:=by rw[← hk,←e1,←e2];exact hok
 rcases hc with⟨hin,rfl,rfl⟩|⟨hnot,rfl,T',bs',hp⟩
 ·rw[if_neg (fun q=>q.2 hin)]
  exact⟨rfl,U',P',v',T,bs,f,kp,Nat.le_refl _,(h.bt' hB kp).more (by omega)⟩
 ·rw[if_pos ⟨hoke,hnot⟩]
  have hle':bs.length≤bs'.length:=by rcases hp.cn with⟨q,_⟩|⟨q,_⟩<;>omega
  refine⟨rfl,U',P',v',T',bs',f,kp,hle',⟨hB,kp.pages.trans hpg,hp.tk,hp.t0,hp.ix,by rw[length_cons];exact hp.few,?_,by rw[length_cons];omega,?_,fun m hm=> ?_⟩⟩
  ·rcases hp.cn with⟨q,_⟩|⟨q,q2,_⟩<;>omega
  ·rcases hp.cn with⟨q,q2⟩|⟨q,q2,q3⟩
   ·rw[q];omega
   ·rw[q]
    have:roomF (bs.length+1)=roomF bs.length+(8*bs.length+1):=by simp only[roomF];rw[if_neg (by omega)]
    omega
  ·rcases (hp.tt m).1 hm with hm|hm
   ·rcases h.only m hm with q|q|q
    ·exact .inl q
    ·exact .inr (.inl q)
    ·exact .inr (.inr (hp.sub m q))
   ·exact .inr (.inr hm)
theorem ahxDel {np ins:Nat}(h:HxS σ b p dd l kh root U P v T bs E np ins)(hi:ins≤130)(hb:Bud P 1)(k:List UInt8)(pg sl:Int):
 ACalls Tryz.prog 17 [.mp b 2 0 0,intV .i64 (root:Nat),.p (.sl 1 (encB k)),.agg [intV .i64 pg,intV .i64 sl]] σ fun r σ'=>r=intV .i64 ((delE E k pg sl).1:Nat)∧∃ U' P' v',Fr σ σ' U U'∧Kp P P' 0∧HxS σ' b p dd l kh root U' P' v' T bs (delE E k pg sl).2 np ins:=by
 unfold delE
 by_cases hok:okE k pg sl
 rotate_left
 ·rw[if_neg (fun e=>hok e.1)]
  refine (axdelBad (by unfold okE at hok;omega)).mono ?_
  rintro _ s ⟨rfl,a⟩
  exact⟨rfl,U,P,v,a.fr,Kp.refl P _,h.ap a⟩
 have hok':(mkE k pg sl).Ok:=⟨hok.1,by unfold mkE;simp only;have:=hok.2;omega,by unfold mkE;simp only;have:=hok.2;omega⟩
 have e1:pg=((mkE k pg sl).p:Int):=by unfold mkE;simp only;have:=hok.2;omega
 have e2:sl=((mkE k pg sl).s:Int):=by unfold mkE;simp only;have:=hok.2;omega
 obtain⟨e,he⟩:∃ e,e=mkE k pg sl:=⟨_,rfl⟩
 have hk:k=e.k:=by rw[he];rfl
 obtain⟨g1,g2⟩:=h.lens hi
 have hpg:=h.pg
 rw[← he]at hok' e1 e2 ⊢
 rw[hk,e1,e2]
 have h0:=axdelete (x:=.sl 1 (encB e.k)) h.bt (by rw[hpg];exact h.ix) hb (by omega) hok' (.inl rfl) (by omega)
 refine h0.mono ?_
 rintro r s ⟨U',P',v',f,hB,kp,ho,hc⟩
 rw[hpg]at hc
 have hoke:okE e.k e.p e.s:=by rw[← hk,←e1,←e2];exact hok
 have hr0:=h.ix.rt.1
 have hv0:v' 0=v 0:=ho 0 (by omega) fun hm=>by
  obtain⟨b2,hb2,hm2⟩:=List.mem_flatten.1 hm
  exact h.ix.ne0 hb2 hm2 rfl
 rcases hc with⟨hnot,rfl,rfl⟩|⟨hin,rfl,hE⟩
 ·rw[if_neg (fun q=>hnot q.2)]
  exact⟨rfl,U',P',v',f,kp,h.bt' hB kp⟩
 ·rw[if_pos ⟨hoke,hin⟩]
  have hpe:=List.perm_cons_erase hin
  have hle:=hpe.length_eq
  rw[length_cons]at hle
  have hf:=h.few
  have hl:=h.le
  exact⟨rfl,U',P',v',f,kp,⟨hB,kp.pages.trans hpg,by rw[hv0];exact h.tk,h.t0,hE _ hpe,by dsimp only;omega,h.many,by dsimp only;omega,h.cn,h.only⟩⟩
theorem ahxFind {np ins:Nat}(h:HxS σ b p dd l kh root U P v T bs E np ins)(hi:ins≤130)(hb:Bud P 1)(key:List UInt8)(hkl:key.length≤140737488351232):
 ACalls Tryz.prog 9 [.mp b 2 0 0,intV .i64 (root:Nat),.p (.sl 1 (encB key))] σ fun r σ'=>∃ (av:AV) (R:List (Nat×Nat)) (U':Nat→Prop) (P':PoolV),r= .tup [av,intV .i64 0]∧MutR σ' av 2 (R.map ridC)∧R.Perm ((E.filter fun e=>e.k==key).map fun e=>(e.p,e.s))∧R.Pairwise leXY∧Fr σ σ' U U'∧Kp P P' 0∧HxS σ' b p dd l kh root U' P' v T bs E np ins∧∀ t,msOf av=some t→σ.length≤t∧¬ U' t:=by
 obtain⟨g1,g2⟩:=h.lens hi
 refine (axkfind h.bt (by rw[h.pg];exact h.ix) hb (by omega) hkl (by omega)).mono ?_
 rintro r s ⟨av,R,U',P',rfl,h1,h2,h3,f,hB,kp,h4⟩
 exact⟨av,R,U',P',rfl,h1,h2,h3,f,kp,h.bt' hB kp,h4⟩
theorem ahxBuckets {np ins:Nat}(h:HxS σ b p dd l kh root U P v T bs E np ins)(hi:ins≤130)(hb:Bud P 1):
 ACalls Tryz.prog 11 [.mp b 2 0 0,intV .i64 (root:Nat)] σ fun r σ'=>r= .tup [intV .i64 (bs.length:Nat),intV .i64 0]∧∃ U' P',Fr σ σ' U U'∧Kp P P' 0∧HxS σ' b p dd l kh root U' P' v T bs E np ins:=by
 obtain⟨g1,g2⟩:=h.lens hi
 refine (axbuckets h.bt (by rw[h.pg];exact h.ix) hb (by omega)).mono ?_
 rintro r s ⟨rfl,U',P',f,hB,kp⟩
 exact⟨rfl,U',P',f,kp,h.bt' hB kp⟩
theorem ahxMake {np:Nat}(h:Bt σ b p dd l kh U P v)(hpg:P.pages=np)(hT:Tk (v 0) np (fun n=>n==0))(hnp:np≤3200)(hn3:3≤np)(hb:Bud P 1):
 ACalls Tryz.prog 15 [.mp b 2 0 0] σ fun r σ'=>∃ U' P' v' T' root bs,r= .tup [intV .i64 (root:Nat),intV .i64 0]∧Fr σ σ' U U'∧Kp P P' 0∧HxS σ' b p dd l kh root U' P' v' T' bs [] np 0∧bs.length=1:=by
 have hc1:cnt (fun n=>n==0) np=1:=cnt_one np (by omega)
 refine (axmake (T:=fun n=>n==0) h (by rw[hpg];exact hT) (by rw[hpg];exact hnp) rfl (by rw[hpg,hc1];omega) hb).mono ?_
 rintro r s ⟨U',P',v',T',root,m,rfl,f,hB,kp,hm⟩
 rw[hpg]at hm
 have hcn:=hm.cn
 rw[hc1]at hcn
 refine⟨U',P',v',T',root,[[m]],rfl,f,kp,⟨hB,kp.pages.trans hpg,hm.tk,hm.t0,hm.ix,by simp,by simp,by simp,by rw[hcn];simp[roomF],fun q hq=> ?_⟩,rfl⟩
 rcases (hm.tt q).1 hq with h1|h1|h1
 ·exact .inl (by simpa using h1)
 ·exact .inr (.inl h1)
 ·exact .inr (.inr (by simp[h1]))
end
end Go.Proofs.YthhbnenaihkggaaGreat
