/- Logs: what waits is written; a log is emptied. Lists of one's own. Logs: the records of bytes. Logs: an empty one is opened. Logs: one that has records is opened. -/
import Derived.Test.YthhbnenaihkggaaGreatM22
set_option linter.unusedSimpArgs false
set_option linter.unusedVariables false
set_option linter.defProp false
set_option maxRecDepth 100000
set_option maxHeartbeats 32000000
namespace Go.Proofs.YthhbnenaihkggaaGreat
open Go.RowKit
open List (getElem?_append_left length_set)
def pl106_9We:Plan:=(.det 0 (.det 1 (.det 2 (.det 3 (.det 4 (.det 5 (.det 6 (.det 7 (.fin 8 .done)))))))))
def pl106_10We:Plan:=(.det 0 (.det 1 (.det 2 (.det 3 (.det 4 (.det 5 (.det 6 (.fin 7 (.det 8 .done)))))))))
def tWe:=aa wX <| aa wbu <| aa T3 <| aa T23 <| aa T29 <| aa T39 <| aa T79 <| aa T125 <| aa T127 <| aa T129 T131
theorem awreset {σ:St}{l:Nat}{G:Nat→Prop}{L:LogV}(h:LogAt σ l G L)(hc:L.ctr+1<18446744073709551616):
 ACalls Tryz.prog 73 [.mp l 5 0 0] σ fun x σ'=>x=intV .i64 0∧∃ G',Fr σ σ' G G'∧LogAt σ' l G' { d:=L.d,disk:={ L.disk with now:=setM L.disk.now ((L.ctr+1) % 2) (headS (L.ctr+1) 0),wait:=[],kept:=secAt (setM L.disk.now ((L.ctr+1) % 2) (headS (L.ctr+1) 0)) },ctr:=L.ctr+1,len:=0,str:=[],wait:=0 }:=by
 have hs:=awseal h 0 (Nat.zero_le _) hc fun k hk=>absurd hk (Nat.not_lt_zero _)
 have hs:ACalls Tryz.prog 109 [.mp l 5 0 0,.p (.v (.int .i64 0))] σ _:=hs
 refine acalls_of cx_ok dr_ok Tryz.func73 (by kernel_rfl) rfl (nt:=6) (rs:=[.tmp 2]) rfl rfl ?_
 repeat' first|((with_reducible first|apply cs|apply ws)<;>intro h<;>try simp only[h])|simp only[↓wBA,tWe,convA,seval,wH]
 refine hs.mono ?_
 rintro _ s1 ⟨rfl,G1,hf,hl⟩
 repeat' first|((with_reducible first|apply cs|apply ws)<;>intro h<;>try simp only[h])|simp only[↓wBA,tWe,convA,seval,wH]
 all_goals refine ret_st ?_ hf.len
 all_goals simp only[resA.eq_1,resL.eq_1,resL.eq_2,resV.eq_1,resV.eq_2,List.getD_cons_zero,List.getD_cons_succ]
 all_goals exact⟨trivial,G1,hf,by simpa using hl⟩
theorem take_pg (n:Nat)(l:List UInt8):List.take n (pageC l)=pageC (List.take n l):=by simp[pageC,List.map_take]
theorem drop_zero64 (m:Nat):List.drop m (pageC zero64)=pageC (List.replicate (64 - m) 0):=by simp only[zero64,pageC,List.map_replicate,List.drop_replicate]
theorem pageC_app (l m:List UInt8):pageC l++pageC m=pageC (l++m):=by simp[pageC]
theorem flat_bRows (l:List UInt8):(bRows l).flatten=pageC l:=by
 induction l with
 |nil=>rfl
 |cons b l ih=>simp only[bRows,pageC,List.map_cons,List.flatten_cons,List.cons_append,List.nil_append]at ih ⊢;rw[ih]
theorem src_str {s:St}{t k:Nat}{S:List UInt8}{ls:List (List AV)}(ht:s[t]? =some (some (.row 1 ls)))(h3:ls.take S.length=bRows S)(h4:S.length≤ls.length)(hk:k<S.length):srcC s (.ms t 1 k (S.length - k))=some (pageC (S.drop k)):=by
 have e:(ls.drop k).take (S.length - k)=bRows (S.drop k):=by
  rw[← List.drop_take,h3]
  simp only[bRows,List.map_drop]
 simp only[srcC,ht,if_true,true_and]
 rw[if_pos (by omega),e,flat_bRows]
theorem slice_rest {C:Ctx}{T E es eb t i n k:Nat}{ez:List Value}(hc:C.kind T=some (.slice E es eb ez))(hk:k<n):sliceA C T (.ms t es i n) (some (.p (.v (.int .i64 (k:Nat))))) none=some (.ms t es (i+k) (n - k)):=by
 simp only[sliceA,hc,elemsA,boundA,intA]
 cases k with
 |zero=>
  have h2:(0:Int)≤(n:Int):=by omega
  simp[h2]
 |succ k=>
  have h1:((k+1:Nat):Int)≠0:=by omega
  have h2:(some (((k+1:Nat):Int)):Option Int)≠some 0:=by simp;omega
  have h3:(0:Int)≤((k+1:Nat):Int):=by omega
  have h4:((k+1:Nat):Int)<(n:Int):=by omega
  split
  ·rename_i e _;cases e
  ·rename_i e _;cases e
  ·rename_i e;exact (h2 e).elim
  ·rename_i heq heq2
   simp only[AV.ms.injEq]at heq
   obtain⟨rfl,rfl,rfl,rfl⟩:=heq
   simp only[Option.some.injEq]at heq2
   subst heq2
   simp
   omega
  ·exfalso
   simp_all only[AV.ms.injEq,Option.some.injEq,and_imp,forall_eq',ne_eq,not_true_eq_false,reduceCtorEq,not_false_eq_true,forall_const]
   first|omega|(rename_i h6;exact h6 _ _ _ _ _ rfl rfl rfl rfl rfl)|skip
theorem awflush {σ:St}{l:Nat}{G:Nat→Prop}{L:LogV}(h:LogAt σ l G L)(hc:L.ctr+1<18446744073709551616):
 ACalls Tryz.prog 106 [.mp l 5 0 0] σ fun x σ'=>x=intV .i64 0∧∃ G' L',Fr σ σ' G G'∧LogAt σ' l G' L'∧L'.str=L.str∧L'.wait=0∧L'.disk.size=L.disk.size∧L'.ctr≤L.ctr+min L.wait 1∧L'.d=L.d:=by
 have hL:=h
 obtain⟨d,F,w,a,h,hG⟩:=h
 have h0:=h.o
 have l0:=at_lt h0
 have hb2:L.disk.size≤65536:=by obtain⟨kn,kk,w',a',es,hd,hF⟩:=h.disk;exact hd.big
 have hst:=h.room
 have hle:=h.le
 by_cases hw:L.wait=0
 ·have w0:((L.wait:Int)==0)=true:=by simp[hw]
  refine acalls_of cx_ok dr_ok Tryz.func106 (by kernel_rfl) rfl (nt:=67) (rs:=[.tmp 2]) rfl rfl ?_
  repeat' first|((with_reducible first|apply cs|apply ws|apply wd|apply wu)<;>intro h<;>try simp only[h])|simp only[↓wBA,tWe,convA,seval,pl106_9We,pl106_10We,wH,h0,w0]|(with_reducible first|refine dQ pl106_9We 9 (some 33) ?_|refine dQ pl106_10We 9 (some 42) ?_)
  all_goals refine ret_st ?_ (by first|exact Nat.le_refl _|(simp only[length_set,List.length_append];omega)|omega)
  all_goals simp only[resA.eq_1,resL.eq_1,resL.eq_2,resV.eq_1,resV.eq_2,↓wBA,tWe,convA,seval,wH]
  all_goals exact⟨G,L,Fr.refl _ _,hL,rfl,hw,rfl,by omega,rfl⟩
 ·have w0:((L.wait:Int)==0)=false:=by simp[hw]
  have w1:IntKind.i64.wrap (L.len:Int)=(L.len:Int):=wrap_i64 (by omega) (by omega)
  have w2:IntKind.i64.wrap ((L.len:Int).tdiv 64)=((L.len / 64:Nat):Int):=by
   have e:(L.len:Int).tdiv 64=((L.len / 64:Nat):Int):=by rw[Int.tdiv_eq_ediv_of_nonneg (by omega)];omega
   rw[e,wrap_i64 (by omega) (by omega)]
  refine acalls_of cx_ok dr_ok Tryz.func106 (by kernel_rfl) rfl (nt:=67) (rs:=[.tmp 2]) rfl rfl ?_
  repeat' first|((with_reducible first|apply cs|apply ws|apply wd|apply wu)<;>intro h<;>try simp only[h])|simp only[↓wBA,tWe,convA,seval,pl106_9We,pl106_10We,wH,h0,w0,w1,w2]|(with_reducible first|refine dQ pl106_9We 9 (some 33) ?_|refine dQ pl106_10We 9 (some 42) ?_)
  refine awp_loopS (X:={ q:Nat // q≤1024*64 }) (fun q=>1024*64 - q.1) (fun q=>[(3,intV .i64 (L.len / 64+q.1:Nat))]) [2,4,5,23,24,25,26,27,28,29,30,31,32,33,34,35,36,37,38,39,40,41,42,43,44,45,46,47,48,49,50,51,52] (fun q s=>∃ F' D',Fr σ s F F'∧DiskAt s d F' D'∧D'.size=L.disk.size∧Heads D'.now L.ctr L.len∧(∀ k,(secAt D'.now k).length=64)∧D'.wait.length≤q.1∧(∀ k,k<L.str.length→k<L.len∨k / 64<L.len / 64+q.1→(secAt D'.now (2+k / 64))[k % 64]? =L.str[k]?)) (⟨0,by omega⟩) ?_ ?_ ?_ ?_
  ·simp only[wHl,wHf,Nat.add_zero]
  ·exact⟨F,L.disk,Fr.refl _ _,h.disk,rfl,h.heads,h.secs,by rw[h.dry];exact Nat.le_refl _,fun k hk hkl=>h.on k (by have hkl:k<L.len∨k / 64<L.len / 64+0:=hkl;omega)⟩
  ·rintro _ _ ⟨F',D',hf,_⟩;exact hf.len
  ·intro x J s hI
   simp only[wHl]
   obtain⟨q,hq⟩:=x
   obtain⟨F1,D1,hf1,hd1,hz,hh,hsec,hwl,hon⟩:=hI
   dsimp only at*
   have k0:=hf1.get h0 h.nl
   have q0:=at_lt k0
   generalize hA:L.len / 64+q=A
   have w3:IntKind.i64.wrap ((A:Int)*64)=((A*64:Nat):Int):=by rw[wrap_i64 (by omega) (by omega)];simp
   by_cases hlt:A*64<L.str.length
   ·have hdec:decide (((A*64:Nat):Int)<(L.str.length:Int))=true:=by simp only[decide_eq_true_eq];omega
    rcases h.str with⟨_,_,hS⟩|⟨t,ls,rfl,rfl,h2,h3,h4⟩
    ·rw[hS]at hlt;simp at hlt
    ·have i2:=hf1.get h2 (h.nw t rfl)
     have q2:=at_lt i2
     have hsr:∀ τ,srcC (s++τ) (.ms t 1 (A*64) (L.str.length - A*64))=some (pageC (L.str.drop (A*64))):=fun τ=>src_str (by rw[getElem?_append_left q2];exact i2) h3 h4 hlt
     have hsl:=slice_rest (C:=cx) (t:=t) (i:=0) ck_23 hlt
     simp only[Nat.zero_add]at hsl
     have n0:(l=s.length)=False:=nf (by omega)
     have n1:(s.length=l)=False:=nf (by omega)
     have w4:IntKind.i64.wrap ((A:Int)+2)=((A+2:Nat):Int):=by rw[wrap_i64 (by omega) (by omega)];simp
     have w5:=wI A (by omega)
     obtain⟨y,hy⟩:∃ y,List.take 64 (L.str.drop (A*64))=y:=⟨_,rfl⟩
     have hyl:y.length≤64:=by rw[← hy];simp;omega
     have hE:(if y.length=64 then pageC y else pageC y++List.drop y.length (pageC zero64))=pageC (y++List.replicate (64 - y.length) 0):=by
      split
      ·rename_i e;rw[e];simp
      ·rw[drop_zero64,pageC_app]
     have hEl:(y++List.replicate (64 - y.length) (0:UInt8)).length=64:=by simp;omega
     repeat' first|((with_reducible first|apply cs|apply ws|apply wd|apply wu)<;>intro h<;>try simp only[h])|simp only[↓wBA,tWe,convA,seval,pl106_9We,pl106_10We,wH,wHl,k0,q0,w3,w4,hdec,boundA,hsl,n0,n1,zB_64,copyA,hsr,take_pg,pageC_len,hy,hE,hEl,len_zero64,Nat.zero_add]|(with_reducible first|refine dQ pl106_9We 9 (some 33) ?_|refine dQ pl106_10We 9 (some 42) ?_)
     have nl1:¬ F1 l:=fun hF=>(hf1.own _ hF).elim h.nl (fun hl=>by omega)
     refine (adwrite (hd1.app _) (A+2) (by omega) _ hEl (by omega)).mono ?_
     rintro _ s2 ⟨rfl,F2,hf2,hd2⟩
     have j0:=hf2.get (t:=l) (by rw[getElem?_append_left q0];exact k0) nl1
     have p0:=at_lt j0
     repeat' first|((with_reducible first|apply cs|apply ws|apply wd|apply wu)<;>intro h<;>try simp only[h])|simp only[↓wBA,tWe,convA,seval,pl106_9We,pl106_10We,wH,wHl,j0,p0,w5]|(with_reducible first|refine dQ pl106_9We 9 (some 33) ?_|refine dQ pl106_10We 9 (some 42) ?_)
     refine⟨⟨q+1,by omega⟩,by show 1024*64 - (q+1)<1024*64 - q;omega,⟨F2,_,(hf1.app _).trans hf2,hd2,hz,hh.keep (by omega) _,fun k=> ?_,by simp;omega,fun k hk hkl=> ?_⟩,?_⟩
     ·rw[secAt_set]
      split
      ·exact hEl
      ·exact hsec k
     ·show (secAt (setM D1.now (A+2) (y++List.replicate (64 - y.length) 0)) (2+k / 64))[k % 64]? =L.str[k]?
      rw[secAt_set]
      by_cases e:k / 64=A
      ·rw[if_pos (by omega)]
       have hyk:y[k % 64]? =L.str[k]? :=by rw[← hy,List.getElem?_take,if_pos (by omega),List.getElem?_drop];congr 1;omega
       have hyl2:k % 64<y.length:=by rw[← hy];simp;omega
       rw[getElem?_append_left hyl2,hyk]
      ·rw[if_neg (by omega)]
       exact hon k hk (by simp only at hkl;omega)
     ·have e':((L.len / 64+(q+1):Nat):Int)=((A+1:Nat):Int):=by rw[← hA,Nat.add_assoc]
      simp only[e']
   ·have hdec:decide (((A*64:Nat):Int)<(L.str.length:Int))=false:=by simp only[decide_eq_false_iff_not];omega
    have hfin:∀ (s2:St) (F2:Nat→Prop),Fr s s2 F1 F2→DiskAt s2 d F2 { D1 with wait:=[],kept:=secAt D1.now }→ACalls Tryz.prog 109 [.mp l 5 0 0,intV .i64 (L.str.length:Nat)] s2 fun x σ'=>x=intV .i64 0∧∃ G' L',Fr σ σ' G G'∧LogAt σ' l G' L'∧L'.str=L.str∧L'.wait=0∧L'.disk.size=L.disk.size∧L'.ctr≤L.ctr+1∧L'.d=L.d:=fun s2 F2 hf2 hd2=>by
     have f12:=hf1.trans hf2
     have hst':StrAt s2 a w L.str:=h.str.same fun t ht=>by
      rcases h.str with⟨_,e,_⟩|⟨t',ls,_,e,h2,_⟩
      ·rw[e]at ht;cases ht
      ·rw[e]at ht;simp only[Option.some.injEq]at ht;subst ht
       rw[f12.get h2 (h.nw t' e),h2]
     have hwl:∀ t,w=some t→t<σ.length:=fun t ht=>by
      rcases h.str with⟨_,e,_⟩|⟨t',ls,_,e,h2,_⟩
      ·rw[e]at ht;cases ht
      ·rw[e]at ht;simp only[Option.some.injEq]at ht;subst ht;exact at_lt h2
     have hl2:LogAt s2 l (fun t=>t=l∨F2 t∨w=some t) { L with disk:={ D1 with wait:=[],kept:=secAt D1.now } }:=
      ⟨d,F2,w,a,⟨f12.get h0 h.nl,hd2,hst',fun hF=>(f12.own l hF).elim h.nl (fun hl=>by omega),fun t ht hF=>(f12.own t hF).elim (h.nw t ht) (fun hl=>by have:=hwl t ht;omega),by show 3≤D1.size;rw[hz];exact h.big,by show L.str.length≤(D1.size - 2)*64;rw[hz];exact hst,h.le,hh,hsec,rfl,h.id,fun k hk=>hon k (by have:=h.le;have hk:k<L.len:=hk;omega) (.inl hk),h.dr⟩,fun t=>Iff.rfl⟩
     refine (awseal hl2 L.str.length (Nat.le_refl _) hc fun k hk=>hon k hk (.inr (by omega))).mono ?_
     rintro x σ' ⟨rfl,G',hf3,hl3⟩
     have f4:Fr σ s2 G fun t=>t=l∨F2 t∨w=some t:=⟨f12.len,fun t ht hn=>f12.keep t ht fun hF=>hn ((hG t).2 (.inr (.inl hF))),fun t ht=>by
      rcases ht with rfl|ht|ht
      ·exact .inl ((hG _).2 (.inl rfl))
      ·exact (f12.own t ht).imp (fun hF=>(hG t).2 (.inr (.inl hF))) id
      ·exact .inl ((hG t).2 (.inr (.inr ht)))⟩
     exact⟨rfl,G',_,f4.trans hf3,hl3,by simp,rfl,hz,by simp,rfl⟩
    rcases h.str with⟨rfl,rfl,hS⟩|⟨t,ls,rfl,rfl,h2,h3,h4⟩
    ·have hfin':=hfin
     simp only[hS,List.length_nil,cz]at hdec hfin'
     repeat' first|((with_reducible first|apply cs|apply ws|apply wd|apply wu)<;>intro h<;>try simp only[h])|simp only[↓wBA,tWe,convA,seval,pl106_9We,pl106_10We,wH,wHl,k0,q0,w3,hdec]|(with_reducible first|refine dQ pl106_9We 9 (some 33) ?_|refine dQ pl106_10We 9 (some 42) ?_)
     refine (adsync hd1 (by omega)).mono ?_
     rintro _ s2 ⟨rfl,F2,hf2,hd2⟩
     have j0:=hf2.get k0 (fun hF=>(hf1.own _ hF).elim h.nl (fun hl=>by omega))
     repeat' first|((with_reducible first|apply cs|apply ws|apply wd|apply wu)<;>intro h<;>try simp only[h])|simp only[↓wBA,tWe,convA,seval,pl106_9We,pl106_10We,wH,wHl,j0]|(with_reducible first|refine dQ pl106_9We 9 (some 33) ?_|refine dQ pl106_10We 9 (some 42) ?_)
     refine (hfin' s2 F2 hf2 hd2).mono ?_
     rintro _ s3 ⟨rfl,G',L',g1,g2,g3,g4,g5,g6,g7⟩
     repeat' first|((with_reducible first|apply cs|apply ws|apply wd|apply wu)<;>intro h<;>try simp only[h])|simp only[↓wBA,tWe,convA,seval,pl106_9We,pl106_10We,wH,wHl]|(with_reducible first|refine dQ pl106_9We 9 (some 33) ?_|refine dQ pl106_10We 9 (some 42) ?_)
     all_goals refine ret_st ?_ g1.len
     all_goals simp only[resA.eq_1,resL.eq_1,resL.eq_2,resV.eq_1,resV.eq_2,List.getD_cons_zero,List.getD_cons_succ]
     all_goals exact⟨trivial,G',L',g1,g2,by rw[hS];exact g3,g4,g5,by omega,g7⟩
    ·skip
     repeat' first|((with_reducible first|apply cs|apply ws|apply wd|apply wu)<;>intro h<;>try simp only[h])|simp only[↓wBA,tWe,convA,seval,pl106_9We,pl106_10We,wH,wHl,k0,q0,w3,hdec]|(with_reducible first|refine dQ pl106_9We 9 (some 33) ?_|refine dQ pl106_10We 9 (some 42) ?_)
     refine (adsync hd1 (by omega)).mono ?_
     rintro _ s2 ⟨rfl,F2,hf2,hd2⟩
     have j0:=hf2.get k0 (fun hF=>(hf1.own _ hF).elim h.nl (fun hl=>by omega))
     repeat' first|((with_reducible first|apply cs|apply ws|apply wd|apply wu)<;>intro h<;>try simp only[h])|simp only[↓wBA,tWe,convA,seval,pl106_9We,pl106_10We,wH,wHl,j0]|(with_reducible first|refine dQ pl106_9We 9 (some 33) ?_|refine dQ pl106_10We 9 (some 42) ?_)
     refine (hfin s2 F2 hf2 hd2).mono ?_
     rintro _ s3 ⟨rfl,G',L',g1,g2,g3,g4,g5,g6,g7⟩
     repeat' first|((with_reducible first|apply cs|apply ws|apply wd|apply wu)<;>intro h<;>try simp only[h])|simp only[↓wBA,tWe,convA,seval,pl106_9We,pl106_10We,wH,wHl]|(with_reducible first|refine dQ pl106_9We 9 (some 33) ?_|refine dQ pl106_10We 9 (some 42) ?_)
     all_goals refine ret_st ?_ g1.len
     all_goals simp only[resA.eq_1,resL.eq_1,resL.eq_2,resV.eq_1,resV.eq_2,List.getD_cons_zero,List.getD_cons_succ]
     all_goals exact⟨trivial,G',L',g1,g2,g3,g4,g5,by omega,g7⟩
def ownOf:AV→Option Nat
 | .own t _ _=>some t
 |_=>none
def OwnR (q:St)(av:AV)(E:TypeId)(e:Nat)(ls:List (List PV)):Prop:=(av= .p (.v (.slice none 0 0))∧ls=[])∨∃ t,av= .own t e ls∧ls≠[]∧q[t]? =some (some (.right E (ls.length*e)))
theorem OwnR.same {q q':St}{av:AV}{E:TypeId}{e:Nat}{ls:List (List PV)}(h:OwnR q av E e ls)(hs:∀ t,ownOf av=some t→q'[t]? =q[t]?):OwnR q' av E e ls:=by
 rcases h with h|⟨t,rfl,h1,h2⟩
 ·exact .inl h
 ·exact .inr ⟨t,rfl,h1,by rw[hs t rfl];exact h2⟩
theorem OwnR.lt {q:St}{av:AV}{E:TypeId}{e:Nat}{ls:List (List PV)}(h:OwnR q av E e ls){t:Nat}(ht:ownOf av=some t):t<q.length:=by
 rcases h with⟨rfl,_⟩|⟨t',rfl,h1,h2⟩
 ·cases ht
 ·simp only[ownOf,Option.some.injEq]at ht;subst ht;exact at_lt h2
theorem app_own {q:St}{av y:AV}{E T:TypeId}{e eb:Nat}{ez:List Value}{ls m:List (List PV)}(hk:cx.kind T=some (.slice E e eb ez))(h:OwnR q av E e ls)(hy:srcD q e y=some m)(hm:m≠[])(hb:(ls.length+m.length)*eb≤140737488355328)(hb2:ls.length+m.length≤1000000):
 ∃ av' q',appendA cx q.length T av y q=some (av',q')∧OwnR q' av' E e (ls++m)∧q.length≤q'.length∧(∀ t,t<q.length→ownOf av≠some t→q'[t]? =q[t]?)∧∀ t,ownOf av'=some t→ownOf av=some t∨q.length≤t:=by
 have c2:ls.length+m.length≤maxLen:=by unfold maxLen;omega
 rcases h with⟨rfl,rfl⟩|⟨t,rfl,hl,ht⟩
 ·cases m with
  |nil=>exact absurd rfl hm
  |cons c r=>
   refine⟨.own q.length e (c::r),q++[some (.right E ((c::r).length*e))],?_,.inr ⟨q.length,rfl,by simp,by simp⟩,by simp,fun t ht _=>getElem?_append_left ht,fun t ht=>.inr ?_⟩
   ·unfold appendA
    rw[hk]
    simp only[hy]
    rw[if_pos ⟨by simpa using hb,by simpa using c2⟩]
    simp only[put_new rfl]
   ·simp only[ownOf,Option.some.injEq]at ht;omega
 ·have htl:=at_lt ht
  refine⟨.own t e (ls++m),q.set t (some (.right E ((ls++m).length*e))),?_,.inr ⟨t,rfl,by simp[hl],by simp[htl]⟩,by simp,fun t' _ hn=>List.getElem?_set_ne fun e=>hn (by subst e;rfl),fun t' ht=>.inl ht⟩
  unfold appendA
  rw[hk]
  simp only[hy]
  rw[if_pos ⟨trivial,hb,c2⟩,ht]
  simp
theorem Ap.of_keep {σ s:St}(hl:σ.length≤s.length)(h:∀ t,t<σ.length→s[t]? =σ[t]?):Ap σ s:=by
 refine⟨s.drop σ.length,?_⟩
 apply List.ext_getElem?
 intro t
 by_cases ht:t<σ.length
 ·rw[getElem?_append_left ht,h t ht]
 ·rw[List.getElem?_append_right (by omega),List.getElem?_drop]
  congr 1;omega
theorem Ap.of_fr {σ s:St}{F F':Nat→Prop}(h:Fr σ s F F')(hF:∀ t,F t→σ.length≤t):Ap σ s:=Ap.of_keep h.len fun t ht=>h.keep t ht fun e=>by have:=hF t e;omega
def recB (r:List UInt8):List UInt8:=leB r.length 4++r
def recsB (rs:List (List UInt8)):List UInt8:=rs.flatMap recB
theorem recsB_app (a b:List (List UInt8)):recsB (a++b)=recsB a++recsB b:=List.flatMap_append ..
theorem c4:((4:Nat):Int)=4:=rfl
def pl34_12Wo:Plan:=(.det 0 (.det 2 (.two 1 (.two 3 (.det 4 (.fin 5 (.fin 6 .done))) 5 (.fin 3 (.det 4 (.fin 6 .done)))) 5 (.fin 1 (.fin 3 (.det 4 (.fin 6 .done)))))))
def pl34_13Wo:Plan:=(.det 0 (.det 1 (.det 2 (.det 3 (.det 4 (.det 5 (.det 6 (.det 7 .done))))))))
def pl34_16Wo:Plan:=(.det 0 (.det 1 (.det 2 (.det 3 (.det 5 (.two 4 (.act 6 (.det 7 (.det 8 .done))) 6 (.det 7 (.act 4 (.det 8 .done)))))))))
def pl34_19Wo:Plan:=(.det 0 (.det 1 (.det 2 (.det 3 (.det 4 (.det 5 (.det 6 (.det 7 (.det 8 (.det 9 (.det 10 (.det 11 .done))))))))))))
def pl34_24Wo:Plan:=(.det 0 (.det 1 (.det 2 (.det 3 (.det 4 (.det 5 (.fin 6 (.det 7 (.det 8 (.fin 9 .done))))))))))
def pl34_25Wo:Plan:=(.det 0 (.det 1 (.det 2 (.det 3 (.det 4 (.det 5 (.det 6 (.det 7 (.det 8 (.det 9 (.det 10 (.det 11 (.det 12 (.fin 13 .done))))))))))))))
def tWo:=aa wX <| aa wbu <| aa T3 <| aa T4 <| aa T22 <| aa T23 <| aa T29 <| aa T39 <| aa T79 <| aa T125 <| aa T127 <| aa T129 T131
theorem anumberS {σ:St}{t e:Nat}(s:List UInt8)(o n:Nat)(ht:σ[t]? =some (some (.row e [pageC s])))(hn:n≤8)(ho:o+n≤s.length):
 ACalls Tryz.prog 65 [.bs t e 0 o n] σ fun r σ'=>σ'=σ∧r= .p (.v (.int .u64 (numB ((s.drop o).take n):Nat))):=by
 have hl:((s.drop o).take n).length=n:=by simp;omega
 have:=anumber (o:=o) ((s.drop o).take n) ht (by omega) (fun i hi=>by
  have h1:o+i<s.length:=by omega
  simp only[pageC,List.getElem?_map,List.getElem?_eq_getElem h1,Option.map_some,List.getElem_take,List.getElem_drop])
 rw[hl]at this
 exact this
theorem arecs0 (σ:St):ACalls Tryz.prog 67 [.p (.v (.slice none 0 0))] σ fun r σ'=>σ'=σ∧r= .tup [.p (.v (.slice none 0 0)),boolV true]:=by
 refine acalls_of cx_ok dr_ok Tryz.func67 (by kernel_rfl) rfl (nt:=37) (rs:=[.tmp 2,.tmp 3]) rfl rfl ?_
 repeat' first|((with_reducible first|apply cs|apply ws)<;>intro h<;>try simp only[h])|simp only[↓wBA,tWo,convA,seval,wH]
 refine awp_loopS (X:=Nat) (fun i=>0) (fun i=>[(0,.p (.v (.slice none 0 0))),(4,.p (.v (.slice none 0 0)))]) [2,3,5,6,7,8,9,10,11,12,13,14,15,16,17,18,19,20,21,22,23,24,25,26,27,28,29,30,31,32,33,34,35,36] (fun i s=>s=σ) (0) ?_ ?_ ?_ ?_
 ·simp only[wHl,wHf]
 ·rfl
 ·rintro _ _ rfl;exact Nat.le_refl _
 ·intro x J s hI
  simp only[wHl]
  subst hI
  repeat' first|((with_reducible first|apply cs|apply ws)<;>intro h<;>try simp only[h])|simp only[↓wBA,tWo,convA,seval,wH,wHl]
  all_goals refine ret_st ?_ (by first|exact Nat.le_refl _|(simp only[length_set,List.length_append];omega)|omega)
  all_goals simp only[resA.eq_1,resL.eq_1,resL.eq_2,resV.eq_1,resV.eq_2,↓wBA,tWo,convA,seval,wH]
def hdN (m:List (Nat×List UInt8)):Nat→Nat×Nat
 |0=>(0,0)
 |1=>if 0<(headB (secAt m 0)).1 then headB (secAt m 0)else (0,0)
 |_=>headD m
theorem hdN_succ (m:List (Nat×List UInt8))(i:Nat)(hi:i<2):hdN m (i+1)=if (hdN m i).1<(headB (secAt m i)).1 then headB (secAt m i)else hdN m i:=by
 match i,hi with
 |0,_=>rfl
 |1,_=>rfl
theorem awopen {σ:St}{d:Nat}{F:Nat→Prop}{D:DiskV}(h:DiskAt σ d F D)(hz:3≤D.size)(c:Nat)(hh:Heads D.now c 0)(hs:∀ k,(secAt D.now k).length=64)(hw:D.wait=[]):
 ACalls Tryz.prog 34 [.mp d 6 0 0] σ fun r σ'=>r= .tup [.mp σ.length 5 0 0,.p (.v (.slice none 0 0)),intV .i64 0]∧Ap σ σ'∧LogAt σ' σ.length (fun t=>t=σ.length∨F t) { d:=d,disk:=D,ctr:=c,len:=0,str:=[],wait:=0 }:=by
 have hsz:=adsize h
 have hb2:D.size≤65536:=by obtain⟨kn,kk,w',a',es,hd,hF⟩:=h;exact hd.big
 have e0:decide ((D.size:Int)<3)=false:=by simp;omega
 refine acalls_of cx_ok dr_ok Tryz.func34 (by kernel_rfl) rfl (nt:=120) (rs:=[.tmp 2,.tmp 3,.tmp 4]) rfl rfl ?_
 repeat' first|((with_reducible first|apply cs|apply ws|apply wd|apply wu)<;>intro h<;>try simp only[h])|simp only[↓wBA,tWo,convA,seval,pl34_12Wo,pl34_13Wo,pl34_16Wo,pl34_19Wo,pl34_24Wo,pl34_25Wo,wH,e0]|((with_reducible show ACalls _ _ _ _ _);refine hsz.eq ?_)|(with_reducible first|refine dQ pl34_12Wo 7 (some 37) ?_|refine dQ pl34_13Wo 8 (some 42) ?_|refine dQ pl34_16Wo 9 (some 55) ?_|refine dQ pl34_19Wo 12 (some 64) ?_|refine dQ pl34_24Wo 10 (some 87) ?_|refine dQ pl34_25Wo 14 (some 96) ?_)|with_reducible refine And.intro ?_ ?_
 refine awp_loopS (X:={ i:Nat // i≤2 }) (fun i=>2 - i.1) (fun i=>[(25,intV .i64 (i.1:Nat))]) [2,3,4,6,7,8,9,26,27,28,29,30,31,32,33,34,35,36,37,38,39,40,41,42,43,44,45,46,47,48,49,50,51,52,53,54] (fun i s=>Ap σ s∧s[σ.length]? =some (some (.row 5 [[.mp d 6 0 0,.p (.v (.int .u64 ((hdN D.now i.1).1:Nat))),.p (.v (.int .u64 ((hdN D.now i.1).2:Nat))),.p (.v (.slice none 0 0)),intV .i64 0]]))) (⟨0,by omega⟩) ?_ ?_ ?_ ?_
 ·simp only[wHl,wHf]
 ·exact⟨Ap.app _ _,by simp only[wH,wHe,hdN,cz]⟩
 ·rintro _ _ ⟨_,hl⟩;have:=at_lt hl;simp;omega
 ·intro x J s hI
  simp only[wHl]
  obtain⟨i,hi⟩:=x
  obtain⟨ha,hl⟩:=hI
  dsimp only at*
  have l0:=at_lt hl
  by_cases hlt:i<2
  ·have hdec:decide ((i:Int)<2)=true:=by simp;omega
   have hw1:=wI i (by omega)
   repeat' first|((with_reducible first|apply cs|apply ws|apply wd|apply wu)<;>intro h<;>try simp only[h])|simp only[↓wBA,tWo,convA,seval,pl34_12Wo,pl34_13Wo,pl34_16Wo,pl34_19Wo,pl34_24Wo,pl34_25Wo,wH,wHl,hl,l0,hdec]|(with_reducible first|refine dQ pl34_12Wo 7 (some 37) ?_|refine dQ pl34_13Wo 8 (some 42) ?_|refine dQ pl34_16Wo 9 (some 55) ?_|refine dQ pl34_19Wo 12 (some 64) ?_|refine dQ pl34_24Wo 10 (some 87) ?_|refine dQ pl34_25Wo 14 (some 96) ?_)|with_reducible refine And.intro ?_ ?_
   refine (adread (h.ap ha) i (by omega) (hs i)).mono ?_
   rintro _ s1 ⟨ha1,rfl⟩
   have hl1:=ha1.get hl
   have l1:=at_lt hl1
   have ha2:=ha.trans ha1
   have q64:=pageC_64 (hs i)
   have e64:=pageC_64 len_zero64
   have q1:numB (List.take 8 (secAt D.now i))=(headB (secAt D.now i)).1:=rfl
   have q2:numB (List.take 4 (List.drop 8 (secAt D.now i)))=(headB (secAt D.now i)).2:=rfl
   have n0:(σ.length=s1.length)=False:=nf (by omega)
   have n1:(s1.length=σ.length)=False:=nf (by omega)
   by_cases hgt:(hdN D.now i).1<(headB (secAt D.now i)).1
   ·have hd2:decide (((headB (secAt D.now i)).1:Int)>((hdN D.now i).1:Int))=true:=by simp;omega
    repeat' first|((with_reducible first|apply cs|apply ws|apply wd|apply wu)<;>intro h<;>try simp only[h])|simp only[↓wBA,tWo,convA,seval,pl34_12Wo,pl34_13Wo,pl34_16Wo,pl34_19Wo,pl34_24Wo,pl34_25Wo,wH,wHl,hl1,l1,q64,zB_64,boundA,n0,n1,q1,q2,hd2,hw1,pageA,e64]|((with_reducible show ACalls _ _ _ _ _);first|(refine (anumberS (secAt D.now i) 0 8 (by simp only[wH,wHe,Nat.reduceAdd,Nat.reduceLT]) (by omega) (by rw[hs];omega)).eq ?_)|(refine (anumberS (secAt D.now i) 8 4 (by simp only[wH,wHe,Nat.reduceAdd,Nat.reduceLT]) (by omega) (by rw[hs];omega)).eq ?_))|(with_reducible first|refine dQ pl34_12Wo 7 (some 37) ?_|refine dQ pl34_13Wo 8 (some 42) ?_|refine dQ pl34_16Wo 9 (some 55) ?_|refine dQ pl34_19Wo 12 (some 64) ?_|refine dQ pl34_24Wo 10 (some 87) ?_|refine dQ pl34_25Wo 14 (some 96) ?_)|with_reducible refine And.intro ?_ ?_
    all_goals exact⟨⟨i+1,by omega⟩,by show 2 - (i+1)<2 - i;omega,⟨((ha2.set (Nat.le_refl _) _).more _).more _,by simp only[hdN_succ D.now i hlt,if_pos hgt]⟩,rfl⟩
   ·have hd2:decide (((headB (secAt D.now i)).1:Int)>((hdN D.now i).1:Int))=false:=by simp;omega
    repeat' first|((with_reducible first|apply cs|apply ws|apply wd|apply wu)<;>intro h<;>try simp only[h])|simp only[↓wBA,tWo,convA,seval,pl34_12Wo,pl34_13Wo,pl34_16Wo,pl34_19Wo,pl34_24Wo,pl34_25Wo,wH,wHl,hl1,l1,q64,zB_64,boundA,n0,n1,q1,q2,hd2,hw1,pageA,e64]|((with_reducible show ACalls _ _ _ _ _);first|(refine (anumberS (secAt D.now i) 0 8 (by simp only[wH,wHe,Nat.reduceAdd,Nat.reduceLT]) (by omega) (by rw[hs];omega)).eq ?_)|(refine (anumberS (secAt D.now i) 8 4 (by simp only[wH,wHe,Nat.reduceAdd,Nat.reduceLT]) (by omega) (by rw[hs];omega)).eq ?_))|(with_reducible first|refine dQ pl34_12Wo 7 (some 37) ?_|refine dQ pl34_13Wo 8 (some 42) ?_|refine dQ pl34_16Wo 9 (some 55) ?_|refine dQ pl34_19Wo 12 (some 64) ?_|refine dQ pl34_24Wo 10 (some 87) ?_|refine dQ pl34_25Wo 14 (some 96) ?_)|with_reducible refine And.intro ?_ ?_
    all_goals exact⟨⟨i+1,by omega⟩,by show 2 - (i+1)<2 - i;omega,⟨(ha2.more _).more _,by simp only[hdN_succ D.now i hlt,if_neg hgt]⟩,rfl⟩
  ·have he:i=2:=by omega
   subst he
   have hL:LogAt s σ.length (fun t=>t=σ.length∨F t) { d:=d,disk:=D,ctr:=c,len:=0,str:=[],wait:=0 }:=by
    have e1:hdN D.now 2=(c,0):=hh.says
    rw[e1]at hl
    exact⟨d,F,none,_,⟨hl,h.ap ha,.inl ⟨rfl,rfl,rfl⟩,fun hF=>Nat.lt_irrefl _ (h.lt _ hF),fun t ht=>(by cases ht),hz,by simp,Nat.le_refl _,hh,hs,hw,rfl,fun k hk=>absurd hk (Nat.not_lt_zero _),fun _=>rfl⟩,fun t=>by simp⟩
   have hr:=awroom hL
   have e1:hdN D.now 2=(c,0):=hh.says
   rw[e1]at hl
   have u1:IntKind.u64.wrap (((D.size - 2)*64:Nat):Int)=(((D.size - 2)*64:Nat):Int):=IntKind.wrap_u64 _▸(by omega)
   have u2:decide ((0:Int)>(((D.size - 2)*64:Nat):Int))=false:=by simp only[decide_eq_false_iff_not];omega
   repeat' first|((with_reducible first|apply cs|apply ws|apply wd|apply wu)<;>intro h<;>try simp only[h])|simp only[↓wBA,tWo,convA,seval,pl34_12Wo,pl34_13Wo,pl34_16Wo,pl34_19Wo,pl34_24Wo,pl34_25Wo,wH,wHl,hl,l0,cz,u1,u2]|((with_reducible show ACalls _ _ _ _ _);refine hr.eq ?_)|(with_reducible first|refine dQ pl34_12Wo 7 (some 37) ?_|refine dQ pl34_13Wo 8 (some 42) ?_|refine dQ pl34_16Wo 9 (some 55) ?_|refine dQ pl34_19Wo 12 (some 64) ?_|refine dQ pl34_24Wo 10 (some 87) ?_|refine dQ pl34_25Wo 14 (some 96) ?_)|with_reducible refine And.intro ?_ ?_
   all_goals
    refine awp_loopS (X:=Nat) (fun i=>0) (fun i=>[(10,intV .i64 2)]) [2,3,4,11,12,64,65,66,67,68,69,70,71,72,73,74,75,76,77,78,79,80,81,82,83,84,85,86,87,88,89,90,91,92,93,94,95] (fun i q=>q=s) (0) ?_ ?_ ?_ ?_
    ·simp only[wHl,wHf]
    ·rfl
    ·rintro _ _ rfl;exact Nat.le_refl _
    ·intro x J' q hI
     simp only[wHl]
     subst hI
     have u3:IntKind.i64.wrap 0=0:=wz0
     repeat' first|((with_reducible first|apply cs|apply ws|apply wd|apply wu)<;>intro h<;>try simp only[h])|simp only[↓wBA,tWo,convA,seval,pl34_12Wo,pl34_13Wo,pl34_16Wo,pl34_19Wo,pl34_24Wo,pl34_25Wo,wH,wHl,hl,l0,cz,u3,boundA,sliceA,elemsA]|((with_reducible show ACalls _ _ _ _ _);refine (arecs0 _).eq ?_)|(with_reducible first|refine dQ pl34_12Wo 7 (some 37) ?_|refine dQ pl34_13Wo 8 (some 42) ?_|refine dQ pl34_16Wo 9 (some 55) ?_|refine dQ pl34_19Wo 12 (some 64) ?_|refine dQ pl34_24Wo 10 (some 87) ?_|refine dQ pl34_25Wo 14 (some 96) ?_)|with_reducible refine And.intro ?_ ?_
     all_goals refine ret_st ?_ (by first|exact Nat.le_refl _|(simp only[length_set,List.length_append];omega)|omega)
     all_goals simp only[resA.eq_1,resL.eq_1,resL.eq_2,resV.eq_1,resV.eq_2,↓wBA,tWo,convA,seval,wH]
     all_goals exact⟨ha,hL⟩
theorem c20:((2+0:Nat):Int)=2:=rfl
end Go.Proofs.YthhbnenaihkggaaGreat
