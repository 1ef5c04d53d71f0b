/- Disks: walks, more. Disks: made, brought up. -/
import Derived.Test.YthhbnenaihkggaaGreatM20
set_option linter.unusedSimpArgs false
set_option linter.unusedVariables false
set_option linter.defProp false
set_option maxRecDepth 100000
set_option maxHeartbeats 32000000
namespace Go.Proofs.YthhbnenaihkggaaGreat
open Go.RowKit
open List (length_set)
def pl72_7Ds:Plan:=(.det 0 (.det 1 (.det 2 (.det 3 (.det 4 (.det 5 (.det 6 (.det 7 (.fin 8 .done)))))))))
def tDs:=aa wX <| aa wbu <| aa T3 <| aa T29 <| aa T39 <| aa T91 <| aa T92 <| aa T94 <| aa T131 T183
theorem adsync {σ:St}{d:Nat}{F:Nat→Prop}{D:DiskV}(h:DiskAt σ d F D)(hw:D.wait.length≤1000000000000):
 ACalls Tryz.prog 72 [.mp d 6 0 0] σ fun r σ'=>r=intV .i64 0∧∃ F',Fr σ σ' F F'∧DiskAt σ' d F' { D with wait:=[],kept:=secAt D.now }:=by
 have hm:=admay h 0 (.inr rfl)
 obtain⟨kn,kk,w,a,es,hd,hF⟩:=h
 have h0:=hd.d
 have h1:=hd.now
 have h3:=hd.kept
 have l0:=at_lt h0
 have l1:=at_lt h1
 have l3:=at_lt h3
 have n0:(d=kn)=False:=nf (ne_of_ob h0 h1 (by simp))
 have n1:(kn=d)=False:=nf (ne_of_ob h1 h0 (by simp))
 have n2:(d=kk)=False:=nf (ne_of_ob h0 h3 (by simp))
 have n3:(kn=kk)=False:=nf hd.ne
 have n4:(kk=d)=False:=nf (ne_of_ob h3 h0 (by simp))
 have n5:(kk=kn)=False:=nf hd.ne.symm
 have hnl:∀ k,(secAt D.now k).length=64:=fun k=>by rw[hd.ov];exact ovr_len _ hd.kl hd.len k
 have hm:ACalls Tryz.prog 100 [.mp d 6 0 0,.p (.v (.int .i64 0))] σ fun r σ'=>σ'=σ∧r=intV .i64 0:=hm
 refine acalls_of cx_ok dr_ok Tryz.func72 (by kernel_rfl) rfl (nt:=33) (rs:=[.tmp 2]) rfl rfl ?_
 rcases hd.wt with⟨rfl,rfl,hW⟩|⟨t,rfl,rfl,hW,h2⟩
 ·skip
  repeat' first|((with_reducible first|apply cs|apply ws|apply wd|apply wu)<;>intro h<;>try simp only[h])|simp only[↓wBA,tDs,convA,seval,pl72_7Ds,wH,h0,h1,l0,l1,n0,n1]|((with_reducible show ACalls _ _ _ _ _);refine hm.eq ?_)|(with_reducible refine dQ pl72_7Ds 9 (some 20) ?_)
  refine awp_loopS (X:=Nat) (fun i=>0) (fun i=>[(16,intV .i64 0)]) [5,17,18,19,20,21,22,23,24,25,26,27,28] (fun i s=>s=σ) (0) ?_ ?_ ?_ ?_
  ·simp only[wHl,wHf]
  ·rfl
  ·rintro _ _ rfl;exact Nat.le_refl _
  ·rintro i J s rfl
   simp only[wHl]
   repeat' first|((with_reducible first|apply cs|apply ws|apply wd|apply wu)<;>intro h<;>try simp only[h])|simp only[↓wBA,tDs,convA,seval,pl72_7Ds,wH,wHl,h0,h1,l0,l1,n0,n1]|((with_reducible show ACalls _ _ _ _ _);refine (adchange (by simp only[wH,h0,h1,l0,l1,n0,n1,Nat.zero_add,Nat.reduceAdd];rfl)).eq ?_)|(with_reducible refine dQ pl72_7Ds 9 (some 20) ?_)
   all_goals refine ret_st ?_ (by first|exact Nat.le_refl _|(simp only[length_set,List.length_append];omega)|omega)
   all_goals simp only[resA.eq_1,resL.eq_1,resL.eq_2,resV.eq_1,resV.eq_2,↓wBA,tDs,convA,seval,wH,h0,h1,l0,l1]
   exact⟨_,Fr.refl _ _,kn,kk,none,_,es,⟨h0,h1,h3,hd.keys.congr fun k=>by have:=hd.ov k;rw[hW]at this;exact this.symm,hd.ne,.inl ⟨rfl,rfl,rfl⟩,by simp,hd.big,fun k=>rfl,hnl⟩,hF⟩
 ·have l2:=at_lt h2
  repeat' first|((with_reducible first|apply cs|apply ws|apply wd|apply wu)<;>intro h<;>try simp only[h])|simp only[↓wBA,tDs,convA,seval,pl72_7Ds,wH,h0,h1,l0,l1,n0,n1,wRows_len]|((with_reducible show ACalls _ _ _ _ _);refine hm.eq ?_)|(with_reducible refine dQ pl72_7Ds 9 (some 20) ?_)
  refine awp_loopS (X:={ i:Nat // i≤D.wait.length }) (fun i=>D.wait.length - i.1) (fun i=>[(16,intV .i64 (i.1:Nat))]) [5,17,18,19,20,21,22,23,24,25,26,27,28] (fun i s=>Fr σ s F F∧s[d]? =σ[d]? ∧s[kn]? =σ[kn]? ∧∃ es',s[kk]? =some (some (.map es'))∧KeptI es' (ovr D.kept (D.wait.take i.1))) (⟨0,by omega⟩) ?_ ?_ ?_ ?_
  ·simp only[wHl,wHf]
  ·exact⟨Fr.refl _ _,rfl,rfl,es,h3,hd.keys⟩
  ·rintro _ _ ⟨h,_⟩;exact h.len
  ·intro x J s hI
   simp only[wHl]
   obtain⟨i,hi⟩:=x
   obtain⟨hf,g0,g1,es',g3,hk⟩:=hI
   dsimp only
   rw[h0]at g0;rw[h1]at g1
   have hfl:=hf.len
   have k0:=at_lt g0
   have k1:=at_lt g1
   have k3:=at_lt g3
   by_cases hlt:i<D.wait.length
   ·have hdec:=dT (i:=i) (n:=D.wait.length) (by omega)
    have hi0:=nnI i
    have hg:(wRows D.wait)[i]? =some (.v (.int .i64 ((D.wait[i]).1:Nat))::(D.wait[i]).2.map byteP):=by simp[wRows,hlt]
    have hq:=hd.len _ (List.getElem_mem hlt)
    have e1:=pageC_64 hq
    have hw1:=wI i (by omega)
    obtain⟨es2,u1,u2⟩:=hk.upd (D.wait[i]).1 (D.wait[i]).2
    simp only[pageA]at u1
    have u3:KeptI es2 (ovr D.kept (D.wait.take (i+1))):=u2.congr fun k=>by
     rw[List.take_add_one,List.getElem?_eq_getElem hlt]
     exact (ovr_app _ _ _ _).symm
    repeat' first|((with_reducible first|apply cs|apply ws|apply wd|apply wu)<;>intro h<;>try simp only[h])|simp only[↓wBA,tDs,convA,seval,pl72_7Ds,wH,wHl,g0,g1,g3,k0,k1,k3,hdec,hi0,hg,n0,n1,n2,n3,n4,n5,e1,hq,u1,u2,hw1,wZt]|(with_reducible refine dQ pl72_7Ds 9 (some 20) ?_)
    refine⟨⟨i+1,by omega⟩,by show D.wait.length - (i+1)<D.wait.length - i;omega,⟨(hf.set _ ((hF _).2 (by simp))).app _,h0.symm,h1.symm,es2,rfl,u3⟩,rfl⟩
   ·have hdec:=dF (i:=i) (n:=D.wait.length) (by omega)
    repeat' first|((with_reducible first|apply cs|apply ws|apply wd|apply wu)<;>intro h<;>try simp only[h])|simp only[↓wBA,tDs,convA,seval,pl72_7Ds,wH,wHl,g0,g1,g3,k0,k1,k3,hdec,n0,n1,n2,n3,n4,n5]|((with_reducible show ACalls _ _ _ _ _);refine (adchange (by simp only[wH,g0,k0];rfl)).eq ?_)|(with_reducible refine dQ pl72_7Ds 9 (some 20) ?_)
    all_goals refine ret_st ?_ (by first|exact Nat.le_refl _|(simp only[length_set,List.length_append];omega)|omega)
    all_goals simp only[resA.eq_1,resL.eq_1,resL.eq_2,resV.eq_1,resV.eq_2,↓wBA,tDs,convA,seval,wH,g0,k0]
    refine⟨_,(hf.set _ ((hF _).2 (by simp))).to fun t ht=>.inl ((hF t).2 ?_),DiskAt.mk' (kn:=kn) (kk:=kk) (w:=none) (es:=es') ?_ ?_ ?_ (hk.congr fun k=>by rw[List.take_of_length_le (show D.wait.length≤i by omega)];exact (hd.ov k).symm) hd.ne (.inl ⟨rfl,rfl,rfl⟩) (by simp) hd.big (fun k=>rfl) hnl⟩
    ·rcases ht with h|h|h|h
     ·exact .inl h
     ·exact .inr (.inl h)
     ·exact .inr (.inr (.inl h))
     ·cases h
    ·simp only[wH,k0,intV,boolV]
    ·simp only[wH,k0,n0,n1,g1]
    ·simp only[wH,k0,n2,n4,g3]
def tDn:=aa wX <| aa wbu <| aa T3 <| aa T91 T94
theorem adnew (n:Nat)(hn:n≤65536)(σ:St):ACalls Tryz.prog 13 [intV .i64 (n:Nat)] σ fun r σ'=>∃ d F,r= .mp d 6 0 0∧Ap σ σ'∧DiskAt σ' d F ⟨n,[],[],fun _=>zero64⟩∧∀ t,F t→σ.length≤t:=by
 have e1:(if (0:Int)>(n:Int)then 0 else (n:Int))=n:=by split<;>omega
 have e2:(if (65536:Int)<(n:Int)then 65536 else (n:Int))=n:=by split<;>omega
 refine acalls_of cx_ok dr_ok Tryz.func13 (by kernel_rfl) rfl (nt:=11) (rs:=[.tmp 2]) rfl rfl ?_
 repeat' first|((with_reducible first|apply cs|apply ws)<;>intro h<;>try simp only[h])|simp only[↓wBA,tDn,convA,seval,wH,e1,e2]
 all_goals refine ret_st ?_ (by first|exact Nat.le_refl _|(simp only[length_set,List.length_append];omega)|omega)
 all_goals simp only[resA.eq_1,resL.eq_1,resL.eq_2,resV.eq_1,resV.eq_2,↓wBA,tDn,convA,seval,wH]
 refine⟨_,_,rfl,?_,DiskAt.mk' (kn:=σ.length) (kk:=σ.length+1) (w:=none) (a:=.p (.v (.slice none 0 0))) (es:=[]) ?_ ?_ ?_ ⟨[],rfl,fun _=>rfl⟩ (by omega) (.inl ⟨rfl,rfl,rfl⟩) (by simp) hn (fun _=>rfl) (fun _=>rfl),fun t ht=> ?_⟩
 ·exact ((Ap.app _ _).trans (Ap.app _ _)).trans (Ap.app _ _)
 ·skip
  simp only[wH,wHe,Nat.reduceAdd,Nat.reduceLT,Nat.reduceEqDiff,Nat.reduceMul,reduceCtorEq,Nat.lt_irrefl]
 ·skip
  simp only[wH,wHe,Nat.reduceAdd,Nat.reduceLT,Nat.reduceEqDiff,Nat.reduceMul,reduceCtorEq,Nat.lt_irrefl,encM,List.map_nil]
 ·skip
  simp only[wH,wHe,Nat.reduceAdd,Nat.reduceLT,Nat.reduceEqDiff,Nat.reduceMul,reduceCtorEq,Nat.lt_irrefl]
 ·rcases ht with rfl|rfl|rfl|h
  ·omega
  ·exact Nat.le_refl _
  ·omega
  ·cases h
end Go.Proofs.YthhbnenaihkggaaGreat
