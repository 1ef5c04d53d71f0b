/- Trees: entries from a key on, inner pages; Range and All. Trees: Range, All, Make; what is refused. Trees, plain: what is told of a range. Trees: the laws' awake and tree. -/
import Derived.Test.YtockimhceppkbaaGreatM36
set_option linter.unusedSimpArgs false
set_option linter.unusedVariables false
set_option linter.defProp false
set_option maxRecDepth 100000
set_option maxHeartbeats 32000000
namespace Go.Proofs.YtockimhceppkbaaGreat
open Go.RowKit
open List (append_nil getElem?_append_left length_append length_cons length_map length_nil length_set map_append map_eq_nil_iff)
def pl43_10Ym:Plan:=(.det 0 (.det 1 (.det 2 (.det 3 (.det 5 (.det 6 (.det 7 (.act 4 (.det 8 (.fin 9 (.fin 10 (.det 11 .done))))))))))))
def tYm:=aa wX <| aa wbu <| aa T3 <| aa T4 <| aa T25 <| aa T35 <| aa T37 <| aa T40 <| aa T48 <| aa T86 <| aa T90 <| aa T92 <| aa T97 T109
section
variable {σ:St} {b p dd l kh n h:Nat} {U:Nat→Prop} {P:PoolV} {v:Nat→List UInt8} {T:Nat→Bool}
theorem atFromNode {lo:List UInt8}{lox:PV}{my:List UInt8→Bool}{g:FuncId}{caps:List AV}{kl:List (Nat×Ob)}{t:NL h}(hB:Bt σ b p dd l kh U P v)(hb:Bud P 1)(hTr:TrAt v (h+1) n t)(hnd:(pgT (h+1) n t).Nodup)(htk:∀ q∈pgT (h+1) n t,q<P.pages)(hlo:BX lox lo)(hkl:Kept kl σ)(hklU:∀ q∈kl,¬ U q.1)
 (hmy:∀ (s:St) (k:List UInt8),Kept kl s→ACalls Tryz.prog g (.p (.sl 1 (encB k))::caps) s fun r s'=>s'=s∧r=boolV (my k))
 (ih:∀ {σ:St} {U:Nat→Prop} {P:PoolV} {n:Nat} {t:BTr h},Bt σ b p dd l kh U P v→Bud P 1→TrAt v h n t→(pgT h n t).Nodup→(∀ q∈pgT h n t,q<P.pages)→Kept kl σ→(∀ q∈kl,¬ U q.1)→
  ACalls Tryz.prog 43 [.agg [.mp b 2 0 0],intV .i64 (n:Nat),.p lox,.fn g [] caps] σ fun r σ'=>FromPost h t lo my σ b p dd l kh U P v r σ'):
 ACalls Tryz.prog 43 [.agg [.mp b 2 0 0],intV .i64 (n:Nat),.p lox,.fn g [] caps] σ fun r σ'=>FromPost (h+1) t lo my σ b p dd l kh U P v r σ':=by
 refine from_conv ?_
 have hlt:=hB.lt
 have hbig:=hB.big
 have hN:NodeP (v n) 3 (its1 t):=hTr.1
 have hl49:=hN.n
 have hil:=its1_len t
 have hpl:=len_le_of_lt P.pages _ hnd htk
 have hel:(t.flatMap fun x=>entsT h x.2.2).length≤49*3840:=by
  have h1:(entsT (h+1) t).length≤49*(pgT (h+1) n t).length:=ents_le hTr
  have h2:(entsT (h+1) t).length=(t.flatMap fun x=>entsT h x.2.2).length:=rfl
  omega
 have hacc:∀ i,i≤t.length→((List.range i).flatMap (stepC lo my (fromF lo my h) t)).length≤49*3840:=fun i hi=>Nat.le_trans (stepC_le lo my (fromF lo my h) (entsT h) (fromF_len lo my h) t i hi) hel
 refine acalls_of cx_ok dr_ok Tryz.func43 (by kernel_rfl) rfl (nt:=108) (rs:=[.tmp 8,.tmp 9]) rfl rfl ?_
 repeat' first|((with_reducible first|apply cs|apply ws|apply wd|apply wu)<;>intro h<;>try simp only[h])|simp only[↓wBA,tYm,convA,seval,pl43_10Ym,wH]|(with_reducible refine dQ pl43_10Ym 12 (some 51) ?_)
 have a1:=Ap.app σ [some (Ob.row 1 [[AV.mp b 2 0 0]])]
 refine (atRead (hB.ap a1) (htk n (pgT_root _ _ _)) hN hb).mono ?_
 rintro _ s1 ⟨U1,P1,a,rfl,f1,hB1,k1,ha,hta⟩
 have q1:=f1.len
 simp only[length_append,length_cons,length_nil]at q1
 have hlt1:=hB1.lt
 have b0':s1[σ.length]? =some (some (Ob.row 1 [[AV.mp b 2 0 0]])):=by
  rw[f1.keep _ (by simp) fun e=>by have:=hlt _ e;omega];simp
 have n0:¬ U1 σ.length:=fun e=>(f1.own _ e).elim (fun e=>by have:=hlt _ e;omega) fun e=>by simp at e;omega
 have hlf:=ha.x.leaf
 have hcc:=ha.x.cells
 obtain⟨S1,hS1⟩:∃ S1,S1=s1++[some (Ob.row 2 [[AV.p (.v (.int .i64 3)),a]])]:=⟨_,rfl⟩
 have aS:Ap s1 S1:=⟨_,hS1⟩
 have hS1l:S1.length=s1.length+1:=by rw[hS1];simp
 have bN:S1[s1.length]? =some (some (Ob.row 2 [[AV.p (.v (.int .i64 3)),a]])):=by rw[hS1];simp
 have yN:=at_lt bN
 have b0:=aS.get b0'
 have haS:NdA S1 a (its1 t):=ha.same fun j hj=>by rw[hS1,getElem?_append_left (ha.lt hj)]
 have hla:lenA cx 90 a=some t.length:=by
  rcases ha with⟨h0,rfl⟩|⟨_,tn,rfl,_⟩
  ·rw[← hil,h0];rfl
  ·rw[hil];exact km_90
 have fS:Fr σ S1 U U1:=(a1.fr.trans f1).trans aS.fr
 have hBS:=hB1.ap aS
 have hkS:Kept kl S1:=hkl.fr fS hklU
 have hkU1:∀ q∈kl,¬ U1 q.1:=fun q hq e=>(fS.own q.1 e).elim (hklU q hq) fun e=>by have:=at_lt (hkl q hq);omega
 repeat' first|((with_reducible first|apply cs|apply ws|apply wd|apply wu)<;>intro h<;>try simp only[h])|simp only[↓wBA,tYm,convA,seval,pl43_10Ym,wH,c3y,hlf,hcc,hS1.symm,bN,yN,hla]|(with_reducible refine dQ pl43_10Ym 12 (some 51) ?_)
 refine awp_loopS (X:={ q:Nat×AV // q.1≤t.length }) (fun q=>t.length - q.1.1) (fun q=>[(12,q.1.2),(30,intV .i64 (q.1.1:Nat))]) [8,9,13,14,15,16,17,31,32,33,34,35,36,37,38,39,40,41,42,43,44,45,46,47,48,49,50,51,52,53,54,55,56,57,58,59,60,61,62,63,64,65,66,67,68,69,70,71,72,73,74,75,76,77,78,79,80,81,82,83,84,85,86,87,88,89,90,91,92,93,94,95,96,97,98,99,100,101,102,103,104,105,106,107,108,109,110] (fun q s=>∃ U' P',Fr S1 s U1 U'∧Bt s b p dd l kh U' P' v∧Kp P P' 0∧OwnR s q.1.2 48 3 (((List.range q.1.1).flatMap (stepC lo my (fromF lo my h) t)).map entP)∧(∀ j,ownOf q.1.2=some j→S1.length≤j∧¬ U' j)) (⟨(0,.p (.v (.slice none 0 0))),by omega⟩) ?_ ?_ ?_ ?_
 ·simp only[wHl,wHf]
 ·exact⟨U1,P1,Fr.refl _ _,hBS,k1,.inl ⟨rfl,by simp⟩,fun j hj=>by cases hj⟩
 ·rintro _ _ ⟨_,_,h,_⟩;exact h.len
 ·intro y J s hI
  simp only[wHl]
  obtain⟨⟨i,av⟩,hi⟩:=y
  obtain⟨U2,P2,fs,hB2,k2,how,hown⟩:=hI
  dsimp only at*
  have ls:=fs.len
  have hlt2:=hB2.lt
  have nN1:¬ U1 s1.length:=fun e=>by have:=hlt1 _ e;omega
  have cN:=fs.get bN nN1
  have zN:=at_lt cN
  have c0:=fs.get b0 n0
  have z0:=at_lt c0
  have hi0:=nnI i
  have hkk:=hkS.fr fs hkU1
  have hkU2:∀ q∈kl,¬ U2 q.1:=fun q hq e=>(fs.own q.1 e).elim (hkU1 q hq) fun e=>by have:=at_lt (hkS q hq);omega
  by_cases hlt3:i<t.length
  ·have hdec:=dT (i:=i) (n:=t.length) hlt3
   have hw:=wI i (by omega)
   obtain⟨x,hx⟩:∃ x,t[i]? =some x:=⟨t[i],by simp⟩
   have hxm:=List.mem_of_getElem? hx
   have hgx:(its1 t)[i]? =some ⟨x.1,x.2.1⟩:=by simp[its1,hx]
   have hgc:((its1 t).map itC)[i]? =some (itC ⟨x.1,x.2.1⟩):=by simp[hgx]
   rcases haS with⟨h0,_⟩|⟨_,tn,rfl,htn⟩
   ·rw[h0]at hgx;simp at hgx
   have ctn:=fs.get htn (hta tn rfl).2
   have ztn:=at_lt ctn
   have hif:((i:Int)<((its1 t).length:Int))=True:=eq_true (by omega)
   obtain⟨S2,hS2⟩:∃ S2,S2=s++[some (Ob.row 4 [itC ⟨x.1,x.2.1⟩])]:=⟨_,rfl⟩
   have aS2:Ap s S2:=⟨_,hS2⟩
   have hS2l:S2.length=s.length+1:=by rw[hS2];simp
   have hkx:Kept kl S2:=fun q hq=>aS2.get (hkk q hq)
   have hmx:=hmy _ x.1.k hkx
   have hxn:∀ q,q∈pgT h x.2.1 x.2.2→q∈pgT (h+1) n t:=fun q hq=>by
    rw[pgT_node];exact List.mem_cons_of_mem _ (List.mem_flatMap.2 ⟨x,hxm,hq⟩)
   have hxs:(pgT h x.2.1 x.2.2).Nodup:=by
    rw[pgT_node]at hnd
    obtain⟨u1,u2,hu⟩:=List.append_of_mem hxm
    rw[hu,flP_app,flP_cons]at hnd
    exact (List.nodup_append.1 (List.nodup_append.1 (List.nodup_cons.1 hnd).2).2.1).1
   have hacc1:(List.range (i+1)).flatMap (stepC lo my (fromF lo my h) t)=(List.range i).flatMap (stepC lo my (fromF lo my h) t)++(if skipC lo my t i x.1 then []else fromF lo my h x.2.2):=by
    rw[List.range_succ,List.flatMap_append]
    simp only[List.flatMap_cons,List.flatMap_nil,append_nil]
    congr 1
    unfold stepC;rw[hx]
   have hai:=hacc i (by omega)
   have hai1:=hacc (i+1) (by omega)
   have hih:=ih (hB2.ap aS2) (hb.kp k2 (by omega)) (hTr.2 x hxm) hxs (fun q hq=>by rw[k2.pages];exact htk q (hxn q hq)) hkx hkU2
   have d0:=aS2.get c0
   have dN:=aS2.get cN
   have dtn:=aS2.get ctn
   have dx:S2[s.length]? =some (some (Ob.row 4 [itC ⟨x.1,x.2.1⟩])):=by rw[hS2];simp
   have w0:=at_lt d0
   have wN:=at_lt dN
   have wtn:=at_lt dtn
   have wx:=at_lt dx
   have hS2':s++[some (Ob.row 4 [[AV.p (PV.sl 1 (encB x.1.k)),AV.p (PV.v (Value.int IntKind.i64 (x.1.p:Nat))),AV.p (PV.v (Value.int IntKind.i64 (x.1.s:Nat))),AV.p (PV.v (Value.int IntKind.i64 (x.2.1:Nat)))]])]=S2:=hS2.symm
   have hbi:∃ bi,decide ((i:Int)>0)=bi∧decide (0<i)=bi:=⟨decide (0<i),by simp,rfl⟩
   obtain⟨bi,hbi1,hbi2⟩:=hbi
   have hbi3:decide ((0:Int)<(i:Int))=bi:=by rw[← hbi2];simp
   cases bi with
   |false=>
    by_cases hl2:i+1<t.length
    ·obtain⟨y,hy⟩:∃ y,t[i+1]? =some y:=⟨t[i+1],by simp⟩
     have hgy:((its1 t).map itC)[i+1]? =some (itC ⟨y.1,y.2.1⟩):=by simp[its1,hy]
     have hgd:((its1 t).map itC)[i+1]? =some (itC ⟨y.1,y.2.1⟩):=hgy
     have hif2:(((i+1:Nat):Int)<((its1 t).length:Int))=True:=eq_true (by omega)
     have hlb:(((i+1:Nat):Int)==(t.length:Int))=false:=by simp;omega
     have hlb2:decide (((i+1:Nat):Int)=(t.length:Int))=false:=by simp;omega
     have hw1:=wI (i+1) (by omega)
     have hbc:=fun s=>abcmp (x:=.sl 1 (encB y.1.k)) (.inl rfl) hlo s
     by_cases hc:Lib.compareBytes y.1.k lo<0
     ·have hd:decide (Lib.compareBytes y.1.k lo<0)=true:=by simpa using hc
      have hd':(Lib.compareBytes y.1.k lo<0)=True:=eq_true hc
      have HSK:skipC lo my t i x.1=true:=by unfold skipC;rw[hy];simp[hc]
      repeat' first|((with_reducible first|apply cs|apply ws|apply wd|apply wu)<;>intro h<;>try simp only[h])|simp only[↓wBA,tYm,convA,seval,pl43_10Ym,wH,wHl,hdec,hi0,hif,hif2,hlb,hlb2,hgd,hw,hw1,cN,zN,ctn,ztn,hgc,itC,hS2',d0,dN,dtn,dx,w0,wN,wtn,wx,hbi1,hbi3,c3y,hla,hd,hd',c2y]|((with_reducible show ACalls _ _ _ _ _);refine (hbc _).eq ?_)|(with_reducible refine dQ pl43_10Ym 12 (some 51) ?_)
      rw[if_pos HSK,append_nil]at hacc1
      refine⟨⟨(i+1,av),by omega⟩,by show t.length - (i+1)<t.length - i;omega,⟨U2,P2,fs.trans aS2.fr,hB2.ap aS2,k2,?_,hown⟩,by simp only[wHl,wHf]⟩
      dsimp only
      rw[hacc1]
      exact how.same fun j hj=>by rw[hS2,getElem?_append_left (how.lt hj)]
     ·have hd:decide (Lib.compareBytes y.1.k lo<0)=false:=by simpa using hc
      have hd':(Lib.compareBytes y.1.k lo<0)=False:=eq_false hc
      have HSK:¬ skipC lo my t i x.1=true:=by unfold skipC;rw[hy,hbi2];simp[hc]
      repeat' first|((with_reducible first|apply cs|apply ws|apply wd|apply wu)<;>intro h<;>try simp only[h])|simp only[↓wBA,tYm,convA,seval,pl43_10Ym,wH,wHl,hdec,hi0,hif,hif2,hlb,hlb2,hgd,hw,hw1,cN,zN,ctn,ztn,hgc,itC,hS2',d0,dN,dtn,dx,w0,wN,wtn,wx,hbi1,hbi3,c3y,hla,hd,hd',c2y]|((with_reducible show ACalls _ _ _ _ _);refine (hbc _).eq ?_)|(with_reducible refine dQ pl43_10Ym 12 (some 51) ?_)
      rw[if_neg HSK]at hacc1
      rw[hacc1,length_append]at hai1
      refine hih.mono ?_
      rintro _ s3 ⟨U3,P3,avl,rfl,f3,hB3,k3,hE⟩
      have l3:=f3.len
      have hlt3':=hB3.lt
      have how1:=how.same (q':=s3) fun j hj=>by
       rw[f3.keep j (by have:=how.lt hj;omega) (hown j hj).2,hS2,getElem?_append_left (how.lt hj)]
      rcases hE with⟨hE1,rfl⟩|⟨hE1,rfl⟩
      ·have e1:=app_nil (tk:=s3.length) ck_40 how1 (by simp only[length_map];omega) (by simp only[length_map];omega)
       rw[hE1,append_nil]at hacc1
       repeat' first|((with_reducible first|apply cs|apply ws|apply wd|apply wu)<;>intro h<;>try simp only[h])|simp only[↓wBA,tYm,convA,seval,pl43_10Ym,wH,wHl,e1,hw]|(with_reducible refine dQ pl43_10Ym 12 (some 51) ?_)
       refine⟨⟨(i+1,av),by omega⟩,by show t.length - (i+1)<t.length - i;omega,⟨U3,P3,(fs.trans aS2.fr).trans f3,hB3,k2.trans k3,?_,fun j hj=>⟨(hown j hj).1,fun e=>(f3.own j e).elim (hown j hj).2 fun e=>by have:=how.lt hj;omega⟩⟩,by simp only[wHl,wHf]⟩
       dsimp only
       rw[hacc1]
       exact how1
      ·have hmne:(fromF lo my h x.2.2).map entP≠[]:=fun e=>hE1 (map_eq_nil_iff.1 e)
       obtain⟨av2,s4,e1,e2,e3,e4,e5⟩:=app_own (y:=.p (.sl 3 ((fromF lo my h x.2.2).map entP))) (m:=(fromF lo my h x.2.2).map entP) ck_40 how1 (by simp[srcD,srcA]) hmne (by simp only[length_map];omega) (by simp only[length_map];omega)
       repeat' first|((with_reducible first|apply cs|apply ws|apply wd|apply wu)<;>intro h<;>try simp only[h])|simp only[↓wBA,tYm,convA,seval,pl43_10Ym,wH,wHl,e1,hw]|(with_reducible refine dQ pl43_10Ym 12 (some 51) ?_)
       have f4:Fr s3 s4 (fun j=>ownOf av=some j) (fun _=>False):=⟨e3,fun j hj hn=>e4 j hj hn,fun j h=>h.elim⟩
       have hnU:∀ j,ownOf av=some j→¬ U3 j:=fun j hj e=>(f3.own j e).elim (hown j hj).2 fun e=>by have:=how.lt hj;omega
       refine⟨⟨(i+1,av2),by omega⟩,by show t.length - (i+1)<t.length - i;omega,⟨U3,P3,?_,hB3.frame f4 fun j hj he=>hnU j he hj,k2.trans k3,?_,fun j hj=> ?_⟩,by simp only[wHl,wHf]⟩
       ·have f5:=(fs.trans aS2.fr).trans f3
        exact⟨by have:=f5.len;omega,fun j hj hn=>by rw[e4 j (by have:=f5.len;omega) fun e=>by have:=(hown j e).1;omega];exact f5.keep j hj hn,f5.own⟩
       ·dsimp only
        rw[hacc1,map_append];exact e2
       ·rcases e5 j hj with h|h
        ·exact⟨(hown j h).1,hnU j h⟩
        ·exact⟨by have:=fs.len;omega,fun e=>by have:=hlt3' _ e;omega⟩
    ·obtain hl3:i+1=t.length:=by omega
     have hy:t[i+1]? =none:=by simp;omega
     have hgd:True:=trivial
     have hif2:True:=trivial
     have hw1:True:=trivial
     have hd:True:=trivial
     have hd':True:=trivial
     have hlb:(((i+1:Nat):Int)==(t.length:Int))=true:=by simp;omega
     have hlb2:decide (((i+1:Nat):Int)=(t.length:Int))=true:=by simp;omega
     have HSK:¬ skipC lo my t i x.1=true:=by unfold skipC;rw[hy,hbi2];simp
     repeat' first|((with_reducible first|apply cs|apply ws|apply wd|apply wu)<;>intro h<;>try simp only[h])|simp only[↓wBA,tYm,convA,seval,pl43_10Ym,wH,wHl,hdec,hi0,hif,hif2,hlb,hlb2,hgd,hw,hw1,cN,zN,ctn,ztn,hgc,itC,hS2',d0,dN,dtn,dx,w0,wN,wtn,wx,hbi1,hbi3,c3y,hla,hd,hd',c2y]|(with_reducible refine dQ pl43_10Ym 12 (some 51) ?_)
     rw[if_neg HSK]at hacc1
     rw[hacc1,length_append]at hai1
     refine hih.mono ?_
     rintro _ s3 ⟨U3,P3,avl,rfl,f3,hB3,k3,hE⟩
     have l3:=f3.len
     have hlt3':=hB3.lt
     have how1:=how.same (q':=s3) fun j hj=>by
      rw[f3.keep j (by have:=how.lt hj;omega) (hown j hj).2,hS2,getElem?_append_left (how.lt hj)]
     rcases hE with⟨hE1,rfl⟩|⟨hE1,rfl⟩
     ·have e1:=app_nil (tk:=s3.length) ck_40 how1 (by simp only[length_map];omega) (by simp only[length_map];omega)
      rw[hE1,append_nil]at hacc1
      repeat' first|((with_reducible first|apply cs|apply ws|apply wd|apply wu)<;>intro h<;>try simp only[h])|simp only[↓wBA,tYm,convA,seval,pl43_10Ym,wH,wHl,e1,hw]|(with_reducible refine dQ pl43_10Ym 12 (some 51) ?_)
      refine⟨⟨(i+1,av),by omega⟩,by show t.length - (i+1)<t.length - i;omega,⟨U3,P3,(fs.trans aS2.fr).trans f3,hB3,k2.trans k3,?_,fun j hj=>⟨(hown j hj).1,fun e=>(f3.own j e).elim (hown j hj).2 fun e=>by have:=how.lt hj;omega⟩⟩,by simp only[wHl,wHf]⟩
      dsimp only
      rw[hacc1]
      exact how1
     ·have hmne:(fromF lo my h x.2.2).map entP≠[]:=fun e=>hE1 (map_eq_nil_iff.1 e)
      obtain⟨av2,s4,e1,e2,e3,e4,e5⟩:=app_own (y:=.p (.sl 3 ((fromF lo my h x.2.2).map entP))) (m:=(fromF lo my h x.2.2).map entP) ck_40 how1 (by simp[srcD,srcA]) hmne (by simp only[length_map];omega) (by simp only[length_map];omega)
      repeat' first|((with_reducible first|apply cs|apply ws|apply wd|apply wu)<;>intro h<;>try simp only[h])|simp only[↓wBA,tYm,convA,seval,pl43_10Ym,wH,wHl,e1,hw]|(with_reducible refine dQ pl43_10Ym 12 (some 51) ?_)
      have f4:Fr s3 s4 (fun j=>ownOf av=some j) (fun _=>False):=⟨e3,fun j hj hn=>e4 j hj hn,fun j h=>h.elim⟩
      have hnU:∀ j,ownOf av=some j→¬ U3 j:=fun j hj e=>(f3.own j e).elim (hown j hj).2 fun e=>by have:=how.lt hj;omega
      refine⟨⟨(i+1,av2),by omega⟩,by show t.length - (i+1)<t.length - i;omega,⟨U3,P3,?_,hB3.frame f4 fun j hj he=>hnU j he hj,k2.trans k3,?_,fun j hj=> ?_⟩,by simp only[wHl,wHf]⟩
      ·have f5:=(fs.trans aS2.fr).trans f3
       exact⟨by have:=f5.len;omega,fun j hj hn=>by rw[e4 j (by have:=f5.len;omega) fun e=>by have:=(hown j e).1;omega];exact f5.keep j hj hn,f5.own⟩
      ·dsimp only
       rw[hacc1,map_append];exact e2
      ·rcases e5 j hj with h|h
       ·exact⟨(hown j h).1,hnU j h⟩
       ·exact⟨by have:=fs.len;omega,fun e=>by have:=hlt3' _ e;omega⟩
   |true=>
    cases hm:my x.1.k with
    |true=>
     rw[hm]at hmx
     by_cases hl2:i+1<t.length
     ·obtain⟨y,hy⟩:∃ y,t[i+1]? =some y:=⟨t[i+1],by simp⟩
      have hgy:((its1 t).map itC)[i+1]? =some (itC ⟨y.1,y.2.1⟩):=by simp[its1,hy]
      have hgd:((its1 t).map itC)[i+1]? =some (itC ⟨y.1,y.2.1⟩):=hgy
      have hif2:(((i+1:Nat):Int)<((its1 t).length:Int))=True:=eq_true (by omega)
      have hlb:(((i+1:Nat):Int)==(t.length:Int))=false:=by simp;omega
      have hlb2:decide (((i+1:Nat):Int)=(t.length:Int))=false:=by simp;omega
      have hw1:=wI (i+1) (by omega)
      have hbc:=fun s=>abcmp (x:=.sl 1 (encB y.1.k)) (.inl rfl) hlo s
      by_cases hc:Lib.compareBytes y.1.k lo<0
      ·have hd:decide (Lib.compareBytes y.1.k lo<0)=true:=by simpa using hc
       have hd':(Lib.compareBytes y.1.k lo<0)=True:=eq_true hc
       have HSK:skipC lo my t i x.1=true:=by unfold skipC;rw[hy];simp[hc]
       repeat' first|((with_reducible first|apply cs|apply ws|apply wd|apply wu)<;>intro h<;>try simp only[h])|simp only[↓wBA,tYm,convA,seval,pl43_10Ym,wH,wHl,hdec,hi0,hif,hif2,hlb,hlb2,hgd,hw,hw1,cN,zN,ctn,ztn,hgc,itC,hS2',d0,dN,dtn,dx,w0,wN,wtn,wx,hbi1,hbi3,c3y,hla,hd,hd',c2y]|((with_reducible show ACalls _ _ _ _ _);first|refine hmx.eq ?_|refine (hbc _).eq ?_)|(with_reducible refine dQ pl43_10Ym 12 (some 51) ?_)
       rw[if_pos HSK,append_nil]at hacc1
       refine⟨⟨(i+1,av),by omega⟩,by show t.length - (i+1)<t.length - i;omega,⟨U2,P2,fs.trans aS2.fr,hB2.ap aS2,k2,?_,hown⟩,by simp only[wHl,wHf]⟩
       dsimp only
       rw[hacc1]
       exact how.same fun j hj=>by rw[hS2,getElem?_append_left (how.lt hj)]
      ·have hd:decide (Lib.compareBytes y.1.k lo<0)=false:=by simpa using hc
       have hd':(Lib.compareBytes y.1.k lo<0)=False:=eq_false hc
       have HSK:¬ skipC lo my t i x.1=true:=by unfold skipC;rw[hy,hbi2];simp[hc,hm]
       repeat' first|((with_reducible first|apply cs|apply ws|apply wd|apply wu)<;>intro h<;>try simp only[h])|simp only[↓wBA,tYm,convA,seval,pl43_10Ym,wH,wHl,hdec,hi0,hif,hif2,hlb,hlb2,hgd,hw,hw1,cN,zN,ctn,ztn,hgc,itC,hS2',d0,dN,dtn,dx,w0,wN,wtn,wx,hbi1,hbi3,c3y,hla,hd,hd',c2y]|((with_reducible show ACalls _ _ _ _ _);first|refine hmx.eq ?_|refine (hbc _).eq ?_)|(with_reducible refine dQ pl43_10Ym 12 (some 51) ?_)
       rw[if_neg HSK]at hacc1
       rw[hacc1,length_append]at hai1
       refine hih.mono ?_
       rintro _ s3 ⟨U3,P3,avl,rfl,f3,hB3,k3,hE⟩
       have l3:=f3.len
       have hlt3':=hB3.lt
       have how1:=how.same (q':=s3) fun j hj=>by
        rw[f3.keep j (by have:=how.lt hj;omega) (hown j hj).2,hS2,getElem?_append_left (how.lt hj)]
       rcases hE with⟨hE1,rfl⟩|⟨hE1,rfl⟩
       ·have e1:=app_nil (tk:=s3.length) ck_40 how1 (by simp only[length_map];omega) (by simp only[length_map];omega)
        rw[hE1,append_nil]at hacc1
        repeat' first|((with_reducible first|apply cs|apply ws|apply wd|apply wu)<;>intro h<;>try simp only[h])|simp only[↓wBA,tYm,convA,seval,pl43_10Ym,wH,wHl,e1,hw]|(with_reducible refine dQ pl43_10Ym 12 (some 51) ?_)
        refine⟨⟨(i+1,av),by omega⟩,by show t.length - (i+1)<t.length - i;omega,⟨U3,P3,(fs.trans aS2.fr).trans f3,hB3,k2.trans k3,?_,fun j hj=>⟨(hown j hj).1,fun e=>(f3.own j e).elim (hown j hj).2 fun e=>by have:=how.lt hj;omega⟩⟩,by simp only[wHl,wHf]⟩
        dsimp only
        rw[hacc1]
        exact how1
       ·have hmne:(fromF lo my h x.2.2).map entP≠[]:=fun e=>hE1 (map_eq_nil_iff.1 e)
        obtain⟨av2,s4,e1,e2,e3,e4,e5⟩:=app_own (y:=.p (.sl 3 ((fromF lo my h x.2.2).map entP))) (m:=(fromF lo my h x.2.2).map entP) ck_40 how1 (by simp[srcD,srcA]) hmne (by simp only[length_map];omega) (by simp only[length_map];omega)
        repeat' first|((with_reducible first|apply cs|apply ws|apply wd|apply wu)<;>intro h<;>try simp only[h])|simp only[↓wBA,tYm,convA,seval,pl43_10Ym,wH,wHl,e1,hw]|(with_reducible refine dQ pl43_10Ym 12 (some 51) ?_)
        have f4:Fr s3 s4 (fun j=>ownOf av=some j) (fun _=>False):=⟨e3,fun j hj hn=>e4 j hj hn,fun j h=>h.elim⟩
        have hnU:∀ j,ownOf av=some j→¬ U3 j:=fun j hj e=>(f3.own j e).elim (hown j hj).2 fun e=>by have:=how.lt hj;omega
        refine⟨⟨(i+1,av2),by omega⟩,by show t.length - (i+1)<t.length - i;omega,⟨U3,P3,?_,hB3.frame f4 fun j hj he=>hnU j he hj,k2.trans k3,?_,fun j hj=> ?_⟩,by simp only[wHl,wHf]⟩
        ·have f5:=(fs.trans aS2.fr).trans f3
         exact⟨by have:=f5.len;omega,fun j hj hn=>by rw[e4 j (by have:=f5.len;omega) fun e=>by have:=(hown j e).1;omega];exact f5.keep j hj hn,f5.own⟩
        ·dsimp only
         rw[hacc1,map_append];exact e2
        ·rcases e5 j hj with h|h
         ·exact⟨(hown j h).1,hnU j h⟩
         ·exact⟨by have:=fs.len;omega,fun e=>by have:=hlt3' _ e;omega⟩
     ·obtain hl3:i+1=t.length:=by omega
      have hy:t[i+1]? =none:=by simp;omega
      have hgd:True:=trivial
      have hif2:True:=trivial
      have hw1:True:=trivial
      have hd:True:=trivial
      have hd':True:=trivial
      have hlb:(((i+1:Nat):Int)==(t.length:Int))=true:=by simp;omega
      have hlb2:decide (((i+1:Nat):Int)=(t.length:Int))=true:=by simp;omega
      have HSK:¬ skipC lo my t i x.1=true:=by unfold skipC;rw[hy,hbi2];simp[hm]
      repeat' first|((with_reducible first|apply cs|apply ws|apply wd|apply wu)<;>intro h<;>try simp only[h])|simp only[↓wBA,tYm,convA,seval,pl43_10Ym,wH,wHl,hdec,hi0,hif,hif2,hlb,hlb2,hgd,hw,hw1,cN,zN,ctn,ztn,hgc,itC,hS2',d0,dN,dtn,dx,w0,wN,wtn,wx,hbi1,hbi3,c3y,hla,hd,hd',c2y]|((with_reducible show ACalls _ _ _ _ _);refine hmx.eq ?_)|(with_reducible refine dQ pl43_10Ym 12 (some 51) ?_)
      rw[if_neg HSK]at hacc1
      rw[hacc1,length_append]at hai1
      refine hih.mono ?_
      rintro _ s3 ⟨U3,P3,avl,rfl,f3,hB3,k3,hE⟩
      have l3:=f3.len
      have hlt3':=hB3.lt
      have how1:=how.same (q':=s3) fun j hj=>by
       rw[f3.keep j (by have:=how.lt hj;omega) (hown j hj).2,hS2,getElem?_append_left (how.lt hj)]
      rcases hE with⟨hE1,rfl⟩|⟨hE1,rfl⟩
      ·have e1:=app_nil (tk:=s3.length) ck_40 how1 (by simp only[length_map];omega) (by simp only[length_map];omega)
       rw[hE1,append_nil]at hacc1
       repeat' first|((with_reducible first|apply cs|apply ws|apply wd|apply wu)<;>intro h<;>try simp only[h])|simp only[↓wBA,tYm,convA,seval,pl43_10Ym,wH,wHl,e1,hw]|(with_reducible refine dQ pl43_10Ym 12 (some 51) ?_)
       refine⟨⟨(i+1,av),by omega⟩,by show t.length - (i+1)<t.length - i;omega,⟨U3,P3,(fs.trans aS2.fr).trans f3,hB3,k2.trans k3,?_,fun j hj=>⟨(hown j hj).1,fun e=>(f3.own j e).elim (hown j hj).2 fun e=>by have:=how.lt hj;omega⟩⟩,by simp only[wHl,wHf]⟩
       dsimp only
       rw[hacc1]
       exact how1
      ·have hmne:(fromF lo my h x.2.2).map entP≠[]:=fun e=>hE1 (map_eq_nil_iff.1 e)
       obtain⟨av2,s4,e1,e2,e3,e4,e5⟩:=app_own (y:=.p (.sl 3 ((fromF lo my h x.2.2).map entP))) (m:=(fromF lo my h x.2.2).map entP) ck_40 how1 (by simp[srcD,srcA]) hmne (by simp only[length_map];omega) (by simp only[length_map];omega)
       repeat' first|((with_reducible first|apply cs|apply ws|apply wd|apply wu)<;>intro h<;>try simp only[h])|simp only[↓wBA,tYm,convA,seval,pl43_10Ym,wH,wHl,e1,hw]|(with_reducible refine dQ pl43_10Ym 12 (some 51) ?_)
       have f4:Fr s3 s4 (fun j=>ownOf av=some j) (fun _=>False):=⟨e3,fun j hj hn=>e4 j hj hn,fun j h=>h.elim⟩
       have hnU:∀ j,ownOf av=some j→¬ U3 j:=fun j hj e=>(f3.own j e).elim (hown j hj).2 fun e=>by have:=how.lt hj;omega
       refine⟨⟨(i+1,av2),by omega⟩,by show t.length - (i+1)<t.length - i;omega,⟨U3,P3,?_,hB3.frame f4 fun j hj he=>hnU j he hj,k2.trans k3,?_,fun j hj=> ?_⟩,by simp only[wHl,wHf]⟩
       ·have f5:=(fs.trans aS2.fr).trans f3
        exact⟨by have:=f5.len;omega,fun j hj hn=>by rw[e4 j (by have:=f5.len;omega) fun e=>by have:=(hown j e).1;omega];exact f5.keep j hj hn,f5.own⟩
       ·dsimp only
        rw[hacc1,map_append];exact e2
       ·rcases e5 j hj with h|h
        ·exact⟨(hown j h).1,hnU j h⟩
        ·exact⟨by have:=fs.len;omega,fun e=>by have:=hlt3' _ e;omega⟩
    |false=>
     rw[hm]at hmx
     have hgd:True:=trivial
     have hif2:True:=trivial
     have hw1:True:=trivial
     have hd:True:=trivial
     have hd':True:=trivial
     have HSK:skipC lo my t i x.1=true:=by unfold skipC;rw[hbi2,hm];rfl
     cases hlb:(((i+1:Nat):Int)==(t.length:Int))with
     |true=>
      have hlb2:decide (((i+1:Nat):Int)=(t.length:Int))=true:=by simpa using hlb
      repeat' first|((with_reducible first|apply cs|apply ws|apply wd|apply wu)<;>intro h<;>try simp only[h])|simp only[↓wBA,tYm,convA,seval,pl43_10Ym,wH,wHl,hdec,hi0,hif,hif2,hlb,hlb2,hgd,hw,hw1,cN,zN,ctn,ztn,hgc,itC,hS2',d0,dN,dtn,dx,w0,wN,wtn,wx,hbi1,hbi3,c3y,hla,hd,hd',c2y]|((with_reducible show ACalls _ _ _ _ _);refine hmx.eq ?_)|(with_reducible refine dQ pl43_10Ym 12 (some 51) ?_)
      rw[if_pos HSK,append_nil]at hacc1
      refine⟨⟨(i+1,av),by omega⟩,by show t.length - (i+1)<t.length - i;omega,⟨U2,P2,fs.trans aS2.fr,hB2.ap aS2,k2,?_,hown⟩,by simp only[wHl,wHf]⟩
      dsimp only
      rw[hacc1]
      exact how.same fun j hj=>by rw[hS2,getElem?_append_left (how.lt hj)]
     |false=>
      have hlb2:decide (((i+1:Nat):Int)=(t.length:Int))=false:=by simpa using hlb
      repeat' first|((with_reducible first|apply cs|apply ws|apply wd|apply wu)<;>intro h<;>try simp only[h])|simp only[↓wBA,tYm,convA,seval,pl43_10Ym,wH,wHl,hdec,hi0,hif,hif2,hlb,hlb2,hgd,hw,hw1,cN,zN,ctn,ztn,hgc,itC,hS2',d0,dN,dtn,dx,w0,wN,wtn,wx,hbi1,hbi3,c3y,hla,hd,hd',c2y]|((with_reducible show ACalls _ _ _ _ _);refine hmx.eq ?_)|(with_reducible refine dQ pl43_10Ym 12 (some 51) ?_)
      rw[if_pos HSK,append_nil]at hacc1
      refine⟨⟨(i+1,av),by omega⟩,by show t.length - (i+1)<t.length - i;omega,⟨U2,P2,fs.trans aS2.fr,hB2.ap aS2,k2,?_,hown⟩,by simp only[wHl,wHf]⟩
      dsimp only
      rw[hacc1]
      exact how.same fun j hj=>by rw[hS2,getElem?_append_left (how.lt hj)]
  ·obtain rfl:i=t.length:=by omega
   have hdec:=dF (i:=t.length) (n:=t.length) hlt3
   rcases how with⟨rfl,he⟩|⟨to,rfl,hne,hto⟩
   ·skip
    repeat' first|((with_reducible first|apply cs|apply ws|apply wd|apply wu)<;>intro h<;>try simp only[h])|simp only[↓wBA,tYm,convA,seval,pl43_10Ym,wH,wHl,hdec]|(with_reducible refine dQ pl43_10Ym 12 (some 51) ?_)
    all_goals refine ret_st ?_ (by first|exact Nat.le_refl _|(simp only[length_set,length_append];omega)|omega)
    all_goals simp only[resA.eq_1,resL.eq_1,resL.eq_2,resV.eq_1,resV.eq_2,↓wBA,tYm,convA,seval,wH]
    refine⟨U2,P2,_,rfl,fS.trans fs,hB2,k2,.inl ⟨?_,rfl⟩⟩
    exact map_eq_nil_iff.1 he
   ·skip
    repeat' first|((with_reducible first|apply cs|apply ws|apply wd|apply wu)<;>intro h<;>try simp only[h])|simp only[↓wBA,tYm,convA,seval,pl43_10Ym,wH,wHl,hdec]|(with_reducible refine dQ pl43_10Ym 12 (some 51) ?_)
    all_goals refine ret_st ?_ (by first|exact Nat.le_refl _|(simp only[length_set,length_append];omega)|omega)
    all_goals simp only[resA.eq_1,resL.eq_1,resL.eq_2,resV.eq_1,resV.eq_2,↓wBA,tYm,convA,seval,wH]
    exact⟨U2,P2,_,rfl,fS.trans fs,hB2,k2,.inr ⟨to,fun e=>hne (by rw[show (List.range t.length).flatMap (stepC lo my (fromF lo my h) t)=fromF lo my (h+1) t from rfl,e];rfl),rfl⟩⟩
end
def tYn:=aa wX <| aa wbu <| aa T3 <| aa T30 <| aa T35 <| aa T86 T109
theorem atFrom {b p dd l kh:Nat}{v:Nat→List UInt8}{lo:List UInt8}{lox:PV}{my:List UInt8→Bool}{g:FuncId}{caps:List AV}{kl:List (Nat×Ob)}(hlo:BX lox lo)
 (hmy:∀ (s:St) (k:List UInt8),Kept kl s→ACalls Tryz.prog g (.p (.sl 1 (encB k))::caps) s fun r s'=>s'=s∧r=boolV (my k)):∀ (h:Nat) {σ:St} {U:Nat→Prop} {P:PoolV} {n:Nat} {t:BTr h},Bt σ b p dd l kh U P v→Bud P 1→TrAt v h n t→(pgT h n t).Nodup→(∀ q∈pgT h n t,q<P.pages)→Kept kl σ→(∀ q∈kl,¬ U q.1)→
  ACalls Tryz.prog 43 [.agg [.mp b 2 0 0],intV .i64 (n:Nat),.p lox,.fn g [] caps] σ fun r σ'=>FromPost h t lo my σ b p dd l kh U P v r σ'
 |0,σ,U,P,n,t,hB,hb,hTr,hnd,htk,hkl,hklU=>atFromLeaf hB hb (htk n (pgT_root 0 n t)) hTr hlo hkl hklU hmy
 |h+1,σ,U,P,n,t,hB,hb,hTr,hnd,htk,hkl,hklU=>atFromNode hB hb hTr hnd htk hlo hkl hklU hmy fun a1 a2 a3 a4 a5 a6 a7=>atFrom hlo hmy h a1 a2 a3 a4 a5 a6 a7
theorem atAll1 (σ:St)(x:PV):ACalls Tryz.prog 44 [.p x] σ fun r s=>s=σ∧r=boolV true:=by
 refine acalls_of cx_ok dr_ok Tryz.func44 (by kernel_rfl) rfl (nt:=2) (rs:=[.tmp 2]) rfl rfl ?_
 repeat' first|((with_reducible first|apply cs|apply ws)<;>intro h<;>try simp only[h])|simp only[↓wBA,tYn,convA,seval,wH]
 all_goals refine ret_st ?_ (by first|exact Nat.le_refl _|(simp only[length_set,length_append];omega)|omega)
 all_goals simp only[resA.eq_1,resL.eq_1,resL.eq_2,resV.eq_1,resV.eq_2,↓wBA,tYn,convA,seval,wH]
theorem atRange1 {σ:St}{th:Nat}{hix:PV}{hi k:List UInt8}(hhi:BX hix hi)(hth:σ[th]? =some (some (.row 1 [[.p hix]]))):ACalls Tryz.prog 49 [.p (.sl 1 (encB k)),.mp th 1 0 0] σ fun r s=>s=σ∧r=boolV (decide (Lib.compareBytes k hi≤0)):=by
 have yth:=at_lt hth
 have hbc:=fun s=>abcmp (x:=.sl 1 (encB k)) (.inl rfl) hhi s
 refine acalls_of cx_ok dr_ok Tryz.func49 (by kernel_rfl) rfl (nt:=6) (rs:=[.tmp 3]) rfl rfl ?_
 repeat' first|((with_reducible first|apply cs|apply ws)<;>intro h<;>try simp only[h])|simp only[↓wBA,tYn,convA,seval,wH,hth,yth]|((with_reducible show ACalls _ _ _ _ _);refine (hbc _).eq ?_)
 all_goals refine ret_st ?_ (by first|exact Nat.le_refl _|(simp only[length_set,length_append];omega)|omega)
 all_goals simp only[resA.eq_1,resL.eq_1,resL.eq_2,resV.eq_1,resV.eq_2,↓wBA,tYn,convA,seval,wH]
section
variable {σ:St} {b p dd l kh n h:Nat} {U:Nat→Prop} {P:PoolV} {v:Nat→List UInt8} {T:Nat→Bool}
theorem atAll {t:BTr h}(hB:Bt σ b p dd l kh U P v)(hb:Bud P 1)(hR:RootOk v T P.pages n h t):
 ACalls Tryz.prog 15 [.mp b 2 0 0,intV .i64 (n:Nat)] σ fun r σ'=>FromPost h t [] (fun _=>true) σ b p dd l kh U P v r σ':=by
 refine acalls_of cx_ok dr_ok Tryz.func15 (by kernel_rfl) rfl (nt:=12) (rs:=[.tmp 4,.tmp 5]) rfl rfl ?_
 repeat' first|((with_reducible first|apply cs|apply ws)<;>intro h<;>try simp only[h])|simp only[↓wBA,tYn,convA,seval,wH]
 refine (atFrom (kl:=[]) (my:=fun _=>true) (lo:=[]) (.inr ⟨rfl,rfl⟩) (fun s k hs=>atAll1 s _) h hB hb hR.tr hR.nd (fun q hq=>(hR.tk q hq).2.1) (fun q hq=>by simp at hq) (fun q hq=>by simp at hq)).mono ?_
 rintro _ s1 ⟨U1,P1,av,rfl,f1,hB1,k1,hE⟩
 have q1:=f1.len
 repeat' first|((with_reducible first|apply cs|apply ws)<;>intro h<;>try simp only[h])|simp only[↓wBA,tYn,convA,seval,wH]
 all_goals refine ret_st ?_ (by first|exact Nat.le_refl _|(simp only[length_set,length_append];omega)|omega)
 all_goals simp only[resA.eq_1,resL.eq_1,resL.eq_2,resV.eq_1,resV.eq_2,↓wBA,tYn,convA,seval,wH]
 exact⟨U1,P1,av,rfl,f1,hB1,k1,hE⟩
theorem root_nil {v:Nat→List UInt8}{T:Nat→Bool}{np n:Nat}(hv:v n=newL 2)(h1:1≤n)(h2:n<np)(h3:T n=true):RootOk v T np n 0 ([]:List Ent):=by
 refine⟨?_,by simp[pgT],fun q hq=> ?_,?_⟩
 ·have:=(fit_yes (kd:=2) (l:=[]) (.inl rfl) (by simp) (by simp[szL])).2
  rw[show (fitF 2 []).1=newL 2 from rfl,←hv]at this
  exact this
 ·simp only[pgT,List.mem_singleton]at hq;subst hq;exact⟨h1,h2,h3⟩
 ·exact⟨List.Pairwise.nil,fun e he=>by simp at he⟩
theorem atMake (hB:Bt σ b p dd l kh U P v)(hT:Tk (v 0) P.pages T)(hnp:P.pages≤3200)(hnp1:1≤P.pages)(hT0:T 0=true)(hb:Bud P 1):
 ACalls Tryz.prog 11 [.mp b 2 0 0] σ fun r σ'=>∃ U' P' v',Fr σ σ' U U'∧Bt σ' b p dd l kh U' P' v'∧Kp P P' 0∧
  ((∃ n,T n=false∧r= .tup [intV .i64 (n:Nat),intV .i64 0]∧(∀ m,m≠n→m≠0→v' m=v m)∧Tk (v' 0) P.pages (updT T n true)∧updT T n true 0=true∧RootOk v' (updT T n true) P.pages n 0 ([]:List Ent))∨((∀ n,n<P.pages→T n=true)∧r= .tup [intV .i64 0,intV .i64 20]∧v'=v)):=by
 refine acalls_of cx_ok dr_ok Tryz.func11 (by kernel_rfl) rfl (nt:=9) (rs:=[.tmp 2,.tmp 3]) rfl rfl ?_
 repeat' first|((with_reducible first|apply cs|apply ws)<;>intro h<;>try simp only[h])|simp only[↓wBA,tYn,convA,seval,wH]
 refine (abAlloc (kind:=2) hB hT hnp hnp1 hT0 hb).mono ?_
 rintro r s1 ⟨U1,P1,v1,f1,hB1,k1,h1⟩
 have q1:=f1.len
 rcases h1 with⟨n,m1,m2,m3,rfl,m4,m5,m6⟩|⟨m1,rfl,m2⟩
 ·skip
  repeat' first|((with_reducible first|apply cs|apply ws)<;>intro h<;>try simp only[h])|simp only[↓wBA,tYn,convA,seval,wH]
  all_goals refine ret_st ?_ (by first|exact Nat.le_refl _|(simp only[length_set,length_append];omega)|omega)
  all_goals simp only[resA.eq_1,resL.eq_1,resL.eq_2,resV.eq_1,resV.eq_2,↓wBA,tYn,convA,seval,wH]
  exact⟨U1,P1,v1,f1,hB1,k1,.inl ⟨n,m3,rfl,m5,m6,by unfold updT;split<;>simp_all,root_nil m4 m1 m2 (by simp[updT])⟩⟩
 ·skip
  repeat' first|((with_reducible first|apply cs|apply ws)<;>intro h<;>try simp only[h])|simp only[↓wBA,tYn,convA,seval,wH]
  all_goals refine ret_st ?_ (by first|exact Nat.le_refl _|(simp only[length_set,length_append];omega)|omega)
  all_goals simp only[resA.eq_1,resL.eq_1,resL.eq_2,resV.eq_1,resV.eq_2,↓wBA,tYn,convA,seval,wH]
  exact⟨U1,P1,v1,f1,hB1,k1,.inr ⟨m1,m2⟩⟩
end
theorem leE_k {a b:Ent}(h:leE a b):Lib.compareBytes a.k b.k≤0:=by
 rcases Int.lt_or_le 0 (Lib.compareBytes a.k b.k)with h1|h1
 ·exact absurd (ltE_iff.2 (.inl (by rw[cb_swap];omega))) h
 ·exact h1
theorem ltE_k {a b:Ent}(h:ltE a b):Lib.compareBytes a.k b.k≤0:=leE_k h.le
theorem cb_le_lt {a b c:List UInt8}(h1:Lib.compareBytes a b≤0)(h2:Lib.compareBytes b c<0):Lib.compareBytes a c<0:=by
 rcases Int.lt_or_eq_of_le h1 with h|h
 ·exact cb_trans h h2
 ·rw[cb_zero h];exact h2
theorem cb_le_le {a b c:List UInt8}(h1:Lib.compareBytes a b≤0)(h2:Lib.compareBytes b c≤0):Lib.compareBytes a c≤0:=by
 rcases Int.lt_or_eq_of_le h2 with h|h
 ·exact Int.le_of_lt (cb_le_lt h1 h)
 ·rw[← cb_zero h];exact h1
theorem cb_nil (a:List UInt8):0≤Lib.compareBytes a []:=by cases a<;>simp[Lib.compareBytes]
section
variable {α:Type} {P:Ent→Option Ent→α→Prop} {F:α→List Ent}
theorem okC_ents (hP:∀ lo hi x,P lo hi x→SortE (F x)∧∀ e∈F x,leE lo e∧ltO e hi):∀ {l:List (Ent×Nat×α)} {lo:Ent} {hi:Option Ent},OkC P lo hi l→SortE (l.flatMap fun x=>F x.2.2)∧∀ e∈l.flatMap (fun x=>F x.2.2),leE lo e∧ltO e hi
 |[],lo,hi,_=>⟨List.Pairwise.nil,fun e he=>by simp at he⟩
 |x::l,lo,hi,h=>by
  obtain⟨h1,h2⟩:=okC_cons.1 h
  obtain⟨g1,g2⟩:=hP _ _ _ h1
  cases l with
  |nil=>simp only[List.flatMap_cons,List.flatMap_nil,append_nil];exact⟨g1,g2⟩
  |cons y r=>
   obtain⟨h3,h4,h5⟩:=h2 y r rfl
   obtain⟨i1,i2⟩:=okC_ents hP h5
   rw[List.flatMap_cons]
   refine⟨List.pairwise_append.2 ⟨g1,i1,fun a ha b hb=>lt_leE (g2 a ha).2 (i2 b hb).1⟩,fun e he=> ?_⟩
   rcases List.mem_append.1 he with he|he
   ·exact⟨(g2 e he).1,ltO_trans (g2 e he).2 h4⟩
   ·exact⟨leE_trans h3.le (i2 e he).1,(i2 e he).2⟩
theorem okC_at {l:List (Ent×Nat×α)}{lo:Ent}{hi:Option Ent}(h:OkC P lo hi l){i:Nat}{x:Ent×Nat×α}(hx:l[i]? =some x):P (loOf (l.take i) lo x.1) (hiOf (l.drop (i+1)) hi) x.2.2:=by
 have hi:=(List.getElem?_eq_some_iff.1 hx)
 obtain⟨h1,h2⟩:=hi
 have e:l=l.take i++x::l.drop (i+1):=by
  conv=>lhs;rw[← List.take_append_drop i l,List.drop_eq_getElem_cons h1,h2]
 rw[e]at h
 exact okC_child h
end
theorem entsT_ok {d:Bool}:∀ {h:Nat} {lo:Ent} {hi:Option Ent} {t:BTr h},OkT d h lo hi t→SortE (entsT h t)∧∀ e∈entsT h t,leE lo e∧ltO e hi
 |0,lo,hi,t,h=>h
 |h+1,lo,hi,t,hk=>okC_ents (F:=entsT h) (fun lo hi x hx=>entsT_ok hx) hk.2.2
theorem fromF_eq {d:Bool}{lo:List UInt8}{my:List UInt8→Bool}(hmy:∀ a b:List UInt8,Lib.compareBytes a b≤0→my b=true→my a=true):∀ {h:Nat} {l0:Ent} {hi:Option Ent} {t:BTr h},OkT d h l0 hi t→fromF lo my h t=(entsT h t).filter (tellE lo my)
 |0,l0,hi,t,_=>rfl
 |h+1,l0,hi,t,hk=>by
  have key:∀ (l:NL h),OkC (OkT d h) l0 hi l→∀ i,i<l.length→stepC lo my (fromF lo my h) l i=optF (fun x:Ent×Nat×BTr h=>(entsT h x.2.2).filter (tellE lo my)) l[i]? :=by
   intro l hc i hi'
   obtain⟨x,hx⟩:∃ x,l[i]? =some x:=⟨l[i],by simp⟩
   have hP:=okC_at hc hx
   have ih:=fromF_eq (lo:=lo) hmy hP
   have hb:=(entsT_ok hP).2
   unfold stepC
   rw[hx]
   simp only[optF]
   by_cases hs:skipC lo my l i x.1=true
   ·rw[if_pos hs]
    refine (List.filter_eq_nil_iff.2 fun e he=> ?_).symm
    obtain⟨b1,b2⟩:=hb e he
    unfold skipC at hs
    rw[Bool.or_eq_true]at hs
    rcases hs with hs|hs
    ·simp only[Bool.and_eq_true,decide_eq_true_eq,Bool.not_eq_true']at hs
     obtain⟨h0,h1⟩:=hs
     have hlo:loOf (l.take i) l0 x.1=x.1:=by
      cases hct:l.take i with
      |nil=>
       have:=congrArg List.length hct
       rw[List.length_take]at this
       simp only[length_nil]at this
       omega
      |cons a r=>rfl
     rw[hlo]at b1
     intro ht
     unfold tellE at ht
     rw[Bool.and_eq_true]at ht
     rw[hmy _ _ (leE_k b1) ht.2]at h1
     cases h1
    ·cases hy:l[i+1]? with
     |none=>rw[hy]at hs;simp at hs
     |some y=>
      rw[hy]at hs
      simp only[decide_eq_true_eq]at hs
      have hhi:hiOf (l.drop (i+1)) hi=some y.1:=by
       obtain⟨y1,y2⟩:=List.getElem?_eq_some_iff.1 hy
       rw[List.drop_eq_getElem_cons y1,y2];rfl
      rw[hhi]at b2
      have:=cb_le_lt (ltE_k b2) hs
      intro ht
      unfold tellE at ht
      simp only[Bool.and_eq_true,decide_eq_true_eq]at ht
      omega
   ·rw[if_neg hs];exact ih
  have h2:∀ (l:NL h),OkC (OkT d h) l0 hi l→(List.range l.length).flatMap (stepC lo my (fromF lo my h) l)=(l.flatMap fun x=>entsT h x.2.2).filter (tellE lo my):=by
   intro l hc
   have h3:(List.range l.length).flatMap (stepC lo my (fromF lo my h) l)=(List.range l.length).flatMap (fun i=>optF (fun x:Ent×Nat×BTr h=>(entsT h x.2.2).filter (tellE lo my)) l[i]?):=by
    rw[List.flatMap_def,List.flatMap_def]
    congr 1
    exact List.map_congr_left fun i hi=>key l hc i (List.mem_range.1 hi)
   rw[range_flat]at h3
   rw[h3,List.filter_flatMap]
  exact h2 t hk.2.2
theorem le_down (hi:List UInt8):∀ a b:List UInt8,Lib.compareBytes a b≤0→decide (Lib.compareBytes b hi≤0)=true→decide (Lib.compareBytes a hi≤0)=true:=fun a b h1 h2=>by
 simp only[decide_eq_true_eq]at h2 ⊢
 exact cb_le_le h1 h2
theorem all_eq {d:Bool}{h:Nat}{l0:Ent}{h0:Option Ent}{t:BTr h}(hk:OkT d h l0 h0 t):fromF [] (fun _=>true) h t=entsT h t:=by
 rw[fromF_eq (fun _ _ _ _=>rfl) hk]
 refine List.filter_eq_self.2 fun e _=> ?_
 unfold tellE
 simp[cb_nil]
def tYr:=aa wX <| aa wbu <| aa T3 <| aa T4 <| aa T9 <| aa T24 <| aa T25 <| aa T28 <| aa T30 <| aa T35 <| aa T37 <| aa T40 <| aa T48 <| aa T86 <| aa T87 <| aa T90 <| aa T92 T97
theorem root_leaf {t:List Ent}{e:Ent}{h':Nat}{t':BTr h'}(hr:RootR 0 t e h' t')(hs:szL (its0 (t.take (cutI (its0 t) e)++e::t.drop (cutI (its0 t) e)))≤496):∃ q:h'=0,(q▸t':BTr 0)=(t.take (cutI (its0 t) e)++e::t.drop (cutI (its0 t) e):List Ent):=by
 rcases hr with⟨rfl,hi⟩|⟨q,t1,n,m,x,s,hi,ht⟩
 ·obtain⟨_,h1⟩:=hi
  rcases h1 with⟨_,h1,_⟩|⟨h1,_⟩
  ·exact⟨rfl,h1⟩
  ·exact absurd h1 (Nat.not_lt.2 hs)
 ·obtain⟨_,h1⟩:=hi
  rcases h1 with⟨_,_,h1⟩|⟨h1,_⟩
  ·cases h1
  ·exact absurd h1 (Nat.not_lt.2 hs)
theorem aawake7 (σ:St):ACalls Tryz.prog 7 [] σ fun r σ'=>Ap σ σ'∧r=boolV true:=by
 refine acalls_of cx_ok dr_ok Tryz.func7 (by kernel_rfl) rfl (nt:=84) (rs:=[.tmp 0]) rfl rfl ?_
 repeat' first|((with_reducible first|apply cs|apply ws)<;>intro h<;>try simp only[h])|simp only[↓wBA,tYr,convA,seval,wH]
 refine (adnew 800 (by omega) σ).mono ?_
 rintro _ s1 ⟨dd,Fd,rfl,a1,hd,hFd⟩
 repeat' first|((with_reducible first|apply cs|apply ws)<;>intro h<;>try simp only[h])|simp only[↓wBA,tYr,convA,seval,wH]
 refine (adnew 4000 (by omega) s1).mono ?_
 rintro _ s2 ⟨dl,Fl,rfl,a2,hl,hFl⟩
 have hd2:=hd.ap a2
 have l1:=a1.len
 have l2:=a2.len
 repeat' first|((with_reducible first|apply cs|apply ws)<;>intro h<;>try simp only[h])|simp only[↓wBA,tYr,convA,seval,wH]
 refine (aopenN2 hd2 hl (fun t h1 h2=>by have:=hd.lt t h1;have:=hFl t h2;omega) (by omega) (by omega) 4 (by omega) (by omega)).mono ?_
 rintro _ s3 ⟨p,l,kh,G,P,rfl,a3,hP,p1,p2,p3,p4,p5,p6,p7,p8,p9⟩
 have l3:=a3.len
 have hGσ:∀ t,G t→σ.length≤t:=fun t ht=>by
  rcases p9 t ht with h|h|h
  ·exact hFd t h
  ·have:=hFl t h;omega
  ·omega
 have hpg:P.pages=100:=by rw[p1];rfl
 have hbud:Bud P 1000000:=⟨by omega,by rw[p7];simp,by omega⟩
 repeat' first|((with_reducible first|apply cs|apply ws)<;>intro h<;>try simp only[h])|simp only[↓wBA,tYr,convA,seval,wH]|((with_reducible show ACalls _ _ _ _ _);refine (abBatch hP).mono ?_;rintro _ s4 ⟨rfl,a4,h4⟩)
 have l4:=a4.len
 refine (atMake (T:=fun n=>n==0) h4 (by rw[p8];exact tk_new (by omega)) (by omega) (by omega) rfl (hbud.mono (by omega))).mono ?_
 rintro r s5 ⟨U5,P5,v5,f5,h5,k5,hc⟩
 rcases hc with⟨m,hTm,rfl,hvo,hTk,ht0,hR5⟩|⟨hall,_,_⟩
 rotate_left
 ·exact absurd (hall 1 (by omega)) (by decide)
 have l5:=f5.len
 have hpg5:=k5.pages
 have hu8:=ck_5
 repeat' first|((with_reducible first|apply cs|apply ws)<;>intro h<;>try simp only[h])|simp only[↓wBA,tYr,convA,seval,wH,convB,convC,hu8]
 have hm2:=hR5.tk m (pgT_root _ _ _)
 have cn5:cnt (updT (fun n=>n==0) m true) 100=2:=by rw[cnt_true (T:=fun n=>n==0) (k:=m) hTm 100 (by omega),cnt_one _ (by omega)]
 rw[hpg]at hTk hR5
 refine (atIns (e:=⟨[98],1,1⟩) (h5.ap (Ap.app s5 [none])) (by rw[hpg5,hpg];exact hTk) (by omega) ht0 (hbud.kp k5 (by omega)) (by rw[hpg5,hpg];exact hR5) ⟨by decide,by decide,by decide⟩).mono ?_
 rintro r s6 ⟨U6,P6,v6,T6,h6',t6,f6,h6,k6,hR6,hW6,hc6⟩
 rw[hpg5,hpg]at hR6 hW6 hc6
 have l6:=f6.len
 simp only[length_append,length_cons,length_nil]at l6
 rcases hc6 with⟨rfl,hr6,hx6⟩|⟨_,hm6,_⟩|⟨_,hf6,hl6⟩
 rotate_left
 ·simp[entsT]at hm6
 ·obtain⟨h2,t2,q1,q2⟩:=hl6.cnt hf6
  obtain⟨rfl,_⟩:=root_leaf q1 (by decide)
  simp only[pgT,length_cons,length_nil]at q2
  omega
 obtain⟨rfl,ht6⟩:=root_leaf hr6 (by decide)
 have ht6:t6=([⟨[98],1,1⟩]:List Ent):=ht6
 subst ht6
 have hpg6:=k6.pages
 have cn6:cnt T6 100≤3:=by
  have:=cntL [m] (T:=updT (fun n=>n==0) m true) (T':=T6) (fun q hq=>(hx6 q hq).imp id fun h=>by simpa [pgT]using h) 100
  simp only[length_cons,length_nil]at this
  omega
 have kk6:=k5.trans k6
 repeat' first|((with_reducible first|apply cs|apply ws)<;>intro h<;>try simp only[h])|simp only[↓wBA,tYr,convA,seval,wH,convB,convC,hu8]
 refine (atIns (e:=⟨[97],2,1⟩) (h6.ap (Ap.app s6 [none])) (by rw[hpg6,hpg5,hpg];exact hW6.tkk) (by omega) hW6.t0 (hbud.kp kk6 (by omega)) (by rw[hpg6,hpg5,hpg];exact hR6) ⟨by decide,by decide,by decide⟩).mono ?_
 rintro r s7 ⟨U7,P7,v7,T7,h7',t7,f7,h7,k7,hR7,hW7,hc7⟩
 rw[hpg6,hpg5,hpg]at hR7 hW7 hc7
 have l7:=f7.len
 simp only[length_append,length_cons,length_nil]at l7
 rcases hc7 with⟨rfl,hr7,hx7⟩|⟨_,hm7,_⟩|⟨_,hf7,hl7⟩
 rotate_left
 ·exfalso
  have hm7:(⟨[97],2,1⟩:Ent)∈([⟨[98],1,1⟩]:List Ent):=hm7
  simp at hm7
 ·obtain⟨h2,t2,q1,q2⟩:=hl7.cnt hf7
  obtain⟨rfl,_⟩:=root_leaf q1 (by decide)
  simp only[pgT,length_cons,length_nil]at q2
  omega
 obtain⟨rfl,ht7⟩:=root_leaf hr7 (by decide)
 have ht7:t7=([⟨[97],2,1⟩,⟨[98],1,1⟩]:List Ent):=ht7
 subst ht7
 have hpg7:=k7.pages
 have kk7:=kk6.trans k7
 repeat' first|((with_reducible first|apply cs|apply ws)<;>intro h<;>try simp only[h])|simp only[↓wBA,tYr,convA,seval,wH]
 refine (atAll h7 (hbud.kp kk7 (by omega)) (by rw[hpg7,hpg6,hpg5,hpg];exact hR7)).mono ?_
 rintro _ s8 ⟨U8,P8,av,rfl,f8,h8,k8,hE8⟩
 have l8:=f8.len
 rcases hE8 with⟨hE8,_⟩|⟨_,rfl⟩
 ·exact absurd hE8 (by decide)
 have kk8:=kk7.trans k8
 have hpg8:=k8.pages
 have hst:=ck_9
 have hsq:binStr .eql { data:= #[97] } { data:= #[97] }=some (.bool true):=by simp[binStr]
 have hb2:bytesOfR [[.v (.int .u8 97)]]=some [97]:=rfl
 have hfe:(fromF [] (fun _=>true) 0 ([⟨[97],2,1⟩,⟨[98],1,1⟩]:List Ent)).map entP=[[.sl 1 [[.v (.int .u8 97)]],.v (.int .i64 2),.v (.int .i64 1)],[.sl 1 [[.v (.int .u8 98)]],.v (.int .i64 1),.v (.int .i64 1)]]:=rfl
 have hins:∀ {s:St},Ap s8 s→ACalls Tryz.prog 12 [.mp s3.length 2 0 0,intV .i64 (m:Nat),.p (.sl 1 [[.v (.int .u8 97)]]),.agg [intV .i64 2,intV .i64 1]] s fun q σ'=>q=intV .i64 1∧∃ U',Fr s σ' U8 U':=fun {s} ha=>by
  refine (atIns (h:=0) (t:=([⟨[97],2,1⟩,⟨[98],1,1⟩]:List Ent)) (e:=⟨[97],2,1⟩) (h8.ap ha) (by rw[hpg8,hpg7,hpg6,hpg5,hpg];exact hW7.tkk) (by rw[hpg8,hpg7,hpg6,hpg5,hpg];omega) hW7.t0 (hbud.kp kk8 (by omega)) (by rw[hpg8,hpg7,hpg6,hpg5,hpg];exact hR7) ⟨by decide,by decide,by decide⟩).mono ?_
  rintro q s ⟨U9,P9,v9,T9,h9',t9,f9,h9,k9,hR9,hW9,hc9⟩
  have hno:∀ {h2:Nat} {t2:BTr h2},¬ RootR 0 ([⟨[97],2,1⟩,⟨[98],1,1⟩]:List Ent) ⟨[97],2,1⟩ h2 t2:=fun hr=>by
   rcases hr with⟨_,hi⟩|⟨_,_,_,_,_,_,hi,_⟩<;>exact hi.1 (List.mem_cons_self ..)
  rcases hc9 with⟨_,hr,_⟩|⟨rfl,_,_⟩|⟨_,_,hl⟩
  ·exact absurd hr hno
  ·exact⟨rfl,U9,f9⟩
  ·obtain⟨_,_,_,_,hr,_⟩:=hl
   exact absurd hr hno
 repeat' first|((with_reducible first|apply cs|apply ws)<;>intro h<;>try simp only[h])|simp only[↓wBA,tYr,convA,seval,wH,hfe,convB,convC,hu8,hst,hb2,hsq,Bool.and_self,beq_self_eq_true]|((with_reducible show ACalls _ _ _ _ _);refine (hins (Ap.app _ _)).mono ?_;rintro _ s10 ⟨rfl,U10,f10⟩)
 have l10:=f10.len
 simp only[length_append,length_cons,length_nil]at l10
 all_goals refine ret_st ?_ (by first|exact Nat.le_refl _|(simp only[length_set,length_append];omega)|omega)
 all_goals simp only[resA.eq_1,resL.eq_1,resL.eq_2,resV.eq_1,resV.eq_2,↓wBA,tYr,convA,seval,wH]
 exact Ap.of_fr ((((a1.trans a2).trans a3).trans a4).fr (F:=fun t=>t=s3.length∨G t) |>.trans (f5.trans ((Ap.app s5 [none]).fr.trans (f6.trans ((Ap.app s6 [none]).fr.trans (f7.trans (f8.trans ((Ap.app s8 [none]).fr.trans f10)))))))) fun t ht=>ht.elim (fun e=>by omega) (hGσ t)
end Go.Proofs.YtockimhceppkbaaGreat
