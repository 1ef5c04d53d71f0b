/- Trees: entries from a key on, inner pages; Range and All. Trees: Range, All, Make; what is refused. Tables with their indexes, plain. -/
import Derived.Test.YtpoigihfeehehaaGreatDoorM44
import Derived.Test.YtpoigihfeehehaaGreatDoorM43
set_option linter.all false
set_option maxRecDepth 100000
set_option maxHeartbeats 32000000
namespace Go.Proofs.YtpoigihfeehehaaGreatDoor
open Go.RowKit
def tYm:=aa wX <| aa wbu <| aa T3 <| aa T4 <| aa T29 <| aa T51 <| aa T70 <| aa T75 <| aa T188 <| aa T192 <| aa T228 <| aa T232 <| aa T234 T239
section
variable {σ:St} {b p dd l kh n h:Nat} {U:Nat→Prop} {P:Ak} {v:Nat→List UInt8} {T:Nat→Bool}
theorem Afg {lo:List UInt8}{lox:PV}{my:List UInt8→Bool}{g:FuncId}{caps:List AV}{kl:List (Nat×Ob)}{t:NL h}(hB:Bt σ b p dd l kh U P v)(hb:Bud P 1)(hTr:Hg v (h+1) n t)(hnd:(pgT (h+1) n t).Nodup)(htk:∀ q∈pgT (h+1) n t,q<P.pages)(hlo:BX lox lo)(hkl:Kept kl σ)(hklU:∀ q∈kl,¬ U q.1)
 (hmy:∀ (s:St) (k:List UInt8),Kept kl s→Aa Tryz.prog g (.p (.sl 1 (Ax k))::caps) s fun r s'=>s'=s∧r=Av (my k))
 (ih:∀ {σ:St} {U:Nat→Prop} {P:Ak} {n:Nat} {t:BTr h},Bt σ b p dd l kh U P v→Bud P 1→Hg v h n t→(pgT h n t).Nodup→(∀ q∈pgT h n t,q<P.pages)→Kept kl σ→(∀ q∈kl,¬ U q.1)→
  Aa Tryz.prog 145 [.agg [.mp b 2 0 0],Ad .i64 (n:Nat),.p lox,.fn g [] caps] σ fun r σ'=>Il h t lo my σ b p dd l kh U P v r σ'):
 Aa Tryz.prog 145 [.agg [.mp b 2 0 0],Ad .i64 (n:Nat),.p lox,.fn g [] caps] σ fun r σ'=>Il (h+1) t lo my σ b p dd l kh U P v r σ':=by
 refine Ym ?_
 have hlt:=hB.lt
 have hbig:=hB.big
 have hN:D4 (v n) 3 (A9 t):=hTr.1
 have hl49:=hN.n
 have hil:=Ev t
 have hpl:=Fj P.pages _ hnd htk
 have hel:(t.flatMap fun x=>Bj h x.2.2).length≤49*3840:=by
  have h1:(Bj (h+1) t).length≤49*(pgT (h+1) n t).length:=Akd hTr
  have h2:(Bj (h+1) t).length=(t.flatMap fun x=>Bj h x.2.2).length:=rfl
  omega
 have hacc:∀ i,i≤t.length→((List.range i).flatMap (Ir lo my (Dm lo my h) t)).length≤49*3840:=fun i hi=>ZO (Ac8 lo my (Dm lo my h) (Bj h) (Yl lo my h) t i hi) hel
 refine Ab Am An Tryz.func145 (by kernel_rfl) rfl (nt:=108) (rs:=[.tmp 8,.tmp 9]) rfl rfl ?_
 repeat' simp only[↓wBA,tYm,seval,wH]
 have a1:=Ap.app σ [some (Ob.row 1 [[AV.mp b 2 0 0]])]
 refine (X5 (hB.ap a1) (htk n (Fo _ _ _)) hN hb).mono ?_
 rintro _ s1 ⟨U1,P1,a,rfl,f1,hB1,k1,ha,hta⟩
 have q1:=f1.len
 simp only[QE,QF,QI]at q1
 have hlt1:=hB1.lt
 have b0':s1[σ.length]? =some (some (Ob.row 1 [[AV.mp b 2 0 0]])):=by
  rw[f1.keep _ (by simp) fun e=>by have:=hlt _ e;omega];simp
 have n0:¬ U1 σ.length:=fun e=>(f1.own _ e).elim (fun e=>by have:=hlt _ e;omega) fun e=>by simp at e;omega
 have hlf:=ha.x.leaf
 have hcc:=ha.x.cells
 obtain⟨S1,hS1⟩:∃ S1,S1=s1++[some (Ob.row 2 [[AV.p (.v (.int .i64 3)),a]])]:=⟨_,rfl⟩
 have aS:Ap s1 S1:=⟨_,hS1⟩
 have hS1l:S1.length=s1.length+1:=by rw[hS1];simp
 have bN:S1[s1.length]? =some (some (Ob.row 2 [[AV.p (.v (.int .i64 3)),a]])):=by rw[hS1];simp
 have yN:=Ac bN
 have b0:=aS.get b0'
 have haS:NdA S1 a (A9 t):=ha.same fun j hj=>by rw[hS1,QD (ha.lt hj)]
 have hla:Ba cx 232 a=some t.length:=by
  rcases ha with⟨h0,rfl⟩|⟨_,tn,rfl,_⟩
  ·rw[← hil,h0];rfl
  ·rw[hil];exact Ahr
 have fS:Fr σ S1 U U1:=(a1.fr.trans f1).trans aS.fr
 have hBS:=hB1.ap aS
 have hkS:Kept kl S1:=hkl.fr fS hklU
 have hkU1:∀ q∈kl,¬ U1 q.1:=fun q hq e=>(fS.own q.1 e).elim (hklU q hq) fun e=>by have:=Ac (hkl q hq);omega
 repeat' simp only[↓wBA,tYm,seval,wH,c3y,hS1.symm,bN,hla]
 refine Ar (X:={ q:Nat×AV // q.1≤t.length }) (fun q=>t.length - q.1.1) (fun q=>[(12,q.1.2),(30,Ad .i64 (q.1.1:Nat))]) [8,9,13,14,15,16,17,31,32,33,34,35,36,37,38,39,40,41,42,43,44,45,46,47,48,49,50,51,52,53,54,55,56,57,58,59,60,61,62,63,64,65,66,67,68,69,70,71,72,73,74,75,76,77,78,79,80,81,82,83,84,85,86,87,88,89,90,91,92,93,94,95,96,97,98,99,100,101,102,103,104,105,106,107,108,109,110] (fun q s=>∃ U' P',Fr S1 s U1 U'∧Bt s b p dd l kh U' P' v∧Kp P P' 0∧Kr s q.1.2 192 3 (((List.range q.1.1).flatMap (Ir lo my (Dm lo my h) t)).map Et)∧(∀ j,Ch q.1.2=some j→S1.length≤j∧¬ U' j)) (⟨(0,.p (.v (.slice none 0 0))),by omega⟩) ?_ ?_ ?_ ?_
 ·simp only[wHl,wHf]
 ·exact⟨U1,P1,Fr.refl _ _,hBS,k1,.inl ⟨rfl,by simp⟩,fun j hj=>by cases hj⟩
 ·rintro _ _ ⟨_,_,h,_⟩;exact h.len
 ·intro y J s hI
  simp only[wHl]
  obtain⟨⟨i,av⟩,hi⟩:=y
  obtain⟨U2,P2,fs,hB2,k2,how,hown⟩:=hI
  dsimp only at*
  have ls:=fs.len
  have hlt2:=hB2.lt
  have nN1:¬ U1 s1.length:=fun e=>by have:=hlt1 _ e;omega
  have cN:=fs.get bN nN1
  have zN:=Ac cN
  have c0:=fs.get b0 n0
  have z0:=Ac c0
  have hi0:=nnI i
  have hkk:=hkS.fr fs hkU1
  have hkU2:∀ q∈kl,¬ U2 q.1:=fun q hq e=>(fs.own q.1 e).elim (hkU1 q hq) fun e=>by have:=Ac (hkS q hq);omega
  by_cases hlt3:i<t.length
  ·have hdec:=dT (i:=i) (n:=t.length) hlt3
   have hw:=wI i (by omega)
   obtain⟨x,hx⟩:∃ x,t[i]? =some x:=⟨t[i],by simp⟩
   have hxm:=QG hx
   have hgx:(A9 t)[i]? =some ⟨x.1,x.2.1⟩:=by simp[A9,hx]
   have hgc:((A9 t).map itC)[i]? =some (itC ⟨x.1,x.2.1⟩):=by simp[hgx]
   rcases haS with⟨h0,_⟩|⟨_,tn,rfl,htn⟩
   ·rw[h0]at hgx;simp at hgx
   have ctn:=fs.get htn (hta tn rfl).2
   have ztn:=Ac ctn
   have hif:((i:Int)<((A9 t).length:Int))=True:=eq_true (by omega)
   obtain⟨S2,hS2⟩:∃ S2,S2=s++[some (Ob.row 4 [itC ⟨x.1,x.2.1⟩])]:=⟨_,rfl⟩
   have aS2:Ap s S2:=⟨_,hS2⟩
   have hS2l:S2.length=s.length+1:=by rw[hS2];simp
   have hkx:Kept kl S2:=fun q hq=>aS2.get (hkk q hq)
   have hmx:=hmy _ x.1.k hkx
   have hxn:∀ q,q∈pgT h x.2.1 x.2.2→q∈pgT (h+1) n t:=fun q hq=>by
    rw[Bz];exact YG _ (YN.2 ⟨x,hxm,hq⟩)
   have hxs:(pgT h x.2.1 x.2.2).Nodup:=by
    rw[Bz]at hnd
    obtain⟨u1,u2,hu⟩:=List.append_of_mem hxm
    rw[hu,Dr,C7]at hnd
    exact (ZD.1 (ZD.1 (ZU.1 hnd).2).2.1).1
   have hacc1:(List.range (i+1)).flatMap (Ir lo my (Dm lo my h) t)=(List.range i).flatMap (Ir lo my (Dm lo my h) t)++(if Hh lo my t i x.1 then []else Dm lo my h x.2.2):=by
    rw[WY,WG]
    simp only[YA,WQ,ZT]
    congr 1
    unfold Ir;rw[hx]
   have hai:=hacc i (by omega)
   have hai1:=hacc (i+1) (by omega)
   have hih:=ih (hB2.ap aS2) (hb.kp k2 (by omega)) (hTr.2 x hxm) hxs (fun q hq=>by rw[k2.pages];exact htk q (hxn q hq)) hkx hkU2
   have d0:=aS2.get c0
   have dN:=aS2.get cN
   have dtn:=aS2.get ctn
   have dx:S2[s.length]? =some (some (Ob.row 4 [itC ⟨x.1,x.2.1⟩])):=by rw[hS2];simp
   have w0:=Ac d0
   have wN:=Ac dN
   have wtn:=Ac dtn
   have wx:=Ac dx
   have hS2':s++[some (Ob.row 4 [[AV.p (PV.sl 1 (Ax x.1.k)),AV.p (PV.v (Value.int IntKind.i64 (x.1.p:Nat))),AV.p (PV.v (Value.int IntKind.i64 (x.1.s:Nat))),AV.p (PV.v (Value.int IntKind.i64 (x.2.1:Nat)))]])]=S2:=hS2.symm
   have hbi:∃ bi,decide ((i:Int)>0)=bi∧decide (0<i)=bi:=⟨decide (0<i),by simp,rfl⟩
   obtain⟨bi,hbi1,hbi2⟩:=hbi
   have hbi3:decide ((0:Int)<(i:Int))=bi:=by rw[← hbi2];simp
   cases bi with
   |false=>
    by_cases hl2:i+1<t.length
    ·obtain⟨y,hy⟩:∃ y,t[i+1]? =some y:=⟨t[i+1],by simp⟩
     have hgy:((A9 t).map itC)[i+1]? =some (itC ⟨y.1,y.2.1⟩):=by simp[A9,hy]
     have hgd:((A9 t).map itC)[i+1]? =some (itC ⟨y.1,y.2.1⟩):=hgy
     have hif2:(((i+1:Nat):Int)<((A9 t).length:Int))=True:=eq_true (by omega)
     have hlb:(((i+1:Nat):Int)==(t.length:Int))=false:=by simp;omega
     have hlb2:decide (((i+1:Nat):Int)=(t.length:Int))=false:=by simp;omega
     have hw1:=wI (i+1) (by omega)
     have hbc:=fun s=>Ai6 (x:=.sl 1 (Ax y.1.k)) (.inl rfl) hlo s
     by_cases hc:Lib.compareBytes y.1.k lo<0
     ·have hd:decide (Lib.compareBytes y.1.k lo<0)=true:=by simpa using hc
      have hd':(Lib.compareBytes y.1.k lo<0)=True:=eq_true hc
      have HSK:Hh lo my t i x.1=true:=by unfold Hh;rw[hy];simp[hc]
      repeat' first|simp only[↓wBA,tYm,seval,wH,wHl,hdec,hi0,hif,hif2,hlb,hgd,hw,ctn,hgc,itC,hS2',dN,dtn,hbi1,hla,hd']|((with_reducible show Aa _ _ _ _ _);refine (hbc _).eq ?_)
      rw[if_pos HSK,ZT]at hacc1
      refine⟨⟨(i+1,av),by omega⟩,by show t.length - (i+1)<t.length - i;omega,⟨U2,P2,fs.trans aS2.fr,hB2.ap aS2,k2,?_,hown⟩,by simp only[]⟩
      dsimp only
      rw[hacc1]
      exact how.same fun j hj=>by rw[hS2,QD (how.lt hj)]
     ·have hd:decide (Lib.compareBytes y.1.k lo<0)=false:=by simpa using hc
      have hd':(Lib.compareBytes y.1.k lo<0)=False:=eq_false hc
      have HSK:¬ Hh lo my t i x.1=true:=by unfold Hh;rw[hy,hbi2];simp[hc]
      repeat' first|simp only[↓wBA,tYm,seval,wH,wHl,hdec,hi0,hif,hif2,hlb,hgd,hw,ctn,hgc,itC,hS2',d0,dN,dtn,dx,hbi1,hla,hd']|((with_reducible show Aa _ _ _ _ _);refine (hbc _).eq ?_)
      rw[if_neg HSK]at hacc1
      rw[hacc1,QE]at hai1
      refine hih.mono ?_
      rintro _ s3 ⟨U3,P3,avl,rfl,f3,hB3,k3,hE⟩
      have l3:=f3.len
      have hlt3':=hB3.lt
      have how1:=how.same (q':=s3) fun j hj=>by
       rw[f3.keep j (by have:=how.lt hj;omega) (hown j hj).2,hS2,QD (how.lt hj)]
      rcases hE with⟨hE1,rfl⟩|⟨hE1,rfl⟩
      ·have e1:=Uz (tk:=s3.length) Eh how1 (by simp only[QL];omega) (by simp only[QL];omega)
       rw[hE1,ZT]at hacc1
       repeat' simp only[↓wBA,tYm,seval,wHl,e1,hw]
       refine⟨⟨(i+1,av),by omega⟩,by show t.length - (i+1)<t.length - i;omega,⟨U3,P3,(fs.trans aS2.fr).trans f3,hB3,k2.trans k3,?_,fun j hj=>⟨(hown j hj).1,fun e=>(f3.own j e).elim (hown j hj).2 fun e=>by have:=how.lt hj;omega⟩⟩,by simp only[]⟩
       dsimp only
       rw[hacc1]
       exact how1
      ·have hmne:(Dm lo my h x.2.2).map Et≠[]:=fun e=>hE1 (YZ.1 e)
       obtain⟨av2,s4,e1,e2,e3,e4,e5⟩:=G3 (y:=.p (.sl 3 ((Dm lo my h x.2.2).map Et))) (m:=(Dm lo my h x.2.2).map Et) Eh how1 (by simp[Lx,Ey]) hmne (by simp only[QL];omega) (by simp only[QL];omega)
       repeat' simp only[↓wBA,tYm,seval,wHl,e1,hw]
       have f4:Fr s3 s4 (fun j=>Ch av=some j) (fun _=>False):=⟨e3,fun j hj hn=>e4 j hj hn,fun j h=>h.elim⟩
       have hnU:∀ j,Ch av=some j→¬ U3 j:=fun j hj e=>(f3.own j e).elim (hown j hj).2 fun e=>by have:=how.lt hj;omega
       refine⟨⟨(i+1,av2),by omega⟩,by show t.length - (i+1)<t.length - i;omega,⟨U3,P3,?_,hB3.frame f4 fun j hj he=>hnU j he hj,k2.trans k3,?_,fun j hj=> ?_⟩,by simp only[]⟩
       ·have f5:=(fs.trans aS2.fr).trans f3
        exact⟨by have:=f5.len;omega,fun j hj hn=>by rw[e4 j (by have:=f5.len;omega) fun e=>by have:=(hown j e).1;omega];exact f5.keep j hj hn,f5.own⟩
       ·dsimp only
        rw[hacc1,ZH];exact e2
       ·rcases e5 j hj with h|h
        ·exact⟨(hown j h).1,hnU j h⟩
        ·exact⟨by have:=fs.len;omega,fun e=>by have:=hlt3' _ e;omega⟩
    ·obtain hl3:i+1=t.length:=by omega
     have hy:t[i+1]? =none:=by simp;omega
     have hgd:True:=trivial
     have hif2:True:=trivial
     have hw1:True:=trivial
     have hd:True:=trivial
     have hd':True:=trivial
     have hlb:(((i+1:Nat):Int)==(t.length:Int))=true:=by simp;omega
     have hlb2:decide (((i+1:Nat):Int)=(t.length:Int))=true:=by simp;omega
     have HSK:¬ Hh lo my t i x.1=true:=by unfold Hh;rw[hy,hbi2];simp
     repeat' simp only[↓wBA,tYm,seval,wH,wHl,hdec,hi0,hif,hlb,hw,ctn,hgc,itC,hS2',d0,dN,dx,hbi1,hla]
     rw[if_neg HSK]at hacc1
     rw[hacc1,QE]at hai1
     refine hih.mono ?_
     rintro _ s3 ⟨U3,P3,avl,rfl,f3,hB3,k3,hE⟩
     have l3:=f3.len
     have hlt3':=hB3.lt
     have how1:=how.same (q':=s3) fun j hj=>by
      rw[f3.keep j (by have:=how.lt hj;omega) (hown j hj).2,hS2,QD (how.lt hj)]
     rcases hE with⟨hE1,rfl⟩|⟨hE1,rfl⟩
     ·have e1:=Uz (tk:=s3.length) Eh how1 (by simp only[QL];omega) (by simp only[QL];omega)
      rw[hE1,ZT]at hacc1
      repeat' simp only[↓wBA,tYm,seval,wHl,e1,hw]
      refine⟨⟨(i+1,av),by omega⟩,by show t.length - (i+1)<t.length - i;omega,⟨U3,P3,(fs.trans aS2.fr).trans f3,hB3,k2.trans k3,?_,fun j hj=>⟨(hown j hj).1,fun e=>(f3.own j e).elim (hown j hj).2 fun e=>by have:=how.lt hj;omega⟩⟩,by simp only[]⟩
      dsimp only
      rw[hacc1]
      exact how1
     ·have hmne:(Dm lo my h x.2.2).map Et≠[]:=fun e=>hE1 (YZ.1 e)
      obtain⟨av2,s4,e1,e2,e3,e4,e5⟩:=G3 (y:=.p (.sl 3 ((Dm lo my h x.2.2).map Et))) (m:=(Dm lo my h x.2.2).map Et) Eh how1 (by simp[Lx,Ey]) hmne (by simp only[QL];omega) (by simp only[QL];omega)
      repeat' simp only[↓wBA,tYm,seval,wHl,e1,hw]
      have f4:Fr s3 s4 (fun j=>Ch av=some j) (fun _=>False):=⟨e3,fun j hj hn=>e4 j hj hn,fun j h=>h.elim⟩
      have hnU:∀ j,Ch av=some j→¬ U3 j:=fun j hj e=>(f3.own j e).elim (hown j hj).2 fun e=>by have:=how.lt hj;omega
      refine⟨⟨(i+1,av2),by omega⟩,by show t.length - (i+1)<t.length - i;omega,⟨U3,P3,?_,hB3.frame f4 fun j hj he=>hnU j he hj,k2.trans k3,?_,fun j hj=> ?_⟩,by simp only[]⟩
      ·have f5:=(fs.trans aS2.fr).trans f3
       exact⟨by have:=f5.len;omega,fun j hj hn=>by rw[e4 j (by have:=f5.len;omega) fun e=>by have:=(hown j e).1;omega];exact f5.keep j hj hn,f5.own⟩
      ·dsimp only
       rw[hacc1,ZH];exact e2
      ·rcases e5 j hj with h|h
       ·exact⟨(hown j h).1,hnU j h⟩
       ·exact⟨by have:=fs.len;omega,fun e=>by have:=hlt3' _ e;omega⟩
   |true=>
    cases hm:my x.1.k with
    |true=>
     rw[hm]at hmx
     by_cases hl2:i+1<t.length
     ·obtain⟨y,hy⟩:∃ y,t[i+1]? =some y:=⟨t[i+1],by simp⟩
      have hgy:((A9 t).map itC)[i+1]? =some (itC ⟨y.1,y.2.1⟩):=by simp[A9,hy]
      have hgd:((A9 t).map itC)[i+1]? =some (itC ⟨y.1,y.2.1⟩):=hgy
      have hif2:(((i+1:Nat):Int)<((A9 t).length:Int))=True:=eq_true (by omega)
      have hlb:(((i+1:Nat):Int)==(t.length:Int))=false:=by simp;omega
      have hlb2:decide (((i+1:Nat):Int)=(t.length:Int))=false:=by simp;omega
      have hw1:=wI (i+1) (by omega)
      have hbc:=fun s=>Ai6 (x:=.sl 1 (Ax y.1.k)) (.inl rfl) hlo s
      by_cases hc:Lib.compareBytes y.1.k lo<0
      ·have hd:decide (Lib.compareBytes y.1.k lo<0)=true:=by simpa using hc
       have hd':(Lib.compareBytes y.1.k lo<0)=True:=eq_true hc
       have HSK:Hh lo my t i x.1=true:=by unfold Hh;rw[hy];simp[hc]
       repeat' first|simp only[↓wBA,tYm,seval,wH,wHl,hdec,hi0,hif,hif2,hlb,hgd,hw,ctn,hgc,itC,hS2',dN,dtn,dx,hbi1,hla,hd']|((with_reducible show Aa _ _ _ _ _);first|refine hmx.eq ?_|refine (hbc _).eq ?_)
       rw[if_pos HSK,ZT]at hacc1
       refine⟨⟨(i+1,av),by omega⟩,by show t.length - (i+1)<t.length - i;omega,⟨U2,P2,fs.trans aS2.fr,hB2.ap aS2,k2,?_,hown⟩,by simp only[]⟩
       dsimp only
       rw[hacc1]
       exact how.same fun j hj=>by rw[hS2,QD (how.lt hj)]
      ·have hd:decide (Lib.compareBytes y.1.k lo<0)=false:=by simpa using hc
       have hd':(Lib.compareBytes y.1.k lo<0)=False:=eq_false hc
       have HSK:¬ Hh lo my t i x.1=true:=by unfold Hh;rw[hy,hbi2];simp[hc,hm]
       repeat' first|simp only[↓wBA,tYm,seval,wH,wHl,hdec,hi0,hif,hif2,hlb,hgd,hw,ctn,hgc,itC,hS2',d0,dN,dtn,dx,hbi1,hla,hd']|((with_reducible show Aa _ _ _ _ _);first|refine hmx.eq ?_|refine (hbc _).eq ?_)
       rw[if_neg HSK]at hacc1
       rw[hacc1,QE]at hai1
       refine hih.mono ?_
       rintro _ s3 ⟨U3,P3,avl,rfl,f3,hB3,k3,hE⟩
       have l3:=f3.len
       have hlt3':=hB3.lt
       have how1:=how.same (q':=s3) fun j hj=>by
        rw[f3.keep j (by have:=how.lt hj;omega) (hown j hj).2,hS2,QD (how.lt hj)]
       rcases hE with⟨hE1,rfl⟩|⟨hE1,rfl⟩
       ·have e1:=Uz (tk:=s3.length) Eh how1 (by simp only[QL];omega) (by simp only[QL];omega)
        rw[hE1,ZT]at hacc1
        repeat' simp only[↓wBA,tYm,seval,wHl,e1,hw]
        refine⟨⟨(i+1,av),by omega⟩,by show t.length - (i+1)<t.length - i;omega,⟨U3,P3,(fs.trans aS2.fr).trans f3,hB3,k2.trans k3,?_,fun j hj=>⟨(hown j hj).1,fun e=>(f3.own j e).elim (hown j hj).2 fun e=>by have:=how.lt hj;omega⟩⟩,by simp only[]⟩
        dsimp only
        rw[hacc1]
        exact how1
       ·have hmne:(Dm lo my h x.2.2).map Et≠[]:=fun e=>hE1 (YZ.1 e)
        obtain⟨av2,s4,e1,e2,e3,e4,e5⟩:=G3 (y:=.p (.sl 3 ((Dm lo my h x.2.2).map Et))) (m:=(Dm lo my h x.2.2).map Et) Eh how1 (by simp[Lx,Ey]) hmne (by simp only[QL];omega) (by simp only[QL];omega)
        repeat' simp only[↓wBA,tYm,seval,wHl,e1,hw]
        have f4:Fr s3 s4 (fun j=>Ch av=some j) (fun _=>False):=⟨e3,fun j hj hn=>e4 j hj hn,fun j h=>h.elim⟩
        have hnU:∀ j,Ch av=some j→¬ U3 j:=fun j hj e=>(f3.own j e).elim (hown j hj).2 fun e=>by have:=how.lt hj;omega
        refine⟨⟨(i+1,av2),by omega⟩,by show t.length - (i+1)<t.length - i;omega,⟨U3,P3,?_,hB3.frame f4 fun j hj he=>hnU j he hj,k2.trans k3,?_,fun j hj=> ?_⟩,by simp only[]⟩
        ·have f5:=(fs.trans aS2.fr).trans f3
         exact⟨by have:=f5.len;omega,fun j hj hn=>by rw[e4 j (by have:=f5.len;omega) fun e=>by have:=(hown j e).1;omega];exact f5.keep j hj hn,f5.own⟩
        ·dsimp only
         rw[hacc1,ZH];exact e2
        ·rcases e5 j hj with h|h
         ·exact⟨(hown j h).1,hnU j h⟩
         ·exact⟨by have:=fs.len;omega,fun e=>by have:=hlt3' _ e;omega⟩
     ·obtain hl3:i+1=t.length:=by omega
      have hy:t[i+1]? =none:=by simp;omega
      have hgd:True:=trivial
      have hif2:True:=trivial
      have hw1:True:=trivial
      have hd:True:=trivial
      have hd':True:=trivial
      have hlb:(((i+1:Nat):Int)==(t.length:Int))=true:=by simp;omega
      have hlb2:decide (((i+1:Nat):Int)=(t.length:Int))=true:=by simp;omega
      have HSK:¬ Hh lo my t i x.1=true:=by unfold Hh;rw[hy,hbi2];simp[hm]
      repeat' first|simp only[↓wBA,tYm,seval,wH,wHl,hdec,hi0,hif,hlb,hw,ctn,hgc,itC,hS2',d0,dN,dx,hbi1,hla]|((with_reducible show Aa _ _ _ _ _);refine hmx.eq ?_)
      rw[if_neg HSK]at hacc1
      rw[hacc1,QE]at hai1
      refine hih.mono ?_
      rintro _ s3 ⟨U3,P3,avl,rfl,f3,hB3,k3,hE⟩
      have l3:=f3.len
      have hlt3':=hB3.lt
      have how1:=how.same (q':=s3) fun j hj=>by
       rw[f3.keep j (by have:=how.lt hj;omega) (hown j hj).2,hS2,QD (how.lt hj)]
      rcases hE with⟨hE1,rfl⟩|⟨hE1,rfl⟩
      ·have e1:=Uz (tk:=s3.length) Eh how1 (by simp only[QL];omega) (by simp only[QL];omega)
       rw[hE1,ZT]at hacc1
       repeat' simp only[↓wBA,tYm,seval,wHl,e1,hw]
       refine⟨⟨(i+1,av),by omega⟩,by show t.length - (i+1)<t.length - i;omega,⟨U3,P3,(fs.trans aS2.fr).trans f3,hB3,k2.trans k3,?_,fun j hj=>⟨(hown j hj).1,fun e=>(f3.own j e).elim (hown j hj).2 fun e=>by have:=how.lt hj;omega⟩⟩,by simp only[]⟩
       dsimp only
       rw[hacc1]
       exact how1
      ·have hmne:(Dm lo my h x.2.2).map Et≠[]:=fun e=>hE1 (YZ.1 e)
       obtain⟨av2,s4,e1,e2,e3,e4,e5⟩:=G3 (y:=.p (.sl 3 ((Dm lo my h x.2.2).map Et))) (m:=(Dm lo my h x.2.2).map Et) Eh how1 (by simp[Lx,Ey]) hmne (by simp only[QL];omega) (by simp only[QL];omega)
       repeat' simp only[↓wBA,tYm,seval,wHl,e1,hw]
       have f4:Fr s3 s4 (fun j=>Ch av=some j) (fun _=>False):=⟨e3,fun j hj hn=>e4 j hj hn,fun j h=>h.elim⟩
       have hnU:∀ j,Ch av=some j→¬ U3 j:=fun j hj e=>(f3.own j e).elim (hown j hj).2 fun e=>by have:=how.lt hj;omega
       refine⟨⟨(i+1,av2),by omega⟩,by show t.length - (i+1)<t.length - i;omega,⟨U3,P3,?_,hB3.frame f4 fun j hj he=>hnU j he hj,k2.trans k3,?_,fun j hj=> ?_⟩,by simp only[]⟩
       ·have f5:=(fs.trans aS2.fr).trans f3
        exact⟨by have:=f5.len;omega,fun j hj hn=>by rw[e4 j (by have:=f5.len;omega) fun e=>by have:=(hown j e).1;omega];exact f5.keep j hj hn,f5.own⟩
       ·dsimp only
        rw[hacc1,ZH];exact e2
       ·rcases e5 j hj with h|h
        ·exact⟨(hown j h).1,hnU j h⟩
        ·exact⟨by have:=fs.len;omega,fun e=>by have:=hlt3' _ e;omega⟩
    |false=>
     rw[hm]at hmx
     have hgd:True:=trivial
     have hif2:True:=trivial
     have hw1:True:=trivial
     have hd:True:=trivial
     have hd':True:=trivial
     have HSK:Hh lo my t i x.1=true:=by unfold Hh;rw[hbi2,hm];rfl
     cases hlb:(((i+1:Nat):Int)==(t.length:Int))with
     |true=>
      have hlb2:decide (((i+1:Nat):Int)=(t.length:Int))=true:=by simpa using hlb
      repeat' first|simp only[↓wBA,tYm,seval,wH,wHl,hdec,hi0,hif,hlb,hw,ctn,hgc,itC,hS2',dN,dx,hbi1,hla]|((with_reducible show Aa _ _ _ _ _);refine hmx.eq ?_)
      rw[if_pos HSK,ZT]at hacc1
      refine⟨⟨(i+1,av),by omega⟩,by show t.length - (i+1)<t.length - i;omega,⟨U2,P2,fs.trans aS2.fr,hB2.ap aS2,k2,?_,hown⟩,by simp only[]⟩
      dsimp only
      rw[hacc1]
      exact how.same fun j hj=>by rw[hS2,QD (how.lt hj)]
     |false=>
      have hlb2:decide (((i+1:Nat):Int)=(t.length:Int))=false:=by simpa using hlb
      repeat' first|simp only[↓wBA,tYm,seval,wH,wHl,hdec,hi0,hif,hlb,hw,ctn,hgc,itC,hS2',dN,dx,hbi1,hla]|((with_reducible show Aa _ _ _ _ _);refine hmx.eq ?_)
      rw[if_pos HSK,ZT]at hacc1
      refine⟨⟨(i+1,av),by omega⟩,by show t.length - (i+1)<t.length - i;omega,⟨U2,P2,fs.trans aS2.fr,hB2.ap aS2,k2,?_,hown⟩,by simp only[]⟩
      dsimp only
      rw[hacc1]
      exact how.same fun j hj=>by rw[hS2,QD (how.lt hj)]
  ·obtain rfl:i=t.length:=by omega
   have hdec:=dF (i:=t.length) (n:=t.length) hlt3
   rcases how with⟨rfl,he⟩|⟨to,rfl,hne,hto⟩
   ·skip
    repeat' simp only[↓wBA,tYm,seval,wHl,hdec]
    all_goals refine rtS ?_
    all_goals simp only[wRe,tYm,seval]
    refine⟨U2,P2,_,rfl,fS.trans fs,hB2,k2,.inl ⟨?_,rfl⟩⟩
    exact YZ.1 he
   ·skip
    repeat' simp only[↓wBA,tYm,seval,wHl,hdec]
    all_goals refine rtS ?_
    all_goals simp only[wRe,tYm,seval]
    exact⟨U2,P2,_,rfl,fS.trans fs,hB2,k2,.inr ⟨to,fun e=>hne (by rw[show (List.range t.length).flatMap (Ir lo my (Dm lo my h) t)=Dm lo my (h+1) t from rfl,e];rfl),rfl⟩⟩
end
def tYn:=aa wX <| aa wbu <| aa T3 <| aa T38 <| aa T70 <| aa T75 T228
theorem Ao9 {b p dd l kh:Nat}{v:Nat→List UInt8}{lo:List UInt8}{lox:PV}{my:List UInt8→Bool}{g:FuncId}{caps:List AV}{kl:List (Nat×Ob)}(hlo:BX lox lo)
 (hmy:∀ (s:St) (k:List UInt8),Kept kl s→Aa Tryz.prog g (.p (.sl 1 (Ax k))::caps) s fun r s'=>s'=s∧r=Av (my k)):∀ (h:Nat) {σ:St} {U:Nat→Prop} {P:Ak} {n:Nat} {t:BTr h},Bt σ b p dd l kh U P v→Bud P 1→Hg v h n t→(pgT h n t).Nodup→(∀ q∈pgT h n t,q<P.pages)→Kept kl σ→(∀ q∈kl,¬ U q.1)→
  Aa Tryz.prog 145 [.agg [.mp b 2 0 0],Ad .i64 (n:Nat),.p lox,.fn g [] caps] σ fun r σ'=>Il h t lo my σ b p dd l kh U P v r σ'
 |0,σ,U,P,n,t,hB,hb,hTr,hnd,htk,hkl,hklU=>Aff hB hb (htk n (Fo 0 n t)) hTr hlo hkl hklU hmy
 |h+1,σ,U,P,n,t,hB,hb,hTr,hnd,htk,hkl,hklU=>Afg hB hb hTr hnd htk hlo hkl hklU hmy fun a1 a2 a3 a4 a5 a6 a7=>Ao9 hlo hmy h a1 a2 a3 a4 a5 a6 a7
theorem Amw {σ:St}{th:Nat}{hix:PV}{hi k:List UInt8}(hhi:BX hix hi)(hth:σ[th]? =some (some (.row 1 [[.p hix]]))):Aa Tryz.prog 146 [.p (.sl 1 (Ax k)),.mp th 1 0 0] σ fun r s=>s=σ∧r=Av (decide (Lib.compareBytes k hi≤0)):=by
 have yth:=Ac hth
 have hbc:=fun s=>Ai6 (x:=.sl 1 (Ax k)) (.inl rfl) hhi s
 refine Ab Am An Tryz.func146 (by kernel_rfl) rfl (nt:=6) (rs:=[.tmp 3]) rfl rfl ?_
 repeat' first|simp only[↓wBA,tYn,seval,hth]|((with_reducible show Aa _ _ _ _ _);refine (hbc _).eq ?_)
 all_goals refine rtS ?_
 all_goals simp only[wRe,tYn,seval]
section
variable {σ:St} {b p dd l kh n h:Nat} {U:Nat→Prop} {P:Ak} {v:Nat→List UInt8} {T:Nat→Bool}
theorem Are {lo hi:List UInt8}{lox hix:PV}{t:BTr h}(hB:Bt σ b p dd l kh U P v)(hb:Bud P 1)(hR:Lh v T P.pages n h t)(hlo:BX lox lo)(hhi:BX hix hi):
 Aa Tryz.prog 97 [.mp b 2 0 0,Ad .i64 (n:Nat),.p lox,.p hix] σ fun r σ'=>Il h t lo (fun k=>decide (Lib.compareBytes k hi≤0)) σ b p dd l kh U P v r σ':=by
 have hlt:=hB.lt
 have a1:=Ap.app σ [some (Ob.row 1 [[AV.p hix]])]
 have hk:Kept [(σ.length,Ob.row 1 [[AV.p hix]])] (σ++[some (Ob.row 1 [[AV.p hix]])]):=fun q hq=>by
  simp only[ZR]at hq;subst hq;simp
 refine Ab Am An Tryz.func97 (by kernel_rfl) rfl (nt:=16) (rs:=[.tmp 8,.tmp 9]) rfl rfl ?_
 repeat' simp only[↓wBA,tYn,seval,wH]
 refine (Ao9 (kl:=[(σ.length,Ob.row 1 [[AV.p hix]])]) (my:=fun k=>decide (Lib.compareBytes k hi≤0)) hlo (fun s k hs=>Amw hhi (hs _ (ZR.2 rfl))) h (hB.ap a1) hb hR.tr hR.nd (fun q hq=>(hR.tk q hq).2.1) hk (fun q hq e=>by simp only[ZR]at hq;subst hq;have:=hlt _ e;omega)).mono ?_
 rintro _ s1 ⟨U1,P1,av,rfl,f1,hB1,k1,hE⟩
 have q1:=f1.len
 simp only[QE,QF,QI]at q1
 repeat' simp only[↓wBA,tYn,seval]
 all_goals refine rtS ?_
 all_goals simp only[wRe,tYn,seval]
 exact⟨U1,P1,av,rfl,a1.fr.trans f1,hB1,k1,hE⟩
theorem Amx {v:Nat→List UInt8}{T:Nat→Bool}{np n:Nat}(hv:v n=Fg 2)(h1:1≤n)(h2:n<np)(h3:T n=true):Lh v T np n 0 ([]:List Ent):=by
 refine⟨?_,by simp[pgT],fun q hq=> ?_,?_⟩
 ·have:=(E6 (kd:=2) (l:=[]) (.inl rfl) (by simp) (by simp[szL])).2
  rw[show (Hx 2 []).1=Fg 2 from rfl,←hv]at this
  exact this
 ·simp only[pgT,ZR]at hq;subst hq;exact⟨h1,h2,h3⟩
 ·exact⟨List.Pairwise.nil,fun e he=>by simp at he⟩
theorem Aw7 (hB:Bt σ b p dd l kh U P v)(hT:Tk (v 0) P.pages T)(hnp:P.pages≤3200)(hnp1:1≤P.pages)(hT0:T 0=true)(hb:Bud P 1):
 Aa Tryz.prog 82 [.mp b 2 0 0] σ fun r σ'=>∃ U' P' v',Fr σ σ' U U'∧Bt σ' b p dd l kh U' P' v'∧Kp P P' 0∧
  ((∃ n,T n=false∧r= .tup [Ad .i64 (n:Nat),Ad .i64 0]∧(∀ m,m≠n→m≠0→v' m=v m)∧Tk (v' 0) P.pages (D3 T n true)∧D3 T n true 0=true∧Lh v' (D3 T n true) P.pages n 0 ([]:List Ent))∨((∀ n,n<P.pages→T n=true)∧r= .tup [Ad .i64 0,Ad .i64 20]∧v'=v)):=by
 refine Ab Am An Tryz.func82 (by kernel_rfl) rfl (nt:=9) (rs:=[.tmp 2,.tmp 3]) rfl rfl ?_
 repeat' simp only[↓wBA,tYn,seval]
 refine (Uk (kind:=2) hB hT hnp hnp1 hT0 hb).mono ?_
 rintro r s1 ⟨U1,P1,v1,f1,hB1,k1,h1⟩
 have q1:=f1.len
 rcases h1 with⟨n,m1,m2,m3,rfl,m4,m5,m6⟩|⟨m1,rfl,m2⟩
 ·skip
  repeat' simp only[↓wBA,tYn,seval]
  all_goals refine rtS ?_
  all_goals simp only[wRe,tYn,seval]
  exact⟨U1,P1,v1,f1,hB1,k1,.inl ⟨n,m3,rfl,m5,m6,by unfold D3;split<;>simp_all,Amx m4 m1 m2 (by simp[D3])⟩⟩
 ·skip
  repeat' simp only[↓wBA,tYn,seval]
  all_goals refine rtS ?_
  all_goals simp only[wRe,tYn,seval]
  exact⟨U1,P1,v1,f1,hB1,k1,.inr ⟨m1,m2⟩⟩
end
abbrev Aw8:=(Nat→List UInt8)→(Nat→Bool)→Nat→Nat→List Nat→List Ent→Prop
structure Kd where
 mkF:FuncId
 ins:FuncId
 tool:AV
 I:Aw8
 B:Nat→Nat
structure Mv (v v':Nat→List UInt8)(T T':Nat→Bool)(np:Nat)(ps ps':List Nat):Prop where
 w:Od v v' T T' np ps ps'
 sub:∀ q∈ps,q∈ps'
 tt:∀ q,T' q=true→T q=true∨q∈ps'
structure KdOk (k:Kd):Prop where
 tl:∃ d,k.tool= .agg [.fn k.mkF [] [],.fn k.ins [] [],.fn d [] []]
 pg:∀ {v:Nat→List UInt8} {T:Nat→Bool} {np root:Nat} {ps:List Nat} {L:List Ent},k.I v T np root ps L→ps.Nodup∧(∀ q∈ps,1≤q∧q<np∧T q=true)∧ps.length≤k.B L.length
 oth:∀ {v v':Nat→List UInt8} {T T':Nat→Bool} {np root:Nat} {ps:List Nat} {L:List Ent},k.I v T np root ps L→(∀ q∈ps,v' q=v q)→(∀ q∈ps,T' q=true)→k.I v' T' np root ps L
 mono:∀ a b,a≤b→k.B a≤k.B b
 mkC:∀ {σ:St} {b p dd l kh:Nat} {U:Nat→Prop} {P:Ak} {v:Nat→List UInt8} {T:Nat→Bool},Bt σ b p dd l kh U P v→Tk (v 0) P.pages T→P.pages≤3200→T 0=true→Bud P 1→cnt T P.pages+k.B 0≤P.pages→
  Aa Tryz.prog k.mkF [.mp b 2 0 0] σ fun r σ'=>∃ (root:Nat) (ps:List Nat) (U':Nat→Prop) (P':Ak) (v':Nat→List UInt8) (T':Nat→Bool),r= .tup [Ad .i64 (root:Nat),Ad .i64 0]∧Fr σ σ' U U'∧Bt σ' b p dd l kh U' P' v'∧Kp P P' 0∧Mv v v' T T' P.pages [] ps∧k.I v' T' P.pages root ps []
 insC:∀ {σ:St} {b p dd l kh root:Nat} {U:Nat→Prop} {P:Ak} {v:Nat→List UInt8} {T:Nat→Bool} {ps:List Nat} {L:List Ent} {e:Ent},Bt σ b p dd l kh U P v→Tk (v 0) P.pages T→P.pages≤3200→T 0=true→Bud P 1→k.I v T P.pages root ps L→e.ok→e∉L→L.length≤60→cnt T P.pages+k.B (L.length+1)≤P.pages→
  Aa Tryz.prog k.ins [.mp b 2 0 0,Ad .i64 (root:Nat),.p (.sl 1 (Ax e.k)),.agg [Ad .i64 (e.p:Nat),Ad .i64 (e.s:Nat)]] σ fun r σ'=>r=Ad .i64 0∧∃ (ps':List Nat) (U':Nat→Prop) (P':Ak) (v':Nat→List UInt8) (T':Nat→Bool) (L':List Ent),Fr σ σ' U U'∧Bt σ' b p dd l kh U' P' v'∧Kp P P' 0∧Mv v v' T T' P.pages ps ps'∧k.I v' T' P.pages root ps' L'∧L'.Perm (e::L)
structure Ixx where
 x:Idx
 root:Nat
 ps:List Nat
 kd:Kd
 L:List Ent
def psX (X:List Ixx):List Nat:=X.flatMap Ixx.ps
theorem Vb (X1 X2:List Ixx)(y:Ixx):psX (X1++y::X2)=psX X1++(y.ps++psX X2):=by simp[psX]
theorem Jm {X:List Ixx}{q:Nat}:q∈psX X↔∃ x∈X,q∈x.ps:=YN
structure Sto (v:Nat→List UInt8)(T:Nat→Bool)(np:Nat)(ns:List Nat)(R:List (Nat×Nat×List UInt8))(X:List Ixx):Prop where
 hp:Nn v T np ns
 pm:(Jn v ns).Perm R
 kd:∀ x∈X,KdOk x.kd
 ix:∀ x∈X,x.kd.I v T np x.root x.ps x.L
 nd:(ns++psX X).Nodup
 on:∀ q,T q=true→q=0∨q∈ns∨q∈psX X
section
variable {v v':Nat→List UInt8} {T T':Nat→Bool} {np:Nat} {ns ns':List Nat} {R:List (Nat×Nat×List UInt8)} {X X1 X2:List Ixx}
theorem Arf {A B C C':List Nat}(h:(A++(C++B)).Nodup)(hC:C'.Nodup)(hn:∀ q∈C',q∈C∨(q∉A∧q∉B)):(A++(C'++B)).Nodup:=by
 obtain⟨h1,h2,h3⟩:=ZD.1 h
 obtain⟨h4,h5,h6⟩:=ZD.1 h2
 refine ZD.2 ⟨h1,ZD.2 ⟨hC,h5,fun a ha b hb e=> ?_⟩,fun a ha b hb e=> ?_⟩
 ·subst e
  rcases hn a ha with h|h
  ·exact h6 a h a hb rfl
  ·exact h.2 hb
 ·subst e
  rcases QS.1 hb with hb|hb
  ·rcases hn a hb with h|h
   ·exact h3 a ha a (by simp[h]) rfl
   ·exact h.1 ha
  ·exact h3 a ha a (by simp[hb]) rfl
theorem Ac9 {ps:List Nat}{y:Ixx}(hp:Nn v T np ns)(pm:(Jn v ns).Perm R)(kd:∀ x∈X1++X2,KdOk x.kd)(ix:∀ x∈X1++X2,x.kd.I v T np x.root x.ps x.L)(nd:(ns++(psX X1++(ps++psX X2))).Nodup)(on:∀ q,T q=true→q=0∨q∈ns∨q∈psX X1∨q∈ps∨q∈psX X2)
 (g:Mv v v' T T' np ps y.ps) (hk:KdOk y.kd) (hI:y.kd.I v' T' np y.root y.ps y.L):Sto v' T' np ns R (X1++y::X2):=by
 have hTn:∀ q∈ns,T q=true∧q≠0:=fun q hq=>by have:=hp.tk q hq;exact⟨this.2.2,by omega⟩
 have hTx:∀ x∈X1++X2,∀ q∈x.ps,T q=true∧q≠0:=fun x hx q hq=>by have:=((kd x hx).pg (ix x hx)).2.1 q hq;exact⟨this.2.2,by omega⟩
 have hnn:∀ q∈ns,q∉ps:=fun q hq hq'=>(ZD.1 nd).2.2 q hq q (by simp[hq']) rfl
 have hnd2:=(ZD.1 nd).2.1
 have hx1:∀ x∈X1++X2,∀ q∈x.ps,q∉ps:=fun x hx q hq hq'=>by
  rcases QS.1 hx with h|h
  ·exact (ZD.1 hnd2).2.2 q (Jm.2 ⟨x,h,hq⟩) q (by simp[hq']) rfl
  ·exact (ZD.1 (ZD.1 hnd2).2.1).2.2 q hq' q (Jm.2 ⟨x,h,hq⟩) rfl
 obtain⟨o1,o2⟩:=hp.other (v':=v') (T':=T') (fun q hq=>g.w.oth q (hnn q hq) (hTn q hq).1 (hTn q hq).2) fun q hq=>by rw[(hTn q hq).1];exact g.w.mono q (hTn q hq).1
 refine⟨o1,?_,fun x hx=> ?_,fun x hx=> ?_,?_,fun q hq=> ?_⟩
 ·rw[Afd fun q hq=>g.w.oth q (hnn q hq) (hTn q hq).1 (hTn q hq).2];exact pm
 ·rcases QS.1 hx with h|h
  ·exact kd x (by simp[h])
  ·rcases QP.1 h with rfl|h
   ·exact hk
   ·exact kd x (by simp[h])
 ·have old:∀ x∈X1++X2,x.kd.I v' T' np x.root x.ps x.L:=fun x hx=>(kd x hx).oth (ix x hx) (fun q hq=>g.w.oth q (hx1 x hx q hq) (hTx x hx q hq).1 (hTx x hx q hq).2) fun q hq=>g.w.mono q (hTx x hx q hq).1
  rcases QS.1 hx with h|h
  ·exact old x (by simp[h])
  ·rcases QP.1 h with rfl|h
   ·exact hI
   ·exact old x (by simp[h])
 ·rw[Vb,←QX]
  rw[← QX]at nd
  refine Arf nd g.w.nd fun q hq=>(g.w.own q hq).imp id fun h=>⟨fun e=> ?_,fun e=> ?_⟩
  ·rcases QS.1 e with e|e
   ·rw[(hTn q e).1]at h;cases h
   ·obtain⟨x,h1,h2⟩:=Jm.1 e
    rw[(hTx x (by simp[h1]) q h2).1]at h;cases h
  ·obtain⟨x,h1,h2⟩:=Jm.1 e
   rw[(hTx x (by simp[h1]) q h2).1]at h;cases h
 ·rw[Vb]
  simp only[QS]
  rcases g.tt q hq with h|h
  ·rcases on q h with h|h|h|h|h
   ·exact .inl h
   ·exact .inr (.inl h)
   ·exact .inr (.inr (.inl h))
   ·exact .inr (.inr (.inr (.inl (g.sub q h))))
   ·exact .inr (.inr (.inr (.inr h)))
  ·exact .inr (.inr (.inr (.inl h)))
theorem Sto.ins {y:Ixx}{ps':List Nat}{L':List Ent}(h:Sto v T np ns R (X1++y::X2))(g:Mv v v' T T' np y.ps ps')(hI:y.kd.I v' T' np y.root ps' L'):Sto v' T' np ns R (X1++⟨y.x,y.root,ps',y.kd,L'⟩::X2):=by
 have hs:∀ x∈X1++X2,x∈X1++y::X2:=fun x hx=>by
  rcases QS.1 hx with h|h<;>simp[h]
 have nd:=h.nd
 rw[Vb]at nd
 exact Ac9 (ps:=y.ps) h.hp h.pm (fun x hx=>h.kd x (hs x hx)) (fun x hx=>h.ix x (hs x hx)) nd (fun q hq=>by have:=h.on q hq;rw[Vb]at this;simpa using this) g (h.kd y (by simp)) hI
theorem Sto.add {x:Idx}{root:Nat}{ps:List Nat}{kd:Kd}{L:List Ent}(h:Sto v T np ns R X)(g:Mv v v' T T' np [] ps)(hk:KdOk kd)(hI:kd.I v' T' np root ps L):Sto v' T' np ns R (X++[⟨x,root,ps,kd,L⟩]):=by
 refine Ac9 (X1:=X) (X2:=[]) (ps:=[]) (y:=⟨x,root,ps,kd,L⟩) h.hp h.pm (by simpa using h.kd) (by simpa using h.ix) (by simpa [psX]using h.nd) (fun q hq=> ?_) g hk hI
 rcases h.on q hq with h|h|h
 ·exact .inl h
 ·exact .inr (.inl h)
 ·exact .inr (.inr (.inl h))
theorem Sto.more {n k:Nat}{r:List UInt8}(h:Sto v T np ns R X)(g:InsR v v' T T' np ns ns' n k r):Sto v' T' np ns' ((n,k,r)::R) X∧ns'.length≤ns.length+1:=by
 have hsub:∀ q∈ns,q∈ns':=fun q hq=>by
  rcases g.pages with⟨e,_⟩|⟨m,_,_,e,_⟩<;>rw[e]<;>simp[hq]
 have hmono:∀ q,T q=true→T' q=true:=fun q hq=>by
  rcases g.pages with⟨_,e,_⟩|⟨m,_,_,_,e⟩
  ·rw[e];exact hq
  ·rw[e];unfold D3;split
   ·rfl
   ·exact hq
 have hnew:∀ q∈ns',q∈ns∨T q=false:=fun q hq=>by
  rcases g.pages with⟨e,_⟩|⟨m,hm,_,e,_⟩
  ·rw[e]at hq;exact .inl hq
  ·rw[e]at hq
   rcases QS.1 hq with h|h
   ·exact .inl h
   ·simp only[ZR]at h;subst h;exact .inr hm
 have hTx:∀ x∈X,∀ q∈x.ps,T q=true∧q≠0:=fun x hx q hq=>by have:=((h.kd x hx).pg (h.ix x hx)).2.1 q hq;exact⟨this.2.2,by omega⟩
 have hxn:∀ x∈X,∀ q∈x.ps,q∉ns':=fun x hx q hq hq'=>by
  rcases hnew q hq' with e|e
  ·exact (ZD.1 h.nd).2.2 q e q (Jm.2 ⟨x,hx,hq⟩) rfl
  ·rw[(hTx x hx q hq).1]at e;cases e
 refine⟨⟨g.heap,(Ams h.hp g.heap g.old g.get).trans (h.pm.cons _),h.kd,fun x hx=>(h.kd x hx).oth (h.ix x hx) (fun q hq=>g.oth q (hxn x hx q hq) (hTx x hx q hq).2) (fun q hq=>hmono q (hTx x hx q hq).1),?_,fun q hq=> ?_⟩,?_⟩
 ·refine ZD.2 ⟨g.heap.nd,(ZD.1 h.nd).2.1,fun a ha b hb e=> ?_⟩
  subst e
  obtain⟨x,h1,h2⟩:=Jm.1 hb
  exact hxn x h1 a h2 ha
 ·have:T q=true∨q∈ns':=by
   rcases g.pages with⟨_,e,_⟩|⟨m,_,_,e1,e⟩
   ·rw[e]at hq;exact .inl hq
   ·rw[e]at hq;unfold D3 at hq;split at hq
    ·rename_i e2;right;rw[e1,e2];simp
    ·exact .inl hq
  rcases this with e|e
  ·rcases h.on q e with h|h|h
   ·exact .inl h
   ·exact .inr (.inl (hsub q h))
   ·exact .inr (.inr h)
  ·exact .inr (.inl e)
 ·rcases g.pages with⟨e,_⟩|⟨m,_,_,e,_⟩<;>rw[e]<;>simp
def sumB:List Ixx→Nat
 |[]=>0
 |x::X=>x.kd.B x.L.length+sumB X
theorem Apa:∀ (X:List Ixx),(∀ x∈X,x.ps.length≤x.kd.B x.L.length)→(psX X).length≤sumB X
 |[],_=>QH _
 |x::X,h=>by
  have h1:=Apa X fun y hy=>h y (by simp[hy])
  have h2:=h x (by simp)
  show (x.ps++psX X).length≤_
  rw[QE,sumB];omega
theorem Sto.cnt (h:Sto v T np ns R X):cnt T np≤1+ns.length+sumB X:=by
 have h0:Go.Proofs.YtpoigihfeehehaaGreatDoor.cnt (fun _=>false) np=0:=by
  clear h
  induction np with
  |zero=>rfl
  |succ k ih=>simp[Go.Proofs.YtpoigihfeehehaaGreatDoor.cnt,ih]
 have h1:=cntL (0::(ns++psX X)) (T:=fun _=>false) (T':=T) (fun q hq=>.inr (by have:=h.on q hq;simpa using this)) np
 have h2:=Apa X fun x hx=>((h.kd x hx).pg (h.ix x hx)).2.2
 rw[h0,QF,QE]at h1
 omega
end
def Qr (c:Nat)(x:Ver):Ent:=⟨Gj (x.2.2.getD c (0,0,emp)),x.1.1,x.1.2⟩
instance (x y:Ver):Decidable (ltV x y):=by unfold ltV;infer_instance
def insV (e:Ver):List Ver→List Ver
 |[]=>[e]
 |x::E=>if ltV e x then e::x::E else x::insV e E
theorem Ll (e:Ver):∀ E:List Ver,(insV e E).Perm (e::E)
 |[]=>List.Perm.refl _
 |x::E=>by
  unfold insV
  split
  ·exact List.Perm.refl _
  ·exact ((Ll e E).cons x).trans (List.Perm.swap e x E)
theorem Yn {e:Ver}:∀ {E:List Ver},E.Pairwise ltV→(∀ x∈E,¬ (x.1=e.1))→(insV e E).Pairwise ltV
 |[],_,_=>by simp[insV]
 |x::E,h,hn=>by
  obtain⟨h1,h2⟩:=YJ.1 h
  unfold insV
  split
  ·rename_i hl
   refine YJ.2 ⟨fun y hy=> ?_,h⟩
   rcases QP.1 hy with rfl|hy
   ·exact hl
   ·have:=h1 y hy
    unfold ltV at hl this ⊢;omega
  ·rename_i hl
   refine YJ.2 ⟨fun y hy=> ?_,Yn h2 fun y hy=>hn y (by simp[hy])⟩
   rcases QP.1 ((Ll e E).mem_iff.1 hy)with rfl|hy
   ·have:=hn x (by simp)
    have h3:¬ (x.1.1=y.1.1∧x.1.2=y.1.2):=fun ⟨a,b⟩=>this (VK a b)
    unfold ltV at hl ⊢;omega
   ·exact h1 y hy
def lsP (e:Nat)(ls:List (List PV)):PV:=if ls=[]then .v (.slice none 0 0)else .sl e ls
def Of (nm:ByteArray)(cols:List (List PV))(X:List Ixx)(first:Nat):AV:=tabA (.v (.string nm)) (.sl 4 cols) (lsP 4 (X.map fun x=>Fv x.x)) first (lsP 1 (X.map fun x=>[.v (.int .i64 (x.root:Nat))]))
def Lm (x:Ixx):Idx×Nat×Kd:=(x.x,x.root,x.kd)
def Mw (X:List Ixx)(n:Nat):Nat:=(X.map fun x=>x.kd.B n).sum
structure Tab (v:Nat→List UInt8)(T:Nat→Bool)(np first:Nat)(ns:List Nat)(E:List Ver)(X:List Ixx)(w:Nat):Prop where
 st:Sto v T np ns (E.map Q5) X
 f:ns[0]? =some first
 ok:∀ x∈E,x.Ok∧x.2.2.length=w
 so:E.Pairwise ltV
 col:∀ x∈X,x.x.2.2.1<w
 ent:∀ x∈X,x.L.Perm (E.map (Qr x.x.2.2.1))
 nl:ns.length≤E.length+1
theorem Tab.th {v:Nat→List UInt8}{T:Nat→Bool}{np first w:Nat}{ns:List Nat}{E:List Ver}{X:List Ixx}(h:Tab v T np first ns E X w):TabH v T np ns E:=⟨h.st.hp,h.st.pm,fun x hx=>(h.ok x hx).1,h.so⟩
theorem Vd {n:Nat}:∀ {X:List Ixx},(∀ x∈X,KdOk x.kd∧x.L.length≤n)→sumB X≤Mw X n
 |[],_=>QH _
 |x::X,h=>by
  have h1:=Vd (X:=X) fun y hy=>h y (by simp[hy])
  have h2:=(h x (by simp)).1.mono _ _ (h x (by simp)).2
  simp only[sumB,Mw,QK,XI]at*
  omega
theorem Yo {n m:Nat}(hnm:n≤m):∀ {X:List Ixx},(∀ x∈X,KdOk x.kd)→Mw X n≤Mw X m
 |[],_=>QH _
 |x::X,h=>by
  have h1:=Yo hnm (X:=X) fun y hy=>h y (by simp[hy])
  have h2:=(h x (by simp)).mono _ _ hnm
  simp only[Mw,QK,XI]at*
  omega
theorem Ada {n:Nat}:∀ {X:List Ixx} {x:Ixx},x∈X→x.kd.B n≤Mw X n
 |y::X,x,h=>by
  simp only[Mw,QK,XI]
  rcases QP.1 h with rfl|h
  ·omega
  ·have:=Ada (n:=n) h
   simp only[Mw]at this
   omega
theorem Amy {n:Nat}{X Y:List Ixx}(h:X.map Lm=Y.map Lm):Mw X n=Mw Y n:=by
 have:∀ X:List Ixx,Mw X n=((X.map Lm).map fun q=>q.2.2.B n).sum:=fun X=>by unfold Mw;rw[XV];rfl
 rw[this,this,h]
theorem Amz {nm:ByteArray}{cols:List (List PV)}{first:Nat}{X Y:List Ixx}(h:X.map Lm=Y.map Lm):Of nm cols X first=Of nm cols Y first:=by
 have h1:∀ X:List Ixx,(X.map fun x=>Fv x.x)=(X.map Lm).map fun q=>Fv q.1:=fun X=>by rw[XV];rfl
 have h2:∀ X:List Ixx,(X.map fun x=>[PV.v (.int .i64 (x.root:Nat))])=(X.map Lm).map fun q=>[PV.v (.int .i64 (q.2.1:Nat))]:=fun X=>by rw[XV];rfl
 unfold Of
 rw[h1,h1 Y,h2,h2 Y,h]
theorem Tab.cnt {v:Nat→List UInt8}{T:Nat→Bool}{np first w:Nat}{ns:List Nat}{E:List Ver}{X:List Ixx}(h:Tab v T np first ns E X w):Go.Proofs.YtpoigihfeehehaaGreatDoor.cnt T np≤2+E.length+Mw X E.length:=by
 have h1:=h.st.cnt
 have h2:=Vd (n:=E.length) fun x hx=>⟨h.st.kd x hx,by rw[(h.ent x hx).length_eq,QL];omega⟩
 have:=h.nl
 omega
