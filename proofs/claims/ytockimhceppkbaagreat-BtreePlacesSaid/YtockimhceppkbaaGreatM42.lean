/- Trees: entries from a key on, in memory of one's own: a leaf. Trees: entries from a key on, in memory of one's own: inner pages (printed by genUd.py). Trees: Range in memory of one's own; Range and All of trees that entries were taken out of. -/
import Derived.Test.YtockimhceppkbaaGreatM41
set_option linter.unusedSimpArgs false
set_option linter.unusedVariables false
set_option linter.defProp false
set_option maxRecDepth 100000
set_option maxHeartbeats 32000000
namespace Go.Proofs.YtockimhceppkbaaGreat
open Go.RowKit
open List (append_nil getElem?_append_left length_append length_cons length_map length_nil length_set map_append mem_map mem_singleton nodup_append)
def pl43_10Uc:Plan:=(.det 0 (.det 1 (.det 2 (.det 3 (.det 5 (.det 6 (.det 7 (.act 4 (.det 8 (.fin 9 (.fin 10 (.det 11 .done))))))))))))
def tUc:=aa wX <| aa wbu <| aa T3 <| aa T4 <| aa T25 <| aa T35 <| aa T37 <| aa T40 <| aa T48 <| aa T86 <| aa T90 <| aa T92 <| aa T97 T109
def FromPostM (h:Nat)(t:BTr h)(lo:List UInt8)(my:List UInt8→Bool)(σ:St)(b p dd l kh:Nat)(U:Nat→Prop)(P:PoolV)(v:Nat→List UInt8)(r:AV)(σ':St):Prop:=
 ∃ U' P' av L,r= .tup [av,intV .i64 0]∧Fr σ σ' U U'∧Bt σ' b p dd l kh U' P' v∧Kp P P' 0∧L.map Prod.snd=fromF lo my h t∧EntM σ' av L σ.length∧(∀ q∈L,¬ U' q.1)∧∀ t,msOf' av=some t→¬ U' t
theorem EntM.lt {s:St}{av:AV}{L:List (Nat×Ent)}{n0 t:Nat}(h:EntM s av L n0)(ht:msOf' av=some t):n0≤t∧t<s.length:=by
 rcases h.av with⟨_,rfl⟩|⟨_,t',rfl,h1,h2,_⟩
 ·simp[msOf']at ht
 ·simp only[msOf',Option.some.injEq]at ht
  subst ht;exact⟨h2,at_lt h1⟩
section
variable {σ:St} {b p dd l kh n:Nat} {U:Nat→Prop} {P:PoolV} {v:Nat→List UInt8} {T:Nat→Bool}
theorem atFromLeafM {lo:List UInt8}{lox:PV}{my:List UInt8→Bool}{g:FuncId}{caps:List AV}{kl:List (Nat×Ob)}{t:List Ent}(hB:Bt σ b p dd l kh U P v)(hb:Bud P 1)(hn:n<P.pages)(hN:NodeP (v n) 2 (its0 t))(hne:∀ e∈t,e.k≠[])(hlo:BX lox lo)(hkl:Kept kl σ)(hklU:∀ q∈kl,¬ U q.1)
 (hmy:∀ (s:St) (k:List UInt8),Kept kl s→ACalls Tryz.prog g (.p (.sl 1 (encB k))::caps) s fun r s'=>s'=s∧r=boolV (my k)):
 ACalls Tryz.prog 43 [.agg [.mp b 2 0 0],intV .i64 (n:Nat),.p lox,.fn g [] caps] σ fun r σ'=>FromPostM 0 t lo my σ b p dd l kh U P v r σ':=by
 have hlt:=hB.lt
 have hl49:=hN.n
 have hil:(its0 t).length=t.length:=by simp[its0]
 refine acalls_of cxE_ok drE_ok Tryz.func43 (by kernel_rfl) rfl (nt:=108) (rs:=[.tmp 8,.tmp 9]) rfl rfl ?_
 repeat' first|((with_reducible first|apply cs|apply ws|apply wd|apply wu)<;>intro h<;>try simp only[h])|simp only[↓wBA,tUc,convA,seval,pl43_10Uc,wH,kindE,tyE,mutsE,lenE]|(with_reducible refine dQ pl43_10Uc 12 (some 51) ?_)
 have a1:=Ap.app σ [some (Ob.row 1 [[AV.mp b 2 0 0]])]
 refine (atRead (hB.ap a1) hn hN hb).mono ?_
 rintro _ s1 ⟨U1,P1,a,rfl,f1,hB1,k1,ha,hta⟩
 have q1:=f1.len
 simp only[length_append,length_cons,length_nil]at q1
 have hlt1:=hB1.lt
 have hlf:=ha.x.leaf
 have hcc:=ha.x.cells
 obtain⟨S1,hS1⟩:∃ S1,S1=s1++[some (Ob.row 2 [[AV.p (.v (.int .i64 2)),a]])]:=⟨_,rfl⟩
 have aS:Ap s1 S1:=⟨_,hS1⟩
 have hS1l:S1.length=s1.length+1:=by rw[hS1];simp
 have bN:S1[s1.length]? =some (some (Ob.row 2 [[AV.p (.v (.int .i64 2)),a]])):=by rw[hS1];simp
 have yN:=at_lt bN
 have haS:NdA S1 a (its0 t):=ha.same fun j hj=>by rw[hS1,getElem?_append_left (ha.lt hj)]
 have hla:lenA cx 90 a=some t.length:=by
  rcases ha with⟨h0,rfl⟩|⟨_,tn,rfl,_⟩
  ·rw[← hil,h0];rfl
  ·rw[hil];exact km_90
 have fS:Fr σ S1 U U1:=(a1.fr.trans f1).trans aS.fr
 have hBS:=hB1.ap aS
 have hkS:Kept kl S1:=hkl.fr fS hklU
 have hkU1:∀ q∈kl,¬ U1 q.1:=fun q hq e=>(fS.own q.1 e).elim (hklU q hq) fun e=>by have:=at_lt (hkl q hq);omega
 repeat' first|((with_reducible first|apply cs|apply ws|apply wd|apply wu)<;>intro h<;>try simp only[h])|simp only[↓wBA,tUc,convA,seval,pl43_10Uc,wH,kindE,tyE,mutsE,lenE,c2y,hlf,hcc,hS1.symm,bN,yN,hla]|(with_reducible refine dQ pl43_10Uc 12 (some 51) ?_)
 refine awp_loopS (X:={ q:Nat×AV // q.1≤t.length }) (fun q=>t.length - q.1.1) (fun q=>[(12,q.1.2),(30,intV .i64 (q.1.1:Nat))]) [8,9,13,14,15,16,17,31,32,33,34,35,36,37,38,39,40,41,42,43,44,45,46,47,48,49,50,51,52,53,54,55,56,57,58,59,60,61,62,63,64,65,66,67,68,69,70,71,72,73,74,75,76,77,78,79,80,81,82,83,84,85,86,87,88,89,90,91,92,93,94,95,96,97,98,99,100,101,102,103,104,105,106,107,108,109,110] (fun q s=>Fr S1 s (fun _=>False) (fun _=>False)∧∃ L,L.map Prod.snd=(t.take q.1.1).filter (tellE lo my)∧EntM s q.1.2 L S1.length) (⟨(0,.p (.v (.slice none 0 0))),by omega⟩) ?_ ?_ ?_ ?_
 ·simp only[wHl,wHf]
 ·exact⟨Fr.refl _ _,[],by simp,EntM.nil _ _⟩
 ·rintro _ _ ⟨h,_⟩;exact h.len
 ·intro y J s hI
  simp only[wHl]
  obtain⟨⟨i,av⟩,hi⟩:=y
  obtain⟨fs,L,hL,hE⟩:=hI
  dsimp only at*
  have ls:=fs.len
  have cN:=fs.get bN id
  have zN:=at_lt cN
  have hi0:=nnI i
  have hkk:=hkS.fr fs fun _ _=>id
  have hfl:L.length≤49:=by
   have h0:=congrArg List.length hL
   rw[length_map]at h0
   have h1:=List.length_filter_le (tellE lo my) (t.take i)
   have h2:(t.take i).length≤t.length:=by rw[List.length_take];omega
   omega
  by_cases hlt2:i<t.length
  ·have hdec:=dT (i:=i) (n:=t.length) hlt2
   have hw:=wI i (by omega)
   obtain⟨x,hx⟩:∃ x,t[i]? =some x:=⟨t[i],by simp⟩
   have hgx:(its0 t)[i]? =some ⟨x,0⟩:=by simp[its0,hx]
   have hgc:((its0 t).map itC)[i]? =some (itC ⟨x,0⟩):=by simp[hgx]
   rcases haS with⟨h0,_⟩|⟨_,tn,rfl,htn⟩
   ·rw[h0]at hgx;simp at hgx
   have ctn:=fs.get htn id
   have ztn:=at_lt ctn
   have hif:((i:Int)<((its0 t).length:Int))=True:=eq_true (by omega)
   have hxo:x.k.length≤140:=(hN.ok _ (List.mem_of_getElem? hgx)).1.1
   have hkx:Kept kl (s++[some (Ob.row 4 [itC ⟨x,0⟩])]):=fun q hq=>by rw[getElem?_append_left (at_lt (hkk q hq))];exact hkk q hq
   have hmx:=hmy _ x.k hkx
   have hnx:(t.take (i+1)).filter (tellE lo my)=(t.take i).filter (tellE lo my)++(if tellE lo my x then [x]else []):=by
    rw[List.take_add_one,hx]
    simp only[Option.toList,List.filter_append,List.filter_cons,List.filter_nil]
   have hbc:=fun s=>abcmp (x:=.sl 1 (encB x.k)) (.inl rfl) hlo s
   have hEx:EntM (s++[some (Ob.row 4 [itC ⟨x,0⟩])]) av L S1.length:=hE.same fun j _ hj=>getElem?_append_left hj
   by_cases hc:0≤Lib.compareBytes x.k lo
   ·have hd:decide (Lib.compareBytes x.k lo≥0)=true:=by simpa using hc
    have hd':decide (0≤Lib.compareBytes x.k lo)=true:=by simpa using hc
    cases hm:my x.k with
    |true=>
     rw[hm]at hmx
     have ht1:tellE lo my x=true:=by unfold tellE;rw[hm];simpa using hc
     rw[ht1]at hnx
     obtain⟨kb,kr,hkb⟩:∃ kb kr,x.k=kb::kr:=by
      cases hk0:x.k with
      |nil=>exact absurd hk0 (hne x (List.mem_of_getElem? hx))
      |cons kb kr=>exact⟨kb,kr,rfl⟩
     have hcl:=fun s=>atCloneM kb kr (by rw[← hkb];omega) s
     rw[← hkb]at hcl
     repeat' first|((with_reducible first|apply cs|apply ws|apply wd|apply wu)<;>intro h<;>try simp only[h])|simp only[↓wBA,tUc,convA,seval,pl43_10Uc,wH,kindE,tyE,mutsE,lenE,wHl,hdec,hi0,hif,hw,ctn,ztn,hgc,itC,cN,zN,hd,hd']|((with_reducible show ACalls _ _ _ _ _);first|refine (hbc _).eq ?_|refine hmx.eq ?_)|(with_reducible refine dQ pl43_10Uc 12 (some 51) ?_)
     refine (hcl _).mono ?_
     rintro _ q ⟨rfl,hq⟩
     have hql:q.length=s.length+3:=by rw[hq];simp
     have hkq:q[s.length+2]? =some (some (.row 1 (bRow x.k))):=by rw[hq];simp
     have wq:s.length<q.length:=by omega
     simp only[length_append,length_cons,length_nil]
     simp only[↓wBA,tUc,convA,seval,wH,kindE,tyE,mutsE,lenE,wHl,itC,wq]
     obtain⟨Q,hQ⟩:∃ Q,Q=q.set s.length (some (Ob.row 4 [itC ⟨x,0⟩]))++[some (Ob.row 3 (rowM [(s.length+2,x)]))]:=⟨_,rfl⟩
     have hQl:Q.length=q.length+1:=by rw[hQ];simp
     have hQg:∀ j,j<q.length→j≠s.length→Q[j]? =q[j]? :=fun j h1 h2=>by rw[hQ,getElem?_append_left (by simpa using h1),List.getElem?_set_ne (fun e=>h2 e.symm)]
     have hqs:∀ j,j<s.length→q[j]? =s[j]? :=fun j hj=>by rw[hq,List.append_assoc,getElem?_append_left hj]
     have hEQ:EntM Q av L S1.length:=hE.same fun j _ hj=>(hQg j (by omega) (by omega)).trans (hqs j hj)
     have hQb:Q[q.length]? =some (some (.row 3 (rowM [(s.length+2,x)]))):=by rw[hQ,List.getElem?_append_right (by simp)];simp
     have hQk:Q[s.length+2]? =some (some (.row 1 (bRow x.k))):=(hQg _ (by omega) (by omega)).trans hkq
     have hmt:∀ t,msOf' av=some t→S1.length≤t∧t<s.length:=fun t ht=>hE.lt ht
     obtain⟨s2,e1,e2,e3,e4⟩:=appM (M:=[(s.length+2,x)]) hEQ (by simp) hQb (fun t ht=>by have:=hmt t ht;omega) (by simp;omega)
     have hkk2:∀ z∈L,z.1<s.length:=fun z hz=>at_lt (hE.ks z hz).1
     have hEn:=hEQ.app (M:=[(s.length+2,x)]) (by simp) (by omega) (fun z hz=>by
      obtain rfl:=mem_singleton.1 hz
      exact⟨hQk,by show S1.length≤s.length+2;omega,fun t ht=>by have:=hmt t ht;show s.length+2≠t;omega⟩) (by
      rw[map_append]
      refine nodup_append.2 ⟨hE.nd,by simp,fun a ha c hc' e=> ?_⟩
      obtain⟨z,hz,rfl⟩:=mem_map.1 ha
      have:=hkk2 z hz
      simp at hc'
      omega) e3 e4
     rw[hQl,hQ]at e1
     simp only[itC,rowM,entMC,List.map_cons,List.map_nil,length_cons,length_nil,Nat.zero_add,c0y,intV]at e1
     repeat' first|((with_reducible first|apply cs|apply ws|apply wd|apply wu)<;>intro h<;>try simp only[h])|simp only[↓wBA,tUc,convA,seval,pl43_10Uc,wH,kindE,tyE,mutsE,lenE,wHl,e1,hw]|(with_reducible refine dQ pl43_10Uc 12 (some 51) ?_)
     rw[if_pos rfl]at hnx
     rw[hQl,show (L++[(s.length+2,x)]).length=L.length+1 from by simp]at hEn
     rw[hQl]at e2
     refine⟨⟨(i+1,.ms (q.length+1) 3 0 (L.length+1)),by omega⟩,by show t.length - (i+1)<t.length - i;omega,⟨⟨by omega,fun j hj hn=> ?_,fun j h=>h.elim⟩,L++[(s.length+2,x)],?_,hEn⟩,by simp only[wHl,wHf]⟩
     ·have hjs:j<s.length:=by omega
      rw[e4 j (by omega) fun t ht=>by have:=hmt t ht;omega,hQg j (by omega) (by omega),hqs j hjs]
      exact fs.keep j hj hn
     ·dsimp only
      rw[hnx,←hL];simp
    |false=>
     rw[hm]at hmx
     have ht1:tellE lo my x=false:=by unfold tellE;rw[hm];simp
     rw[ht1]at hnx
     repeat' first|((with_reducible first|apply cs|apply ws|apply wd|apply wu)<;>intro h<;>try simp only[h])|simp only[↓wBA,tUc,convA,seval,pl43_10Uc,wH,kindE,tyE,mutsE,lenE,wHl,hdec,hi0,hif,hw,ctn,ztn,hgc,itC,cN,zN,hd,hd']|((with_reducible show ACalls _ _ _ _ _);first|refine (hbc _).eq ?_|refine hmx.eq ?_)|(with_reducible refine dQ pl43_10Uc 12 (some 51) ?_)
     rw[if_neg (by simp),append_nil]at hnx
     exact⟨⟨(i+1,av),by omega⟩,by show t.length - (i+1)<t.length - i;omega,⟨fs.app _,L,by dsimp only;rw[hnx];exact hL,hEx⟩,by simp only[wHl,wHf]⟩
   ·have hd:decide (Lib.compareBytes x.k lo≥0)=false:=by simpa using hc
    have hd':decide (0≤Lib.compareBytes x.k lo)=false:=by simpa using hc
    have ht1:tellE lo my x=false:=by unfold tellE;rw[hd'];rfl
    rw[ht1]at hnx
    repeat' first|((with_reducible first|apply cs|apply ws|apply wd|apply wu)<;>intro h<;>try simp only[h])|simp only[↓wBA,tUc,convA,seval,pl43_10Uc,wH,kindE,tyE,mutsE,lenE,wHl,hdec,hi0,hif,hw,ctn,ztn,hgc,itC,cN,zN,hd,hd']|((with_reducible show ACalls _ _ _ _ _);refine (hbc _).eq ?_)|(with_reducible refine dQ pl43_10Uc 12 (some 51) ?_)
    rw[if_neg (by simp),append_nil]at hnx
    exact⟨⟨(i+1,av),by omega⟩,by show t.length - (i+1)<t.length - i;omega,⟨fs.app _,L,by dsimp only;rw[hnx];exact hL,hEx⟩,by simp only[wHl,wHf]⟩
  ·obtain rfl:i=t.length:=by omega
   have hdec:=dF (i:=t.length) (n:=t.length) hlt2
   rw[List.take_length]at hL
   have lfE:=hE.leaf
   have ccE:=hE.cells
   repeat' first|((with_reducible first|apply cs|apply ws|apply wd|apply wu)<;>intro h<;>try simp only[h])|simp only[↓wBA,tUc,convA,seval,pl43_10Uc,wH,kindE,tyE,mutsE,lenE,wHl,hdec]|(with_reducible refine dQ pl43_10Uc 12 (some 51) ?_)
   all_goals refine ret_st ?_ (by first|exact Nat.le_refl _|(simp only[length_set,length_append];omega)|omega)
   all_goals simp only[resA.eq_1,resL.eq_1,resL.eq_2,resV.eq_1,resV.eq_2,↓wBA,tUc,convA,seval,wH]
   exact⟨U1,P1,av,L,rfl,fS.trans fs.none,hBS.frame fs fun _ _=>id,k1,hL,hE.mono fS.len,fun z hz e=>by have:=hBS.lt _ e;have:=(hE.ks z hz).2;omega,fun t ht e=>by have:=hBS.lt _ e;have:=hE.lt ht;omega⟩
end
def pl43_10Ud:Plan:=(.det 0 (.det 1 (.det 2 (.det 3 (.det 5 (.det 6 (.det 7 (.act 4 (.det 8 (.fin 9 (.fin 10 (.det 11 .done))))))))))))
def tUd:=aa wX <| aa wbu <| aa T3 <| aa T4 <| aa T25 <| aa T35 <| aa T37 <| aa T40 <| aa T48 <| aa T86 <| aa T90 <| aa T92 <| aa T97 T109
theorem EntM.same2 {s s':St}{av:AV}{L:List (Nat×Ent)}{n0:Nat}(h:EntM s av L n0)(hs:∀ j,j<s.length→((∃ z∈L,z.1=j)∨msOf' av=some j)→s'[j]? =s[j]?):EntM s' av L n0:=by
 refine⟨h.av.imp id fun ⟨h1,t,h2,h3,h4,h5⟩=>⟨h1,t,h2,(hs t (at_lt h3) (.inr (by rw[h2];rfl))).trans h3,h4,h5⟩,fun q hq=> ?_,h.nd⟩
 obtain⟨g1,g2⟩:=h.ks q hq
 exact⟨(hs _ (at_lt g1) (.inl ⟨q,hq,rfl⟩)).trans g1,g2⟩
theorem joinM {S1 s S2 s3:St}{av avl:AV}{L L3:List (Nat×Ent)}{b p dd l kh:Nat}{U1 U2 U3:Nat→Prop}{v:Nat→List UInt8}{P3:PoolV}(hE:EntM s av L S1.length)(hLU:∀ z∈L,¬ U2 z.1)(hown:∀ j,msOf' av=some j→¬ U2 j)(aS2:Ap s S2)(f3:Fr S2 s3 U2 U3)(hE3:EntM s3 avl L3 S2.length)(hU3:∀ z∈L3,¬ U3 z.1)(hU3':∀ j,msOf' avl=some j→¬ U3 j)(hne:L3≠[])(hl:L.length+L3.length≤1000000)(h0:S1.length≤s.length):
 ∃ s4 nb,avl= .ms nb 3 0 L3.length∧appendM cxE s3.length 40 av (.ms nb 3 0 L3.length) s3=some (.ms s3.length 3 0 (L++L3).length,s4)∧EntM s4 (.ms s3.length 3 0 (L++L3).length) (L++L3) S1.length∧s3.length≤s4.length∧
   (Fr S1 s3 U1 U3→Bt s3 b p dd l kh U3 P3 v→Fr S1 s4 U1 U3∧Bt s4 b p dd l kh U3 P3 v∧(∀ z∈L++L3,¬ U3 z.1)∧∀ j,msOf' (.ms s3.length 3 0 (L++L3).length)=some j→¬ U3 j):=by
 have l2:=aS2.len
 have l3:=f3.len
 have hk2:∀ j,j<s.length→S2[j]? =s[j]? :=by obtain⟨τ,rfl⟩:=aS2;exact fun j hj=>getElem?_append_left hj
 rcases hE3.av with⟨h0,_⟩|⟨_,nb,rfl,hnb,hnb0,hnbq⟩
 ·exact absurd h0 hne
 have hkl:∀ z∈L,z.1<s.length:=fun z hz=>at_lt (hE.ks z hz).1
 have hU23:∀ j,j<s.length→¬ U2 j→¬ U3 j:=fun j hj hn e=>(f3.own j e).elim hn fun e=>by omega
 have hE1:EntM s3 av L S1.length:=hE.same2 fun j hj ho=>by
  rw[f3.keep j (by omega) (by
   rcases ho with⟨z,hz,rfl⟩|ho
   ·exact hLU z hz
   ·exact hown j ho)]
  exact hk2 j hj
 obtain⟨s4,e1,e2,e3,e4⟩:=appM (M:=L3) hE1 hne hnb (fun t ht=>by have:=(hE.lt ht).2;omega) hl
 refine⟨s4,nb,rfl,e1,?_,by omega,fun f5 hB3=>⟨?_,?_,?_,?_⟩⟩
 ·refine hE1.app hne (by omega) (fun z hz=>⟨(hE3.ks z hz).1,by have:=(hE3.ks z hz).2;omega,fun t ht=>by have:=(hE.lt ht).2;have:=(hE3.ks z hz).2;omega⟩) ?_ e3 e4
  rw[map_append]
  refine nodup_append.2 ⟨hE.nd,hE3.nd,fun a ha c hc e=> ?_⟩
  obtain⟨z,hz,rfl⟩:=mem_map.1 ha
  obtain⟨w,hw,rfl⟩:=mem_map.1 hc
  have:=hkl z hz
  have:=(hE3.ks w hw).2
  omega
 ·exact⟨by have:=f5.len;omega,fun j hj hn=>by rw[e4 j (by have:=f5.len;omega) fun t ht=>by have:=(hE.lt ht).1;omega];exact f5.keep j hj hn,f5.own⟩
 ·have f4:Fr s3 s4 (fun j=>msOf' av=some j) (fun _=>False):=⟨by omega,fun j hj hn=>e4 j hj fun t ht e=>hn (by rw[e];exact ht),fun j h=>h.elim⟩
  exact hB3.frame f4 fun j hj he=>hU23 j (hE.lt he).2 (hown j he) hj
 ·intro z hz
  rcases List.mem_append.1 hz with hz|hz
  ·exact hU23 _ (hkl z hz) (hLU z hz)
  ·exact hU3 z hz
 ·intro j hj
  simp only[msOf',Option.some.injEq]at hj
  subst hj
  exact fun e=>by have:=hB3.lt _ e;omega
section
variable {σ:St} {b p dd l kh n h:Nat} {U:Nat→Prop} {P:PoolV} {v:Nat→List UInt8} {T:Nat→Bool}
theorem atFromNodeM {lo:List UInt8}{lox:PV}{my:List UInt8→Bool}{g:FuncId}{caps:List AV}{kl:List (Nat×Ob)}{t:NL h}(hB:Bt σ b p dd l kh U P v)(hb:Bud P 1)(hTr:TrAt v (h+1) n t)(hnd:(pgT (h+1) n t).Nodup)(htk:∀ q∈pgT (h+1) n t,q<P.pages)(hne3:∀ x∈t,fromF lo my h x.2.2≠[])(hlo:BX lox lo)(hkl:Kept kl σ)(hklU:∀ q∈kl,¬ U q.1)
 (hmy:∀ (s:St) (k:List UInt8),Kept kl s→ACalls Tryz.prog g (.p (.sl 1 (encB k))::caps) s fun r s'=>s'=s∧r=boolV (my k))
 (ih:∀ {σ:St} {U:Nat→Prop} {P:PoolV} {n:Nat} {x:Ent×Nat×BTr h},x∈t→Bt σ b p dd l kh U P v→Bud P 1→TrAt v h n x.2.2→(pgT h n x.2.2).Nodup→(∀ q∈pgT h n x.2.2,q<P.pages)→Kept kl σ→(∀ q∈kl,¬ U q.1)→
  ACalls Tryz.prog 43 [.agg [.mp b 2 0 0],intV .i64 (n:Nat),.p lox,.fn g [] caps] σ fun r σ'=>FromPostM h x.2.2 lo my σ b p dd l kh U P v r σ'):
 ACalls Tryz.prog 43 [.agg [.mp b 2 0 0],intV .i64 (n:Nat),.p lox,.fn g [] caps] σ fun r σ'=>FromPostM (h+1) t lo my σ b p dd l kh U P v r σ':=by
 have hlt:=hB.lt
 have hbig:=hB.big
 have hN:NodeP (v n) 3 (its1 t):=hTr.1
 have hl49:=hN.n
 have hil:=its1_len t
 have hpl:=len_le_of_lt P.pages _ hnd htk
 have hel:(t.flatMap fun x=>entsT h x.2.2).length≤49*3840:=by
  have h1:(entsT (h+1) t).length≤49*(pgT (h+1) n t).length:=ents_le hTr
  have h2:(entsT (h+1) t).length=(t.flatMap fun x=>entsT h x.2.2).length:=rfl
  omega
 have hacc:∀ i,i≤t.length→((List.range i).flatMap (stepC lo my (fromF lo my h) t)).length≤49*3840:=fun i hi=>Nat.le_trans (stepC_le lo my (fromF lo my h) (entsT h) (fromF_len lo my h) t i hi) hel
 refine acalls_of cxE_ok drE_ok Tryz.func43 (by kernel_rfl) rfl (nt:=108) (rs:=[.tmp 8,.tmp 9]) rfl rfl ?_
 repeat' first|((with_reducible first|apply cs|apply ws|apply wd|apply wu)<;>intro h<;>try simp only[h])|simp only[↓wBA,tUd,convA,seval,pl43_10Ud,wH,kindE,tyE,mutsE,lenE]|(with_reducible refine dQ pl43_10Ud 12 (some 51) ?_)
 have a1:=Ap.app σ [some (Ob.row 1 [[AV.mp b 2 0 0]])]
 refine (atRead (hB.ap a1) (htk n (pgT_root _ _ _)) hN hb).mono ?_
 rintro _ s1 ⟨U1,P1,a,rfl,f1,hB1,k1,ha,hta⟩
 have q1:=f1.len
 simp only[length_append,length_cons,length_nil]at q1
 have hlt1:=hB1.lt
 have b0':s1[σ.length]? =some (some (Ob.row 1 [[AV.mp b 2 0 0]])):=by
  rw[f1.keep _ (by simp) fun e=>by have:=hlt _ e;omega];simp
 have n0:¬ U1 σ.length:=fun e=>(f1.own _ e).elim (fun e=>by have:=hlt _ e;omega) fun e=>by simp at e;omega
 have hlf:=ha.x.leaf
 have hcc:=ha.x.cells
 obtain⟨S1,hS1⟩:∃ S1,S1=s1++[some (Ob.row 2 [[AV.p (.v (.int .i64 3)),a]])]:=⟨_,rfl⟩
 have aS:Ap s1 S1:=⟨_,hS1⟩
 have hS1l:S1.length=s1.length+1:=by rw[hS1];simp
 have bN:S1[s1.length]? =some (some (Ob.row 2 [[AV.p (.v (.int .i64 3)),a]])):=by rw[hS1];simp
 have yN:=at_lt bN
 have b0:=aS.get b0'
 have haS:NdA S1 a (its1 t):=ha.same fun j hj=>by rw[hS1,getElem?_append_left (ha.lt hj)]
 have hla:lenA cx 90 a=some t.length:=by
  rcases ha with⟨h0,rfl⟩|⟨_,tn,rfl,_⟩
  ·rw[← hil,h0];rfl
  ·rw[hil];exact km_90
 have fS:Fr σ S1 U U1:=(a1.fr.trans f1).trans aS.fr
 have hBS:=hB1.ap aS
 have hkS:Kept kl S1:=hkl.fr fS hklU
 have hkU1:∀ q∈kl,¬ U1 q.1:=fun q hq e=>(fS.own q.1 e).elim (hklU q hq) fun e=>by have:=at_lt (hkl q hq);omega
 repeat' first|((with_reducible first|apply cs|apply ws|apply wd|apply wu)<;>intro h<;>try simp only[h])|simp only[↓wBA,tUd,convA,seval,pl43_10Ud,wH,kindE,tyE,mutsE,lenE,c3y,hlf,hcc,hS1.symm,bN,yN,hla]|(with_reducible refine dQ pl43_10Ud 12 (some 51) ?_)
 refine awp_loopS (X:={ q:Nat×AV // q.1≤t.length }) (fun q=>t.length - q.1.1) (fun q=>[(12,q.1.2),(30,intV .i64 (q.1.1:Nat))]) [8,9,13,14,15,16,17,31,32,33,34,35,36,37,38,39,40,41,42,43,44,45,46,47,48,49,50,51,52,53,54,55,56,57,58,59,60,61,62,63,64,65,66,67,68,69,70,71,72,73,74,75,76,77,78,79,80,81,82,83,84,85,86,87,88,89,90,91,92,93,94,95,96,97,98,99,100,101,102,103,104,105,106,107,108,109,110] (fun q s=>∃ U' P' L,Fr S1 s U1 U'∧Bt s b p dd l kh U' P' v∧Kp P P' 0∧L.map Prod.snd=(List.range q.1.1).flatMap (stepC lo my (fromF lo my h) t)∧EntM s q.1.2 L S1.length∧(∀ z∈L,¬ U' z.1)∧(∀ j,msOf' q.1.2=some j→¬ U' j)) (⟨(0,.p (.v (.slice none 0 0))),by omega⟩) ?_ ?_ ?_ ?_
 ·simp only[wHl,wHf]
 ·exact⟨U1,P1,[],Fr.refl _ _,hBS,k1,by simp,EntM.nil _ _,fun z hz=>by simp at hz,fun j hj=>by cases hj⟩
 ·rintro _ _ ⟨_,_,_,h,_⟩;exact h.len
 ·intro y J s hI
  simp only[wHl]
  obtain⟨⟨i,av⟩,hi⟩:=y
  obtain⟨U2,P2,L,fs,hB2,k2,hL,hE,hLU,hown⟩:=hI
  dsimp only at*
  have ls:=fs.len
  have hlt2:=hB2.lt
  have nN1:¬ U1 s1.length:=fun e=>by have:=hlt1 _ e;omega
  have cN:=fs.get bN nN1
  have zN:=at_lt cN
  have c0:=fs.get b0 n0
  have z0:=at_lt c0
  have hi0:=nnI i
  have hkk:=hkS.fr fs hkU1
  have hkU2:∀ q∈kl,¬ U2 q.1:=fun q hq e=>(fs.own q.1 e).elim (hkU1 q hq) fun e=>by have:=at_lt (hkS q hq);omega
  by_cases hlt3:i<t.length
  ·have hdec:=dT (i:=i) (n:=t.length) hlt3
   have hw:=wI i (by omega)
   obtain⟨x,hx⟩:∃ x,t[i]? =some x:=⟨t[i],by simp⟩
   have hxm:=List.mem_of_getElem? hx
   have hgx:(its1 t)[i]? =some ⟨x.1,x.2.1⟩:=by simp[its1,hx]
   have hgc:((its1 t).map itC)[i]? =some (itC ⟨x.1,x.2.1⟩):=by simp[hgx]
   rcases haS with⟨h0,_⟩|⟨_,tn,rfl,htn⟩
   ·rw[h0]at hgx;simp at hgx
   have ctn:=fs.get htn (hta tn rfl).2
   have ztn:=at_lt ctn
   have hif:((i:Int)<((its1 t).length:Int))=True:=eq_true (by omega)
   obtain⟨S2,hS2⟩:∃ S2,S2=s++[some (Ob.row 4 [itC ⟨x.1,x.2.1⟩])]:=⟨_,rfl⟩
   have aS2:Ap s S2:=⟨_,hS2⟩
   have hS2l:S2.length=s.length+1:=by rw[hS2];simp
   have hkx:Kept kl S2:=fun q hq=>aS2.get (hkk q hq)
   have hmx:=hmy _ x.1.k hkx
   have hxn:∀ q,q∈pgT h x.2.1 x.2.2→q∈pgT (h+1) n t:=fun q hq=>by
    rw[pgT_node];exact List.mem_cons_of_mem _ (List.mem_flatMap.2 ⟨x,hxm,hq⟩)
   have hxs:(pgT h x.2.1 x.2.2).Nodup:=by
    rw[pgT_node]at hnd
    obtain⟨u1,u2,hu⟩:=List.append_of_mem hxm
    rw[hu,flP_app,flP_cons]at hnd
    exact (nodup_append.1 (nodup_append.1 (List.nodup_cons.1 hnd).2).2.1).1
   have hacc1:(List.range (i+1)).flatMap (stepC lo my (fromF lo my h) t)=(List.range i).flatMap (stepC lo my (fromF lo my h) t)++(if skipC lo my t i x.1 then []else fromF lo my h x.2.2):=by
    rw[List.range_succ,List.flatMap_append]
    simp only[List.flatMap_cons,List.flatMap_nil,append_nil]
    congr 1
    unfold stepC;rw[hx]
   have hai:=hacc i (by omega)
   rw[← hL,length_map]at hai
   have hai1:=hacc (i+1) (by omega)
   have hih:=ih hxm (hB2.ap aS2) (hb.kp k2 (by omega)) (hTr.2 x hxm) hxs (fun q hq=>by rw[k2.pages];exact htk q (hxn q hq)) hkx hkU2
   have d0:=aS2.get c0
   have dN:=aS2.get cN
   have dtn:=aS2.get ctn
   have dx:S2[s.length]? =some (some (Ob.row 4 [itC ⟨x.1,x.2.1⟩])):=by rw[hS2];simp
   have w0:=at_lt d0
   have wN:=at_lt dN
   have wtn:=at_lt dtn
   have wx:=at_lt dx
   have hS2':s++[some (Ob.row 4 [[AV.p (PV.sl 1 (encB x.1.k)),AV.p (PV.v (Value.int IntKind.i64 (x.1.p:Nat))),AV.p (PV.v (Value.int IntKind.i64 (x.1.s:Nat))),AV.p (PV.v (Value.int IntKind.i64 (x.2.1:Nat)))]])]=S2:=hS2.symm
   have hbi:∃ bi,decide ((i:Int)>0)=bi∧decide (0<i)=bi:=⟨decide (0<i),by simp,rfl⟩
   obtain⟨bi,hbi1,hbi2⟩:=hbi
   have hbi3:decide ((0:Int)<(i:Int))=bi:=by rw[← hbi2];simp
   cases bi with
   |false=>
    by_cases hl2:i+1<t.length
    ·obtain⟨y,hy⟩:∃ y,t[i+1]? =some y:=⟨t[i+1],by simp⟩
     have hgy:((its1 t).map itC)[i+1]? =some (itC ⟨y.1,y.2.1⟩):=by simp[its1,hy]
     have hgd:((its1 t).map itC)[i+1]? =some (itC ⟨y.1,y.2.1⟩):=hgy
     have hif2:(((i+1:Nat):Int)<((its1 t).length:Int))=True:=eq_true (by omega)
     have hlb:(((i+1:Nat):Int)==(t.length:Int))=false:=by simp;omega
     have hlb2:decide (((i+1:Nat):Int)=(t.length:Int))=false:=by simp;omega
     have hw1:=wI (i+1) (by omega)
     have hbc:=fun s=>abcmp (x:=.sl 1 (encB y.1.k)) (.inl rfl) hlo s
     by_cases hc:Lib.compareBytes y.1.k lo<0
     ·have hd:decide (Lib.compareBytes y.1.k lo<0)=true:=by simpa using hc
      have hd':(Lib.compareBytes y.1.k lo<0)=True:=eq_true hc
      have HSK:skipC lo my t i x.1=true:=by unfold skipC;rw[hy];simp[hc]
      repeat' first|((with_reducible first|apply cs|apply ws|apply wd|apply wu)<;>intro h<;>try simp only[h])|simp only[↓wBA,tUd,convA,seval,pl43_10Ud,wH,kindE,tyE,mutsE,lenE,wHl,hdec,hi0,hif,hif2,hlb,hlb2,hgd,hw,hw1,cN,zN,ctn,ztn,hgc,itC,hS2',d0,dN,dtn,dx,w0,wN,wtn,wx,hbi1,hbi3,c3y,hla,hd,hd',c2y]|((with_reducible show ACalls _ _ _ _ _);refine (hbc _).eq ?_)|(with_reducible refine dQ pl43_10Ud 12 (some 51) ?_)
      rw[if_pos HSK,append_nil]at hacc1
      exact⟨⟨(i+1,av),by omega⟩,by show t.length - (i+1)<t.length - i;omega,⟨U2,P2,L,fs.trans aS2.fr,hB2.ap aS2,k2,by dsimp only;rw[hacc1];exact hL,hE.same fun j _ hj=>by rw[hS2,getElem?_append_left hj],hLU,hown⟩,by simp only[wHl,wHf]⟩
     ·have hd:decide (Lib.compareBytes y.1.k lo<0)=false:=by simpa using hc
      have hd':(Lib.compareBytes y.1.k lo<0)=False:=eq_false hc
      have HSK:¬ skipC lo my t i x.1=true:=by unfold skipC;rw[hy,hbi2];simp[hc]
      repeat' first|((with_reducible first|apply cs|apply ws|apply wd|apply wu)<;>intro h<;>try simp only[h])|simp only[↓wBA,tUd,convA,seval,pl43_10Ud,wH,kindE,tyE,mutsE,lenE,wHl,hdec,hi0,hif,hif2,hlb,hlb2,hgd,hw,hw1,cN,zN,ctn,ztn,hgc,itC,hS2',d0,dN,dtn,dx,w0,wN,wtn,wx,hbi1,hbi3,c3y,hla,hd,hd',c2y]|((with_reducible show ACalls _ _ _ _ _);refine (hbc _).eq ?_)|(with_reducible refine dQ pl43_10Ud 12 (some 51) ?_)
      rw[if_neg HSK]at hacc1
      rw[hacc1,length_append,←hL,length_map]at hai1
      refine hih.mono ?_
      rintro _ s3 ⟨U3,P3,avl,L3,rfl,f3,hB3,k3,hL3,hE3,hU3,hU3'⟩
      obtain⟨s4,nb,rfl,e1,e2,e3,hA⟩:=joinM hE hLU hown aS2 f3 hE3 hU3 hU3' (fun e=>hne3 x hxm (by rw[← hL3,e];rfl)) (by rw[← hL3,length_map]at hai1;omega) fs.len
      repeat' first|((with_reducible first|apply cs|apply ws|apply wd|apply wu)<;>intro h<;>try simp only[h])|simp only[↓wBA,tUd,convA,seval,pl43_10Ud,wH,kindE,tyE,mutsE,lenE,wHl,e1,hw]|(with_reducible refine dQ pl43_10Ud 12 (some 51) ?_)
      rw[length_append]at e2
      obtain⟨g1,g2,g3,g4⟩:=hA ((fs.trans aS2.fr).trans f3) hB3
      exact⟨⟨(i+1,.ms s3.length 3 0 (L.length+L3.length)),by omega⟩,by show t.length - (i+1)<t.length - i;omega,⟨U3,P3,L++L3,g1,g2,k2.trans k3,by dsimp only;rw[hacc1,map_append,hL,hL3],e2,g3,g4⟩,by simp only[wHl,wHf]⟩
    ·obtain hl3:i+1=t.length:=by omega
     have hy:t[i+1]? =none:=by simp;omega
     have hgd:True:=trivial
     have hif2:True:=trivial
     have hw1:True:=trivial
     have hd:True:=trivial
     have hd':True:=trivial
     have hlb:(((i+1:Nat):Int)==(t.length:Int))=true:=by simp;omega
     have hlb2:decide (((i+1:Nat):Int)=(t.length:Int))=true:=by simp;omega
     have HSK:¬ skipC lo my t i x.1=true:=by unfold skipC;rw[hy,hbi2];simp
     repeat' first|((with_reducible first|apply cs|apply ws|apply wd|apply wu)<;>intro h<;>try simp only[h])|simp only[↓wBA,tUd,convA,seval,pl43_10Ud,wH,kindE,tyE,mutsE,lenE,wHl,hdec,hi0,hif,hif2,hlb,hlb2,hgd,hw,hw1,cN,zN,ctn,ztn,hgc,itC,hS2',d0,dN,dtn,dx,w0,wN,wtn,wx,hbi1,hbi3,c3y,hla,hd,hd',c2y]|(with_reducible refine dQ pl43_10Ud 12 (some 51) ?_)
     rw[if_neg HSK]at hacc1
     rw[hacc1,length_append,←hL,length_map]at hai1
     refine hih.mono ?_
     rintro _ s3 ⟨U3,P3,avl,L3,rfl,f3,hB3,k3,hL3,hE3,hU3,hU3'⟩
     obtain⟨s4,nb,rfl,e1,e2,e3,hA⟩:=joinM hE hLU hown aS2 f3 hE3 hU3 hU3' (fun e=>hne3 x hxm (by rw[← hL3,e];rfl)) (by rw[← hL3,length_map]at hai1;omega) fs.len
     repeat' first|((with_reducible first|apply cs|apply ws|apply wd|apply wu)<;>intro h<;>try simp only[h])|simp only[↓wBA,tUd,convA,seval,pl43_10Ud,wH,kindE,tyE,mutsE,lenE,wHl,e1,hw]|(with_reducible refine dQ pl43_10Ud 12 (some 51) ?_)
     rw[length_append]at e2
     obtain⟨g1,g2,g3,g4⟩:=hA ((fs.trans aS2.fr).trans f3) hB3
     exact⟨⟨(i+1,.ms s3.length 3 0 (L.length+L3.length)),by omega⟩,by show t.length - (i+1)<t.length - i;omega,⟨U3,P3,L++L3,g1,g2,k2.trans k3,by dsimp only;rw[hacc1,map_append,hL,hL3],e2,g3,g4⟩,by simp only[wHl,wHf]⟩
   |true=>
    cases hm:my x.1.k with
    |true=>
     rw[hm]at hmx
     by_cases hl2:i+1<t.length
     ·obtain⟨y,hy⟩:∃ y,t[i+1]? =some y:=⟨t[i+1],by simp⟩
      have hgy:((its1 t).map itC)[i+1]? =some (itC ⟨y.1,y.2.1⟩):=by simp[its1,hy]
      have hgd:((its1 t).map itC)[i+1]? =some (itC ⟨y.1,y.2.1⟩):=hgy
      have hif2:(((i+1:Nat):Int)<((its1 t).length:Int))=True:=eq_true (by omega)
      have hlb:(((i+1:Nat):Int)==(t.length:Int))=false:=by simp;omega
      have hlb2:decide (((i+1:Nat):Int)=(t.length:Int))=false:=by simp;omega
      have hw1:=wI (i+1) (by omega)
      have hbc:=fun s=>abcmp (x:=.sl 1 (encB y.1.k)) (.inl rfl) hlo s
      by_cases hc:Lib.compareBytes y.1.k lo<0
      ·have hd:decide (Lib.compareBytes y.1.k lo<0)=true:=by simpa using hc
       have hd':(Lib.compareBytes y.1.k lo<0)=True:=eq_true hc
       have HSK:skipC lo my t i x.1=true:=by unfold skipC;rw[hy];simp[hc]
       repeat' first|((with_reducible first|apply cs|apply ws|apply wd|apply wu)<;>intro h<;>try simp only[h])|simp only[↓wBA,tUd,convA,seval,pl43_10Ud,wH,kindE,tyE,mutsE,lenE,wHl,hdec,hi0,hif,hif2,hlb,hlb2,hgd,hw,hw1,cN,zN,ctn,ztn,hgc,itC,hS2',d0,dN,dtn,dx,w0,wN,wtn,wx,hbi1,hbi3,c3y,hla,hd,hd',c2y]|((with_reducible show ACalls _ _ _ _ _);first|refine hmx.eq ?_|refine (hbc _).eq ?_)|(with_reducible refine dQ pl43_10Ud 12 (some 51) ?_)
       rw[if_pos HSK,append_nil]at hacc1
       exact⟨⟨(i+1,av),by omega⟩,by show t.length - (i+1)<t.length - i;omega,⟨U2,P2,L,fs.trans aS2.fr,hB2.ap aS2,k2,by dsimp only;rw[hacc1];exact hL,hE.same fun j _ hj=>by rw[hS2,getElem?_append_left hj],hLU,hown⟩,by simp only[wHl,wHf]⟩
      ·have hd:decide (Lib.compareBytes y.1.k lo<0)=false:=by simpa using hc
       have hd':(Lib.compareBytes y.1.k lo<0)=False:=eq_false hc
       have HSK:¬ skipC lo my t i x.1=true:=by unfold skipC;rw[hy,hbi2];simp[hc,hm]
       repeat' first|((with_reducible first|apply cs|apply ws|apply wd|apply wu)<;>intro h<;>try simp only[h])|simp only[↓wBA,tUd,convA,seval,pl43_10Ud,wH,kindE,tyE,mutsE,lenE,wHl,hdec,hi0,hif,hif2,hlb,hlb2,hgd,hw,hw1,cN,zN,ctn,ztn,hgc,itC,hS2',d0,dN,dtn,dx,w0,wN,wtn,wx,hbi1,hbi3,c3y,hla,hd,hd',c2y]|((with_reducible show ACalls _ _ _ _ _);first|refine hmx.eq ?_|refine (hbc _).eq ?_)|(with_reducible refine dQ pl43_10Ud 12 (some 51) ?_)
       rw[if_neg HSK]at hacc1
       rw[hacc1,length_append,←hL,length_map]at hai1
       refine hih.mono ?_
       rintro _ s3 ⟨U3,P3,avl,L3,rfl,f3,hB3,k3,hL3,hE3,hU3,hU3'⟩
       obtain⟨s4,nb,rfl,e1,e2,e3,hA⟩:=joinM hE hLU hown aS2 f3 hE3 hU3 hU3' (fun e=>hne3 x hxm (by rw[← hL3,e];rfl)) (by rw[← hL3,length_map]at hai1;omega) fs.len
       repeat' first|((with_reducible first|apply cs|apply ws|apply wd|apply wu)<;>intro h<;>try simp only[h])|simp only[↓wBA,tUd,convA,seval,pl43_10Ud,wH,kindE,tyE,mutsE,lenE,wHl,e1,hw]|(with_reducible refine dQ pl43_10Ud 12 (some 51) ?_)
       rw[length_append]at e2
       obtain⟨g1,g2,g3,g4⟩:=hA ((fs.trans aS2.fr).trans f3) hB3
       exact⟨⟨(i+1,.ms s3.length 3 0 (L.length+L3.length)),by omega⟩,by show t.length - (i+1)<t.length - i;omega,⟨U3,P3,L++L3,g1,g2,k2.trans k3,by dsimp only;rw[hacc1,map_append,hL,hL3],e2,g3,g4⟩,by simp only[wHl,wHf]⟩
     ·obtain hl3:i+1=t.length:=by omega
      have hy:t[i+1]? =none:=by simp;omega
      have hgd:True:=trivial
      have hif2:True:=trivial
      have hw1:True:=trivial
      have hd:True:=trivial
      have hd':True:=trivial
      have hlb:(((i+1:Nat):Int)==(t.length:Int))=true:=by simp;omega
      have hlb2:decide (((i+1:Nat):Int)=(t.length:Int))=true:=by simp;omega
      have HSK:¬ skipC lo my t i x.1=true:=by unfold skipC;rw[hy,hbi2];simp[hm]
      repeat' first|((with_reducible first|apply cs|apply ws|apply wd|apply wu)<;>intro h<;>try simp only[h])|simp only[↓wBA,tUd,convA,seval,pl43_10Ud,wH,kindE,tyE,mutsE,lenE,wHl,hdec,hi0,hif,hif2,hlb,hlb2,hgd,hw,hw1,cN,zN,ctn,ztn,hgc,itC,hS2',d0,dN,dtn,dx,w0,wN,wtn,wx,hbi1,hbi3,c3y,hla,hd,hd',c2y]|((with_reducible show ACalls _ _ _ _ _);refine hmx.eq ?_)|(with_reducible refine dQ pl43_10Ud 12 (some 51) ?_)
      rw[if_neg HSK]at hacc1
      rw[hacc1,length_append,←hL,length_map]at hai1
      refine hih.mono ?_
      rintro _ s3 ⟨U3,P3,avl,L3,rfl,f3,hB3,k3,hL3,hE3,hU3,hU3'⟩
      obtain⟨s4,nb,rfl,e1,e2,e3,hA⟩:=joinM hE hLU hown aS2 f3 hE3 hU3 hU3' (fun e=>hne3 x hxm (by rw[← hL3,e];rfl)) (by rw[← hL3,length_map]at hai1;omega) fs.len
      repeat' first|((with_reducible first|apply cs|apply ws|apply wd|apply wu)<;>intro h<;>try simp only[h])|simp only[↓wBA,tUd,convA,seval,pl43_10Ud,wH,kindE,tyE,mutsE,lenE,wHl,e1,hw]|(with_reducible refine dQ pl43_10Ud 12 (some 51) ?_)
      rw[length_append]at e2
      obtain⟨g1,g2,g3,g4⟩:=hA ((fs.trans aS2.fr).trans f3) hB3
      exact⟨⟨(i+1,.ms s3.length 3 0 (L.length+L3.length)),by omega⟩,by show t.length - (i+1)<t.length - i;omega,⟨U3,P3,L++L3,g1,g2,k2.trans k3,by dsimp only;rw[hacc1,map_append,hL,hL3],e2,g3,g4⟩,by simp only[wHl,wHf]⟩
    |false=>
     rw[hm]at hmx
     have hgd:True:=trivial
     have hif2:True:=trivial
     have hw1:True:=trivial
     have hd:True:=trivial
     have hd':True:=trivial
     have HSK:skipC lo my t i x.1=true:=by unfold skipC;rw[hbi2,hm];rfl
     cases hlb:(((i+1:Nat):Int)==(t.length:Int))with
     |true=>
      have hlb2:decide (((i+1:Nat):Int)=(t.length:Int))=true:=by simpa using hlb
      repeat' first|((with_reducible first|apply cs|apply ws|apply wd|apply wu)<;>intro h<;>try simp only[h])|simp only[↓wBA,tUd,convA,seval,pl43_10Ud,wH,kindE,tyE,mutsE,lenE,wHl,hdec,hi0,hif,hif2,hlb,hlb2,hgd,hw,hw1,cN,zN,ctn,ztn,hgc,itC,hS2',d0,dN,dtn,dx,w0,wN,wtn,wx,hbi1,hbi3,c3y,hla,hd,hd',c2y]|((with_reducible show ACalls _ _ _ _ _);refine hmx.eq ?_)|(with_reducible refine dQ pl43_10Ud 12 (some 51) ?_)
      rw[if_pos HSK,append_nil]at hacc1
      exact⟨⟨(i+1,av),by omega⟩,by show t.length - (i+1)<t.length - i;omega,⟨U2,P2,L,fs.trans aS2.fr,hB2.ap aS2,k2,by dsimp only;rw[hacc1];exact hL,hE.same fun j _ hj=>by rw[hS2,getElem?_append_left hj],hLU,hown⟩,by simp only[wHl,wHf]⟩
     |false=>
      have hlb2:decide (((i+1:Nat):Int)=(t.length:Int))=false:=by simpa using hlb
      repeat' first|((with_reducible first|apply cs|apply ws|apply wd|apply wu)<;>intro h<;>try simp only[h])|simp only[↓wBA,tUd,convA,seval,pl43_10Ud,wH,kindE,tyE,mutsE,lenE,wHl,hdec,hi0,hif,hif2,hlb,hlb2,hgd,hw,hw1,cN,zN,ctn,ztn,hgc,itC,hS2',d0,dN,dtn,dx,w0,wN,wtn,wx,hbi1,hbi3,c3y,hla,hd,hd',c2y]|((with_reducible show ACalls _ _ _ _ _);refine hmx.eq ?_)|(with_reducible refine dQ pl43_10Ud 12 (some 51) ?_)
      rw[if_pos HSK,append_nil]at hacc1
      exact⟨⟨(i+1,av),by omega⟩,by show t.length - (i+1)<t.length - i;omega,⟨U2,P2,L,fs.trans aS2.fr,hB2.ap aS2,k2,by dsimp only;rw[hacc1];exact hL,hE.same fun j _ hj=>by rw[hS2,getElem?_append_left hj],hLU,hown⟩,by simp only[wHl,wHf]⟩
  ·obtain rfl:i=t.length:=by omega
   have hdec:=dF (i:=t.length) (n:=t.length) hlt3
   have lfE:=hE.leaf
   have ccE:=hE.cells
   repeat' first|((with_reducible first|apply cs|apply ws|apply wd|apply wu)<;>intro h<;>try simp only[h])|simp only[↓wBA,tUd,convA,seval,pl43_10Ud,wH,kindE,tyE,mutsE,lenE,wHl,hdec]|(with_reducible refine dQ pl43_10Ud 12 (some 51) ?_)
   all_goals refine ret_st ?_ (by first|exact Nat.le_refl _|(simp only[length_set,length_append];omega)|omega)
   all_goals simp only[resA.eq_1,resL.eq_1,resL.eq_2,resV.eq_1,resV.eq_2,↓wBA,tUd,convA,seval,wH]
   exact⟨U2,P2,av,L,rfl,fS.trans fs,hB2,k2,hL,hE.mono fS.len,hLU,hown⟩
end
def tUe:=aa wX <| aa wbu <| aa T3 <| aa T30 <| aa T35 <| aa T86 T109
theorem ents_some:∀ {h:Nat} {t:BTr h},NeT h t→¬ nilT h t→entsT h t≠[]
 |0,t,_,hn=>hn
 |h+1,t,hN,hn=>by
  obtain⟨l,hl⟩:∃ l:NL h,l=t:=⟨_,rfl⟩
  subst hl
  cases l with
  |nil=>exact absurd rfl hn
  |cons x r=>
   have h1:=ents_some (hN x (by simp)).2 (hN x (by simp)).1
   intro e
   have e:List.flatMap (fun x:Ent×Nat×BTr h=>entsT h x.2.2) (x::r)=[]:=e
   rw[List.flatMap_cons]at e
   exact h1 (List.append_eq_nil_iff.1 e).1
theorem atFromM {b p dd l kh:Nat}{v:Nat→List UInt8}{lo:List UInt8}{lox:PV}{my:List UInt8→Bool}{g:FuncId}{caps:List AV}{kl:List (Nat×Ob)}(hlo:BX lox lo)(hdn:∀ a b:List UInt8,Lib.compareBytes a b≤0→my b=true→my a=true)
 (hmy:∀ (s:St) (k:List UInt8),Kept kl s→ACalls Tryz.prog g (.p (.sl 1 (encB k))::caps) s fun r s'=>s'=s∧r=boolV (my k)):∀ (h:Nat) {σ:St} {U:Nat→Prop} {P:PoolV} {n:Nat} {t:BTr h} {l0:Ent} {hi:Option Ent},Bt σ b p dd l kh U P v→Bud P 1→TrAt v h n t→(pgT h n t).Nodup→(∀ q∈pgT h n t,q<P.pages)→OkT false h l0 hi t→NeT h t→(∀ e∈entsT h t,e.k≠[]∧tellE lo my e=true)→Kept kl σ→(∀ q∈kl,¬ U q.1)→
  ACalls Tryz.prog 43 [.agg [.mp b 2 0 0],intV .i64 (n:Nat),.p lox,.fn g [] caps] σ fun r σ'=>FromPostM h t lo my σ b p dd l kh U P v r σ'
 |0,σ,U,P,n,t,l0,hi,hB,hb,hTr,hnd,htk,hOk,hNe,hall,hkl,hklU=>atFromLeafM hB hb (htk n (pgT_root 0 n t)) hTr (fun e he=>(hall e he).1) hlo hkl hklU hmy
 |h+1,σ,U,P,n,t,l0,hi,hB,hb,hTr,hnd,htk,hOk,hNe,hall,hkl,hklU=>by
  have hmem:∀ x∈(show NL h from t),∀ e∈entsT h x.2.2,e.k≠[]∧tellE lo my e=true:=fun x hx e he=>hall e (List.mem_flatMap.2 ⟨x,hx,he⟩)
  have hch:∀ x∈(show NL h from t),∃ l1 h1,OkT false h l1 h1 x.2.2:=fun x hx=>by
   obtain⟨i,hi⟩:=List.mem_iff_getElem?.1 hx
   exact⟨_,_,okC_at hOk.2.2 hi⟩
  refine atFromNodeM hB hb hTr hnd htk (fun x hx e=> ?_) hlo hkl hklU hmy fun {σ U P n x} hx a1 a2 a3 a4 a5 a6 a7=> ?_
  ·obtain⟨l1,h1,ho⟩:=hch x hx
   rw[fromF_eq hdn ho,List.filter_eq_self.2 fun e he=>(hmem x hx e he).2]at e
   exact ents_some (hNe x hx).2 (hNe x hx).1 e
  ·obtain⟨l1,h1,ho⟩:=hch x hx
   exact atFromM hlo hdn hmy h a1 a2 a3 a4 a5 ho (hNe x hx).2 (hmem x hx) a6 a7
section
variable {σ:St} {b p dd l kh n h:Nat} {U:Nat→Prop} {P:PoolV} {v:Nat→List UInt8} {T:Nat→Bool}
theorem atRangeM {lo hi:List UInt8}{lox hix:PV}{t:BTr h}(hB:Bt σ b p dd l kh U P v)(hb:Bud P 1)(hR:RootD v T P.pages n h t)(hOk:OkD h zeroE none t)(hall:∀ e∈entsT h t,e.k≠[]∧tellE lo (fun k=>decide (Lib.compareBytes k hi≤0)) e=true)(hlo:BX lox lo)(hhi:BX hix hi):
 ACalls Tryz.prog 19 [.mp b 2 0 0,intV .i64 (n:Nat),.p lox,.p hix] σ fun r σ'=>FromPostM h t lo (fun k=>decide (Lib.compareBytes k hi≤0)) σ b p dd l kh U P v r σ':=by
 have hlt:=hB.lt
 have a1:=Ap.app σ [some (Ob.row 1 [[AV.p hix]])]
 have hk:Kept [(σ.length,Ob.row 1 [[AV.p hix]])] (σ++[some (Ob.row 1 [[AV.p hix]])]):=fun q hq=>by
  simp only[mem_singleton]at hq;subst hq;simp
 refine acalls_of cx_ok dr_ok Tryz.func19 (by kernel_rfl) rfl (nt:=16) (rs:=[.tmp 8,.tmp 9]) rfl rfl ?_
 repeat' first|((with_reducible first|apply cs|apply ws)<;>intro h<;>try simp only[h])|simp only[↓wBA,tUe,convA,seval,wH]
 refine (atFromM (kl:=[(σ.length,Ob.row 1 [[AV.p hix]])]) (my:=fun k=>decide (Lib.compareBytes k hi≤0)) hlo (le_down hi) (fun s k hs=>atRange1 hhi (hs _ (mem_singleton.2 rfl))) h (hB.ap a1) hb hR.tr hR.nd (fun q hq=>(hR.tk q hq).2.1) hOk.toT hR.ne hall hk (fun q hq e=>by simp only[mem_singleton]at hq;subst hq;have:=hlt _ e;omega)).mono ?_
 rintro _ s1 ⟨U1,P1,av,L,rfl,f1,hB1,k1,hL,hE,hLU,hav⟩
 have q1:=f1.len
 simp only[length_append,length_cons,length_nil]at q1
 have lfE:=hE.leaf
 have ccE:=hE.cells
 repeat' first|((with_reducible first|apply cs|apply ws)<;>intro h<;>try simp only[h])|simp only[↓wBA,tUe,convA,seval,wH,lfE,ccE]
 all_goals refine ret_st ?_ (by first|exact Nat.le_refl _|(simp only[length_set,length_append];omega)|omega)
 all_goals simp only[resA.eq_1,resL.eq_1,resL.eq_2,resV.eq_1,resV.eq_2,↓wBA,tUe,convA,seval,wH]
 exact⟨U1,P1,av,L,rfl,a1.fr.trans f1,hB1,k1,hL,hE.mono a1.len,hLU,hav⟩
theorem atRangeD {lo hi:List UInt8}{lox hix:PV}{t:BTr h}(hB:Bt σ b p dd l kh U P v)(hb:Bud P 1)(hR:RootD v T P.pages n h t)(hlo:BX lox lo)(hhi:BX hix hi):
 ACalls Tryz.prog 19 [.mp b 2 0 0,intV .i64 (n:Nat),.p lox,.p hix] σ fun r σ'=>FromPost h t lo (fun k=>decide (Lib.compareBytes k hi≤0)) σ b p dd l kh U P v r σ':=by
 have hlt:=hB.lt
 have a1:=Ap.app σ [some (Ob.row 1 [[AV.p hix]])]
 have hk:Kept [(σ.length,Ob.row 1 [[AV.p hix]])] (σ++[some (Ob.row 1 [[AV.p hix]])]):=fun q hq=>by
  simp only[mem_singleton]at hq;subst hq;simp
 refine acalls_of cx_ok dr_ok Tryz.func19 (by kernel_rfl) rfl (nt:=16) (rs:=[.tmp 8,.tmp 9]) rfl rfl ?_
 repeat' first|((with_reducible first|apply cs|apply ws)<;>intro h<;>try simp only[h])|simp only[↓wBA,tUe,convA,seval,wH]
 refine (atFrom (kl:=[(σ.length,Ob.row 1 [[AV.p hix]])]) (my:=fun k=>decide (Lib.compareBytes k hi≤0)) hlo (fun s k hs=>atRange1 hhi (hs _ (mem_singleton.2 rfl))) h (hB.ap a1) hb hR.tr hR.nd (fun q hq=>(hR.tk q hq).2.1) hk (fun q hq e=>by simp only[mem_singleton]at hq;subst hq;have:=hlt _ e;omega)).mono ?_
 rintro _ s1 ⟨U1,P1,av,rfl,f1,hB1,k1,hE⟩
 have q1:=f1.len
 simp only[length_append,length_cons,length_nil]at q1
 repeat' first|((with_reducible first|apply cs|apply ws)<;>intro h<;>try simp only[h])|simp only[↓wBA,tUe,convA,seval,wH]
 all_goals refine ret_st ?_ (by first|exact Nat.le_refl _|(simp only[length_set,length_append];omega)|omega)
 all_goals simp only[resA.eq_1,resL.eq_1,resL.eq_2,resV.eq_1,resV.eq_2,↓wBA,tUe,convA,seval,wH]
 exact⟨U1,P1,av,rfl,a1.fr.trans f1,hB1,k1,hE⟩
theorem atAllD {t:BTr h}(hB:Bt σ b p dd l kh U P v)(hb:Bud P 1)(hR:RootD v T P.pages n h t):
 ACalls Tryz.prog 15 [.mp b 2 0 0,intV .i64 (n:Nat)] σ fun r σ'=>FromPost h t [] (fun _=>true) σ b p dd l kh U P v r σ':=by
 refine acalls_of cx_ok dr_ok Tryz.func15 (by kernel_rfl) rfl (nt:=12) (rs:=[.tmp 4,.tmp 5]) rfl rfl ?_
 repeat' first|((with_reducible first|apply cs|apply ws)<;>intro h<;>try simp only[h])|simp only[↓wBA,tUe,convA,seval,wH]
 refine (atFrom (kl:=[]) (my:=fun _=>true) (lo:=[]) (.inr ⟨rfl,rfl⟩) (fun s k hs=>atAll1 s _) h hB hb hR.tr hR.nd (fun q hq=>(hR.tk q hq).2.1) (fun q hq=>by simp at hq) (fun q hq=>by simp at hq)).mono ?_
 rintro _ s1 ⟨U1,P1,av,rfl,f1,hB1,k1,hE⟩
 have q1:=f1.len
 repeat' first|((with_reducible first|apply cs|apply ws)<;>intro h<;>try simp only[h])|simp only[↓wBA,tUe,convA,seval,wH]
 all_goals refine ret_st ?_ (by first|exact Nat.le_refl _|(simp only[length_set,length_append];omega)|omega)
 all_goals simp only[resA.eq_1,resL.eq_1,resL.eq_2,resV.eq_1,resV.eq_2,↓wBA,tUe,convA,seval,wH]
 exact⟨U1,P1,av,rfl,f1,hB1,k1,hE⟩
end
end Go.Proofs.YtockimhceppkbaaGreat
