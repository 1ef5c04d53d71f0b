/- slices.Insert of items, on the machine. Trees: the middle, splits. Trees: a node is written, in two pages if it must. -/
import Derived.Test.YtockimhceppkbaaGreatM31
set_option linter.unusedSimpArgs false
set_option linter.unusedVariables false
set_option linter.defProp false
set_option maxRecDepth 100000
set_option maxHeartbeats 32000000
namespace Go.Proofs.YtockimhceppkbaaGreat
open Go.RowKit
open List (drop_zero getElem?_set_ne length_append length_cons length_nil length_set)
def pl67_11Yi:Plan:=(.det 0 (.det 1 (.det 2 (.det 3 (.det 4 (.det 5 (.det 6 (.det 7 (.fin 8 .done)))))))))
def pl67_15Yi:Plan:=(.det 0 (.det 1 (.det 2 (.det 3 (.det 4 (.det 5 (.det 6 (.det 7 (.fin 8 .done)))))))))
def tYi:=aa wX <| aa wbu <| aa T3 <| aa T4 T90
def cxI:Ctx:={ cx with muts:=[90*100000+25] }
theorem cxI_ok:cxI.ok Tryz.prog:=cx_ok
theorem drI_ok:DrawOk Tryz.prog (aDraw Tryz.prog cxI):=aDraw_ok cxI_ok (by kernel_rfl)
theorem kindI (t:TypeId):cxI.kind t=cx.kind t:=nr rfl
theorem tyI (t:TypeId):cxI.ty t=cx.ty t:=nr rfl
theorem mutsI:cxI.muts=[90*100000+25]:=nr rfl
theorem lenI {T:TypeId}{x:AV}:lenA cxI T x=lenA cx T x:=nr rfl
theorem sliceI {T:TypeId}{x:AV}{lo hi:Option AV}:sliceA cxI T x lo hi=sliceA cx T x lo hi:=nr rfl
theorem slEnd (t n:Nat)(h:(0<n)=True):sliceA cx 90 (.ms t 4 0 n) (some (.p (.v (.int .i64 (n:Nat))))) none=some (.p (.sl 4 [])):=by
 unfold sliceA
 rw[ck_90]
 cases n with
 |zero=>simp at h
 |succ n=>
  have e1:boundA (some (.p (.v (.int .i64 ((n+1:Nat):Int))))) 0=some (Int.ofNat (n+1)):=rfl
  have e2:boundA none ((n+1:Nat):Int)=some (Int.ofNat (n+1)):=rfl
  simp only[elemsA,e1,e2]
  rw[if_neg (by rintro⟨_,_,h1,_⟩;omega),if_pos (by refine⟨trivial,?_,trivial,?_⟩<;>simp<;>omega)]
theorem slFrom (t i n k:Nat)(h0:0<k)(h:k<n):sliceA cx 90 (.ms t 4 i n) (some (.p (.v (.int .i64 (k:Nat))))) none=some (.ms t 4 (i+k) (n - k)):=by
 unfold sliceA
 rw[ck_90]
 cases k with
 |zero=>omega
 |succ k=>
  have e1:boundA (some (.p (.v (.int .i64 ((k+1:Nat):Int))))) 0=some (Int.ofNat (k+1)):=rfl
  have e2:boundA none (n:Int)=some (Int.ofNat n):=rfl
  simp only[elemsA,e1,e2]
  rw[if_pos (by refine⟨trivial,?_,?_,?_⟩<;>simp<;>omega)]
  rfl
theorem slTo (t i n k:Nat)(h:k≤n):sliceA cx 90 (.ms t 4 i n) none (some (.p (.v (.int .i64 (k:Nat)))))=some (.ms t 4 i k):=by
 unfold sliceA
 rw[ck_90]
 have e2:boundA (some (.p (.v (.int .i64 (k:Nat))))) (n:Int)=some (Int.ofNat k):=rfl
 change (match boundA (some (AV.p (PV.v (Value.int IntKind.i64 (k:Nat))))) (n:Int)with|some h=>(if 4=4∧(0:Int)≤h∧h≤(n:Int)then some (AV.ms t 4 i h.toNat)else none)|none=>none)=_
 rw[e2]
 dsimp only
 rw[if_pos (by refine⟨rfl,?_,?_⟩<;>simp<;>omega)]
 rfl
theorem slNil:sliceA cx 90 (.p (.v (.slice none 0 0))) (some (.p (.v (.int .i64 0)))) none=some (.p (.v (.slice none 0 0))):=by
 unfold sliceA
 rw[ck_90]
 rfl
theorem ainsEnd {σ:St}{t tv:Nat}{l:List Itm}{x:Itm}(hl:l.length≤1000000)(hl0:0<l.length)(ht:σ[t]? =some (some (.row 4 (l.map itC))))(hv:σ[tv]? =some (some (.right 97 4))):
 ACalls Tryz.prog 67 [.ms t 4 0 l.length,intV .i64 (l.length:Nat),.own tv 4 [itP x]] σ fun r s=>r= .ms σ.length 4 0 (l.length+1)∧s=σ.set t none++[some (.row 4 ((l++[x]).map itC))]:=by
 have hs:=slEnd t l.length (eq_true hl0)
 have yt:=at_lt ht
 have yv:=at_lt hv
 have hlm:(List.map itC l).length=l.length:=by simp
 have htt:List.take l.length (List.map itC l)=List.map itC l:=List.take_of_length_le (by simp)
 have ht1:=tL (n:=(l.length+1)*48) (by omega)
 have ht2:=lM (n:=l.length+1) (by omega)
 have hii:(l.length≤l.length)=True:=eq_true (Nat.le_refl _)
 refine acalls_of cxI_ok drI_ok Tryz.func67 (by kernel_rfl) rfl (nt:=92) (rs:=[.tmp 6]) rfl rfl ?_
 repeat' first|((with_reducible first|apply cs|apply ws|apply wd|apply wu)<;>intro h<;>try simp only[h])|simp only[↓wBA,tYi,convA,seval,pl67_11Yi,pl67_15Yi,wH,kindI,tyI,mutsI,lenI,sliceI,ht,yt,hv,yv,hlm,htt,ht1,ht2,hii,appendM,srcM,srcA,itP,hs]|(with_reducible first|refine dQ pl67_11Yi 9 (some 46) ?_|refine dQ pl67_15Yi 9 (some 69) ?_)
 all_goals refine ret_st ?_ (by first|exact Nat.le_refl _|(simp only[length_set,length_append];omega)|omega)
 all_goals simp only[resA.eq_1,resL.eq_1,resL.eq_2,resV.eq_1,resV.eq_2,↓wBA,tYi,convA,seval,wH,kindI,tyI]
 simp[itC,intV]
theorem ainsNil {σ:St}{tv:Nat}{x:Itm}(hv:σ[tv]? =some (some (.right 97 4))):
 ACalls Tryz.prog 67 [.p (.v (.slice none 0 0)),intV .i64 0,.own tv 4 [itP x]] σ fun r s=>r= .ms σ.length 4 0 1∧s=σ++[some (.row 4 [itC x])]:=by
 have yv:=at_lt hv
 have ht2:=lM (n:=1) (by omega)
 refine acalls_of cxI_ok drI_ok Tryz.func67 (by kernel_rfl) rfl (nt:=92) (rs:=[.tmp 6]) rfl rfl ?_
 repeat' first|((with_reducible first|apply cs|apply ws|apply wd|apply wu)<;>intro h<;>try simp only[h])|simp only[↓wBA,tYi,convA,seval,pl67_11Yi,pl67_15Yi,wH,kindI,tyI,mutsI,lenI,sliceI,hv,yv,ht2,appendM,srcM,srcA,itP,slNil]|(with_reducible first|refine dQ pl67_11Yi 9 (some 46) ?_|refine dQ pl67_15Yi 9 (some 69) ?_)
 all_goals refine ret_st ?_ (by first|exact Nat.le_refl _|(simp only[length_set,length_append];omega)|omega)
 all_goals simp only[resA.eq_1,resL.eq_1,resL.eq_2,resV.eq_1,resV.eq_2,↓wBA,tYi,convA,seval,wH,kindI,tyI]
 simp[itC,intV]
theorem ainsMid {σ:St}{t tv i:Nat}{l:List Itm}{x:Itm}(hl:l.length≤1000000)(hi:i<l.length)(ht:σ[t]? =some (some (.row 4 (l.map itC))))(hv:σ[tv]? =some (some (.right 97 4))):
 ACalls Tryz.prog 67 [.ms t 4 0 l.length,intV .i64 (i:Nat),.own tv 4 [itP x]] σ fun r s=>r= .ms σ.length 4 0 (l.length+1)∧s=σ.set t none++[some (.row 4 ((l.take i++x::l.drop i).map itC))]:=by
 refine⟨en _ (by kernel_rfl),fun M vs hM hvs=> ?_⟩
 obtain⟨u1,us1,rfl,h1,u2,us2,rfl,h2,u3,us3,rfl,h3,rfl⟩:∃ u us',vs=u::us'∧ARep M (.ms t 4 0 l.length) u∧∃ u2 us2,us'=u2::us2∧ARep M (intV .i64 (i:Nat)) u2∧∃ u3 us3,us2=u3::us3∧ARep M (.own tv 4 [itP x]) u3∧us3=[]:=by simpa only[ARepL]using hvs
 have hsz:σ.put σ.length (.row 4 ((l.take i++x::l.drop i).map itC))=σ++[some (.row 4 ((l.take i++x::l.drop i).map itC))]:=put_new rfl
 have hput:∀ (σ0:St),σ0.length=σ.length→St.put σ0 σ.length (.row 4 ((l.take i++x::l.drop i).map itC))=σ0++[some (.row 4 ((l.take i++x::l.drop i).map itC))]:=fun σ0 h=>put_new h.symm
 obtain⟨_,b,cur,T,hb,hh,hI,hr,hcs⟩:=hM.obj t _ ht
 simp only[ARep]at h1
 obtain⟨b',c,hb',_,rfl,hn,hf⟩:=h1
 have:b'=b:=by rw[hb]at hb';simpa using hb'.symm
 subst this
 rw[← hcs]at hf
 have e2:u2= .int .i64 (i:Nat):=rep_int h2
 subst e2
 simp only[ARep]at h3
 obtain⟨vb,vc,n0,rfl,hvc,_,hpr,hvn,_,himp⟩:=h3
 obtain⟨hvl,vb',vcur,hvb',hvh,hvcs,hvI⟩:=hM.obj tv _ hv
 rw[hvl]at hvn
 simp only[Option.some.injEq]at hvn
 obtain⟨hvmu,hvcap⟩:=himp (by rw[← hvn];rfl)
 have:vb'=vb:=by rw[hvmu]at hvb';simpa using hvb'.symm
 subst this
 have hne:vb'≠b':=fun e=>hI 0 (by rw[← e];exact (hvI 0).2 (by omega))
 have hvr:RowRep M vcur 4 [itC x]:=fun j cc hj=>by
  cases j with
  |succ j=>simp at hj
  |zero=>
   simp at hj;subst hj
   refine⟨rfl,fun q a ha=> ?_⟩
   rw[← itC_P,List.getElem?_map]at ha
   cases hq:(itP x)[q]? with
   |none=>rw[hq]at ha;simp at ha
   |some y=>
    rw[hq]at ha;simp at ha;subst ha
    obtain⟨_,hpc⟩:=hpr.get (i:=0) (c:=itP x) rfl
    obtain⟨u,g1,_,g2⟩:=hpc.get hq
    rw[cell_of_row _ _ _ _ _ _ hvh]at g1
    exact⟨rfl,u,by simpa using g1,by simpa only[ARep]using g2⟩
 have hvc1:1≤vc:=by simpa using hvc
 have hvsz:0+4≤vcur.size:=by rw[hvcs,hvcap];omega
 have hlm:(l.map itC).length=l.length:=by simp
 have hcf:c*4≤cur.size:=by omega
 obtain⟨a1,a2,a3,a4⟩:=row_part hr 0 i (by rw[hlm];omega) (by omega) (by omega)
 obtain⟨b1,b2,b3,b4⟩:=row_part hr i (l.length - i) (by rw[hlm];omega) (by omega) (by omega)
 obtain⟨c1,c2,c3,c4⟩:=row_part hvr 0 1 (by simp) (by omega) (by omega)
 simp only[Nat.zero_mul,drop_zero,Nat.one_mul]at a1 a2 a3 a4 c1 c2 c3 c4
 have hms:((l.map itC).take i++[itC x].take 1++((l.map itC).drop i).take (l.length - i))=(l.take i++x::l.drop i).map itC:=by
  rw[List.map_append,List.map_cons,List.map_take,List.map_drop,List.take_of_length_le (l:=List.drop i (List.map itC l)) (by simp)]
  simp
 have hrow:∀ z:List Value,RowRep M (cur.toList.take (i*4)++(vcur.toList.drop 0).take 4++(cur.toList.drop (i*4)).take ((l.length - i)*4)++z).toArray 4 ((l.take i++x::l.drop i).map itC):=fun z=>by
  rw[← hms]
  refine row_app (us:=cur.toList.take (i*4)++(vcur.toList.drop 0).take 4) (vs:=(cur.toList.drop (i*4)).take ((l.length - i)*4)) ?_ ?_ b4 fun q u hq=> ?_
  ·rw[length_append,drop_zero,a1,c1];simp;omega
  ·refine row_app (us:=cur.toList.take (i*4)) (vs:=(vcur.toList.drop 0).take 4) ?_ a4 (by rw[drop_zero];exact c4) fun q u hq=> ?_
   ·rw[a1];simp;omega
   ·simpa using hq
  ·rw[List.getElem?_toArray,List.getElem?_append_left (List.getElem?_eq_some_iff.1 hq).1]
   exact hq
 have hone:∀ v∈(vcur.toList.drop 0).take 4,v.oneCell'=true:=by rw[drop_zero];exact c3
 by_cases hroom:l.length+1≤c
 ·refine (ins_shift b' l.length c i vb' 0 vc cur vcur T 97 M.w hi hroom (by omega) hne hh hvh hcf hvsz b3 hone).mono ?_
  rintro e w' ⟨rfl,hw'⟩
  obtain⟨cur2,hc2⟩:∃ cur2,cur2=(cur.toList.take (i*4)++(vcur.toList.drop 0).take 4++(cur.toList.drop (i*4)).take ((l.length - i)*4)++cur.toList.drop ((i+1)*4+(l.length - i)*4)).toArray:=⟨_,rfl⟩
  have hrow2:=hrow (cur.toList.drop ((i+1)*4+(l.length - i)*4))
  rw[← hc2]at hrow2 hw'
  have hcs2:cur2.size=cur.size:=by rw[hc2];simp only[List.size_toArray,length_append,a1,b1,drop_zero,c1,List.length_drop,Array.length_toList];omega
  obtain⟨cur1,hc1⟩:∃ cur1,w'=(M.w.drew.setRow b' cur1).setRow b' cur2:=⟨_,hw'⟩
  obtain⟨M',h5,h6,h6',hct,h7,h8⟩:=hM.rowAt (tk:=σ.length) (w':=w') ht hb hI rfl (by rw[hc1];exact setRow_heap _ _ _ _ _ _ (setRow_heap M.w.drew _ _ _ _ _ hh)) (fun k hk=>by rw[hc1,setRow_other _ _ _ _ hk,setRow_other _ _ _ _ hk];rfl) (by rw[hc1];simp) (by rw[hc1];rfl) (by rw[hc1];rfl) (by rw[hc1];rfl) hrow2
  rw[hput _ (by simp)]at h7 h8
  refine⟨_,.ms σ.length 4 0 (l.length+1),_,M',rfl,h5,h7,h8,?_,by simp,rfl,rfl⟩
  simp only[ARep]
  refine⟨b',c,h6,h6',by simp,hroom,?_⟩
  rw[hct,hcs2];omega
 ·refine (ins_grow b' l.length c i vb' 0 vc cur vcur T 97 M.w hi hn (by omega) (by omega) hh hvh hcf hvsz b3 hone).mono ?_
  rintro e w' ⟨G,z,hz,hG,rfl,rfl⟩
  obtain⟨M',h5,h6,h6',hct,h7,h8⟩:=((hM.drew.drew).forget t).row (t:=σ.length) (by simp) _ 97 4 _ (((hrow z).later (Later.drew M)).later (Later.drew M.drew))
  rw[hput _ (by simp)]at h7 h8
  refine⟨_,.ms σ.length 4 0 (l.length+1),_,M',rfl,h5,((Ext.drew M σ).trans (Ext.drew M.drew σ)).trans ((Ext.forget M.drew.drew σ t).trans h7),h8,?_,by simp,rfl,rfl⟩
  simp only[ARep]
  refine⟨_,G,h6,h6',rfl,hG,?_⟩
  rw[hct]
  simp only[length_append,a1,b1,hz,drop_zero,c1]
  omega
def tYe:=aa wX <| aa wbu <| aa T3 <| aa T35 <| aa T48 <| aa T90 T97
theorem halfF_step (l:List Itm)(i:Nat)(x:Itm)(h:l[i]? =some x)(all:Nat):halfF all (l.drop i) (szL (l.take i)) i=if 2*szL (l.take i)<all then halfF all (l.drop (i+1)) (szL (l.take (i+1))) (i+1)else i:=by
 have hd:l.drop i=x::l.drop (i+1):=by
  rw[List.drop_eq_getElem_cons (List.getElem?_eq_some_iff.1 h).1]
  rw[(List.getElem?_eq_some_iff.1 h).2]
 rw[hd]
 rw[halfF,takeI l i x h,szL_app,szL_cons,szL_nil]
 simp only[Nat.add_zero]
theorem atMid0 (l:List Itm)(hl:l.length≤1000000)(hok:∀ x∈l,x.ok):ACalls Tryz.prog 100 [.p (.sl 4 (encI l))] [] fun r _=>r=intV .i64 (midF l:Nat):=by
 have hszt:∀ i,szL (l.take i)≤150*i:=fun i=>by
  have:∀ m:List Itm,(∀ x∈m,x.ok)→szL m≤150*m.length:=by
   intro m
   induction m with
   |nil=>intro _;exact Nat.le_refl _
   |cons x m ih=>intro h;have h1:=ih fun y hy=>h y (by simp[hy]);have h2:=szI_le (h x (by simp));rw[szL_cons];simp only[length_cons];omega
  have h1:=this (l.take i) fun x hx=>hok x (List.mem_of_mem_take hx)
  have h2:(l.take i).length≤i:=by rw[List.length_take];omega
  have:=Nat.mul_le_mul_left 150 h2
  omega
 refine acalls_of cx_ok dr_ok Tryz.func100 (by kernel_rfl) rfl (nt:=38) (rs:=[.tmp 2]) rfl rfl ?_
 repeat' first|((with_reducible first|apply cs|apply ws)<;>intro h<;>try simp only[h])|simp only[↓wBA,tYe,convA,seval,encI_len]
 refine awp_loopS (X:={ i:Nat // i≤l.length }) (fun i=>l.length - i.1) (fun i=>[(3,intV .i64 (szL (l.take i.1):Nat)),(10,intV .i64 (i.1:Nat))]) [7,11,12,13,14,15,16,17,18,19,20,21] (fun i s=>True) (⟨0,by omega⟩) ?_ ?_ ?_ ?_
 ·simp only[wHl,wHf,List.take_zero,szL_nil]
 ·trivial
 ·intro _ _ _;simp
 ·intro y J s hI
  simp only[wHl]
  obtain⟨i,hi⟩:=y
  dsimp only at*
  have hi0:=nnI i
  by_cases hlt:i<l.length
  ·have hdec:=dT (i:=i) (n:=l.length) hlt
   have hw:=wI i (by omega)
   obtain⟨x,hx⟩:∃ x,l[i]? =some x:=⟨l[i],by simp⟩
   have hg:=encI_get l i x hx
   have hxo:=(hok x (List.mem_of_getElem? hx)).1.1
   have hz:=hszt i
   have hek:=encB_len' x.e.k
   have hw2:IntKind.i64.wrap ((x.e.k.length:Int)+10)=((x.e.k.length+10:Nat):Int):=by rw[wrap_i64 (by omega) (by omega)];simp
   have hw3:IntKind.i64.wrap ((szL (l.take i):Int)+((x.e.k.length+10:Nat):Int))=((szL (l.take (i+1)):Nat):Int):=by
    rw[takeI l i x hx,szL_app,szL_cons,szL_nil,wrap_i64 (by omega) (by omega)]
    unfold szI;omega
   repeat' first|((with_reducible first|apply cs|apply ws)<;>intro h<;>try simp only[h])|simp only[↓wBA,tYe,convA,seval,wH,wHl,encI_len,hdec,hi0,hg,itP,hw,hek,hw2,hw3]
   refine⟨⟨i+1,by omega⟩,by show l.length - (i+1)<l.length - i;omega,by simp only[wHl,wHf]⟩
  ·obtain rfl:i=l.length:=by omega
   have hdec:=dF (i:=l.length) (n:=l.length) hlt
   have hall:szL (l.take l.length)=szL l:=by rw[List.take_length]
   have hall2:=hszt l.length
   rw[hall]at hall2
   repeat' first|((with_reducible first|apply cs|apply ws)<;>intro h<;>try simp only[h])|simp only[↓wBA,tYe,convA,seval,wH,wHl,encI_len,hdec,hall]
   refine awp_loopS (X:={ i:Nat // i≤l.length∧halfF (szL l) (l.drop i) (szL (l.take i)) i=midF l }) (fun i=>l.length - i.1) (fun i=>[(4,intV .i64 (szL (l.take i.1):Nat)),(5,intV .i64 (i.1:Nat))]) [22,23,24,25,26,27,28,29,30,31,32,33,34,35,36,37] (fun i q=>List.length s≤List.length q) (⟨0,by omega,rfl⟩) ?_ ?_ ?_ ?_
   ·simp only[wHl,wHf,List.take_zero,szL_nil]
   ·exact Nat.le_refl _
   ·intro _ _ h;exact h
   ·intro y J2 s2 hI2
    simp only[wHl]
    obtain⟨i,hi,hmid⟩:=y
    dsimp only at*
    have hi0:=nnI i
    have hz:=hszt i
    have hzz:szL (l.take i)≤szL l:=by
     have:=szL_app (l.take i) (l.drop i)
     rw[List.take_append_drop]at this;omega
    have hm:IntKind.i64.wrap (2*(szL (l.take i):Int))=((2*szL (l.take i):Nat):Int):=by rw[wrap_i64 (by omega) (by omega)];simp
    by_cases hc:2*szL (l.take i)<szL l
    ·have hlt2:i<l.length:=by
      rcases Nat.lt_or_ge i l.length with h|h
      ·exact h
      ·rw[List.take_of_length_le h]at hc;omega
     have hdec2:=dT (i:=2*szL (l.take i)) (n:=szL l) hc
     have hw:=wI i (by omega)
     obtain⟨x,hx⟩:∃ x,l[i]? =some x:=⟨l[i],by simp⟩
     have hg:=encI_get l i x hx
     have hxo:=(hok x (List.mem_of_getElem? hx)).1.1
     have hek:=encB_len' x.e.k
     have hw2:IntKind.i64.wrap ((x.e.k.length:Int)+10)=((x.e.k.length+10:Nat):Int):=by rw[wrap_i64 (by omega) (by omega)];simp
     have hw3:IntKind.i64.wrap ((szL (l.take i):Int)+((x.e.k.length+10:Nat):Int))=((szL (l.take (i+1)):Nat):Int):=by
      rw[takeI l i x hx,szL_app,szL_cons,szL_nil,wrap_i64 (by omega) (by omega)]
      unfold szI;omega
     have hst:=halfF_step l i x hx (szL l)
     rw[if_pos hc,hmid]at hst
     repeat' first|((with_reducible first|apply cs|apply ws)<;>intro h<;>try simp only[h])|simp only[↓wBA,tYe,convA,seval,wH,wHl,hm,hdec2,hi0,hg,itP,hw,hek,hw2,hw3]
     refine⟨⟨i+1,by omega,hst.symm⟩,by show l.length - (i+1)<l.length - i;omega,hI2,by simp only[wHl,wHf]⟩
    ·have hdec2:=dF (i:=2*szL (l.take i)) (n:=szL l) hc
     have hfi:midF l=i:=by
      rcases Nat.lt_or_ge i l.length with h|h
      ·obtain⟨x,hx⟩:∃ x,l[i]? =some x:=⟨l[i],by simp⟩
       have hst:=halfF_step l i x hx (szL l)
       rw[if_neg hc,hmid]at hst
       exact hst
      ·rw[List.drop_eq_nil_of_le h]at hmid
       rw[← hmid];rfl
     repeat' first|((with_reducible first|apply cs|apply ws)<;>intro h<;>try simp only[h])|simp only[↓wBA,tYe,convA,seval,wH,wHl,hm,hdec2]
     all_goals refine ret_st ?_ (by first|exact Nat.le_refl _|(simp only[length_set,length_append];omega)|omega)
     all_goals simp only[resA.eq_1,resL.eq_1,resL.eq_2,resV.eq_1,resV.eq_2,↓wBA,tYe,convA,seval,wH,hfi]
theorem atMid {σ:St}{a:AV}{l:List Itm}(ha:ItA σ a l)(hl:l.length≤1000000)(hok:∀ x∈l,x.ok):ACalls Tryz.prog 100 [a] σ fun r s=>s=σ∧r=intV .i64 (midF l:Nat):=by
 refine ACalls.borrowS (atMid0 l hl hok) (fun r hr M M' u h=> ?_) fun M vs hM hv=> ?_
 ·subst hr;exact noM_p M M' u h
 ·simp only[ARepL]at hv ⊢
  obtain⟨u1,us1,rfl,h1,rfl⟩:=hv
  exact⟨u1,_,rfl,by simp only[ARep];exact ha M u1 hM h1,rfl⟩
def pl68_8Yf:Plan:=(.det 0 (.det 1 (.det 2 (.det 3 (.det 4 (.det 5 (.det 6 (.det 7 (.det 8 (.fin 9 (.det 10 .done)))))))))))
def pl68_11Yf:Plan:=(.det 0 (.det 1 (.det 2 (.det 3 (.det 4 (.det 6 (.det 9 (.det 10 (.det 11 (.det 12 (.det 13 (.det 14 (.det 15 (.det 16 (.det 17 (.two 5 (.det 7 (.two 8 (.act 18 (.det 19 (.det 20 .done))) 18 (.act 8 (.det 19 (.det 20 .done))))) 18 (.act 5 (.det 7 (.act 8 (.det 19 (.det 20 .done)))))))))))))))))))))
def tYf:=aa wX <| aa wbu <| aa T3 <| aa T25 <| aa T30 <| aa T48 <| aa T86 <| aa T90 <| aa T92 <| aa T97 T106
def nilQ:AV:=.p (.v (.pointer none))
def SplR (T:Nat→Bool)(np n kd len0:Nat)(its:List Itm)(v v':Nat→List UInt8)(r:AV)(s:St)(U':Nat→Prop):Prop:=
 (szL its≤496∧r= .tup [nilQ,intV .i64 0]∧v'=upV v n (fitF kd its).1)
 ∨(496<szL its∧(∀ m,m<np→T m=true)∧r= .tup [nilQ,intV .i64 20]∧v'=v)
 ∨(496<szL its∧∃ m tm x,1≤m∧m<np∧T m=false∧its[midF its]? =some x∧r= .tup [.mp tm 4 0 0,intV .i64 0]∧s[tm]? =some (some (.row 4 [itC ⟨x.e,m⟩]))∧len0≤tm∧¬ U' tm∧
  v' m=(fitF kd (its.drop (midF its))).1∧v' n=(fitF kd (its.take (midF its))).1∧(∀ q,q≠m→q≠n→q≠0→v' q=v q)∧Tk (v' 0) np (updT T m true))
theorem szL_last (l:List Itm)(x:Itm)(k:Nat)(h:l[k]? =some x):szL (l.take (k+1))=szL (l.take k)+szI x:=by rw[takeI l k x h,szL_app,szL_cons,szL_nil];omega
theorem halves (l:List Itm)(hok:∀ x∈l,x.ok)(h1:496<szL l)(h2:szL l≤646):1≤midF l∧midF l<l.length∧szL (l.take (midF l))≤473∧szL (l.drop (midF l))≤323:=by
 obtain⟨m1,m2,m3⟩:=mid_spec l
 have hsum:szL (l.take (midF l))+szL (l.drop (midF l))=szL l:=by rw[← szL_app,List.take_append_drop]
 have hm0:midF l≠0:=fun e=>by rw[e]at m2;simp[szL_nil]at m2;omega
 have hm3:2*szL (l.take (midF l - 1))<szL l:=m3.resolve_left hm0
 obtain⟨k,hk⟩:∃ k,midF l=k+1:=⟨midF l - 1,by omega⟩
 rw[hk]at m1 m2 hsum hm3 ⊢
 simp only[Nat.add_sub_cancel]at hm3
 obtain⟨x,hx⟩:∃ x,l[k]? =some x:=⟨l[k],by simp⟩
 have hxo:=szI_le (hok x (List.mem_of_getElem? hx))
 have hl:=szL_last l x k hx
 refine⟨by omega,?_,by omega,by omega⟩
 rcases Nat.lt_or_ge (k+1) l.length with h|h
 ·exact h
 ·rw[List.take_of_length_le h]at hl;omega
theorem spl_view {v v1:Nat→List UInt8}{m n:Nat}{A B:List UInt8}(hmn:m≠n)(hn:n≠0)(hm:m≠0)(hvo:∀ q,q≠m→q≠0→v1 q=v q):
 upV (upV v1 m A) n B m=A∧upV (upV v1 m A) n B n=B∧(∀ q,q≠m→q≠n→q≠0→upV (upV v1 m A) n B q=v q)∧upV (upV v1 m A) n B 0=v1 0:=by
 unfold upV
 refine⟨?_,?_,fun q h1 h2 h3=> ?_,?_⟩
 ·rw[if_neg hmn,if_pos rfl]
 ·rw[if_pos rfl]
 ·rw[if_neg h2,if_neg h1];exact hvo q h1 h3
 ·rw[if_neg (fun e=>hn e.symm),if_neg (fun e=>hm e.symm)]
theorem atSplit {σ:St}{b p dd l kh n kd t:Nat}{U:Nat→Prop}{P:PoolV}{v:Nat→List UInt8}{T:Nat→Bool}{its:List Itm}(h:Bt σ b p dd l kh U P v)(hT:Tk (v 0) P.pages T)(hnp:P.pages≤3200)(hT0:T 0=true)(hb:Bud P 1)(hn0:1≤n)(hn:n<P.pages)(hTn:T n=true)
 (ht:σ[t]? =some (some (.row 4 (its.map itC)))) (htU:¬ U t) (hkd:kd=2∨kd=3) (hok:∀ x∈its,x.ok) (hsz:szL its≤646):
 ACalls Tryz.prog 68 [.agg [.mp b 2 0 0],intV .i64 (n:Nat),.agg [intV .i64 (kd:Nat),.ms t 4 0 its.length]] σ fun r σ'=>∃ U' P' v',Fr σ σ' U U'∧Bt σ' b p dd l kh U' P' v'∧Kp P P' 0∧SplR T P.pages n kd σ.length its v v' r σ' U':=by
 have hlen:=szL_len its
 have yt:=at_lt ht
 have hlt:=h.lt
 have hnp1:1≤P.pages:=by omega
 have hItM:∀ s:St,s[t]? =σ[t]? →ItM s t 0 its:=fun s hs=>⟨its.map itC,hs.trans ht,by simp,fun j x hj=>by simp[hj]⟩
 have hpl:=fitF_len kd its
 have hpc:=pageC_512 hpl
 have z5:=pageC_512 len_zero512
 refine acalls_of cx_ok dr_ok Tryz.func68 (by kernel_rfl) rfl (nt:=67) (rs:=[.tmp 6,.tmp 7]) rfl rfl ?_
 repeat' first|((with_reducible first|apply cs|apply ws|apply wd|apply wu)<;>intro h<;>try simp only[h])|simp only[↓wBA,tYf,convA,seval,pl68_8Yf,pl68_11Yf,wH]|(with_reducible first|refine dQ pl68_8Yf 11 (some 38) ?_|refine dQ pl68_11Yf 21 (some 51) ?_)|with_reducible refine And.intro ?_ ?_
 have a1:Ap σ (σ++[some (Ob.row 1 [[AV.mp b 2 0 0]])]++[some (Ob.row 2 [[intV .i64 (kd:Nat),AV.ms t 4 0 its.length]])]):=(Ap.app _ _).more _
 refine (atFits kd (hItM _ ((a1.get ht).trans ht.symm)).a hok (by omega)).eq ?_
 obtain⟨S0,hS0⟩:∃ S0,S0=σ++[some (Ob.row 1 [[AV.mp b 2 0 0]])]++[some (Ob.row 2 [[intV .i64 (kd:Nat),AV.ms t 4 0 its.length]])]++[some (Ob.row 512 [pageC (fitF kd its).1])]:=⟨_,rfl⟩
 have aS:Ap σ S0:=by rw[hS0];exact a1.more _
 have hl0:S0.length=σ.length+3:=by rw[hS0];simp
 have b0:S0[σ.length]? =some (some (Ob.row 1 [[AV.mp b 2 0 0]])):=by rw[hS0];simp
 have b1:S0[σ.length+1]? =some (some (Ob.row 2 [[intV .i64 (kd:Nat),AV.ms t 4 0 its.length]])):=by rw[hS0];simp
 have t0:=aS.get ht
 have y0:=at_lt b0
 have y1:=at_lt b1
 have y2:=at_lt t0
 have h0:=h.ap aS
 have hS1:σ++[some (Ob.row 1 [[AV.mp b 2 0 0]])]++[some (Ob.row 2 [[AV.p (PV.v (Value.int IntKind.i64 (kd:Nat))),AV.ms t 4 0 its.length]])]++[some (Ob.row 512 [pageC (fitF kd its).1])]=S0:=hS0.symm
 by_cases hs:szL its≤496
 ·obtain⟨hf2,hfn⟩:=fit_yes hkd hok hs
  repeat' first|((with_reducible first|apply cs|apply ws|apply wd|apply wu)<;>intro h<;>try simp only[h])|simp only[↓wBA,tYf,convA,seval,pl68_8Yf,pl68_11Yf,wH,pageA,hpc,hpl,zl512,zB_512,len_zero512,z5,hf2,hS1,b0,b1,y0,y1]|(with_reducible first|refine dQ pl68_8Yf 11 (some 38) ?_|refine dQ pl68_11Yf 21 (some 51) ?_)|with_reducible refine And.intro ?_ ?_
  refine (atWrite h0 hn0 hn (.inl ⟨t,0,rfl,hItM _ (t0.trans ht.symm)⟩) hkd hok hs).mono ?_
  rintro _ s ⟨rfl,U1,f1,h1⟩
  repeat' first|((with_reducible first|apply cs|apply ws|apply wd|apply wu)<;>intro h<;>try simp only[h])|simp only[↓wBA,tYf,convA,seval,pl68_8Yf,pl68_11Yf,wH]|(with_reducible first|refine dQ pl68_8Yf 11 (some 38) ?_|refine dQ pl68_11Yf 21 (some 51) ?_)|with_reducible refine And.intro ?_ ?_
  have l1:=f1.len
  all_goals refine ret_st ?_ (by first|exact Nat.le_refl _|(simp only[length_set,length_append];omega)|omega)
  all_goals simp only[resA.eq_1,resL.eq_1,resL.eq_2,resV.eq_1,resV.eq_2,↓wBA,tYf,convA,seval,wH]
  exact⟨U1,P,_,aS.fr.trans f1,h1,Kp.refl P _,.inl ⟨hs,rfl,rfl⟩⟩
 ·have hf2:=fit_no hkd hok hs
  obtain⟨q1,q2,q3,q4⟩:=halves its hok (by omega) hsz
  repeat' first|((with_reducible first|apply cs|apply ws|apply wd|apply wu)<;>intro h<;>try simp only[h])|simp only[↓wBA,tYf,convA,seval,pl68_8Yf,pl68_11Yf,wH,pageA,hpc,hpl,zl512,zB_512,len_zero512,z5,hf2,hS1,b0,b1,y0,y1]|((with_reducible show ACalls _ _ _ _ _);refine (atMid (hItM _ (t0.trans ht.symm)).a (by omega) hok).eq ?_)|(with_reducible first|refine dQ pl68_8Yf 11 (some 38) ?_|refine dQ pl68_11Yf 21 (some 51) ?_)|with_reducible refine And.intro ?_ ?_
  refine (abAlloc (kind:=kd) h0 hT hnp hnp1 hT0 hb).mono ?_
  rintro r s1 ⟨U1,P1,v1,f1,h1,k1,hc⟩
  have l1:=f1.len
  have hlt1:=h1.lt
  have nU:∀ j,j<S0.length→¬ U j→¬ U1 j:=fun j hj hn e=>(f1.own j e).elim hn fun e=>by omega
  have g0:=f1.get b0 fun e=>by have:=hlt _ e;omega
  have g1:=f1.get b1 fun e=>by have:=hlt _ e;omega
  have g2:=f1.get t0 htU
  have z0:=at_lt g0
  have z1:=at_lt g1
  have z2:=at_lt g2
  rcases hc with⟨m,m1,m2,hTm,rfl,hvm,hvo,hTk⟩|⟨hall,rfl,rfl⟩
  ·have hsl:=slFrom t 0 its.length (midF its) (by omega) q2
   have hst:=slTo t 0 its.length (midF its) (by omega)
   have hi0:=nnI (midF its)
   have hif:(((midF its:Nat):Int)<(its.length:Int))=True:=eq_true (by omega)
   obtain⟨x,hx⟩:∃ x,its[midF its]? =some x:=⟨its[midF its],by simp⟩
   have hgx:(its.map itC)[midF its]? =some (itC x):=by simp[hx]
   repeat' first|((with_reducible first|apply cs|apply ws|apply wd|apply wu)<;>intro h<;>try simp only[h])|simp only[↓wBA,tYf,convA,seval,pl68_8Yf,pl68_11Yf,wH,g0,g1,g2,z0,z1,z2,hsl,hst]|(with_reducible first|refine dQ pl68_8Yf 11 (some 38) ?_|refine dQ pl68_11Yf 21 (some 51) ?_)|with_reducible refine And.intro ?_ ?_
   have hM1:=hItM s1 (g2.trans ht.symm)
   have hD:ItX s1 (.ms t 4 (midF its) (its.length - midF its)) (its.drop (midF its)):=.inl ⟨t,midF its,by rw[List.length_drop],by have:=hM1.drop (midF its) (by omega);rwa [Nat.zero_add]at this⟩
   refine (atWrite h1 m1 (by rw[k1.pages];exact m2) hD hkd (fun y hy=>hok y (List.mem_of_mem_drop hy)) (by omega)).mono ?_
   rintro _ s2 ⟨rfl,U2,f2,h2⟩
   have l2:=f2.len
   have nU2:∀ j,j<S0.length→¬ U j→¬ U2 j:=fun j hj hn e=>(f2.own j e).elim (nU j hj hn) fun e=>by omega
   have e0:=f2.get g0 (nU _ y0 fun e=>by have:=hlt _ e;omega)
   have e1:=f2.get g1 (nU _ y1 fun e=>by have:=hlt _ e;omega)
   have e2:=f2.get g2 (nU _ y2 htU)
   have w0:=at_lt e0
   have w1:=at_lt e1
   have w2:=at_lt e2
   have hlt2:=h2.lt
   have hM2:=(hItM s2 (e2.trans ht.symm)).take (midF its)
   have htl:(its.take (midF its)).length=midF its:=by rw[List.length_take];omega
   have nb0:¬ U2 σ.length:=nU2 _ y0 fun e=>by have:=hlt _ e;omega
   have nb1:¬ U2 (σ.length+1):=nU2 _ y1 fun e=>by have:=hlt _ e;omega
   have hX:∀ s:St,s[t]? =s2[t]? →ItX s (.ms t 4 0 (midF its)) (its.take (midF its)):=fun s hs=>.inl ⟨t,0,by rw[htl],hM2.same hs⟩
   have hok2:∀ y∈its.take (midF its),y.ok:=fun y hy=>hok y (List.mem_of_mem_take hy)
   obtain⟨Sm,hSm⟩:∃ Sm,Sm=(s2.set (σ.length+1) none).set σ.length none:=⟨_,rfl⟩
   have hSl:Sm.length=s2.length:=by rw[hSm];simp
   have hSt:∀ j,j≠σ.length→j≠σ.length+1→Sm[j]? =s2[j]? :=fun j hj hj2=>by rw[hSm,getElem?_set_ne (by omega),getElem?_set_ne (by omega)]
   have hmB:Bt Sm b p dd l kh U2 P1 (upV v1 m (fitF kd (its.drop (midF its))).1):=by rw[hSm];exact (h2.set nb1 _).set nb0 _
   have hW0:=atWrite hmB hn0 (by rw[k1.pages];exact hn) (hX Sm (hSt t (by omega) (by omega))) hkd hok2 (by omega)
   have hW1:=fun (x:Option Ob)=>atWrite (hmB.ap (Ap.app Sm [x])) hn0 (by rw[k1.pages];exact hn) (hX (Sm++[x]) (by rw[List.getElem?_append_left (by omega)];exact hSt t (by omega) (by omega))) hkd hok2 (by omega)
   have hfin:∀ {s3:St} {U3:Nat→Prop} {σ3:St},Ap Sm σ3→Fr σ3 s3 U2 U3→∀ a b c:Option Ob,Fr σ (((s3.set (σ.length+1) a).set σ.length b).set (σ.length+1) c) U U3:=fun {s3 U3 σ3} hA f3 a b c=>by
    have l3:=f3.len
    have lA:=hA.len
    refine (Fr.setY (Fr.setY (Fr.setY ?_ (by omega) _) (Nat.le_refl _) _) (by omega) _)
    have f02:Fr σ s2 U U2:=(aS.fr.trans f1).trans f2
    refine⟨by omega,fun j hj hn=> ?_,fun j hj=>(f3.own j hj).elim (f02.own j) fun e=>.inr (by omega)⟩
    rw[f3.keep j (by omega) fun e=>(f02.own j e).elim hn fun e=>by omega]
    obtain⟨τ,rfl⟩:=hA
    rw[List.getElem?_append_left (by omega),hSt j (by omega) (by omega)]
    exact f02.keep j hj hn
   obtain⟨u1,u2,u3,u4⟩:=spl_view (v:=v) (v1:=v1) (A:=(fitF kd (its.drop (midF its))).1) (B:=(fitF kd (its.take (midF its))).1) (m:=m) (n:=n) (fun e=>by rw[e,hTn]at hTm;cases hTm) (by omega) (by omega) hvo
   rw[← u4]at hTk
   have hAm:Ap Sm Sm:=⟨[],by simp⟩
   have hAx:∀ x:Option Ob,Ap Sm (Sm++[x]):=fun x=>Ap.app _ _
   rw[hSm]at hW0 hW1 hAm hAx hfin
   repeat' first|((with_reducible first|apply cs|apply ws|apply wd|apply wu)<;>intro h<;>try simp only[h])|simp only[↓wBA,tYf,convA,seval,pl68_8Yf,pl68_11Yf,wH,e0,e1,e2,w0,w1,w2,yt,hsl,hst,hi0,hif,hgx,itC]|(with_reducible first|refine dQ pl68_8Yf 11 (some 38) ?_|refine dQ pl68_11Yf 21 (some 51) ?_)|with_reducible refine And.intro ?_ ?_
   ·refine (hW1 _).mono ?_
    rintro _ s3 ⟨rfl,U3,f3,h3⟩
    have l3:=f3.len
    simp only[length_append,length_cons,length_nil,length_set]at l3
    have v0:σ.length<s3.length:=by omega
    have v1:σ.length+1<s3.length:=by omega
    repeat' first|((with_reducible first|apply cs|apply ws|apply wd|apply wu)<;>intro h<;>try simp only[h])|simp only[↓wBA,tYf,convA,seval,pl68_8Yf,pl68_11Yf,wH,e0,e1,w0,w1,v0,v1]|(with_reducible first|refine dQ pl68_8Yf 11 (some 38) ?_|refine dQ pl68_11Yf 21 (some 51) ?_)|with_reducible refine And.intro ?_ ?_
    all_goals refine ret_st ?_ (by first|exact Nat.le_refl _|(simp only[length_set,length_append];omega)|omega)
    all_goals simp only[resA.eq_1,resL.eq_1,resL.eq_2,resV.eq_1,resV.eq_2,↓wBA,tYf,convA,seval,wH]
    have n30:¬ U3 σ.length:=fun e=>(f3.own _ e).elim nb0 fun e=>by simp at e;omega
    have n31:¬ U3 (σ.length+1):=fun e=>(f3.own _ e).elim nb1 fun e=>by simp at e;omega
    refine⟨U3,P1,_,hfin (hAx _) f3 _ _ _,((h3.set n31 _).set n30 _).set n31 _,k1,.inr (.inr ⟨by omega,m,s2.length,x,m1,m2,hTm,hx,rfl,?_,by omega,fun e=>(f3.own _ e).elim (fun e=>by have:=hlt2 _ e;omega) fun e=>by simp at e;omega,u1,u2,u3,hTk⟩)⟩
    rw[getElem?_set_ne (by omega),getElem?_set_ne (by omega),getElem?_set_ne (by omega),f3.keep s2.length (by simp) fun e=>by have:=hlt2 _ e;omega]
    simp[itC,intV]
   ·refine hW0.mono ?_
    rintro _ s3 ⟨rfl,U3,f3,h3⟩
    have l3:=f3.len
    simp only[length_append,length_cons,length_nil,length_set]at l3
    have v0:σ.length<s3.length:=by omega
    have v1:σ.length+1<s3.length:=by omega
    repeat' first|((with_reducible first|apply cs|apply ws|apply wd|apply wu)<;>intro h<;>try simp only[h])|simp only[↓wBA,tYf,convA,seval,pl68_8Yf,pl68_11Yf,wH,e0,e1,w0,w1,v0,v1]|(with_reducible first|refine dQ pl68_8Yf 11 (some 38) ?_|refine dQ pl68_11Yf 21 (some 51) ?_)|with_reducible refine And.intro ?_ ?_
    all_goals refine ret_st ?_ (by first|exact Nat.le_refl _|(simp only[length_set,length_append];omega)|omega)
    all_goals simp only[resA.eq_1,resL.eq_1,resL.eq_2,resV.eq_1,resV.eq_2,↓wBA,tYf,convA,seval,wH]
    have n30:¬ U3 σ.length:=fun e=>(f3.own _ e).elim nb0 fun e=>by simp at e;omega
    have n31:¬ U3 (σ.length+1):=fun e=>(f3.own _ e).elim nb1 fun e=>by simp at e;omega
    have hlt3:=h3.lt
    refine⟨U3,P1,_,(hfin hAm f3 _ _ _).app _,(((h3.set n31 _).set n30 _).set n31 _).ap (Ap.app _ _),k1,.inr (.inr ⟨by omega,m,s3.length,x,m1,m2,hTm,hx,rfl,?_,by omega,fun e=>by have:=hlt3 _ e;omega,u1,u2,u3,hTk⟩)⟩
    rw[List.getElem?_append_right (by simp)]
    simp[itC,intV]
   ·refine hW0.mono ?_
    rintro _ s3 ⟨rfl,U3,f3,h3⟩
    have l3:=f3.len
    simp only[length_append,length_cons,length_nil,length_set]at l3
    have v0:σ.length<s3.length:=by omega
    have v1:σ.length+1<s3.length:=by omega
    have t3:s3[t]? =some (some (.row 4 (its.map itC))):=by
     rw[f3.keep t (by simp;omega) (nU2 _ y2 htU),←hSm,hSt t (by omega) (by omega)];exact e2
    have v2:=at_lt t3
    repeat' first|((with_reducible first|apply cs|apply ws|apply wd|apply wu)<;>intro h<;>try simp only[h])|simp only[↓wBA,tYf,convA,seval,pl68_8Yf,pl68_11Yf,wH,e0,e1,w0,w1,v0,v1,v2,t3,yt,hgx,itC]|(with_reducible first|refine dQ pl68_8Yf 11 (some 38) ?_|refine dQ pl68_11Yf 21 (some 51) ?_)|with_reducible refine And.intro ?_ ?_
    all_goals refine ret_st ?_ (by first|exact Nat.le_refl _|(simp only[length_set,length_append];omega)|omega)
    all_goals simp only[resA.eq_1,resL.eq_1,resL.eq_2,resV.eq_1,resV.eq_2,↓wBA,tYf,convA,seval,wH]
    have n30:¬ U3 σ.length:=fun e=>(f3.own _ e).elim nb0 fun e=>by simp at e;omega
    have n31:¬ U3 (σ.length+1):=fun e=>(f3.own _ e).elim nb1 fun e=>by simp at e;omega
    have hlt3:=h3.lt
    refine⟨U3,P1,_,(hfin hAm f3 _ _ _).app _,(((h3.set n31 _).set n30 _).set n31 _).ap (Ap.app _ _),k1,.inr (.inr ⟨by omega,m,s3.length,x,m1,m2,hTm,hx,rfl,?_,by omega,fun e=>by have:=hlt3 _ e;omega,u1,u2,u3,hTk⟩)⟩
    rw[List.getElem?_append_right (by simp)]
    simp[itC,intV]
  ·skip
   repeat' first|((with_reducible first|apply cs|apply ws|apply wd|apply wu)<;>intro h<;>try simp only[h])|simp only[↓wBA,tYf,convA,seval,pl68_8Yf,pl68_11Yf,wH]|(with_reducible first|refine dQ pl68_8Yf 11 (some 38) ?_|refine dQ pl68_11Yf 21 (some 51) ?_)|with_reducible refine And.intro ?_ ?_
   all_goals refine ret_st ?_ (by first|exact Nat.le_refl _|(simp only[length_set,length_append];omega)|omega)
   all_goals simp only[resA.eq_1,resL.eq_1,resL.eq_2,resV.eq_1,resV.eq_2,↓wBA,tYf,convA,seval,wH]
   exact⟨U1,P1,_,aS.fr.trans f1,h1,k1,.inr (.inl ⟨by omega,hall,rfl,rfl⟩)⟩
end Go.Proofs.YtockimhceppkbaaGreat
