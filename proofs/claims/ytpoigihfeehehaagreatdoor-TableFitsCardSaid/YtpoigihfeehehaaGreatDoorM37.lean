/- slices.Insert of items, on the machine. Trees: the middle, splits. Trees: a node is written, in two pages if it must. -/
import Derived.Test.YtpoigihfeehehaaGreatDoorM36
set_option linter.all false
set_option maxRecDepth 100000
set_option maxHeartbeats 32000000
namespace Go.Proofs.YtpoigihfeehehaaGreatDoor
open Go.RowKit
open List (drop_zero getElem?_set_ne length_append length_set)
def tYi:=aa wX <| aa wbu <| aa T3 <| aa T4 T232
def cxI:Ctx:={ cx with muts:=[232*100000+25] }
theorem Ai0:cxI.ok Tryz.prog:=Am
theorem Aoj:Hq Tryz.prog (E4 Tryz.prog cxI):=J9 Ai0 (by kernel_rfl)
theorem Awh (t:TypeId):cxI.kind t=cx.kind t:=nr rfl
theorem Awi:cxI.muts=[232*100000+25]:=nr rfl
theorem lenI {T:TypeId}{x:AV}:Bf cxI T x=Bf cx T x:=nr rfl
theorem Aok {T:TypeId}{x:AV}{lo hi:Option AV}:Bv cxI T x lo hi=Bv cx T x lo hi:=nr rfl
theorem A1e (t n:Nat)(h:(0<n)=True):Bv cx 232 (.ms t 4 0 n) (some (.p (.v (.int .i64 (n:Nat))))) none=some (.p (.sl 4 [])):=by
 unfold Bv
 rw[Hv]
 cases n with
 |zero=>simp at h
 |succ n=>
  have e1:Bm (some (.p (.v (.int .i64 ((n+1:Nat):Int))))) 0=some (Int.ofNat (n+1)):=rfl
  have e2:Bm none ((n+1:Nat):Int)=some (Int.ofNat (n+1)):=rfl
  simp only[Br,e1,e2]
  rw[if_neg (by rintro⟨_,_,h1,_⟩;omega),if_pos (by refine⟨trivial,?_,trivial,?_⟩<;>simp<;>omega)]
theorem Awj (t i n k:Nat)(h0:0<k)(h:k<n):Bv cx 232 (.ms t 4 i n) (some (.p (.v (.int .i64 (k:Nat))))) none=some (.ms t 4 (i+k) (n - k)):=by
 unfold Bv
 rw[Hv]
 cases k with
 |zero=>omega
 |succ k=>
  have e1:Bm (some (.p (.v (.int .i64 ((k+1:Nat):Int))))) 0=some (Int.ofNat (k+1)):=rfl
  have e2:Bm none (n:Int)=some (Int.ofNat n):=rfl
  simp only[Br,e1,e2]
  rw[if_pos (by refine⟨trivial,?_,?_,?_⟩<;>simp<;>omega)]
  rfl
theorem slTo (t i n k:Nat)(h:k≤n):Bv cx 232 (.ms t 4 i n) none (some (.p (.v (.int .i64 (k:Nat)))))=some (.ms t 4 i k):=by
 unfold Bv
 rw[Hv]
 have e2:Bm (some (.p (.v (.int .i64 (k:Nat))))) (n:Int)=some (Int.ofNat k):=rfl
 change (match Bm (some (AV.p (PV.v (Value.int IntKind.i64 (k:Nat))))) (n:Int)with|some h=>(if 4=4∧(0:Int)≤h∧h≤(n:Int)then some (AV.ms t 4 i h.toNat)else none)|none=>none)=_
 rw[e2]
 dsimp only
 rw[if_pos (by refine⟨rfl,?_,?_⟩<;>simp<;>omega)]
 rfl
theorem A1f:Bv cx 232 (.p (.v (.slice none 0 0))) (some (.p (.v (.int .i64 0)))) none=some (.p (.v (.slice none 0 0))):=by
 unfold Bv
 rw[Hv]
 rfl
theorem Aqj {σ:St}{t tv:Nat}{l:List Itm}{x:Itm}(hl:l.length≤1000000)(hl0:0<l.length)(ht:σ[t]? =some (some (.row 4 (l.map itC))))(hv:σ[tv]? =some (some (.right 239 4))):
 Aa Tryz.prog 163 [.ms t 4 0 l.length,Ad .i64 (l.length:Nat),.own tv 4 [itP x]] σ fun r s=>r= .ms σ.length 4 0 (l.length+1)∧s=σ.set t none++[some (.row 4 ((l++[x]).map itC))]:=by
 have hs:=A1e t l.length (eq_true hl0)
 have yt:=Ac ht
 have yv:=Ac hv
 have hlm:(List.map itC l).length=l.length:=by simp
 have htt:List.take l.length (List.map itC l)=List.map itC l:=List.take_of_length_le (by simp)
 have ht1:=tL (n:=(l.length+1)*48) (by omega)
 have ht2:=lM (n:=l.length+1) (by omega)
 have hii:(l.length≤l.length)=True:=eq_true (Nat.le_refl _)
 refine Ab Ai0 Aoj Tryz.func163 (by kernel_rfl) rfl (nt:=92) (rs:=[.tmp 6]) rfl rfl ?_
 repeat' simp only[↓wBA,tYi,seval,wH,Awh,Awi,lenI,Aok,ht,hlm,htt,ht1,ht2,hii,Dd,srcM,E1,itP,hs]
 all_goals refine rtS ?_
 all_goals simp only[A1.eq_1,Ak.eq_1,Ak.eq_2,Ax.eq_1,tYi,seval]
 simp[itC,Ad]
theorem Aqk {σ:St}{tv:Nat}{x:Itm}(hv:σ[tv]? =some (some (.right 239 4))):
 Aa Tryz.prog 163 [.p (.v (.slice none 0 0)),Ad .i64 0,.own tv 4 [itP x]] σ fun r s=>r= .ms σ.length 4 0 1∧s=σ++[some (.row 4 [itC x])]:=by
 have yv:=Ac hv
 have ht2:=lM (n:=1) (by omega)
 refine Ab Ai0 Aoj Tryz.func163 (by kernel_rfl) rfl (nt:=92) (rs:=[.tmp 6]) rfl rfl ?_
 repeat' simp only[↓wBA,tYi,seval,Awh,Awi,lenI,Aok,ht2,Dd,srcM,E1,itP,A1f]
 all_goals refine rtS ?_
 all_goals simp only[A1.eq_1,Ak.eq_1,Ak.eq_2,Ax.eq_1,tYi,seval]
 simp[itC,Ad]
theorem Aql {σ:St}{t tv i:Nat}{l:List Itm}{x:Itm}(hl:l.length≤1000000)(hi:i<l.length)(ht:σ[t]? =some (some (.row 4 (l.map itC))))(hv:σ[tv]? =some (some (.right 239 4))):
 Aa Tryz.prog 163 [.ms t 4 0 l.length,Ad .i64 (i:Nat),.own tv 4 [itP x]] σ fun r s=>r= .ms σ.length 4 0 (l.length+1)∧s=σ.set t none++[some (.row 4 ((l.take i++x::l.drop i).map itC))]:=by
 refine⟨en _ (by kernel_rfl),fun M vs hM hvs=> ?_⟩
 obtain⟨u1,us1,rfl,h1,u2,us2,rfl,h2,u3,us3,rfl,h3,rfl⟩:∃ u us',vs=u::us'∧Ag M (.ms t 4 0 l.length) u∧∃ u2 us2,us'=u2::us2∧Ag M (Ad .i64 (i:Nat)) u2∧∃ u3 us3,us2=u3::us3∧Ag M (.own tv 4 [itP x]) u3∧us3=[]:=by simpa only[Af]using hvs
 have hsz:σ.put σ.length (.row 4 ((l.take i++x::l.drop i).map itC))=σ++[some (.row 4 ((l.take i++x::l.drop i).map itC))]:=Jd rfl
 have hput:∀ (σ0:St),σ0.length=σ.length→St.put σ0 σ.length (.row 4 ((l.take i++x::l.drop i).map itC))=σ0++[some (.row 4 ((l.take i++x::l.drop i).map itC))]:=fun σ0 h=>Jd h.symm
 obtain⟨_,b,cur,T,hb,hh,hI,hr,hcs⟩:=hM.obj t _ ht
 simp only[Ag]at h1
 obtain⟨b',c,hb',_,rfl,hn,hf⟩:=h1
 have:b'=b:=by rw[hb]at hb';simpa using hb'.symm
 subst this
 rw[← hcs]at hf
 have e2:u2= .int .i64 (i:Nat):=Bo h2
 subst e2
 simp only[Ag]at h3
 obtain⟨vb,vc,n0,rfl,hvc,_,hpr,hvn,_,himp⟩:=h3
 obtain⟨hvl,vb',vcur,hvb',hvh,hvcs,hvI⟩:=hM.obj tv _ hv
 rw[hvl]at hvn
 simp only[Option.some.injEq]at hvn
 obtain⟨hvmu,hvcap⟩:=himp (by rw[← hvn];rfl)
 have:vb'=vb:=by rw[hvmu]at hvb';simpa using hvb'.symm
 subst this
 have hne:vb'≠b':=fun e=>hI 0 (by rw[← e];exact (hvI 0).2 (by omega))
 have hvr:Cs M vcur 4 [itC x]:=fun j cc hj=>by
  cases j with
  |succ j=>simp at hj
  |zero=>
   simp at hj;subst hj
   refine⟨rfl,fun q a ha=> ?_⟩
   rw[← Av5,List.getElem?_map]at ha
   cases hq:(itP x)[q]? with
   |none=>rw[hq]at ha;simp at ha
   |some y=>
    rw[hq]at ha;simp at ha;subst ha
    obtain⟨_,hpc⟩:=hpr.get (i:=0) (c:=itP x) rfl
    obtain⟨u,g1,_,g2⟩:=hpc.get hq
    rw[cell_of_row _ _ _ _ _ _ hvh]at g1
    exact⟨rfl,u,by simpa using g1,by simpa only[Ag]using g2⟩
 have hvc1:1≤vc:=by simpa using hvc
 have hvsz:0+4≤vcur.size:=by rw[hvcs,hvcap];omega
 have hlm:(l.map itC).length=l.length:=by simp
 have hcf:c*4≤cur.size:=by omega
 obtain⟨a1,a2,a3,a4⟩:=Gs hr 0 i (by rw[hlm];omega) (by omega) (by omega)
 obtain⟨b1,b2,b3,b4⟩:=Gs hr i (l.length - i) (by rw[hlm];omega) (by omega) (by omega)
 obtain⟨c1,c2,c3,c4⟩:=Gs hvr 0 1 (by simp) (by omega) (by omega)
 simp only[Nat.zero_mul,drop_zero,Nat.one_mul]at a1 a2 a3 a4 c1 c2 c3 c4
 have hms:((l.map itC).take i++[itC x].take 1++((l.map itC).drop i).take (l.length - i))=(l.take i++x::l.drop i).map itC:=by
  rw[List.map_append,List.map_cons,List.map_take,List.map_drop,List.take_of_length_le (l:=List.drop i (List.map itC l)) (by simp)]
  simp
 have hrow:∀ z:List Value,Cs M (cur.toList.take (i*4)++(vcur.toList.drop 0).take 4++(cur.toList.drop (i*4)).take ((l.length - i)*4)++z).toArray 4 ((l.take i++x::l.drop i).map itC):=fun z=>by
  rw[← hms]
  refine Ov (us:=cur.toList.take (i*4)++(vcur.toList.drop 0).take 4) (vs:=(cur.toList.drop (i*4)).take ((l.length - i)*4)) ?_ ?_ b4 fun q u hq=> ?_
  ·rw[length_append,drop_zero,a1,c1];simp;omega
  ·refine Ov (us:=cur.toList.take (i*4)) (vs:=(vcur.toList.drop 0).take 4) ?_ a4 (by rw[drop_zero];exact c4) fun q u hq=> ?_
   ·rw[a1];simp;omega
   ·simpa using hq
  ·rw[List.getElem?_toArray,List.getElem?_append_left (List.getElem?_eq_some_iff.1 hq).1]
   exact hq
 have hone:∀ v∈(vcur.toList.drop 0).take 4,v.oneCell'=true:=by rw[drop_zero];exact c3
 by_cases hroom:l.length+1≤c
 ·refine (Aiz b' l.length c i vb' 0 vc cur vcur T 239 M.w hi hroom (by omega) hne hh hvh hcf hvsz b3 hone).mono ?_
  rintro e w' ⟨rfl,hw'⟩
  obtain⟨cur2,hc2⟩:∃ cur2,cur2=(cur.toList.take (i*4)++(vcur.toList.drop 0).take 4++(cur.toList.drop (i*4)).take ((l.length - i)*4)++cur.toList.drop ((i+1)*4+(l.length - i)*4)).toArray:=⟨_,rfl⟩
  have hrow2:=hrow (cur.toList.drop ((i+1)*4+(l.length - i)*4))
  rw[← hc2]at hrow2 hw'
  have hcs2:cur2.size=cur.size:=by rw[hc2];simp only[List.size_toArray,length_append,a1,b1,drop_zero,c1,List.length_drop,Array.length_toList];omega
  obtain⟨cur1,hc1⟩:∃ cur1,w'=(M.w.drew.setRow b' cur1).setRow b' cur2:=⟨_,hw'⟩
  obtain⟨M',h5,h6,h6',hct,h7,h8⟩:=hM.rowAt (tk:=σ.length) (w':=w') ht hb hI rfl (by rw[hc1];exact setRow_heap _ _ _ _ _ _ (setRow_heap M.w.drew _ _ _ _ _ hh)) (fun k hk=>by rw[hc1,setRow_other _ _ _ _ hk,setRow_other _ _ _ _ hk];rfl) (by rw[hc1];simp) (by rw[hc1];rfl) (by rw[hc1];rfl) (by rw[hc1];rfl) hrow2
  rw[hput _ (by simp)]at h7 h8
  refine⟨_,.ms σ.length 4 0 (l.length+1),_,M',rfl,h5,h7,h8,?_,by simp,rfl,rfl⟩
  simp only[Ag]
  refine⟨b',c,h6,h6',by simp,hroom,?_⟩
  rw[hct,hcs2];omega
 ·refine (Al2 b' l.length c i vb' 0 vc cur vcur T 239 M.w hi hn (by omega) (by omega) hh hvh hcf hvsz b3 hone).mono ?_
  rintro e w' ⟨G,z,hz,hG,rfl,rfl⟩
  obtain⟨M',h5,h6,h6',hct,h7,h8⟩:=((hM.drew.drew).forget t).row (t:=σ.length) (by simp) _ 239 4 _ (((hrow z).later (Later.drew M)).later (Later.drew M.drew))
  rw[hput _ (by simp)]at h7 h8
  refine⟨_,.ms σ.length 4 0 (l.length+1),_,M',rfl,h5,((Ext.drew M σ).trans (Ext.drew M.drew σ)).trans ((Ext.forget M.drew.drew σ t).trans h7),h8,?_,by simp,rfl,rfl⟩
  simp only[Ag]
  refine⟨_,G,h6,h6',rfl,hG,?_⟩
  rw[hct]
  simp only[length_append,a1,b1,hz,drop_zero,c1]
  omega
def tYe:=aa wX <| aa wbu <| aa T3 <| aa T70 <| aa T192 <| aa T232 T239
theorem Sp (l:List Itm)(i:Nat)(x:Itm)(h:l[i]? =some x)(all:Nat):Xu all (l.drop i) (szL (l.take i)) i=if 2*szL (l.take i)<all then Xu all (l.drop (i+1)) (szL (l.take (i+1))) (i+1)else i:=by
 have hd:l.drop i=x::l.drop (i+1):=by
  rw[List.drop_eq_getElem_cons (List.getElem?_eq_some_iff.1 h).1]
  rw[(List.getElem?_eq_some_iff.1 h).2]
 rw[hd]
 rw[Xu,Aex l i x h,Dh,Cc,Dy]
 simp only[Nat.add_zero]
theorem Awk (l:List Itm)(hl:l.length≤1000000)(hok:∀ x∈l,x.ok):Aa Tryz.prog 192 [.p (.sl 4 (encI l))] [] fun r _=>r=Ad .i64 (C6 l:Nat):=by
 have hszt:∀ i,szL (l.take i)≤150*i:=fun i=>by
  have:∀ m:List Itm,(∀ x∈m,x.ok)→szL m≤150*m.length:=by
   intro m
   induction m with
   |nil=>intro _;exact Nat.le_refl _
   |cons x m ih=>intro h;have h1:=ih fun y hy=>h y (by simp[hy]);have h2:=I4 (h x (by simp));rw[Cc];simp only[List.length_cons];omega
  have h1:=this (l.take i) fun x hx=>hok x (List.mem_of_mem_take hx)
  have h2:(l.take i).length≤i:=by rw[List.length_take];omega
  have:=Nat.mul_le_mul_left 150 h2
  omega
 refine Ab Am Ao Tryz.func192 (by kernel_rfl) rfl (nt:=38) (rs:=[.tmp 2]) rfl rfl ?_
 repeat' simp only[↓wBA,tYe,seval,Le]
 refine As (X:={ i:Nat // i≤l.length }) (fun i=>l.length - i.1) (fun i=>[(3,Ad .i64 (szL (l.take i.1):Nat)),(10,Ad .i64 (i.1:Nat))]) [7,11,12,13,14,15,16,17,18,19,20,21] (fun i s=>True) (⟨0,by omega⟩) ?_ ?_ ?_ ?_
 ·simp only[wHl,wHf,List.take_zero,Dy]
 ·trivial
 ·intro _ _ _;simp
 ·intro y J s hI
  simp only[wHl]
  obtain⟨i,hi⟩:=y
  dsimp only at*
  have hi0:=nnI i
  by_cases hlt:i<l.length
  ·have hdec:=dT (i:=i) (n:=l.length) hlt
   have hw:=wI i (by omega)
   obtain⟨x,hx⟩:∃ x,l[i]? =some x:=⟨l[i],by simp⟩
   have hg:=Lf l i x hx
   have hxo:=(hok x (List.mem_of_getElem? hx)).1.1
   have hz:=hszt i
   have hek:=Dm x.e.k
   have hw2:IntKind.i64.wrap ((x.e.k.length:Int)+10)=((x.e.k.length+10:Nat):Int):=by rw[wrap_i64 (by omega) (by omega)];simp
   have hw3:IntKind.i64.wrap ((szL (l.take i):Int)+((x.e.k.length+10:Nat):Int))=((szL (l.take (i+1)):Nat):Int):=by
    rw[Aex l i x hx,Dh,Cc,Dy,wrap_i64 (by omega) (by omega)]
    unfold szI;omega
   repeat' simp only[↓wBA,tYe,seval,wH,wHl,hdec,hi0,hg,itP,hw,hek,hw2,hw3]
   refine⟨⟨i+1,by omega⟩,by show l.length - (i+1)<l.length - i;omega,by simp only[]⟩
  ·obtain rfl:i=l.length:=by omega
   have hdec:=dF (i:=l.length) (n:=l.length) hlt
   have hall:szL (l.take l.length)=szL l:=by rw[List.take_length]
   have hall2:=hszt l.length
   rw[hall]at hall2
   repeat' simp only[↓wBA,tYe,seval,wHl,hdec,hall]
   refine As (X:={ i:Nat // i≤l.length∧Xu (szL l) (l.drop i) (szL (l.take i)) i=C6 l }) (fun i=>l.length - i.1) (fun i=>[(4,Ad .i64 (szL (l.take i.1):Nat)),(5,Ad .i64 (i.1:Nat))]) [22,23,24,25,26,27,28,29,30,31,32,33,34,35,36,37] (fun i q=>List.length s≤List.length q) (⟨0,by omega,rfl⟩) ?_ ?_ ?_ ?_
   ·simp only[wHl,wHf,List.take_zero,Dy]
   ·exact Nat.le_refl _
   ·intro _ _ h;exact h
   ·intro y J2 s2 hI2
    simp only[wHl]
    obtain⟨i,hi,hmid⟩:=y
    dsimp only at*
    have hi0:=nnI i
    have hz:=hszt i
    have hzz:szL (l.take i)≤szL l:=by
     have:=Dh (l.take i) (l.drop i)
     rw[List.take_append_drop]at this;omega
    have hm:IntKind.i64.wrap (2*(szL (l.take i):Int))=((2*szL (l.take i):Nat):Int):=by rw[wrap_i64 (by omega) (by omega)];simp
    by_cases hc:2*szL (l.take i)<szL l
    ·have hlt2:i<l.length:=by
      rcases Nat.lt_or_ge i l.length with h|h
      ·exact h
      ·rw[List.take_of_length_le h]at hc;omega
     have hdec2:=dT (i:=2*szL (l.take i)) (n:=szL l) hc
     have hw:=wI i (by omega)
     obtain⟨x,hx⟩:∃ x,l[i]? =some x:=⟨l[i],by simp⟩
     have hg:=Lf l i x hx
     have hxo:=(hok x (List.mem_of_getElem? hx)).1.1
     have hek:=Dm x.e.k
     have hw2:IntKind.i64.wrap ((x.e.k.length:Int)+10)=((x.e.k.length+10:Nat):Int):=by rw[wrap_i64 (by omega) (by omega)];simp
     have hw3:IntKind.i64.wrap ((szL (l.take i):Int)+((x.e.k.length+10:Nat):Int))=((szL (l.take (i+1)):Nat):Int):=by
      rw[Aex l i x hx,Dh,Cc,Dy,wrap_i64 (by omega) (by omega)]
      unfold szI;omega
     have hst:=Sp l i x hx (szL l)
     rw[if_pos hc,hmid]at hst
     repeat' simp only[↓wBA,tYe,seval,wHl,hm,hdec2,hi0,hg,itP,hw,hek,hw2,hw3]
     refine⟨⟨i+1,by omega,hst.symm⟩,by show l.length - (i+1)<l.length - i;omega,hI2,by simp only[]⟩
    ·have hdec2:=dF (i:=2*szL (l.take i)) (n:=szL l) hc
     have hfi:C6 l=i:=by
      rcases Nat.lt_or_ge i l.length with h|h
      ·obtain⟨x,hx⟩:∃ x,l[i]? =some x:=⟨l[i],by simp⟩
       have hst:=Sp l i x hx (szL l)
       rw[if_neg hc,hmid]at hst
       exact hst
      ·rw[List.drop_eq_nil_of_le h]at hmid
       rw[← hmid];rfl
     repeat' simp only[↓wBA,tYe,seval,wHl,hm,hdec2]
     all_goals refine rtS ?_
     all_goals simp only[A1.eq_1,Ak.eq_1,Ak.eq_2,Ax.eq_1,tYe,seval,hfi]
theorem A1g {σ:St}{a:AV}{l:List Itm}(ha:ItA σ a l)(hl:l.length≤1000000)(hok:∀ x∈l,x.ok):Aa Tryz.prog 192 [a] σ fun r s=>s=σ∧r=Ad .i64 (C6 l:Nat):=by
 refine Aa.borrowS (Awk l hl hok) (fun r hr M M' u h=> ?_) fun M vs hM hv=> ?_
 ·subst hr;exact Awa M M' u h
 ·simp only[Af]at hv ⊢
  obtain⟨u1,us1,rfl,h1,rfl⟩:=hv
  exact⟨u1,_,rfl,by simp only[Ag];exact ha M u1 hM h1,rfl⟩
def X4:Cv:=(.det 0 (.det 1 (.det 2 (.det 3 (.det 4 (.det 5 (.det 6 (.det 7 (.det 8 (.fin 9 (.det 10 .done)))))))))))
def Sq:Cv:=(.det 0 (.det 1 (.det 2 (.det 3 (.det 4 (.det 6 (.det 9 (.det 10 (.det 11 (.det 12 (.det 13 (.det 14 (.det 15 (.det 16 (.det 17 (.two 5 (.det 7 (.two 8 (.act 18 (.det 19 (.det 20 .done))) 18 (.act 8 (.det 19 (.det 20 .done))))) 18 (.act 5 (.det 7 (.act 8 (.det 19 (.det 20 .done)))))))))))))))))))))
def tYf:=aa wX <| aa wbu <| aa T3 <| aa T29 <| aa T38 <| aa W7 <| aa T192 <| aa T228 <| aa T232 <| aa T234 T239
def Z6:AV:=.p (.v (.pointer none))
def SplR (T:Nat→Bool)(np n kd len0:Nat)(its:List Itm)(v v':Nat→List UInt8)(r:AV)(s:St)(U':Nat→Prop):Prop:=
 (szL its≤496∧r= .tup [Z6,Ad .i64 0]∧v'=upV v n (Hy kd its).1)
 ∨(496<szL its∧(∀ m,m<np→T m=true)∧r= .tup [Z6,Ad .i64 20]∧v'=v)
 ∨(496<szL its∧∃ m tm x,1≤m∧m<np∧T m=false∧its[C6 its]? =some x∧r= .tup [.mp tm 4 0 0,Ad .i64 0]∧s[tm]? =some (some (.row 4 [itC ⟨x.e,m⟩]))∧len0≤tm∧¬ U' tm∧
  v' m=(Hy kd (its.drop (C6 its))).1∧v' n=(Hy kd (its.take (C6 its))).1∧(∀ q,q≠m→q≠n→q≠0→v' q=v q)∧Tk (v' 0) np (D3 T m true))
theorem Al3 (l:List Itm)(x:Itm)(k:Nat)(h:l[k]? =some x):szL (l.take (k+1))=szL (l.take k)+szI x:=by rw[Aex l k x h,Dh,Cc,Dy];omega
theorem Acf (l:List Itm)(hok:∀ x∈l,x.ok)(h1:496<szL l)(h2:szL l≤646):1≤C6 l∧C6 l<l.length∧szL (l.take (C6 l))≤473∧szL (l.drop (C6 l))≤323:=by
 obtain⟨m1,m2,m3⟩:=Alw l
 have hsum:szL (l.take (C6 l))+szL (l.drop (C6 l))=szL l:=by rw[← Dh,List.take_append_drop]
 have hm0:C6 l≠0:=fun e=>by rw[e]at m2;simp[Dy]at m2;omega
 have hm3:2*szL (l.take (C6 l - 1))<szL l:=m3.resolve_left hm0
 obtain⟨k,hk⟩:∃ k,C6 l=k+1:=⟨C6 l - 1,by omega⟩
 rw[hk]at m1 m2 hsum hm3 ⊢
 simp only[Nat.add_sub_cancel]at hm3
 obtain⟨x,hx⟩:∃ x,l[k]? =some x:=⟨l[k],by simp⟩
 have hxo:=I4 (hok x (List.mem_of_getElem? hx))
 have hl:=Al3 l x k hx
 refine⟨by omega,?_,by omega,by omega⟩
 rcases Nat.lt_or_ge (k+1) l.length with h|h
 ·exact h
 ·rw[List.take_of_length_le h]at hl;omega
theorem Al4 {v v1:Nat→List UInt8}{m n:Nat}{A B:List UInt8}(hmn:m≠n)(hn:n≠0)(hm:m≠0)(hvo:∀ q,q≠m→q≠0→v1 q=v q):
 upV (upV v1 m A) n B m=A∧upV (upV v1 m A) n B n=B∧(∀ q,q≠m→q≠n→q≠0→upV (upV v1 m A) n B q=v q)∧upV (upV v1 m A) n B 0=v1 0:=by
 unfold upV
 refine⟨?_,?_,fun q h1 h2 h3=> ?_,?_⟩
 ·rw[if_neg hmn,if_pos rfl]
 ·rw[if_pos rfl]
 ·rw[if_neg h2,if_neg h1];exact hvo q h1 h3
 ·rw[if_neg (fun e=>hn e.symm),if_neg (fun e=>hm e.symm)]
theorem Z7 {σ:St}{b p dd l kh n kd t:Nat}{U:Nat→Prop}{P:Al}{v:Nat→List UInt8}{T:Nat→Bool}{its:List Itm}(h:Bt σ b p dd l kh U P v)(hT:Tk (v 0) P.pages T)(hnp:P.pages≤3200)(hT0:T 0=true)(hb:Bud P 1)(hn0:1≤n)(hn:n<P.pages)(hTn:T n=true)
 (ht:σ[t]? =some (some (.row 4 (its.map itC)))) (htU:¬ U t) (hkd:kd=2∨kd=3) (hok:∀ x∈its,x.ok) (hsz:szL its≤646):
 Aa Tryz.prog 164 [.agg [.mp b 2 0 0],Ad .i64 (n:Nat),.agg [Ad .i64 (kd:Nat),.ms t 4 0 its.length]] σ fun r σ'=>∃ U' P' v',Fr σ σ' U U'∧Bt σ' b p dd l kh U' P' v'∧Kp P P' 0∧SplR T P.pages n kd σ.length its v v' r σ' U':=by
 have hlen:=Uq its
 have yt:=Ac ht
 have hlt:=h.lt
 have hnp1:1≤P.pages:=by omega
 have hItM:∀ s:St,s[t]? =σ[t]? →ItM s t 0 its:=fun s hs=>⟨its.map itC,hs.trans ht,by simp,fun j x hj=>by simp[hj]⟩
 have hpl:=Ur kd its
 have hpc:=Aq hpl
 have z5:=Aq A7
 refine Ab Am Ao Tryz.func164 (by kernel_rfl) rfl (nt:=67) (rs:=[.tmp 6,.tmp 7]) rfl rfl ?_
 repeat' first|simp only[↓wBA,tYf,seval,wH]|with_reducible refine And.intro ?_ ?_
 have a1:Ap σ (σ++[some (Ob.row 1 [[AV.mp b 2 0 0]])]++[some (Ob.row 2 [[Ad .i64 (kd:Nat),AV.ms t 4 0 its.length]])]):=(Ap.app _ _).more _
 refine (Aog kd (hItM _ ((a1.get ht).trans ht.symm)).a hok (by omega)).eq ?_
 obtain⟨S0,hS0⟩:∃ S0,S0=σ++[some (Ob.row 1 [[AV.mp b 2 0 0]])]++[some (Ob.row 2 [[Ad .i64 (kd:Nat),AV.ms t 4 0 its.length]])]++[some (Ob.row 512 [Ar (Hy kd its).1])]:=⟨_,rfl⟩
 have aS:Ap σ S0:=by rw[hS0];exact a1.more _
 have hl0:S0.length=σ.length+3:=by rw[hS0];simp
 have b0:S0[σ.length]? =some (some (Ob.row 1 [[AV.mp b 2 0 0]])):=by rw[hS0];simp
 have b1:S0[σ.length+1]? =some (some (Ob.row 2 [[Ad .i64 (kd:Nat),AV.ms t 4 0 its.length]])):=by rw[hS0];simp
 have t0:=aS.get ht
 have y0:=Ac b0
 have y1:=Ac b1
 have y2:=Ac t0
 have h0:=h.ap aS
 have hS1:σ++[some (Ob.row 1 [[AV.mp b 2 0 0]])]++[some (Ob.row 2 [[AV.p (PV.v (Value.int IntKind.i64 (kd:Nat))),AV.ms t 4 0 its.length]])]++[some (Ob.row 512 [Ar (Hy kd its).1])]=S0:=hS0.symm
 by_cases hs:szL its≤496
 ·obtain⟨hf2,hfn⟩:=Fa hkd hok hs
  repeat' first|simp only[↓wBA,tYf,seval,wH,A9,hpc,C5,z5,hf2,hS1,b0,b1]|with_reducible refine And.intro ?_ ?_
  refine (Mk h0 hn0 hn (.inl ⟨t,0,rfl,hItM _ (t0.trans ht.symm)⟩) hkd hok hs).mono ?_
  rintro _ s ⟨rfl,U1,f1,h1⟩
  repeat' first|simp only[↓wBA,tYf,seval]|with_reducible refine And.intro ?_ ?_
  have l1:=f1.len
  all_goals refine rtS ?_
  all_goals simp only[A1.eq_1,Ak.eq_1,Ak.eq_2,Ax.eq_1,tYf,seval]
  exact⟨U1,P,_,aS.fr.trans f1,h1,Kp.refl P _,.inl ⟨hs,rfl,rfl⟩⟩
 ·have hf2:=Av6 hkd hok hs
  obtain⟨q1,q2,q3,q4⟩:=Acf its hok (by omega) hsz
  repeat' first|simp only[↓wBA,tYf,seval,wH,A9,hpc,C5,z5,hf2,hS1,b0,b1]|((with_reducible show Aa _ _ _ _ _);refine (A1g (hItM _ (t0.trans ht.symm)).a (by omega) hok).eq ?_)|with_reducible refine And.intro ?_ ?_
  refine (Un (kind:=kd) h0 hT hnp hnp1 hT0 hb).mono ?_
  rintro r s1 ⟨U1,P1,v1,f1,h1,k1,hc⟩
  have l1:=f1.len
  have hlt1:=h1.lt
  have nU:∀ j,j<S0.length→¬ U j→¬ U1 j:=fun j hj hn e=>(f1.own j e).elim hn fun e=>by omega
  have g0:=f1.get b0 fun e=>by have:=hlt _ e;omega
  have g1:=f1.get b1 fun e=>by have:=hlt _ e;omega
  have g2:=f1.get t0 htU
  have z0:=Ac g0
  have z1:=Ac g1
  have z2:=Ac g2
  rcases hc with⟨m,m1,m2,hTm,rfl,hvm,hvo,hTk⟩|⟨hall,rfl,rfl⟩
  ·have hsl:=Awj t 0 its.length (C6 its) (by omega) q2
   have hst:=slTo t 0 its.length (C6 its) (by omega)
   have hi0:=nnI (C6 its)
   have hif:(((C6 its:Nat):Int)<(its.length:Int))=True:=eq_true (by omega)
   obtain⟨x,hx⟩:∃ x,its[C6 its]? =some x:=⟨its[C6 its],by simp⟩
   have hgx:(its.map itC)[C6 its]? =some (itC x):=by simp[hx]
   repeat' first|simp only[↓wBA,tYf,seval,X4,wH,g0,g1,hsl]|(with_reducible refine dQ X4 11 (some 38) ?_)|with_reducible refine And.intro ?_ ?_
   have hM1:=hItM s1 (g2.trans ht.symm)
   have hD:ItX s1 (.ms t 4 (C6 its) (its.length - C6 its)) (its.drop (C6 its)):=.inl ⟨t,C6 its,by rw[List.length_drop],by have:=hM1.drop (C6 its) (by omega);rwa [Nat.zero_add]at this⟩
   refine (Mk h1 m1 (by rw[k1.pages];exact m2) hD hkd (fun y hy=>hok y (List.mem_of_mem_drop hy)) (by omega)).mono ?_
   rintro _ s2 ⟨rfl,U2,f2,h2⟩
   have l2:=f2.len
   have nU2:∀ j,j<S0.length→¬ U j→¬ U2 j:=fun j hj hn e=>(f2.own j e).elim (nU j hj hn) fun e=>by omega
   have e0:=f2.get g0 (nU _ y0 fun e=>by have:=hlt _ e;omega)
   have e1:=f2.get g1 (nU _ y1 fun e=>by have:=hlt _ e;omega)
   have e2:=f2.get g2 (nU _ y2 htU)
   have w0:=Ac e0
   have w1:=Ac e1
   have w2:=Ac e2
   have hlt2:=h2.lt
   have hM2:=(hItM s2 (e2.trans ht.symm)).take (C6 its)
   have htl:(its.take (C6 its)).length=C6 its:=by rw[List.length_take];omega
   have nb0:¬ U2 σ.length:=nU2 _ y0 fun e=>by have:=hlt _ e;omega
   have nb1:¬ U2 (σ.length+1):=nU2 _ y1 fun e=>by have:=hlt _ e;omega
   have hX:∀ s:St,s[t]? =s2[t]? →ItX s (.ms t 4 0 (C6 its)) (its.take (C6 its)):=fun s hs=>.inl ⟨t,0,by rw[htl],hM2.same hs⟩
   have hok2:∀ y∈its.take (C6 its),y.ok:=fun y hy=>hok y (List.mem_of_mem_take hy)
   obtain⟨Sm,hSm⟩:∃ Sm,Sm=(s2.set (σ.length+1) none).set σ.length none:=⟨_,rfl⟩
   have hSl:Sm.length=s2.length:=by rw[hSm];simp
   have hSt:∀ j,j≠σ.length→j≠σ.length+1→Sm[j]? =s2[j]? :=fun j hj hj2=>by rw[hSm,getElem?_set_ne (by omega),getElem?_set_ne (by omega)]
   have hmB:Bt Sm b p dd l kh U2 P1 (upV v1 m (Hy kd (its.drop (C6 its))).1):=by rw[hSm];exact (h2.set nb1 _).set nb0 _
   have hW0:=Mk hmB hn0 (by rw[k1.pages];exact hn) (hX Sm (hSt t (by omega) (by omega))) hkd hok2 (by omega)
   have hW1:=fun (x:Option Ob)=>Mk (hmB.ap (Ap.app Sm [x])) hn0 (by rw[k1.pages];exact hn) (hX (Sm++[x]) (by rw[List.getElem?_append_left (by omega)];exact hSt t (by omega) (by omega))) hkd hok2 (by omega)
   have hfin:∀ {s3:St} {U3:Nat→Prop} {σ3:St},Ap Sm σ3→Fr σ3 s3 U2 U3→∀ a b c:Option Ob,Fr σ (((s3.set (σ.length+1) a).set σ.length b).set (σ.length+1) c) U U3:=fun {s3 U3 σ3} hA f3 a b c=>by
    have l3:=f3.len
    have lA:=hA.len
    refine (Fr.setY (Fr.setY (Fr.setY ?_ (by omega) _) (Nat.le_refl _) _) (by omega) _)
    have f02:Fr σ s2 U U2:=(aS.fr.trans f1).trans f2
    refine⟨by omega,fun j hj hn=> ?_,fun j hj=>(f3.own j hj).elim (f02.own j) fun e=>.inr (by omega)⟩
    rw[f3.keep j (by omega) fun e=>(f02.own j e).elim hn fun e=>by omega]
    obtain⟨τ,rfl⟩:=hA
    rw[List.getElem?_append_left (by omega),hSt j (by omega) (by omega)]
    exact f02.keep j hj hn
   obtain⟨u1,u2,u3,u4⟩:=Al4 (v:=v) (v1:=v1) (A:=(Hy kd (its.drop (C6 its))).1) (B:=(Hy kd (its.take (C6 its))).1) (m:=m) (n:=n) (fun e=>by rw[e,hTn]at hTm;cases hTm) (by omega) (by omega) hvo
   rw[← u4]at hTk
   have hAm:Ap Sm Sm:=⟨[],by simp⟩
   have hAx:∀ x:Option Ob,Ap Sm (Sm++[x]):=fun x=>Ap.app _ _
   rw[hSm]at hW0 hW1 hAm hAx hfin
   repeat' first|simp only[↓wBA,tYf,seval,Sq,wH,e0,e1,e2,w0,w1,yt,hst,hi0,hif,hgx,itC]|(with_reducible refine dQ Sq 21 (some 51) ?_)|with_reducible refine And.intro ?_ ?_
   ·refine (hW1 _).mono ?_
    rintro _ s3 ⟨rfl,U3,f3,h3⟩
    have l3:=f3.len
    simp only[length_append,List.length_cons,List.length_nil,length_set]at l3
    have v0:σ.length<s3.length:=by omega
    have v1:σ.length+1<s3.length:=by omega
    repeat' first|simp only[↓wBA,tYf,seval,wH,e0,e1,w0,w1,v1]|with_reducible refine And.intro ?_ ?_
    all_goals refine rtS ?_
    all_goals simp only[A1.eq_1,Ak.eq_1,Ak.eq_2,Ax.eq_1,tYf,seval]
    have n30:¬ U3 σ.length:=fun e=>(f3.own _ e).elim nb0 fun e=>by simp at e;omega
    have n31:¬ U3 (σ.length+1):=fun e=>(f3.own _ e).elim nb1 fun e=>by simp at e;omega
    refine⟨U3,P1,_,hfin (hAx _) f3 _ _ _,((h3.set n31 _).set n30 _).set n31 _,k1,.inr (.inr ⟨by omega,m,s2.length,x,m1,m2,hTm,hx,rfl,?_,by omega,fun e=>(f3.own _ e).elim (fun e=>by have:=hlt2 _ e;omega) fun e=>by simp at e;omega,u1,u2,u3,hTk⟩)⟩
    rw[getElem?_set_ne (by omega),getElem?_set_ne (by omega),getElem?_set_ne (by omega),f3.keep s2.length (by simp) fun e=>by have:=hlt2 _ e;omega]
    simp[itC,Ad]
   ·refine hW0.mono ?_
    rintro _ s3 ⟨rfl,U3,f3,h3⟩
    have l3:=f3.len
    simp only[length_set]at l3
    have v0:σ.length<s3.length:=by omega
    have v1:σ.length+1<s3.length:=by omega
    repeat' first|simp only[↓wBA,tYf,seval,wH,e0,e1,w1,v0,v1]|with_reducible refine And.intro ?_ ?_
    all_goals refine rtS ?_
    all_goals simp only[A1.eq_1,Ak.eq_1,Ak.eq_2,Ax.eq_1,tYf,seval]
    have n30:¬ U3 σ.length:=fun e=>(f3.own _ e).elim nb0 fun e=>by simp at e;omega
    have n31:¬ U3 (σ.length+1):=fun e=>(f3.own _ e).elim nb1 fun e=>by simp at e;omega
    have hlt3:=h3.lt
    refine⟨U3,P1,_,(hfin hAm f3 _ _ _).app _,(((h3.set n31 _).set n30 _).set n31 _).ap (Ap.app _ _),k1,.inr (.inr ⟨by omega,m,s3.length,x,m1,m2,hTm,hx,rfl,?_,by omega,fun e=>by have:=hlt3 _ e;omega,u1,u2,u3,hTk⟩)⟩
    rw[List.getElem?_append_right (by simp)]
    simp[itC,Ad]
   ·refine hW0.mono ?_
    rintro _ s3 ⟨rfl,U3,f3,h3⟩
    have l3:=f3.len
    simp only[length_set]at l3
    have v0:σ.length<s3.length:=by omega
    have v1:σ.length+1<s3.length:=by omega
    have t3:s3[t]? =some (some (.row 4 (its.map itC))):=by
     rw[f3.keep t (by simp;omega) (nU2 _ y2 htU),←hSm,hSt t (by omega) (by omega)];exact e2
    have v2:=Ac t3
    repeat' first|simp only[↓wBA,tYf,seval,wH,e0,e1,w1,v0,v1,t3,yt,hgx,itC]|with_reducible refine And.intro ?_ ?_
    all_goals refine rtS ?_
    all_goals simp only[A1.eq_1,Ak.eq_1,Ak.eq_2,Ax.eq_1,tYf,seval]
    have n30:¬ U3 σ.length:=fun e=>(f3.own _ e).elim nb0 fun e=>by simp at e;omega
    have n31:¬ U3 (σ.length+1):=fun e=>(f3.own _ e).elim nb1 fun e=>by simp at e;omega
    have hlt3:=h3.lt
    refine⟨U3,P1,_,(hfin hAm f3 _ _ _).app _,(((h3.set n31 _).set n30 _).set n31 _).ap (Ap.app _ _),k1,.inr (.inr ⟨by omega,m,s3.length,x,m1,m2,hTm,hx,rfl,?_,by omega,fun e=>by have:=hlt3 _ e;omega,u1,u2,u3,hTk⟩)⟩
    rw[List.getElem?_append_right (by simp)]
    simp[itC,Ad]
  ·skip
   repeat' first|simp only[↓wBA,tYf,seval]|with_reducible refine And.intro ?_ ?_
   all_goals refine rtS ?_
   all_goals simp only[A1.eq_1,Ak.eq_1,Ak.eq_2,Ax.eq_1,tYf,seval]
   exact⟨U1,P1,_,aS.fr.trans f1,h1,k1,.inr (.inl ⟨by omega,hall,rfl,rfl⟩)⟩
end Go.Proofs.YtpoigihfeehehaaGreatDoor
