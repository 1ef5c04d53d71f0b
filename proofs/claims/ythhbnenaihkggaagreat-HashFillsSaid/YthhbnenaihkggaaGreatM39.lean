/- slices.SortFunc of places, on the machine. Hash indexes: Find. -/
import Derived.Test.YthhbnenaihkggaaGreatM38
import Derived.Test.YthhbnenaihkggaaGreatM37
import Derived.Shelf.SlSortCmp.WholeK
import Derived.Shelf.SlSortCmp.NoneTotal
set_option linter.unusedSimpArgs false
set_option linter.unusedVariables false
set_option linter.defProp false
set_option maxRecDepth 100000
set_option maxHeartbeats 32000000
namespace Go.Proofs.YthhbnenaihkggaaGreat
open Go.RowKit Go.Sort
theorem Match.store2 {M:View}{σ:St}(h:Match M σ){t e b:Nat}{ls ls':List (List AV)}{cur cur':Array Value}{T:TypeId}{w':World}(ht:σ.at t (.row e ls))(hb:M.mu t=some b)(hh:M.w.heap[b]? =some (.cells cur T (0,0)))
 (hh':w'.heap[b]? =some (.cells cur' T (0,0))) (hcs':cur'.size=cur.size) (hoth:∀ k,k<M.w.heap.size→k≠b→w'.heap[k]? =M.w.heap[k]?) (hsz:M.w.heap.size≤w'.heap.size) (hos:w'.os=M.w.os) (hta:w'.tape=M.w.tape) (hou:w'.output=M.w.output)
 (hr':RowRep M cur' e ls'):
 ∃ M',M'.w=w'∧Ext M σ M' (σ.set t (some (.row e ls')))∧Match M' (σ.set t (some (.row e ls'))):=by
 have htl:t<σ.length:=(List.getElem?_eq_some_iff.1 ht).1
 obtain⟨hlen,b',cur0,T0,hb',hh0,hI,hr,hcs⟩:=h.obj t _ ht
 have:b'=b:=by rw[hb]at hb';simpa using hb'.symm
 subst this
 rw[hh]at hh0
 simp only[Option.some.injEq,Obj.cells.injEq,and_true]at hh0
 obtain⟨rfl,rfl⟩:=hh0
 let M':View:={ M with w:=w' }
 have hcell:∀ k q,M.I k q→M'.w.cell? ⟨k,q,none⟩=M.w.cell? ⟨k,q,none⟩:=fun k q hk=>
  World.cell?_of_block (hoth k (h.imm k q hk) (fun e=>hI q (e▸hk)))
 have hL:Later M M':=⟨fun _ _ h h'=>⟨h,h',rfl⟩,own_same (fun _=>rfl) (fun _=>rfl) (fun _=>rfl),fun _ _ h=>h,hcell⟩
 have hat:∀ s ob,St.at (σ.set t (some (.row e ls'))) s ob→(s=t∧ob= .row e ls')∨(s≠t∧σ.at s ob):=fun s ob hs=>by
  unfold St.at at hs
  rw[List.getElem?_set]at hs
  split at hs
  ·rename_i e;subst e;simp[htl]at hs;exact .inl ⟨rfl,hs.symm⟩
  ·rename_i hne;exact .inr ⟨fun e=>hne e.symm,hs⟩
 have hE:Ext M σ M' (σ.set t (some (.row e ls'))):=by
  refine⟨hL.mu,hL.own,hL.imm,hcell,fun k hk hn=>⟨hoth k hk (fun e=>hn t _ ht (e▸hb)),fun _ h=>h⟩,fun s ob k hs hk=> ?_,hsz,hos,hta,hou⟩
  rcases hat s ob hs with⟨rfl,rfl⟩|⟨h5,h6⟩
  ·exact .inr ⟨s,_,ht,hk⟩
  ·exact .inr ⟨s,ob,h6,hk⟩
 refine⟨M',rfl,hE,?_⟩
 refine⟨fun s ob hs=> ?_,fun s s' ob ob' k hs hs' hk hk'=> ?_,fun s hs=>h.fresh s (by simpa using hs),fun s k hs=>Nat.lt_of_lt_of_le (h.lt s k hs) hsz,fun k q hq=>Nat.lt_of_lt_of_le (h.imm k q hq) hsz,h.glob.ext hE⟩
 ·rcases hat s ob hs with⟨rfl,rfl⟩|⟨h5,h6⟩
  ·exact⟨hlen,b',cur',T,hb,hh',hI,hr'.later hL,hcs'.trans hcs⟩
  ·exact (h.obj s ob h6).later hL rfl rfl rfl fun k h7=>⟨hoth k (h.lt s k h7) (fun e=>h5 (h.inj s t _ _ k h6 ht h7 (e▸hb))),fun _ h=>h⟩
 ·rcases hat s ob hs with⟨rfl,rfl⟩|⟨h5,h6⟩<;>rcases hat s' ob' hs' with⟨rfl,rfl⟩|⟨h7,h8⟩
  ·rfl
  ·exact h.inj _ _ _ _ k ht h8 hk hk'
  ·exact h.inj _ _ _ _ k h6 ht hk hk'
  ·exact h.inj _ _ _ _ k h6 h8 hk hk'
def ridC (x:Nat×Nat):List AV:=[intV .i64 (x.1:Nat),intV .i64 (x.2:Nat)]
def leXY (x y:Nat×Nat):Prop:=x.1<y.1∨(x.1=y.1∧x.2≤y.2)
theorem ltR (x y:Nat×Nat):ltOf cfR x y=decide (x.1<y.1∨(x.1=y.1∧x.2<y.2)):=by
 unfold ltOf cfR Lib.compareInt
 rcases Nat.lt_trichotomy x.1 y.1 with h|h|h<;>rcases Nat.lt_trichotomy x.2 y.2 with h'|h'|h'<;>simp[h,h',Nat.lt_asymm]<;>omega
theorem swoR:SWO (ltOf cfR) where
 irrefl x:=by rw[ltR];simp
 trans x y z h1 h2:=by rw[ltR]at *;simp at *;omega
 ntrans x y z h1 h2:=by rw[ltR]at *;simp at *;omega
theorem rid_agg:∀ w,(isAgg 45).run Tryz.prog w= .ok true w:=fun w=>by rfl
theorem rid_size:∀ w,(Go.sizeOf 45).run Tryz.prog w= .ok 2 w:=fun w=>by
 have hs:(Tryz.prog.info? 45).map (·.size)=some 2:=by kernel_rfl
 cases hq:Tryz.prog.info? 45 with
 |none=>rw[hq]at hs;simp at hs
 |some i=>rw[hq]at hs;simp at hs;simp[sizeOf,typeInfo,hq,hs]
theorem flat_get (d:Array (Nat×Nat)){i q:Nat}(hi:i<d.size)(hq:q<2):(flatK encR2 2 d)[i*2+q]! =(encR2 d[i]!)[q]! :=by
 rw[get_flatK _ _ _ _ (by omega),show (i*2+q) / 2=i by omega,show (i*2+q) % 2=q by omega]
theorem rep_rid {M:View}{x:Nat×Nat}{q:Nat}{a:AV}(ha:(ridC x)[q]? =some a):leaf a=true∧ARep M a (encR2 x)[q]! ∧q<2:=by
 match q,ha with
 |0,ha=>simp[ridC]at ha;subst ha;exact⟨rfl,rep_mk rfl,by omega⟩
 |1,ha=>simp[ridC]at ha;subst ha;exact⟨rfl,rep_mk rfl,by omega⟩
 |q+2,ha=>simp[ridC]at ha
theorem rid_of {M:View}{x:Nat×Nat}{q:Nat}{u:Value}(hq:q<2)(h:∀ a,(ridC x)[q]? =some a→ARep M a u):u=(encR2 x)[q]! :=by
 match q,hq with
 |0,_=>exact rep_int (h _ rfl)
 |1,_=>exact rep_int (h _ rfl)
theorem asort {σ:St}{t:Nat}{L:List (Nat×Nat)}(hL:L.length≤1000000)(ht:σ[t]? =some (some (.row 2 (L.map ridC)))):
 ACalls Tryz.prog 29 [.ms t 2 0 L.length,.fn 30 [] []] σ fun r s=>r= .tup []∧∃ L':List (Nat×Nat),L'.Perm L∧L'.Pairwise leXY∧s=σ.set t (some (.row 2 (L'.map ridC))):=by
 refine⟨en _ (by kernel_rfl),fun M vs hM hvs=> ?_⟩
 obtain⟨u1,us1,rfl,h1,u2,us2,rfl,h2,rfl⟩:∃ u us',vs=u::us'∧ARep M (.ms t 2 0 L.length) u∧∃ u2 us2,us'=u2::us2∧ARep M (.fn 30 [] []) u2∧us2=[]:=by simpa only[ARepL]using hvs
 obtain⟨_,b,cur,T,hb,hh,hI,hr,hcs⟩:=hM.obj t _ ht
 simp only[ARep]at h1
 obtain⟨b',c,hb',_,rfl,hn,hf⟩:=h1
 have:b'=b:=by rw[hb]at hb';simpa using hb'.symm
 subst this
 rw[← hcs]at hf
 simp only[Nat.zero_mul,Nat.zero_add]at hf
 simp only[ARep,ARepL]at h2
 obtain⟨_,_,rfl,rfl,rfl⟩:=h2
 have hblk:=hM.lt t b' hb
 have hnc:L.length*2≤cur.size:=by omega
 have hcell:∀ i q,i<L.length→q<2→cur[i*2+q]? =some (encR2 L.toArray[i]!)[q]! :=fun i q hi hq=>by
  have hg:(L.map ridC)[i]? =some (ridC L[i]):=by simp[hi]
  have hx:L.toArray[i]! =L[i]:=by rw[getElem!_pos L.toArray i (by rw[List.size_toArray];exact hi)];rfl
  have hr':=(hr i _ hg).2
  obtain⟨a,ha⟩:∃ a,(ridC L[i])[q]? =some a:=⟨_,List.getElem?_eq_getElem (show q<(ridC L[i]).length from hq)⟩
  obtain⟨_,u,hu,hu2⟩:=hr' q a ha
  have hu3:=rid_of (x:=L[i]) (u:=u) hq fun a' ha'=>by rw[ha]at ha';simp at ha';subst ha';exact hu2
  rw[hu,hx,hu3]
 have hH:HoldsK encR2 2 M.w b' 0 L.toArray:=fun j hj=>by
  simp only[size_flatK,List.size_toArray]at hj
  have e:j=j / 2*2+j % 2:=by omega
  have hq:j % 2<2:=Nat.mod_lt _ (by omega)
  have hi:j / 2<L.length:=by omega
  refine⟨?_,?_⟩
  ·rw[cell_of_row _ _ _ _ _ _ hh,Nat.zero_add]
   have h3:=hcell (j / 2) (j % 2) hi hq
   have h4:=flat_get L.toArray (i:=j / 2) (q:=j % 2) (by simpa using hi) hq
   rw[← e]at h3 h4
   rw[h3,h4];rfl
  ·simp only[World.frozen?,hh];simp
 have eg:∀ args w,(callFunc 30 args).run Tryz.prog w= .ok (.enter 30 args) w:=enters_of Tryz.func30 (by kernel_rfl) rfl
 have hcon:=AnyQ.slices_SortFunc Tryz.sortRid 2 rid_agg rid_size encR2 (fun _=>rfl) (fun x v hv=>by simp[encR2]at hv;rcases hv with rfl|rfl<;>rfl) cfR swoR 30 #[] b' 0 c L.toArray M.w eg (fun _ _ _ _ x y=>findCmp x y _) hH hblk (by simp;omega)
 rw[List.size_toArray]at hcon
 rw[Nat.zero_mul]
 change Calls Tryz.prog 29 _ _ _ at hcon
 refine hcon.mono ?_
 rintro e w' ⟨rfl,d',n,os,hp,hs,rfl⟩
 obtain⟨p1,_,p3⟩:=hp
 have hd:d'.size=L.length:=by simpa using p1
 have p3':d'.toList.Perm L:=by
  have e1:d'.extract 0 L.length=d':=by rw[← hd];simp
  have e2:(L.toArray.extract 0 L.length).toList=L:=by simp
  rw[e1,e2]at p3
  exact p3
 obtain⟨cur',hcur'⟩:∃ cur',cur'=putCells id 0 (flatK encR2 2 d') cur:=⟨_,rfl⟩
 have hcs':cur'.size=cur.size:=by rw[hcur'];simp[putCells]
 have hw:(sortWorldK encR2 2 M.w b' 0 n d' os).heap=M.w.heap.modify b' (onCells (putCells id 0 (flatK encR2 2 d')))++os:=rfl
 have hm:∀ k,(sortWorldK encR2 2 M.w b' 0 n d' os).heap[k]? =if k<M.w.heap.size then (M.w.heap.modify b' (onCells (putCells id 0 (flatK encR2 2 d'))))[k]? else os[k - M.w.heap.size]? :=fun k=>by
  rw[hw,Array.getElem?_append,Array.size_modify]
 obtain⟨M',h5,h6,h7⟩:=hM.store2 (ls':=d'.toList.map ridC) (cur':=cur') (w':=sortWorldK encR2 2 M.w b' 0 n d' os) ht hb hh (by
  rw[hm,if_pos hblk,Array.getElem?_modify,if_pos rfl,hh,hcur'];rfl) hcs' (fun k hk hne=>by
  rw[hm,if_pos hk,Array.getElem?_modify,if_neg (fun e=>hne e.symm)]) (by
  rw[hw,Array.size_append,Array.size_modify];omega) rfl rfl rfl (fun i cc hi=>by
  rw[List.getElem?_map]at hi
  cases hx:d'.toList[i]? with
  |none=>rw[hx]at hi;simp at hi
  |some x=>
   rw[hx]at hi;simp at hi;subst hi
   obtain⟨hil,hxe⟩:=List.getElem?_eq_some_iff.1 hx
   simp only[Array.length_toList]at hil
   refine⟨rfl,fun q a ha=> ?_⟩
   obtain⟨g1,g2,g3⟩:=rep_rid (M:=M) ha
   refine⟨g1,(encR2 x)[q]!,?_,g2⟩
   have hlt:i*2+q<cur.size:=by omega
   have hfs:i*2+q<(flatK encR2 2 d').size:=by rw[size_flatK];omega
   rw[hcur']
   unfold putCells
   rw[Array.getElem?_mapIdx,Array.getElem?_eq_getElem hlt]
   simp only[Option.map_some,Nat.zero_add,Nat.zero_le,true_and,hfs,if_true,Nat.sub_zero,id_eq]
   rw[flat_get d' hil g3]
   have:d'[i]! =x:=by rw[getElem!_pos d' i hil];simpa using hxe
   rw[this])
 refine⟨_,.tup [],_,M',rfl,h5,h6,h7,by simp[ARep,ARepL],by simp,rfl,d'.toList,p3',?_,rfl⟩
 rw[List.pairwise_iff_getElem]
 intro i j hi hj hij
 have:=hs i j (Nat.zero_le _) hij (by simpa [hd]using hj)
 simp only[Array.length_toList]at hi hj
 rw[getElem!_pos d' i hi,getElem!_pos d' j hj,ltR]at this
 simp only[decide_eq_false_iff_not]at this
 show leXY _ _
 unfold leXY
 simp only[Array.getElem_toList]at*
 omega
theorem asortNil (σ:St):ACalls Tryz.prog 29 [.p (.v (.slice none 0 0)),.fn 30 [] []] σ fun r s=>r= .tup []∧s=σ:=by
 refine⟨en _ (by kernel_rfl),fun M vs hM hvs=> ?_⟩
 obtain⟨u1,us1,rfl,h1,u2,us2,rfl,h2,rfl⟩:∃ u us',vs=u::us'∧ARep M (.p (.v (.slice none 0 0))) u∧∃ u2 us2,us'=u2::us2∧ARep M (.fn 30 [] []) u2∧us2=[]:=by simpa only[ARepL]using hvs
 obtain rfl:=(rep_v h1).2
 refine (AnyF.slices_SortFunc_none Tryz.sortRid none 0 u2 M.w).mono ?_
 rintro e w' ⟨rfl,rfl⟩
 exact⟨_,.tup [],σ,M,rfl,rfl,Ext.refl M σ,hM,by simp[ARep,ARepL],Nat.le_refl _,rfl,rfl⟩
theorem asortM {σ:St}{av:AV}{L:List (Nat×Nat)}(hL:L.length≤1000000)(h:MutR σ av 2 (L.map ridC)):
 ACalls Tryz.prog 29 [av,.fn 30 [] []] σ fun r s=>r= .tup []∧∃ L':List (Nat×Nat),L'.Perm L∧L'.Pairwise leXY∧MutR s av 2 (L'.map ridC)∧s.length=σ.length∧∀ t,msOf av≠some t→s[t]? =σ[t]? :=by
 rcases h with⟨rfl,h0⟩|⟨t,rfl,hne,ht⟩
 ·have hL0:L=[]:=by simpa using h0
  subst hL0
  refine (asortNil σ).mono ?_
  rintro r s ⟨rfl,rfl⟩
  exact⟨rfl,[],List.Perm.refl _,List.Pairwise.nil,.inl ⟨rfl,rfl⟩,rfl,fun _ _=>rfl⟩
 ·rw[List.length_map]
  refine (asort hL ht).mono ?_
  rintro r s ⟨rfl,L',hp,hs,rfl⟩
  have hl:=hp.length_eq
  refine⟨rfl,L',hp,hs,.inr ⟨t,by rw[List.length_map,hl],fun e=>hne ?_,by rw[List.getElem?_set_self (at_lt ht)]⟩,by simp,fun t' ht'=>List.getElem?_set_ne fun e=>ht' (by rw[e];rfl)⟩
  have:L'=[]:=by simpa using e
  rw[this]at hl
  have:L=[]:=List.length_eq_zero_iff.1 hl.symm
  rw[this];rfl
end Go.Proofs.YthhbnenaihkggaaGreat
namespace Go.Proofs.YthhbnenaihkggaaGreat
open Go.RowKit
def pl9_6Xf:Plan:=(.det 0 (.det 1 (.det 2 (.det 3 (.det 4 (.det 5 (.det 6 (.act 7 (.fin 8 (.fin 9 (.det 10 (.det 11 (.det 12 (.det 13 (.det 14 .done)))))))))))))))
def pl9_13Xf:Plan:=(.det 0 (.det 1 (.det 2 (.det 4 (.two 3 (.act 5 (.det 6 .done)) 5 (.fin 3 (.det 6 .done)))))))
def pl9_14Xf:Plan:=(.det 0 (.det 1 (.det 2 (.det 3 (.det 4 (.det 5 (.det 6 (.det 7 (.det 8 (.det 9 (.det 10 (.det 11 (.det 12 (.det 13 (.det 14 (.det 15 (.det 16 (.det 17 (.det 18 (.det 19 (.det 20 (.det 21 (.det 22 (.det 23 (.det 24 (.det 25 (.fin 26 (.fin 27 (.det 28 .done)))))))))))))))))))))))))))))
def tXf:=aa wX <| aa wbu <| aa T3 <| aa T5 <| aa T9 <| aa T23 <| aa T25 <| aa T28 <| aa T29 <| aa T45 <| aa T63 <| aa T65 <| aa T73 T77
def cxN:Ctx:={ cx with muts:=[28*100000+81] }
theorem cxN_ok:cxN.ok Tryz.prog:=cx_ok
theorem drN_ok:DrawOk Tryz.prog (aDraw Tryz.prog cxN):=aDraw_ok cxN_ok (by kernel_rfl)
theorem kindN (t:TypeId):cxN.kind t=cx.kind t:=nr rfl
theorem tyN (t:TypeId):cxN.ty t=cx.ty t:=nr rfl
theorem mutsN:cxN.muts=[28*100000+81]:=nr rfl
theorem lenN {T:TypeId}{x:AV}:lenA cxN T x=lenA cx T x:=nr rfl
theorem sliceN {T:TypeId}{x:AV}{lo hi:Option AV}:sliceA cxN T x lo hi=sliceA cx T x lo hi:=nr rfl
theorem convN {a b:TypeId}{x:AV}:convB cxN a b x=convB cx a b x:=nr rfl
def decX (r:List UInt8):Nat×Nat:=match r with
 |a::b::c::d::_=>(lo16 a b,lo16 c d)
 |_=>(0,0)
theorem decX_enc {e:HEn}(h:e.Ok):decX (encX e)=(e.p,e.s):=by
 simp only[encX,decX,List.cons_append,List.nil_append,lo16_dec h.2.1,lo16_dec h.2.2]
def outX (key:List UInt8)(l:List (Nat×Nat×List UInt8)):List (Nat×Nat):=((l.map fun r=>r.2.2).filter fun r=>r.drop 4==key).map decX
theorem outX_yes {key:List UInt8}{l:List (Nat×Nat×List UInt8)}{n k:Nat}{e:HEn}(h:e.k=key)(hok:e.Ok):outX key (l++[(n,k,encX e)])=outX key l++[(e.p,e.s)]:=by
 unfold outX
 rw[List.map_append,List.filter_append,List.map_append,←decX_enc hok]
 simp[encX_drop,h]
theorem outX_no {key:List UInt8}{l:List (Nat×Nat×List UInt8)}{n k:Nat}{e:HEn}(h:e.k≠key):outX key (l++[(n,k,encX e)])=outX key l:=by
 unfold outX
 rw[List.map_append,List.filter_append,List.map_append]
 simp[encX_drop,h]
theorem Ap.get' {σ s:St}(h:Ap σ s){t:Nat}(ht:t<σ.length):s[t]? =σ[t]? :=by
 obtain⟨τ,rfl⟩:=h
 exact List.getElem?_append_left ht
section
variable {σ:St} {b p dd l kh root c:Nat} {U:Nat→Prop} {P:PoolV} {v:Nat→List UInt8} {T:Nat→Bool} {bs:List (List Nat)} {E:List HEn}
theorem axkfind {key:List UInt8}(h:Bt σ b p dd l kh U P v)(hx:Ix v T P.pages root bs E c)(hb:Bud P 1)(hl:bs.length≤1000000)(hkl:key.length≤140737488351232)(hE:E.length≤900000):
 ACalls Tryz.prog 9 [.mp b 2 0 0,intV .i64 (root:Nat),.p (.sl 1 (encB key))] σ fun r σ'=>∃ (av:AV) (R:List (Nat×Nat)) (U':Nat→Prop) (P':PoolV),r= .tup [av,intV .i64 0]∧MutR σ' av 2 (R.map ridC)∧R.Perm ((E.filter fun e=>e.k==key).map fun e=>(e.p,e.s))∧R.Pairwise leXY∧Fr σ σ' U U'∧Bt σ' b p dd l kh U' P' v∧Kp P P' 0∧∀ t,msOf av=some t→σ.length≤t∧¬ U' t:=by
 have hlt:=h.lt
 have hbk:=bktH_lt (h:=fnvL key) hx.n1
 obtain⟨b',hb'⟩:∃ b',bs[bktH (fnvL key) bs.length]? =some b':=⟨bs[bktH (fnvL key) bs.length]'hbk,by simp⟩
 have hH:=hx.bk b' (List.mem_of_getElem? hb')
 obtain⟨hbl,hbh⟩:=h.big2 hH
 have hrl:=dirR_len (root:=root) (c:=c) (bs:=bs)
 have hn1:=hx.n1
 have hla:lenA cx 63 (.p (.sl 3 (dirR root c bs)))=some (bs.length+1):=by
  unfold lenA
  rw[ck_63]
  simp[elemsA,hrl]
 have hw1:IntKind.i64.wrap (((bs.length+1:Nat):Int) - 1)=((bs.length:Nat):Int):=by rw[wrap_i64 (by omega) (by omega)];omega
 have hcx:=conv_str key
 refine acalls_of cxN_ok drN_ok Tryz.func9 (by kernel_rfl) rfl (nt:=83) (rs:=[.tmp 6,.tmp 7]) rfl rfl ?_
 repeat' first|((with_reducible first|apply cs|apply ws|apply wd|apply wu)<;>intro h<;>try simp only[h])|simp only[↓wBA,tXf,convA,seval,pl9_6Xf,pl9_13Xf,pl9_14Xf,wH,kindN,tyN,mutsN,lenN]|(with_reducible first|refine dQ pl9_6Xf 15 (some 26) ?_|refine dQ pl9_13Xf 7 (some 47) ?_|refine dQ pl9_14Xf 29 (some 54) ?_)|with_reducible refine And.intro ?_ ?_
 refine (axopen h hx hb).mono ?_
 rintro _ s1 ⟨rfl,U1,P1,f1,h1,k1⟩
 have l1:=f1.len
 have hlt1:=h1.lt
 have n1:¬ U1 s1.length:=fun e=>Nat.lt_irrefl _ (hlt1 _ e)
 obtain⟨S,hS⟩:∃ S,S=s1++[some (Ob.row 2 [[AV.mp b 2 0 0,AV.p (PV.sl 3 (dirR root c bs))]])]:=⟨_,rfl⟩
 have aS:Ap s1 S:=⟨_,hS⟩
 have bg:S[s1.length]? =some (some (Ob.row 2 [[AV.mp b 2 0 0,AV.p (PV.sl 3 (dirR root c bs))]])):=by rw[hS];simp
 have yg:=at_lt bg
 have lS:=aS.len
 repeat' first|((with_reducible first|apply cs|apply ws|apply wd|apply wu)<;>intro h<;>try simp only[h])|simp only[↓wBA,tXf,convA,seval,pl9_6Xf,pl9_13Xf,pl9_14Xf,wH,kindN,tyN,mutsN,lenN,ixC,hS.symm,bg,yg,hla,hw1]|((with_reducible show ACalls _ _ _ _ _);refine (axbucket key hkl _ (.inl rfl) bs.length hn1 hl _).eq ?_)|(with_reducible first|refine dQ pl9_6Xf 15 (some 26) ?_|refine dQ pl9_13Xf 7 (some 47) ?_|refine dQ pl9_14Xf 29 (some 54) ?_)|with_reducible refine And.intro ?_ ?_
 refine (axpage hb' hbh hl).mono ?_
 rintro _ s2 ⟨a2,rfl⟩
 have l2:=a2.len
 have bg2:=a2.get bg
 have yg2:=at_lt bg2
 repeat' first|((with_reducible first|apply cs|apply ws|apply wd|apply wu)<;>intro h<;>try simp only[h])|simp only[↓wBA,tXf,convA,seval,pl9_6Xf,pl9_13Xf,pl9_14Xf,wH,kindN,tyN,mutsN,lenN,bg2,yg2]|(with_reducible first|refine dQ pl9_6Xf 15 (some 26) ?_|refine dQ pl9_13Xf 7 (some 47) ?_|refine dQ pl9_14Xf 29 (some 54) ?_)|with_reducible refine And.intro ?_ ?_
 have a02:=aS.trans a2
 have hfst:b'[0]? =some (b'.headD 0):=by
  cases b' with
  |nil=>exact absurd rfl hH.ne
  |cons a r=>rfl
 have hHk:Heap v T P1.pages b':=by rw[k1.pages];exact hH
 refine (ascan (h1.ap a02) hHk hfst (hb.kp k1 (by omega)) hbl).mono ?_
 rintro _ s3 ⟨rfl,U3,P3,f3,h3,k3⟩
 have f03:=(f1.trans a02.fr).trans f3
 have l2':=a02.len
 have l3:=f3.len
 have hlt3:=h3.lt
 obtain⟨L,hL⟩:∃ L,L=entH v b':=⟨_,rfl⟩
 rw[← hL]
 obtain⟨y,hy,hy1,hy2⟩:=lsV_p 3 (L.map entR)
 have hly:lenA cx 63 (.p y)=some L.length:=by rw[len_p ck_63 hy1 hy2,List.length_map]
 have hLl:L.length≤900000:=by have:=entH_len v b';rw[← hL]at this;omega
 rw[hy]
 have hpm:=hx.pm _ b' hb'
 have hrec:∀ r∈L,∃ e∈E,r.2.2=encX e∧e.Ok:=fun r hr=>by
  have:r.2.2∈recH v b':=by unfold recH;rw[← hL];exact List.mem_map.2 ⟨r,hr,rfl⟩
  obtain⟨e,he,h5⟩:=List.mem_map.1 (hpm.mem_iff.1 this)
  exact⟨e,(List.mem_filter.1 he).1,h5.symm,hx.ok e (List.mem_filter.1 he).1⟩
 repeat' first|((with_reducible first|apply cs|apply ws|apply wd|apply wu)<;>intro h<;>try simp only[h])|simp only[↓wBA,tXf,convA,seval,pl9_6Xf,pl9_13Xf,pl9_14Xf,wH,kindN,tyN,mutsN,lenN,hly]|(with_reducible first|refine dQ pl9_6Xf 15 (some 26) ?_|refine dQ pl9_13Xf 7 (some 47) ?_|refine dQ pl9_14Xf 29 (some 54) ?_)|with_reducible refine And.intro ?_ ?_
 refine awp_loopS (X:={ q:Nat×AV // q.1≤L.length }) (fun q=>L.length - q.1.1) (fun q=>[(11,q.1.2),(43,intV .i64 (q.1.1:Nat))]) [13,44,45,46,47,48,49,50,51,52,53,54,55,56,57,58,59,60,61,62,63,64,65,66,67,68,69,70,71,72,73,74,75,76,77,78,79,80,81,82] (fun q s=>Ap s3 s∧MutR s q.1.2 2 ((outX key (L.take q.1.1)).map ridC)∧∀ t,msOf q.1.2=some t→s3.length≤t) (⟨(0,.p (.v (.slice none 0 0))),by simp⟩) ?_ ?_ ?_ ?_
 ·simp only[wHl,wHf]
 ·exact⟨Ap.refl _,.inl ⟨rfl,rfl⟩,fun t ht=>by cases ht⟩
 ·rintro _ _ ⟨h,_⟩;exact h.len
 ·intro w J s hI
  simp only[wHl]
  obtain⟨⟨i,av⟩,hi⟩:=w
  obtain⟨aq,hmu,hms⟩:=hI
  dsimp only at*
  have lq:=aq.len
  have hi0:=nnI i
  have hwi:=wI i (by omega)
  have hav:leaf av=true∧cellsA av=some [av]:=by rcases hmu with⟨rfl,_⟩|⟨t,rfl,_⟩<;>exact⟨rfl,rfl⟩
  by_cases hlt':i<L.length
  ·have e1:=dT (i:=i) (n:=L.length) hlt'
   obtain⟨⟨n,k,rec⟩,hr⟩:∃ r,L[i]? =some r:=⟨L[i],by simp⟩
   obtain⟨e,heE,hre,hok⟩:=hrec _ (List.mem_of_getElem? hr)
   simp only at hre
   subst hre
   obtain rfl:y= .sl 3 (L.map entR):=hy1 (fun e=>by rw[List.map_eq_nil_iff]at e;rw[e]at hlt';simp at hlt')
   have hg:(L.map entR)[i]? =some [.v (.int .i64 (n:Nat)),.v (.int .i64 (k:Nat)),.sl 1 (encB (encX e))]:=by rw[List.getElem?_map,hr];rfl
   have hif:((i:Int)<((L.map entR).length:Int))=True:=eq_true (by rw[List.length_map];omega)
   have hif':((i:Int)<(L.length:Int))=True:=eq_true (by omega)
   have hcr:=conv_str e.k
   have hs4:=sl_four (e:=e)
   have htk:L.take (i+1)=L.take i++[(n,k,encX e)]:=by rw[List.take_add_one,hr];rfl
   by_cases hq:e.k=key
   ·have hse:=str_same e.k
    have hout:outX key (L.take (i+1))=outX key (L.take i)++[(e.p,e.s)]:=by rw[htk,outX_yes hq hok]
    rw[hq]at hcr hs4 hse
    have c0:(encB (encX e))[0]? =some [.v (.int .u8 ((UInt8.ofNat e.p).toNat:Int))]:=rfl
    have c1:(encB (encX e))[1]? =some [.v (.int .u8 ((UInt8.ofNat (e.p / 256)).toNat:Int))]:=rfl
    have c2:(encB (encX e))[2]? =some [.v (.int .u8 ((UInt8.ofNat e.s).toNat:Int))]:=rfl
    have c3:(encB (encX e))[3]? =some [.v (.int .u8 ((UInt8.ofNat (e.s / 256)).toNat:Int))]:=rfl
    have hel:(encB (encX e)).length=e.k.length+4:=by simp[encB,encX]
    have d0:((0:Int)<((encB (encX e)).length:Int))=True:=eq_true (by rw[hel];omega)
    have d1:((1:Int)<((encB (encX e)).length:Int))=True:=eq_true (by rw[hel];omega)
    have d2:((2:Int)<((encB (encX e)).length:Int))=True:=eq_true (by rw[hel];omega)
    have d3:((3:Int)<((encB (encX e)).length:Int))=True:=eq_true (by rw[hel];omega)
    have o1:=or2 hok.2.1
    have o2:=or2 hok.2.2
    repeat' first|((with_reducible first|apply cs|apply ws|apply wd|apply wu)<;>intro h<;>try simp only[h])|simp only[↓wBA,tXf,convA,seval,pl9_6Xf,pl9_13Xf,pl9_14Xf,wH,wHl,kindN,tyN,mutsN,lenN,sliceN,convN,e1,hg,hif,hif',hi0,hcr,hcx,hs4,hse,hav.1,hav.2,c0,c1,c2,c3,d0,d1,d2,d3,o1,o2]|(with_reducible first|refine dQ pl9_6Xf 15 (some 26) ?_|refine dQ pl9_13Xf 7 (some 47) ?_|refine dQ pl9_14Xf 29 (some 54) ?_)|with_reducible refine And.intro ?_ ?_
    have hol:(outX key (L.take i)).length≤i:=by
     unfold outX
     refine Nat.le_trans (by rw[List.length_map];exact List.length_filter_le _ _) ?_
     rw[List.length_map,List.length_take];omega
    obtain⟨Q,hQ⟩:∃ Q,Q=s++[some (Ob.row 3 [[AV.p (PV.v (Value.int IntKind.i64 (n:Nat))),AV.p (PV.v (Value.int IntKind.i64 (k:Nat))),AV.p (PV.sl 1 (encB (encX e)))]])]++[some (Ob.right 45 2)]:=⟨_,rfl⟩
    have aQ:Ap s Q:=by rw[hQ];exact (Ap.app _ _).more _
    have lQ:Q.length=s.length+2:=by rw[hQ];simp
    obtain⟨q',hq',r1,r2,r3⟩:=app_mut (C:=cxN) (q:=Q) (y:=.own (s.length+1) 2 [[.v (.int .i64 (e.p:Nat)),.v (.int .i64 (e.s:Nat))]]) (m:=[ridC (e.p,e.s)]) ((kindN _).trans ck_28) (hmu.same fun t ht=>aQ.get' (hmu.lt ht)) rfl (by simp) (by simp only[List.length_map,List.length_cons,List.length_nil];omega) (by simp only[List.length_map,List.length_cons,List.length_nil];omega)
    rw[lQ]at hq' r1 r2 r3
    rw[hQ]at hq'
    repeat' first|((with_reducible first|apply cs|apply ws|apply wd|apply wu)<;>intro h<;>try simp only[h])|simp only[↓wBA,tXf,convA,seval,pl9_6Xf,pl9_13Xf,pl9_14Xf,wH,wHl,kindN,tyN,mutsN,lenN,hq',hwi]|(with_reducible first|refine dQ pl9_6Xf 15 (some 26) ?_|refine dQ pl9_13Xf 7 (some 47) ?_|refine dQ pl9_14Xf 29 (some 54) ?_)|with_reducible refine And.intro ?_ ?_
    have hml:(outX key (L.take i)).length+1=(List.map ridC (outX key (L.take (i+1)))).length:=by rw[hout];simp
    refine⟨⟨(i+1,.ms (s.length+2) 2 0 ((outX key (L.take i)).length+1)),by show i+1≤L.length;omega⟩,by show L.length - (i+1)<L.length - i;omega,⟨Ap.of_keep (by omega) fun t ht=> ?_,.inr ⟨s.length+2,by rw[hml],by rw[hout];simp,by rw[hout,List.map_append];exact r1⟩,fun t ht=> ?_⟩,by simp only[wHl,wHf]⟩
    ·rw[r3 t (by omega) (fun e=>by have:=hms t e;omega),aQ.get' (by omega)]
     exact aq.get' ht
    ·simp only[msOf,Option.some.injEq]at ht;omega
   ·have hse:=str_not hq
    have hout:outX key (L.take (i+1))=outX key (L.take i):=by rw[htk,outX_no hq]
    repeat' first|((with_reducible first|apply cs|apply ws|apply wd|apply wu)<;>intro h<;>try simp only[h])|simp only[↓wBA,tXf,convA,seval,pl9_6Xf,pl9_13Xf,pl9_14Xf,wH,wHl,kindN,tyN,mutsN,lenN,sliceN,convN,e1,hg,hif,hif',hi0,hcr,hcx,hs4,hse,hwi,hav.1,hav.2]|(with_reducible first|refine dQ pl9_6Xf 15 (some 26) ?_|refine dQ pl9_13Xf 7 (some 47) ?_|refine dQ pl9_14Xf 29 (some 54) ?_)|with_reducible refine And.intro ?_ ?_
    refine⟨⟨(i+1,av),by show i+1≤L.length;omega⟩,by show L.length - (i+1)<L.length - i;omega,⟨aq.more _,?_,hms⟩,by simp only[wHl,wHf]⟩
    show MutR _ av 2 ((outX key (L.take (i+1))).map ridC)
    rw[hout]
    exact hmu.same fun t ht=>List.getElem?_append_left (hmu.lt ht)
  ·obtain rfl:i=L.length:=by omega
   have e1:=dF (i:=L.length) (n:=L.length) hlt'
   rw[List.take_length]at hmu
   have hol:(outX key L).length≤L.length:=by
    unfold outX
    refine Nat.le_trans (by rw[List.length_map];exact List.length_filter_le _ _) ?_
    rw[List.length_map]
    exact Nat.le_refl _
   repeat' first|((with_reducible first|apply cs|apply ws|apply wd|apply wu)<;>intro h<;>try simp only[h])|simp only[↓wBA,tXf,convA,seval,pl9_6Xf,pl9_13Xf,pl9_14Xf,wH,wHl,kindN,tyN,mutsN,lenN,e1,hav.1,hav.2]|(with_reducible first|refine dQ pl9_6Xf 15 (some 26) ?_|refine dQ pl9_13Xf 7 (some 47) ?_|refine dQ pl9_14Xf 29 (some 54) ?_)|with_reducible refine And.intro ?_ ?_
   refine (asortM (by omega) hmu).mono ?_
   rintro _ s5 ⟨rfl,R,hR1,hR2,hmu5,hl5,hk5⟩
   repeat' first|((with_reducible first|apply cs|apply ws|apply wd|apply wu)<;>intro h<;>try simp only[h])|simp only[↓wBA,tXf,convA,seval,pl9_6Xf,pl9_13Xf,pl9_14Xf,wH,wHl,kindN,tyN,mutsN,lenN,hav.1,hav.2]|(with_reducible first|refine dQ pl9_6Xf 15 (some 26) ?_|refine dQ pl9_13Xf 7 (some 47) ?_|refine dQ pl9_14Xf 29 (some 54) ?_)|with_reducible refine And.intro ?_ ?_
   all_goals refine ret_st ?_ (by first|exact Nat.le_refl _|(simp only[List.length_set,List.length_append];omega)|omega)
   all_goals simp only[resA.eq_1,resL.eq_1,resL.eq_2,resV.eq_1,resV.eq_2,↓wBA,tXf,convA,seval,wH,kindN,tyN]
   refine⟨av,R,U3,P3,rfl,hmu5,hR1.trans ?_,hR2,?_,?_,k1.trans k3,fun t ht=>⟨by have:=hms t ht;omega,fun e=>by have:=hlt3 t e;have:=hms t ht;omega⟩⟩
   ·have h5:=hx.key key hb'
    have h6:outX key L=(((recH v b').filter fun r=>r.drop 4==key).map decX):=by unfold outX recH;rw[hL]
    rw[h6]
    refine (h5.map decX).trans ?_
    rw[List.map_map]
    exact List.Perm.of_eq (List.map_congr_left fun e he=>decX_enc (hx.ok e (List.mem_filter.1 he).1))
   ·refine f03.trans ⟨by omega,fun t ht hn=> ?_,fun t ht=>.inl ht⟩
    rw[hk5 t (fun e=>by have:=hms t e;omega)]
    exact aq.get' ht
   ·exact h3.same fun t ht=>by
     have:=hlt3 t ht
     rw[hk5 t (fun e=>by have:=hms t e;omega)]
     exact aq.get' this
end
end Go.Proofs.YthhbnenaihkggaaGreat
