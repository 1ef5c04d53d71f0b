/- slices.Delete of an element of rows of four cells, as the world sees it, and on the machine. slices.Concat of two nodes' items, on the machine. Trees: entries from a key on. -/
import Derived.Test.YtockimhceppkbaaGreatM32
import Derived.Lib.SliceRun
import Derived.Lib.Hide
import Derived.Test.YtockimhceppkbaaGreatM35
set_option linter.unusedSimpArgs false
set_option linter.unusedVariables false
set_option linter.defProp false
set_option maxRecDepth 100000
set_option maxHeartbeats 32000000
namespace Go.Proofs.YtockimhceppkbaaGreat
open Go.RowKit
open List (flatMap_cons getElem?_append_left length_append length_cons length_map length_nil length_set)
theorem run_append_roomK {P:Program}(w:World)(t ty e:TypeId)(i:TypeInfo)(ht:P.underlying t=some (.slice e))(hi:P.info? e=some i)
 (g sLen sCap:Nat) (cur:Array Value) (T:TypeId) (hg:w.heap[g]? =some (.cells cur T (0,0)))
 (a:Addr) (m c:Nat) (news:List Value) (hl:news.length=m*i.size) (hnews:∀ j u,news[j]? =some u→w.cell? (a.add j)=some u) (h1:∀ u∈news,u.oneCell'=true)
 (hroom:sLen+m≤sCap) (hfit:sLen*i.size+news.length≤cur.size):
 (Builtin.append_ #[t,t] ty #[.slice (some ⟨g,0,none⟩) sLen sCap,.slice (some a) m c]).run P w=
  .ok (.slice (some ⟨g,0,none⟩) (sLen+m) sCap) (w.setRow g (cur.toList.take (sLen*i.size)++news++cur.toList.drop (sLen*i.size+news.length)).toArray):=by
 have hf:=run_firstCells_some (P:=P) w i.size m a m c news hl hnews
 have hst:=run_storeCells_at P g (sLen*i.size) T news 0 cur w hg (by simpa using hfit) h1
 simp only[Nat.add_zero]at hst
 simp[Builtin.append_,run_underlying ht,sizeOf,typeInfo,hi,Builtin.lenOf,hroom,hf,Addr.add_lit,hst]
theorem step_append_runI {P:Program}{ops:Array Oper}{o:Oper}{a:Act}{w:World}{K:Act→World→Prop}{Q:Exit→Act→World→Prop}{E:Prop}
 (hg:o.guard=none) (d x:Operand) (dT sT:TypeId) (hop:o.op=Op.call { callee:=Callee.builtin Builtin.append,args:= #[d,x],argTypes:= #[dT,sT] })
 (v u:Value) (hd:a.eval d=v) (hx:a.eval x=u) {v':Value} {w':World} (hr:(Builtin.append_ #[dT,sT] o.type #[v,u]).run P w= .ok v' w') (hK:K (a.put o.dst v') w'):
 if Region.wanted o (yielded ops a.tmps)=true then Oper.wp P o a w K Q else E:=by
 have hw:Region.wanted o (yielded ops a.tmps)=true:=by simp[Region.wanted,hg]
 rw[if_pos hw]
 unfold Oper.wp
 simp[execOp,hop,resolve,invoke,builtin,hd,hx,hr,Result.andThen]
 exact hK
def zeroI:List Value:=[.slice none 0 0,.int .i64 0,.int .i64 0,.int .i64 0]
theorem zcI:(Builtin.zeroCells (Value.agg #[.slice none 0 0,.int .i64 0,.int .i64 0,.int .i64 0]).cells 1).toList=zeroI:=by simp[Builtin.zeroCells,Value.cells,zeroI,Array.range,List.range,List.range.loop]<;>rfl
theorem del_shift (b n c i:Nat)(cur:Array Value)(T:TypeId)(w:World)(hi:i<n)(hnc:n≤c)(hn63:n≤9223372036854775807)
 (hb:w.heap[b]? =some (.cells cur T (0,0))) (hfit:c*4≤cur.size)
 (h1c:∀ v∈(cur.toList.drop ((i+1)*4)).take ((n - (i+1))*4),v.oneCell'=true):
 Calls Tryz.prog 85 #[.slice (some ⟨b,0,none⟩) n c,.int .i64 i,.int .i64 ((i:Int)+1)] w fun e w'=>
  ∃ cur1 cur2:Array Value,e= .returned (.slice (some ⟨b,0,none⟩) (n - 1) c)∧w'=((w.drew).setRow b cur1).setRow b cur2∧
    cur2=(cur.toList.take (i*4)++(cur.toList.drop ((i+1)*4)).take ((n - (i+1))*4)++zeroI++cur.toList.drop (n*4)).toArray:=by
 have hu:Tryz.prog.underlying 90=some (.slice 97):=by kernel_rfl
 obtain⟨i0,hi0,hz0,hzs⟩:∃ i0,Tryz.prog.info? 97=some i0∧i0.zero=some (.agg #[.slice none 0 0,.int .i64 0,.int .i64 0,.int .i64 0])∧i0.size=4:=by
  have h1:(Tryz.prog.info? 97).map (·.zero)=some (some (.agg #[.slice none 0 0,.int .i64 0,.int .i64 0,.int .i64 0])):=by kernel_rfl
  have h2:(Tryz.prog.info? 97).map (·.size)=some 4:=by kernel_rfl
  cases hq:Tryz.prog.info? 97 with
  |none=>rw[hq]at h2;simp at h2
  |some i0=>rw[hq]at h1 h2;exact⟨i0,rfl,by simpa using h1,by simpa using h2⟩
 have hzv:∀ w,(zeroValue 97).run Tryz.prog w= .ok (.agg #[.slice none 0 0,.int .i64 0,.int .i64 0,.int .i64 0]) w:=fun w=>by simp[zeroValue,typeInfo,hi0,hz0]
 obtain⟨mid,hmid⟩:∃ mid,mid=(cur.toList.drop ((i+1)*4)).take ((n - (i+1))*4):=⟨_,rfl⟩
 have hml:mid.length=(n - (i+1))*4:=by rw[hmid];simp;omega
 rw[← hmid]at h1c
 rw[← hmid]
 obtain⟨cur1,hcur1⟩:∃ cur1,cur1=(cur.toList.take (i*4)++mid++cur.toList.drop (i*4+mid.length)).toArray:=⟨_,rfl⟩
 obtain⟨cur2,hcur2⟩:∃ cur2,cur2=(cur.toList.take (i*4)++mid++zeroI++cur.toList.drop (n*4)).toArray:=⟨_,rfl⟩
 have hc1s:cur1.size=cur.size:=by rw[hcur1];simp;omega
 obtain⟨A,hA,hsrc⟩:∃ A:Addr,(if c=i+1 then some (⟨b,0,none⟩:Addr)else some ⟨b,(i+1)*4,none⟩)=some A∧∀ j u,mid[j]? =some u→w.drew.cell? (A.add j)=some u:=by
  by_cases h:c=i+1
  ·refine⟨⟨b,0,none⟩,by simp[h],fun t u hu=> ?_⟩
   have h0:mid.length=0:=by rw[hml];omega
   rw[List.length_eq_zero_iff.1 h0]at hu
   simp at hu
  ·refine⟨⟨b,(i+1)*4,none⟩,by simp[h],fun t u hu=> ?_⟩
   rw[add_lit',cell_at (w:=w.drew) hb]
   rw[hmid,List.getElem?_take]at hu
   split at hu
   ·rw[List.getElem?_drop]at hu;simpa using hu
   ·simp at hu
 have hap:∀ ty c2,(Builtin.append_ #[90,90] ty #[.slice (some ⟨b,0,none⟩) i c,.slice (some A) (n - (i+1)) c2]).run Tryz.prog w.drew= .ok (.slice (some ⟨b,0,none⟩) (i+(n - (i+1))) c) (w.drew.setRow b cur1):=fun ty c2=>by
  have h:=run_append_roomK (P:=Tryz.prog) w.drew 90 ty 97 i0 hu hi0 b i c cur T hb A (n - (i+1)) c2 mid (by rw[hzs,hml]) hsrc h1c (by omega) (by rw[hzs,hml];omega)
  rw[hzs,←hcur1]at h
  exact h
 have hin:i+(n - (i+1))=n - 1:=by omega
 rw[hin]at hap
 obtain⟨W1,hW1⟩:∃ W1,W1=w.drew.setRow b cur1:=⟨_,rfl⟩
 have hb1:W1.heap[b]? =some (.cells cur1 T (0,0)):=by rw[hW1];exact setRow_heap w.drew _ _ _ _ _ hb
 have hcl:∀ ty c2,(Builtin.clear_ #[90] ty #[.slice (some ⟨b,(n - 1)*4,none⟩) 1 c2]).run Tryz.prog W1= .ok (.tuple #[]) (W1.setRow b cur2):=fun ty c2=>by
  have hst:=run_storeCells_at Tryz.prog b ((n - 1)*4) T zeroI 0 cur1 W1 hb1 (by rw[hc1s];simp[zeroI];omega) (by decide)
  simp only[Nat.add_zero]at hst
  have e:(cur1.toList.take ((n - 1)*4)++zeroI++cur1.toList.drop ((n - 1)*4+zeroI.length)).toArray=cur2:=by
   have h1:(cur.toList.take (i*4)++mid).length=(n - 1)*4:=by simp[hml];omega
   have hz:zeroI.length=4:=rfl
   rw[hcur2,hcur1,hz]
   simp only
   rw[List.take_append_of_le_length (by rw[h1];exact Nat.le_refl _),←h1,List.take_length,List.drop_append,List.drop_eq_nil_of_le (by omega),List.nil_append,List.drop_drop]
   congr 3
   rw[hml]at*
   simp only[length_append,hml,List.length_take,Array.length_toList]
   omega
  rw[e]at hst
  simp[Builtin.clear_,run_underlying hu,hzv,zcI,hst]
 rw[← hW1]at hap
 have hw1:IntKind.i64.wrap ((i:Int)+1)=(i:Int)+1:=by rw[IntKind.wrap_i64];omega
 have hbb1:(0:Int)≤(i:Int)+1:=by omega
 have htn:((i:Int)+1).toNat=i+1:=by omega
 have hne:¬ ((i:Int)=(i:Int)+1):=by omega
 have hb1n:(i:Int)+1≤(n:Int):=by omega
 have hii:(i:Int)≤(i:Int)+1:=by omega
 have hic:i≤c:=by omega
 have hjc:i+1≤c:=by omega
 have hn1n:n - 1≤n:=by omega
 have hn1c:¬ (c=n - 1):=by omega
 have hone:n - (n - 1)=1:=by omega
 have hfin:W1.setRow b cur2=(w.drew.setRow b cur1).setRow b cur2:=by rw[hW1]
 have hC2:Hid (cur2=(cur.toList.take (i*4)++mid++zeroI++cur.toList.drop (n*4)).toArray):=hcur2
 have hF2:Hid (W1.setRow b cur2=(w.drew.setRow b cur1).setRow b cur2):=hfin
 clear hmid hcur1 hW1 hsrc hcur2 hfin
 have mixed:Tryz.prog.follows Departure.mixedOrders=true:=by kernel_rfl
 go_enter Tryz.func85,Tryz.ntmps85
 go_wp2_with fail
 go_region_law_o (refine step_append_runI rfl (.tmp 22) (.tmp 25) 90 90 rfl (.slice (some ⟨b,0,none⟩) i c) (.slice (some A) (n - (i+1)) (c - (i+1))) (by simp[Act.eval,Act.put]) (by simp[Act.eval,Act.put]) (hap _ _) ?_)
 go_wp2_with (simp only[hcl])
 go_ret
 exact⟨cur1,cur2,rfl,hF2.out,hC2.out⟩
theorem adel {σ:St}{t i:Nat}{l:List Itm}(hl:l.length≤1000000)(hi:i<l.length)(ht:σ[t]? =some (some (.row 4 (l.map itC)))):
 ACalls Tryz.prog 85 [.ms t 4 0 l.length,intV .i64 (i:Nat),intV .i64 ((i+1:Nat):Int)] σ fun r s=>r= .ms σ.length 4 0 (l.length - 1)∧s=σ.set t none++[some (.row 4 ((l.take i++l.drop (i+1)).map itC))]:=by
 refine⟨en _ (by kernel_rfl),fun M vs hM hvs=> ?_⟩
 obtain⟨u1,us1,rfl,h1,u2,us2,rfl,h2,u3,us3,rfl,h3,rfl⟩:∃ u us',vs=u::us'∧ARep M (.ms t 4 0 l.length) u∧∃ u2 us2,us'=u2::us2∧ARep M (intV .i64 (i:Nat)) u2∧∃ u3 us3,us2=u3::us3∧ARep M (intV .i64 ((i+1:Nat):Int)) u3∧us3=[]:=by simpa only[ARepL]using hvs
 have hput:∀ (σ0:St),σ0.length=σ.length→St.put σ0 σ.length (.row 4 ((l.take i++l.drop (i+1)).map itC))=σ0++[some (.row 4 ((l.take i++l.drop (i+1)).map itC))]:=fun σ0 h=>put_new h.symm
 obtain⟨_,b,cur,T,hb,hh,hI,hr,hcs⟩:=hM.obj t _ ht
 simp only[ARep]at h1
 obtain⟨b',c,hb',_,rfl,hn,hf⟩:=h1
 have:b'=b:=by rw[hb]at hb';simpa using hb'.symm
 subst this
 rw[← hcs]at hf
 have e2:u2= .int .i64 (i:Nat):=rep_int h2
 subst e2
 have e3:u3= .int .i64 ((i+1:Nat):Int):=rep_int h3
 subst e3
 have hi1:((i+1:Nat):Int)=(i:Int)+1:=by omega
 rw[hi1]
 have hlm:(l.map itC).length=l.length:=by simp
 have hcf:c*4≤cur.size:=by omega
 obtain⟨a1,a2,a3,a4⟩:=row_part hr 0 i (by rw[hlm];omega) (by omega) (by omega)
 obtain⟨b1,b2,b3,b4⟩:=row_part hr (i+1) (l.length - (i+1)) (by rw[hlm];omega) (by omega) (by omega)
 simp only[Nat.zero_mul,List.drop_zero]at a1 a2 a3 a4
 have hms:((l.map itC).take i++((l.map itC).drop (i+1)).take (l.length - (i+1)))=(l.take i++l.drop (i+1)).map itC:=by
  rw[List.map_append,List.map_take,List.map_drop,List.take_of_length_le (l:=List.drop (i+1) (List.map itC l)) (by simp)]
 have hrow:∀ z:List Value,RowRep M (cur.toList.take (i*4)++(cur.toList.drop ((i+1)*4)).take ((l.length - (i+1))*4)++z).toArray 4 ((l.take i++l.drop (i+1)).map itC):=fun z=>by
  rw[← hms]
  refine row_app (us:=cur.toList.take (i*4)) (vs:=(cur.toList.drop ((i+1)*4)).take ((l.length - (i+1))*4)) ?_ a4 b4 fun q u hq=> ?_
  ·rw[a1];simp;omega
  ·rw[List.getElem?_toArray,getElem?_append_left (List.getElem?_eq_some_iff.1 hq).1]
   exact hq
 refine (del_shift b' l.length c i cur T M.w hi hn (by omega) hh hcf b3).mono ?_
 rintro e w' ⟨cur1,cur2,rfl,hw',hc2⟩
 have hrow2:=hrow (zeroI++cur.toList.drop (l.length*4))
 rw[← List.append_assoc,←hc2]at hrow2
 have hcs2:cur2.size=cur.size:=by rw[hc2];simp only[List.size_toArray,length_append,a1,b1,List.length_drop,Array.length_toList,zeroI,length_cons,length_nil];omega
 obtain⟨M',h5,h6,h6',hct,h7,h8⟩:=hM.rowAt (tk:=σ.length) (w':=w') ht hb hI rfl (by rw[hw'];exact setRow_heap _ _ _ _ _ _ (setRow_heap M.w.drew _ _ _ _ _ hh)) (fun k hk=>by rw[hw',setRow_other _ _ _ _ hk,setRow_other _ _ _ _ hk];rfl) (by rw[hw'];simp) (by rw[hw'];rfl) (by rw[hw'];rfl) (by rw[hw'];rfl) hrow2
 rw[hput _ (by simp)]at h7 h8
 refine⟨_,.ms σ.length 4 0 (l.length - 1),_,M',rfl,h5,h7,h8,?_,by simp,rfl,rfl⟩
 simp only[ARep]
 refine⟨b',c,h6,h6',by simp,by omega,?_⟩
 rw[hct,hcs2];omega
def tDc:=aa wX <| aa wbu <| aa T3 <| aa T9 <| aa T90 T194
def cxV:Ctx:={ cx with muts:=[90*100000+33] }
theorem cxV_ok:cxV.ok Tryz.prog:=cx_ok
theorem drV_ok:DrawOk Tryz.prog (aDraw Tryz.prog cxV):=aDraw_ok cxV_ok (by kernel_rfl)
theorem kindV (t:TypeId):cxV.kind t=cx.kind t:=nr rfl
theorem tyV (t:TypeId):cxV.ty t=cx.ty t:=nr rfl
theorem mutsV:cxV.muts=[90*100000+33]:=nr rfl
theorem lenV {T:TypeId}{x:AV}:lenA cxV T x=lenA cx T x:=nr rfl
theorem agrowI (n:Nat)(h0:0<n)(h1:n≤1000000)(σ:St):ACalls Tryz.prog 119 [.p (.v (.slice none 0 0)),intV .i64 (n:Int)] σ fun r s=>r= .own σ.length 4 []∧s=σ++[some (.right 97 0)]:=by
 refine acalls_of cx_ok dr_ok Tryz.func119 (by kernel_rfl) rfl (nt:=25) (rs:=[.tmp 4]) rfl rfl ?_
 have hc:=fun (σ:St) tk=>bm_cap (C:=cx) (σ:=σ) (pos:=some 10) (tk:=tk) ck_90
 have hc2:=fun (σ:St) tk=>bm_cap (C:=cx) (σ:=σ) (pos:=some 19) (tk:=tk) ck_90
 simp only[nilA]at hc hc2
 have d1:decide ((n:Int)<0)=false:=decide_eq_false (by omega)
 have d2:decide ((n:Int)>0)=true:=decide_eq_true (by omega)
 have w1:IntKind.i64.wrap (n:Int)=(n:Int):=wrap_i64 (by omega) (by omega)
 have hz:=fun (σ:St) tk=>app_zeros (C:=cx) (σ:=σ) (tk:=tk) (k:=.i64) ck_90 ck_3 h0 (by omega) (by unfold maxLen;omega)
 have hs:=fun t=>slice_raw (C:=cx) (t:=t) (k:=n) (kk:=.i64) ck_90
 have hsn:sliceA cx 90 (.p (.v (.slice none 0 0))) none (some (.p (.v (.int .i64 0))))=some (.p (.v (.slice none 0 0))):=by simp only[sliceA,ck_90,elemsA,boundA,intA,nilA]
 simp only[nilA]at hz
 have hb:=fun (σ:St) tk x y=>bm_appendS (C:=cx) (σ:=σ) (pos:=some 22) (tk:=tk) (T:=90) (T':=3) (x:=x) (y:=y) rfl (by decide)
 repeat' first|((with_reducible first|apply cs|apply ws)<;>intro h<;>try simp only[h])|simp only[↓wBA,tDc,convA,seval,wH,hb,hc,hc2,d1,d2,w1,hz,hs,hsn,wz0,Int.sub_self,Int.sub_zero]
 all_goals refine ret_st ?_ (by first|exact Nat.le_refl _|(simp only[length_set,length_append];omega)|omega)
 all_goals simp only[resA.eq_1,resL.eq_1,resL.eq_2,resV.eq_1,resV.eq_2,↓wBA,tDc,convA,seval,wH]
theorem wOne:IntKind.i64.wrap 1=((1:Nat):Int):=by decide
theorem cTwo:((2:Nat):Int)=2:=nr rfl
theorem wTwo:IntKind.i64.wrap 2=((2:Nat):Int):=by decide
def preN (n m:Nat):Nat→Nat
 |0=>0
 |1=>n
 |_=>n+m
def CatI (σ:St)(la lb:List Itm)(i:Nat)(a:AV)(s:St):Prop:=Ap σ s∧σ.length+1≤s.length∧((i=0∧∃ t,a= .own t 4 []∧σ.length≤t∧s[t]? =some (some (.right 97 0)))∨(i=1∧∃ t,a= .ms t 4 0 la.length∧σ.length≤t∧s[t]? =some (some (.row 4 (la.map itC))))∨(i=2∧∃ t,a= .ms t 4 0 (la.length+lb.length)∧σ.length≤t∧s[t]? =some (some (.row 4 ((la++lb).map itC)))))
theorem acatI {σ:St}{tv ta tb:Nat}{la lb:List Itm}(hv:σ[tv]? =some (some (.row 1 [[.ms ta 4 0 la.length],[.ms tb 4 0 lb.length]])))(ha:σ[ta]? =some (some (.row 4 (la.map itC))))(hb:σ[tb]? =some (some (.row 4 (lb.map itC))))(hla:0<la.length)(hlb:0<lb.length)(h1:la.length≤1000)(h2:lb.length≤1000):
 ACalls Tryz.prog 112 [.ms tv 1 0 2] σ fun r s=>Ap σ s∧∃ t,r= .ms t 4 0 (la.length+lb.length)∧σ.length≤t∧s[t]? =some (some (.row 4 ((la++lb).map itC))):=by
 have yv:=at_lt hv
 have ya:=at_lt ha
 have yb:=at_lt hb
 have hgr:=agrowI (la.length+lb.length) (by omega) (by omega)
 simp only[intV]at hgr
 refine acalls_of cxV_ok drV_ok Tryz.func112 (by kernel_rfl) rfl (nt:=35) (rs:=[.tmp 2]) rfl rfl ?_
 repeat' first|((with_reducible first|apply cs|apply ws)<;>intro h<;>try simp only[h])|simp only[↓wBA,tDc,convA,seval,wH,kindV,tyV,lenV]
 refine awp_loopS (X:={ i:Nat // i≤2 }) (fun i=>2 - i.1) (fun i=>[(3,intV .i64 (preN la.length lb.length i.1:Nat)),(11,intV .i64 (i.1:Nat))]) [5,12,13,14,15,16,17,18,19,20,21,22] (fun i s=>s=σ) (⟨0,by omega⟩) ?_ ?_ ?_ ?_
 ·simp only[wHl,wHf,preN]
 ·exact rfl
 ·rintro _ _ rfl;omega
 ·intro y J s hI
  simp only[wHl]
  subst hI
  obtain⟨i,hi⟩:=y
  dsimp only at*
  have hcase:i=0∨i=1∨i=2:=by omega
  rcases hcase with rfl|rfl|rfl
  ·have hsum:IntKind.i64.wrap ((la.length:Nat):Int)=(la.length:Int):=wrap_i64 (by omega) (by omega)
   have hn:decide ((la.length:Int)<0)=false:=decide_eq_false (by omega)
   repeat' first|((with_reducible first|apply cs|apply ws)<;>intro h<;>try simp only[h])|simp only[↓wBA,tDc,convA,seval,wH,wHl,kindV,tyV,lenV,preN,hv,yv,hsum,hn,Int.zero_add,cz,wOne]
   exact⟨⟨1,by omega⟩,by show 2 - 1<2 - 0;omega,by simp only[wHl,wHf,preN,c1z,cTwo]⟩
  ·have hsum:IntKind.i64.wrap ((la.length:Int)+(lb.length:Int))=((la.length+lb.length:Nat):Int):=by rw[wrap_i64 (by omega) (by omega)];omega
   have hn:decide (((la.length+lb.length:Nat):Int)<0)=false:=decide_eq_false (by omega)
   repeat' first|((with_reducible first|apply cs|apply ws)<;>intro h<;>try simp only[h])|simp only[↓wBA,tDc,convA,seval,wH,wHl,kindV,tyV,lenV,preN,hv,yv,hsum,hn,wTwo]
   exact⟨⟨2,by omega⟩,by show 2 - 2<2 - 1;omega,by simp only[wHl,wHf,preN,c1z,cTwo]⟩
  ·skip
   repeat' first|((with_reducible first|apply cs|apply ws)<;>intro h<;>try simp only[h])|simp only[↓wBA,tDc,convA,seval,wH,wHl,kindV,tyV,lenV,preN,hv,yv]
   refine (hgr _).mono ?_
   rintro _ s1 ⟨rfl,rfl⟩
   repeat' first|((with_reducible first|apply cs|apply ws)<;>intro h<;>try simp only[h])|simp only[↓wBA,tDc,convA,seval,wH,kindV,tyV,lenV,hv,yv]
   refine awp_loopS (X:={ x:Nat×AV // x.1≤2 }) (fun x=>2 - x.1.1) (fun x=>[(6,x.1.2),(27,intV .i64 (x.1.1:Nat))]) [8,28,29,30,31,32,33,34] (fun x q=>CatI s la lb x.1.1 x.1.2 q) (⟨(0,.own s.length 4 []),by show 0≤2;omega⟩) ?_ ?_ ?_ ?_
   ·simp only[wHl,wHf]
   ·exact⟨Ap.app _ _,by simp,.inl ⟨rfl,s.length,rfl,Nat.le_refl _,by simp⟩⟩
   ·rintro _ _ ⟨_,h,_⟩;simpa using h
   ·intro y J q hI
    simp only[wHl]
    obtain⟨⟨i,a⟩,hi⟩:=y
    obtain⟨hA,hl1,hI⟩:=hI
    have hl0:=hA.len
    have hv1:=hA.get hv
    have ha1:=hA.get ha
    have hb1:=hA.get hb
    have yv1:=at_lt hv1
    have ya1:=at_lt ha1
    have yb1:=at_lt hb1
    dsimp only at*
    rcases hI with⟨rfl,t,rfl,ht,hq⟩|⟨rfl,t,rfl,ht,hq⟩|⟨rfl,t,rfl,ht,hq⟩
    ·have yq:=at_lt hq
     have l1:=tL (n:=la.length*48) (by omega)
     have l2:=lM (n:=la.length) (by omega)
     have hlm:(la.map itC).length=la.length:=by simp
     have htk:List.take la.length (la.map itC)=la.map itC:=List.take_of_length_le (by simp)
     have hll:(la.length≤la.length)=True:=eq_true (Nat.le_refl _)
     have tne:(ta=t)=False:=eq_false (by omega)
     have tne2:(t=ta)=False:=eq_false (by omega)
     repeat' first|((with_reducible first|apply cs|apply ws)<;>intro h<;>try simp only[h])|simp only[↓wBA,tDc,convA,seval,wH,wHl,kindV,tyV,mutsV,lenV,hv1,yv1,ha1,ya1,hq,yq,appendM,srcM,srcA,l1,l2,hlm,htk,hll,wOne]
     refine⟨⟨(1,.ms q.length 4 0 la.length),by show 1≤2;omega⟩,by show 2 - 1<2;omega,⟨(hA.set (by omega) _).more _,by simp;omega,.inr (.inl ⟨rfl,q.length,rfl,by omega,by simp⟩)⟩,by simp only[wHl,wHf,c1z,cTwo]⟩
    ·have yq:=at_lt hq
     have l1:=tL (n:=(la.length+lb.length)*48) (by omega)
     have l2:=lM (n:=la.length+lb.length) (by omega)
     have hlm:(lb.map itC).length=lb.length:=by simp
     have hlm2:(la.map itC).length=la.length:=by simp
     have htk:List.take lb.length (lb.map itC)=lb.map itC:=List.take_of_length_le (by simp)
     have htk2:List.take la.length (la.map itC)=la.map itC:=List.take_of_length_le (by simp)
     have hll:(lb.length≤lb.length)=True:=eq_true (Nat.le_refl _)
     have hll2:(la.length≤la.length)=True:=eq_true (Nat.le_refl _)
     repeat' first|((with_reducible first|apply cs|apply ws)<;>intro h<;>try simp only[h])|simp only[↓wBA,tDc,convA,seval,wH,wHl,kindV,tyV,mutsV,lenV,hv1,yv1,hb1,yb1,hq,yq,appendM,srcM,srcA,l1,l2,hlm,hlm2,htk,htk2,hll,hll2,wTwo]
     refine⟨⟨(2,.ms q.length 4 0 (la.length+lb.length)),by show 2≤2;omega⟩,by show 2 - 2<2 - 1;omega,⟨(hA.set (by omega) _).more _,by simp;omega,.inr (.inr ⟨rfl,q.length,rfl,by omega,by simp⟩)⟩,by simp only[wHl,wHf,c1z,cTwo]⟩
    ·skip
     repeat' first|((with_reducible first|apply cs|apply ws)<;>intro h<;>try simp only[h])|simp only[↓wBA,tDc,convA,seval,wH,wHl,kindV,tyV,lenV,hv1,yv1]
     all_goals refine ret_st ?_ (by first|exact Nat.le_refl _|(simp only[length_set,length_append];omega)|omega)
     all_goals simp only[resA.eq_1,resL.eq_1,resL.eq_2,resV.eq_1,resV.eq_2,↓wBA,tDc,convA,seval,wH,kindV,tyV]
     exact⟨hA,t,rfl,ht,hq⟩
def pl43_10Yl:Plan:=(.det 0 (.det 1 (.det 2 (.det 3 (.det 5 (.det 6 (.det 7 (.act 4 (.det 8 (.fin 9 (.fin 10 (.det 11 .done))))))))))))
def tYl:=aa wX <| aa wbu <| aa T3 <| aa T4 <| aa T25 <| aa T35 <| aa T37 <| aa T40 <| aa T48 <| aa T86 <| aa T90 <| aa T92 <| aa T97 T109
theorem atClone (k:List UInt8)(hk:k.length≤1000000)(σ:St):ACalls Tryz.prog 81 [.p (.sl 1 (encB k))] σ fun r s=>s=σ∧r= .p (.sl 1 (encB k)):=by
 refine ACalls.pureF (R:=fun r=>r= .p (.sl 1 (encB k))) ?_ rfl σ
 cases k with
 |nil=>
  refine ACalls.nilSplit ?_ fun ad c=> ?_
  ·have h:ACalls Tryz.prog 81 [.p (.v (.slice none 0 0))] [] fun r s=>r= .p (.v (.slice none 0 0)):=by
    refine acalls_of cx_ok dr_ok Tryz.func81 (by kernel_rfl) rfl (nt:=7) (rs:=[.tmp 2]) rfl rfl ?_
    repeat' first|((with_reducible first|apply cs|apply ws)<;>intro h<;>try simp only[h])|simp only[↓wBA,tYl,convA,seval]
    all_goals refine ret_st ?_ (by first|exact Nat.le_refl _|(simp only[length_set,length_append];omega)|omega)
    all_goals simp only[resA.eq_1,resL.eq_1,resL.eq_2,resV.eq_1,resV.eq_2,↓wBA,tYl,convA,seval,wH]
   refine ACalls.mono (R:=fun r s=>r= .p (.sl 1 [])) ?_ ?_
   ·exact⟨h.1,fun M vs hM hv=>(h.2 M vs hM hv).mono fun e w' ⟨v,r,s,M',a1,a2,a3,a4,a5,a6,a7⟩=>by
     subst a7
     have:=(rep_v a5).2
     subst this
     exact⟨_,.p (.sl 1 []),s,M',a1,a2,a3,a4,by simp only[ARep,PRep];exact .inl ⟨trivial,none,0,rfl,fun _=>rfl⟩,a6,rfl⟩⟩
   ·rintro r s rfl
    exact⟨rfl,rfl⟩
  ·have hm0:=lM (n:=0) (by omega)
   refine acalls_of cx_ok dr_ok Tryz.func81 (by kernel_rfl) rfl (nt:=7) (rs:=[.tmp 2]) rfl rfl ?_
   repeat' first|((with_reducible first|apply cs|apply ws)<;>intro h<;>try simp only[h])|simp only[↓wBA,tYl,convA,seval,appendA,srcD,srcA,hm0]
   all_goals refine ret_is (a:=_) ?_ rfl rfl
   all_goals simp only[↓wBA,tYl,convA,seval]
   all_goals simp_all [wS,encB]
 |cons b k=>
  have hl:=encB_len' (b::k)
  have hc:encB (b::k)=[byteP b]::encB k:=rfl
  have hl1:=tL (n:=k.length+1) (by simp at hk;omega)
  have hl2:=lM (n:=k.length+1) (by simp at hk;omega)
  have hek:=encB_len' k
  rw[hc]
  refine acalls_of cx_ok dr_ok Tryz.func81 (by kernel_rfl) rfl (nt:=7) (rs:=[.tmp 2]) rfl rfl ?_
  repeat' first|((with_reducible first|apply cs|apply ws)<;>intro h<;>try simp only[h])|simp only[↓wBA,tYl,convA,seval,appendA,srcD,srcA,Nat.mul_one,length_cons,length_nil,hl1,hl2,hek,Nat.zero_add]
  all_goals refine ret_is (a:=_) ?_ rfl rfl
  all_goals simp only[↓wBA,tYl,convA,seval]
  all_goals simp_all [wS]
def tellE (lo:List UInt8)(my:List UInt8→Bool)(e:Ent):Bool:=decide (0≤Lib.compareBytes e.k lo)&&my e.k
def skipC {α:Type}(lo:List UInt8)(my:List UInt8→Bool)(l:List (Ent×Nat×α))(i:Nat)(x:Ent):Bool:=
 (decide (0<i)&& !my x.k)||(match l[i+1]? with
  |some y=>decide (Lib.compareBytes y.1.k lo<0)
  |none=>false)
def stepC {α:Type}(lo:List UInt8)(my:List UInt8→Bool)(P:α→List Ent)(l:List (Ent×Nat×α))(i:Nat):List Ent:=match l[i]? with
 |some x=>if skipC lo my l i x.1 then []else P x.2.2
 |none=>[]
def fromF (lo:List UInt8)(my:List UInt8→Bool):(h:Nat)→BTr h→List Ent
 |0,t=>(show List Ent from t).filter (tellE lo my)
 |h+1,t=>(List.range (show NL h from t).length).flatMap (stepC lo my (fromF lo my h) (show NL h from t))
def EntP (av:AV)(l:List Ent):Prop:=(l=[]∧av= .p (.v (.slice none 0 0)))∨(l≠[]∧av= .p (.sl 3 (l.map entP)))
theorem flatMap_len {α β:Type}(f g:α→List β)(h:∀ x,(f x).length≤(g x).length):∀ l:List α,(l.flatMap f).length≤(l.flatMap g).length
 |[]=>Nat.le_refl _
 |x::l=>by have:=flatMap_len f g h l;have:=h x;simp only[flatMap_cons,length_append];omega
def optF {α β:Type}(f:α→List β):Option α→List β
 |some x=>f x
 |none=>[]
theorem range_flat {α β:Type}(f:α→List β):∀ l:List α,(List.range l.length).flatMap (fun i=>optF f l[i]?)=l.flatMap f
 |[]=>rfl
 |x::l=>by
  rw[length_cons,List.range_succ_eq_map,flatMap_cons,List.flatMap_map,flatMap_cons]
  simp only[List.getElem?_cons_zero,List.getElem?_cons_succ]
  rw[range_flat f l]
  rfl
theorem stepC_le {α:Type}(lo:List UInt8)(my:List UInt8→Bool)(P Q:α→List Ent)(hPQ:∀ x,(P x).length≤(Q x).length)(l:List (Ent×Nat×α))(n:Nat)(hn:n≤l.length):((List.range n).flatMap (stepC lo my P l)).length≤(l.flatMap fun x=>Q x.2.2).length:=by
 have h1:((List.range n).flatMap (stepC lo my P l)).length≤((List.range l.length).flatMap (stepC lo my P l)).length:=by
  have:List.range l.length=List.range n++(List.range (l.length - n)).map (n+ ·):=by
   rw[← List.range_add];congr 1;omega
  rw[this,List.flatMap_append,length_append];omega
 have h2:=flatMap_len (stepC lo my P l) (fun i=>optF (fun x:Ent×Nat×α=>Q x.2.2) l[i]?) (fun i=>by
  unfold stepC
  cases l[i]? with
  |none=>exact Nat.le_refl _
  |some x=>
   simp only[optF]
   split
   ·simp
   ·exact hPQ x.2.2) (List.range l.length)
 have h3:=range_flat (fun x:Ent×Nat×α=>Q x.2.2) l
 have h4:=congrArg List.length h3
 exact Nat.le_trans h1 (Nat.le_trans h2 (Nat.le_of_eq h4))
theorem fromF_len (lo:List UInt8)(my:List UInt8→Bool):∀ (h:Nat) (t:BTr h),(fromF lo my h t).length≤(entsT h t).length
 |0,t=>by simp only[fromF,entsT];exact List.length_filter_le _ _
 |h+1,t=>stepC_le (α:=BTr h) lo my (fromF lo my h) (entsT h) (fromF_len lo my h) (show NL h from t) _ (Nat.le_refl _)
theorem ents_le {v:Nat→List UInt8}:∀ {h n:Nat} {t:BTr h},TrAt v h n t→(entsT h t).length≤49*(pgT h n t).length
 |0,n,t,ht=>by
  have:=ht.node.n
  have h1:(its0 t).length=List.length (show List Ent from t):=by unfold its0;exact length_map _
  have h2:(itsT 0 t).length=(its0 t).length:=rfl
  have h3:(entsT 0 t).length=List.length (show List Ent from t):=rfl
  simp only[pgT,length_cons,length_nil]
  omega
 |h+1,n,t,ht=>by
  have hch:=ht.2
  have:∀ l:NL h,(∀ x∈l,TrAt v h x.2.1 x.2.2)→(l.flatMap fun x=>entsT h x.2.2).length≤49*(flP l).length:=by
   intro l
   induction l with
   |nil=>intro _;exact Nat.le_refl _
   |cons x l ih=>
    intro h1
    have a1:=ih fun y hy=>h1 y (by simp[hy])
    have a2:=ents_le (h1 x (by simp))
    rw[flP_cons]
    simp only[flatMap_cons,length_append]
    omega
  have h2:=this _ hch
  have h3:(pgT (h+1) n t).length=(flP (show NL h from t)).length+1:=rfl
  rw[h3]
  have h4:(entsT (h+1) t).length=((show NL h from t).flatMap fun x=>entsT h x.2.2).length:=rfl
  rw[h4]
  omega
theorem app_nil {q:St}{av:AV}{E T:TypeId}{e eb:Nat}{ez:List Value}{ls:List (List PV)}{tk:Nat}(hk:cx.kind T=some (.slice E e eb ez))(h:OwnR q av E e ls)(hb:ls.length*eb≤140737488355328)(hb2:ls.length≤1000000):appendA cx tk T av (.p (.v (.slice none 0 0))) q=some (av,q):=by
 have c2:ls.length≤maxLen:=by unfold maxLen;omega
 have c3:0≤maxLen:=Nat.zero_le _
 unfold appendA
 rw[hk]
 rcases h with⟨rfl,rfl⟩|⟨t,rfl,hne,ht⟩
 ·simp[srcD,srcA,c3,nilA]
 ·simp[srcD,srcA,ht,c2,hb]
  exact set_back ht
section
variable {σ:St} {b p dd l kh n:Nat} {U:Nat→Prop} {P:PoolV} {v:Nat→List UInt8} {T:Nat→Bool}
def Kept (kl:List (Nat×Ob))(s:St):Prop:=∀ q∈kl,s[q.1]? =some (some q.2)
theorem Kept.fr {kl:List (Nat×Ob)}{s s':St}(h:Kept kl s){F F':Nat→Prop}(hf:Fr s s' F F')(hF:∀ q∈kl,¬ F q.1):Kept kl s':=fun q hq=>hf.get (h q hq) (hF q hq)
theorem ACalls.ansY {P:Program}{f:FuncId}{args:List AV}{σ:St}{R R':AV→St→Prop}(h:ACalls P f args σ R)(hk:∀ r s,R r s→∃ r',R' r' s∧∀ (M:View) (v:Value),ARep M r v→ARep M r' v):ACalls P f args σ R':=
 ⟨h.1,fun M vs hM hv=>(h.2 M vs hM hv).mono fun e w' ⟨v,r,s,M',h1,h2,h3,h4,h5,h6,h7⟩=>by
  obtain⟨r',h8,h9⟩:=hk r s h7
  exact⟨v,r',s,M',h1,h2,h3,h4,h9 _ _ h5,h6,h8⟩⟩
def EntO (av:AV)(l:List Ent):Prop:=(l=[]∧av= .p (.v (.slice none 0 0)))∨∃ t,l≠[]∧av= .own t 3 (l.map entP)
def FromPost (h:Nat)(t:BTr h)(lo:List UInt8)(my:List UInt8→Bool)(σ:St)(b p dd l kh:Nat)(U:Nat→Prop)(P:PoolV)(v:Nat→List UInt8)(r:AV)(σ':St):Prop:=
 ∃ U' P' av,r= .tup [av,intV .i64 0]∧Fr σ σ' U U'∧Bt σ' b p dd l kh U' P' v∧Kp P P' 0∧EntP av (fromF lo my h t)
def FromPostO (h:Nat)(t:BTr h)(lo:List UInt8)(my:List UInt8→Bool)(σ:St)(b p dd l kh:Nat)(U:Nat→Prop)(P:PoolV)(v:Nat→List UInt8)(r:AV)(σ':St):Prop:=
 ∃ U' P' av,r= .tup [av,intV .i64 0]∧Fr σ σ' U U'∧Bt σ' b p dd l kh U' P' v∧Kp P P' 0∧EntO av (fromF lo my h t)
theorem from_conv {h:Nat}{t:BTr h}{lo:List UInt8}{my:List UInt8→Bool}{f:FuncId}{args:List AV}(hc:ACalls Tryz.prog f args σ fun r σ'=>FromPostO h t lo my σ b p dd l kh U P v r σ'):ACalls Tryz.prog f args σ fun r σ'=>FromPost h t lo my σ b p dd l kh U P v r σ':=by
 refine hc.ansY ?_
 rintro r s ⟨U',P',av,rfl,h1,h2,h3,h4⟩
 rcases h4 with⟨h5,rfl⟩|⟨to,h5,rfl⟩
 ·exact⟨_,⟨U',P',_,rfl,h1,h2,h3,.inl ⟨h5,rfl⟩⟩,fun M v h=>h⟩
 ·refine⟨_,⟨U',P',_,rfl,h1,h2,h3,.inr ⟨h5,rfl⟩⟩,fun M v h=> ?_⟩
  simp only[ARep,ARepL]at h ⊢
  obtain⟨us,e1,u1,us1,e2,e3,e4⟩:=h
  refine⟨us,e1,u1,us1,e2,?_,e4⟩
  have:=own_q (M:=M) (t:=to) (e:=3) (u:=u1) (by simp only[ARep];exact e3)
  simpa only[ARep]using this
theorem atFromLeaf {lo:List UInt8}{lox:PV}{my:List UInt8→Bool}{g:FuncId}{caps:List AV}{kl:List (Nat×Ob)}{t:List Ent}(hB:Bt σ b p dd l kh U P v)(hb:Bud P 1)(hn:n<P.pages)(hN:NodeP (v n) 2 (its0 t))(hlo:BX lox lo)(hkl:Kept kl σ)(hklU:∀ q∈kl,¬ U q.1)
 (hmy:∀ (s:St) (k:List UInt8),Kept kl s→ACalls Tryz.prog g (.p (.sl 1 (encB k))::caps) s fun r s'=>s'=s∧r=boolV (my k)):
 ACalls Tryz.prog 43 [.agg [.mp b 2 0 0],intV .i64 (n:Nat),.p lox,.fn g [] caps] σ fun r σ'=>FromPost 0 t lo my σ b p dd l kh U P v r σ':=by
 refine from_conv ?_
 have hlt:=hB.lt
 have hl49:=hN.n
 have hil:(its0 t).length=t.length:=by simp[its0]
 refine acalls_of cx_ok dr_ok Tryz.func43 (by kernel_rfl) rfl (nt:=108) (rs:=[.tmp 8,.tmp 9]) rfl rfl ?_
 repeat' first|((with_reducible first|apply cs|apply ws|apply wd|apply wu)<;>intro h<;>try simp only[h])|simp only[↓wBA,tYl,convA,seval,pl43_10Yl,wH]|(with_reducible refine dQ pl43_10Yl 12 (some 51) ?_)
 have a1:=Ap.app σ [some (Ob.row 1 [[AV.mp b 2 0 0]])]
 refine (atRead (hB.ap a1) hn hN hb).mono ?_
 rintro _ s1 ⟨U1,P1,a,rfl,f1,hB1,k1,ha,hta⟩
 have q1:=f1.len
 simp only[length_append,length_cons,length_nil]at q1
 have hlt1:=hB1.lt
 have hlf:=ha.x.leaf
 have hcc:=ha.x.cells
 obtain⟨S1,hS1⟩:∃ S1,S1=s1++[some (Ob.row 2 [[AV.p (.v (.int .i64 2)),a]])]:=⟨_,rfl⟩
 have aS:Ap s1 S1:=⟨_,hS1⟩
 have hS1l:S1.length=s1.length+1:=by rw[hS1];simp
 have bN:S1[s1.length]? =some (some (Ob.row 2 [[AV.p (.v (.int .i64 2)),a]])):=by rw[hS1];simp
 have yN:=at_lt bN
 have haS:NdA S1 a (its0 t):=ha.same fun j hj=>by rw[hS1,getElem?_append_left (ha.lt hj)]
 have hla:lenA cx 90 a=some t.length:=by
  rcases ha with⟨h0,rfl⟩|⟨_,tn,rfl,_⟩
  ·rw[← hil,h0];rfl
  ·rw[hil];exact km_90
 have fS:Fr σ S1 U U1:=(a1.fr.trans f1).trans aS.fr
 have hBS:=hB1.ap aS
 have hkS:Kept kl S1:=hkl.fr fS hklU
 have hkU1:∀ q∈kl,¬ U1 q.1:=fun q hq e=>(fS.own q.1 e).elim (hklU q hq) fun e=>by have:=at_lt (hkl q hq);omega
 repeat' first|((with_reducible first|apply cs|apply ws|apply wd|apply wu)<;>intro h<;>try simp only[h])|simp only[↓wBA,tYl,convA,seval,pl43_10Yl,wH,c2y,hlf,hcc,hS1.symm,bN,yN,hla]|(with_reducible refine dQ pl43_10Yl 12 (some 51) ?_)
 refine awp_loopS (X:={ q:Nat×AV // q.1≤t.length }) (fun q=>t.length - q.1.1) (fun q=>[(12,q.1.2),(30,intV .i64 (q.1.1:Nat))]) [8,9,13,14,15,16,17,31,32,33,34,35,36,37,38,39,40,41,42,43,44,45,46,47,48,49,50,51,52,53,54,55,56,57,58,59,60,61,62,63,64,65,66,67,68,69,70,71,72,73,74,75,76,77,78,79,80,81,82,83,84,85,86,87,88,89,90,91,92,93,94,95,96,97,98,99,100,101,102,103,104,105,106,107,108,109,110] (fun q s=>Fr S1 s (fun _=>False) (fun _=>False)∧OwnR s q.1.2 48 3 (((t.take q.1.1).filter (tellE lo my)).map entP)∧(∀ j,ownOf q.1.2=some j→S1.length≤j)) (⟨(0,.p (.v (.slice none 0 0))),by omega⟩) ?_ ?_ ?_ ?_
 ·simp only[wHl,wHf]
 ·exact⟨Fr.refl _ _,.inl ⟨rfl,by simp⟩,fun j hj=>by cases hj⟩
 ·rintro _ _ ⟨h,_⟩;exact h.len
 ·intro y J s hI
  simp only[wHl]
  obtain⟨⟨i,av⟩,hi⟩:=y
  obtain⟨fs,how,hown⟩:=hI
  dsimp only at*
  have ls:=fs.len
  have cN:=fs.get bN id
  have zN:=at_lt cN
  have hi0:=nnI i
  have hkk:=hkS.fr fs fun _ _=>id
  have hfl:((t.take i).filter (tellE lo my)).length≤49:=by
   have h1:=List.length_filter_le (tellE lo my) (t.take i)
   have h2:(t.take i).length≤t.length:=by rw[List.length_take];omega
   omega
  by_cases hlt2:i<t.length
  ·have hdec:=dT (i:=i) (n:=t.length) hlt2
   have hw:=wI i (by omega)
   obtain⟨x,hx⟩:∃ x,t[i]? =some x:=⟨t[i],by simp⟩
   have hgx:(its0 t)[i]? =some ⟨x,0⟩:=by simp[its0,hx]
   have hgc:((its0 t).map itC)[i]? =some (itC ⟨x,0⟩):=by simp[hgx]
   rcases haS with⟨h0,_⟩|⟨_,tn,rfl,htn⟩
   ·rw[h0]at hgx;simp at hgx
   have ctn:=fs.get htn id
   have ztn:=at_lt ctn
   have hif:((i:Int)<((its0 t).length:Int))=True:=eq_true (by omega)
   have hxo:x.k.length≤140:=(hN.ok _ (List.mem_of_getElem? hgx)).1.1
   have hkx:Kept kl (s++[some (Ob.row 4 [itC ⟨x,0⟩])]):=fun q hq=>by rw[getElem?_append_left (at_lt (hkk q hq))];exact hkk q hq
   have hmx:=hmy _ x.k hkx
   have hnx:(t.take (i+1)).filter (tellE lo my)=(t.take i).filter (tellE lo my)++(if tellE lo my x then [x]else []):=by
    rw[List.take_add_one,hx]
    simp only[Option.toList,List.filter_append,List.filter_cons,List.filter_nil]
   have hbc:=fun s=>abcmp (x:=.sl 1 (encB x.k)) (.inl rfl) hlo s
   by_cases hc:0≤Lib.compareBytes x.k lo
   ·have hd:decide (Lib.compareBytes x.k lo≥0)=true:=by simpa using hc
    have hd':decide (0≤Lib.compareBytes x.k lo)=true:=by simpa using hc
    cases hm:my x.k with
    |true=>
     rw[hm]at hmx
     have ht1:tellE lo my x=true:=by unfold tellE;rw[hm];simpa using hc
     rw[ht1]at hnx
     have hcl:=fun s=>atClone x.k (by omega) s
     repeat' first|((with_reducible first|apply cs|apply ws|apply wd|apply wu)<;>intro h<;>try simp only[h])|simp only[↓wBA,tYl,convA,seval,pl43_10Yl,wH,wHl,hdec,hi0,hif,hw,ctn,ztn,hgc,itC,cN,zN,hd,hd']|((with_reducible show ACalls _ _ _ _ _);first|refine (hbc _).eq ?_|refine hmx.eq ?_|refine (hcl _).eq ?_)|(with_reducible refine dQ pl43_10Yl 12 (some 51) ?_)
     obtain⟨q0,hq0⟩:∃ q0,q0=s++[some (Ob.row 4 [itC ⟨x,0⟩])]++[some (Ob.right 48 3)]:=⟨_,rfl⟩
     have hql:q0.length=s.length+2:=by rw[hq0];simp
     have how1:=how.same (q':=q0) fun j hj=>by rw[hq0,List.append_assoc,getElem?_append_left (how.lt hj)]
     obtain⟨av2,s2,e1,e2,e3,e4,e5⟩:=app_own (y:=.own (s.length+1) 3 [entP x]) (m:=[entP x]) ck_40 how1 rfl (by simp) (by simp only[length_map,length_cons,length_nil];omega) (by simp only[length_map,length_cons,length_nil];omega)
     rw[hql,hq0]at e1
     simp only[itC,entP,c0y,intV]at e1
     repeat' first|((with_reducible first|apply cs|apply ws|apply wd|apply wu)<;>intro h<;>try simp only[h])|simp only[↓wBA,tYl,convA,seval,pl43_10Yl,wH,wHl,e1,hw]|(with_reducible refine dQ pl43_10Yl 12 (some 51) ?_)
     rw[if_pos rfl]at hnx
     refine⟨⟨(i+1,av2),by omega⟩,by show t.length - (i+1)<t.length - i;omega,⟨?_,?_,fun j hj=> ?_⟩,by simp only[wHl,wHf]⟩
     ·refine⟨by omega,fun j hj hn=> ?_,fun j h=>h.elim⟩
      have hjs:j<s.length:=by omega
      rw[e4 j (by omega) fun e=>by have:=hown j e;omega,hq0,List.append_assoc,getElem?_append_left hjs]
      exact fs.keep j hj hn
     ·dsimp only
      rw[hnx,List.map_append];exact e2
     ·rcases e5 j hj with h|h
      ·exact hown j h
      ·omega
    |false=>
     rw[hm]at hmx
     have ht1:tellE lo my x=false:=by unfold tellE;rw[hm];simp
     rw[ht1]at hnx
     repeat' first|((with_reducible first|apply cs|apply ws|apply wd|apply wu)<;>intro h<;>try simp only[h])|simp only[↓wBA,tYl,convA,seval,pl43_10Yl,wH,wHl,hdec,hi0,hif,hw,ctn,ztn,hgc,itC,cN,zN,hd,hd']|((with_reducible show ACalls _ _ _ _ _);first|refine (hbc _).eq ?_|refine hmx.eq ?_)|(with_reducible refine dQ pl43_10Yl 12 (some 51) ?_)
     rw[if_neg (by simp),List.append_nil]at hnx
     refine⟨⟨(i+1,av),by omega⟩,by show t.length - (i+1)<t.length - i;omega,⟨fs.app _,?_,hown⟩,by simp only[wHl,wHf]⟩
     dsimp only
     rw[hnx]
     exact how.same fun j hj=>getElem?_append_left (how.lt hj)
   ·have hd:decide (Lib.compareBytes x.k lo≥0)=false:=by simpa using hc
    have hd':decide (0≤Lib.compareBytes x.k lo)=false:=by simpa using hc
    have ht1:tellE lo my x=false:=by unfold tellE;rw[hd'];rfl
    rw[ht1]at hnx
    repeat' first|((with_reducible first|apply cs|apply ws|apply wd|apply wu)<;>intro h<;>try simp only[h])|simp only[↓wBA,tYl,convA,seval,pl43_10Yl,wH,wHl,hdec,hi0,hif,hw,ctn,ztn,hgc,itC,cN,zN,hd,hd']|((with_reducible show ACalls _ _ _ _ _);refine (hbc _).eq ?_)|(with_reducible refine dQ pl43_10Yl 12 (some 51) ?_)
    rw[if_neg (by simp),List.append_nil]at hnx
    refine⟨⟨(i+1,av),by omega⟩,by show t.length - (i+1)<t.length - i;omega,⟨fs.app _,?_,hown⟩,by simp only[wHl,wHf]⟩
    dsimp only
    rw[hnx]
    exact how.same fun j hj=>getElem?_append_left (how.lt hj)
  ·obtain rfl:i=t.length:=by omega
   have hdec:=dF (i:=t.length) (n:=t.length) hlt2
   rw[List.take_length]at how
   rcases how with⟨rfl,he⟩|⟨to,rfl,hne,hto⟩
   ·skip
    repeat' first|((with_reducible first|apply cs|apply ws|apply wd|apply wu)<;>intro h<;>try simp only[h])|simp only[↓wBA,tYl,convA,seval,pl43_10Yl,wH,wHl,hdec]|(with_reducible refine dQ pl43_10Yl 12 (some 51) ?_)
    all_goals refine ret_st ?_ (by first|exact Nat.le_refl _|(simp only[length_set,length_append];omega)|omega)
    all_goals simp only[resA.eq_1,resL.eq_1,resL.eq_2,resV.eq_1,resV.eq_2,↓wBA,tYl,convA,seval,wH]
    refine⟨U1,P1,_,rfl,fS.trans fs.none,hBS.frame fs fun _ _=>id,k1,.inl ⟨?_,rfl⟩⟩
    show List.filter _ _=[]
    simpa using he
   ·skip
    repeat' first|((with_reducible first|apply cs|apply ws|apply wd|apply wu)<;>intro h<;>try simp only[h])|simp only[↓wBA,tYl,convA,seval,pl43_10Yl,wH,wHl,hdec]|(with_reducible refine dQ pl43_10Yl 12 (some 51) ?_)
    all_goals refine ret_st ?_ (by first|exact Nat.le_refl _|(simp only[length_set,length_append];omega)|omega)
    all_goals simp only[resA.eq_1,resL.eq_1,resL.eq_2,resV.eq_1,resV.eq_2,↓wBA,tYl,convA,seval,wH]
    exact⟨U1,P1,_,rfl,fS.trans fs.none,hBS.frame fs fun _ _=>id,k1,.inr ⟨to,fun e=>hne (by show List.map entP (fromF lo my 0 t)=[];rw[e];rfl),rfl⟩⟩
end
end Go.Proofs.YtockimhceppkbaaGreat
