/- That a world that bears the abstract machine's state does what the abstract machine does: each operation. That a world that bears the abstract machine's state does what the abstract machine does: what only computes. -/
import Derived.Test.YthhbnenaihkggaaGreatM02
import Derived.WalkKit
import Derived.Laws.Tables
set_option linter.unusedSimpArgs false
set_option linter.unusedVariables false
set_option linter.defProp false
set_option maxRecDepth 100000
set_option maxHeartbeats 32000000
namespace Go.Proofs.YthhbnenaihkggaaGreat
open Go.RowKit
open List (all_eq_true getElem?_drop getElem?_map getElem?_take)
section
variable {P:Program} {C:Ctx} {o:Oper} {a:Act} {M:View} {σ σ':St} {r:AV}
theorem does_stay {v:Value}(hM:Match M σ)(h:(execOp a.eval o).run P M.w= .ok (.value v) M.w)(hr:ARep M r v):Does P o a M σ r σ:=⟨v,M,.inl h,Ext.refl M σ,hM,hr⟩
def DoesS (P:Program)(o:Oper)(a:Act)(M:View)(r:AV):Prop:=∃ v,(∀ w,(execOp a.eval o).run P w= .ok (.value v) w)∧ARep M r v
theorem does_still {v:Value}(h:∀ w,(execOp a.eval o).run P w= .ok (.value v) w)(hr:ARep M r v):DoesS P o a M r:=⟨v,h,hr⟩
theorem DoesS.does (h:DoesS P o a M r)(hM:Match M σ):Does P o a M σ r σ:=by
 obtain⟨v,h1,h2⟩:=h
 exact does_stay hM (h1 M.w) h2
theorem rep_int {k:IntKind}{n:Int}{u:Value}(h:ARep M (.p (.v (.int k n))) u):u= .int k n:=by simp only[ARep,PRep]at h;exact h.2
theorem rep_v {x u:Value}(h:ARep M (.p (.v x)) u):plain x=true∧u=x:=by simpa only[ARep,PRep]using h
theorem rep_mk {x:Value}(h:plain x=true):ARep M (.p (.v x)) x:=by simp only[ARep,PRep];exact⟨h,trivial⟩
theorem intA_eq {x:AV}{k:IntKind}{n:Int}(h:intA x=some (k,n)):x= .p (.v (.int k n)):=by
 unfold intA at h
 split at h
 ·simp at h;obtain⟨rfl,rfl⟩:=h;rfl
 ·simp at h
theorem kind_ok (hC:C.ok P){T:TypeId}{k:TK}(h:C.kind T=some k):∃ ti,C.ty T=some ti∧ti.kind=k∧TyOk P T ti:=by
 unfold Ctx.kind at h
 split at h
 ·rename_i ti hti;simp at h;exact⟨ti,hti,h,hC.1 T ti hti⟩
 ·simp at h
theorem kind_und (hC:C.ok P){T:TypeId}{k:TK}(h:C.kind T=some k):∃ d,P.underlying T=some d∧TKOk P d k:=by
 obtain⟨ti,_,rfl,_,d,_,_,_,hd,_,_,_,_,_,_,hk⟩:=kind_ok hC h
 exact⟨d,hd,hk⟩
theorem zero_rep {z:List Value}(hp:z.all plain=true):ARepL M (zeroA z) z:=by
 refine ARepL_iff.2 ⟨by simp[zeroA],fun i b u hb hu=> ?_⟩
 simp only[zeroA,getElem?_map,hu,Option.map_some,Option.some.injEq]at hb
 subst hb
 exact rep_mk (all_eq_true.1 hp _ (List.mem_of_getElem? hu))
theorem zero_leaf (z:List Value):(zeroA z).all leaf=true:=by simp[zeroA,leaf]
theorem row_of_list {l:List AV}{us:List Value}(h:ARepL M l us)(hl:l.all leaf=true)(e:Nat)(he:l.length=e):RowRep M us.toArray e [l]:=by
 intro i c hc
 cases i with
 |zero=>
  simp at hc;subst hc
  refine⟨he,fun j x hx=>⟨all_eq_true.1 hl _ (List.mem_of_getElem? hx),?_⟩⟩
  obtain⟨u,h1,h2⟩:=h.get hx
  exact⟨u,by simpa using h1,h2⟩
 |succ i=>simp at hc
theorem does_new {T:TypeId}{l:List AV}{us:List Value}{e tk:Nat}(hM:Match M σ)(htk:tk=σ.length)(h:ARepL M l us)(hl:l.all leaf=true)(he:l.length=e)
 (hrun:(execOp a.eval o).run P M.w= .ok (.value (.pointer (some ⟨M.w.heap.size,0,none⟩))) (M.w.alloc (.cells us.toArray T))):Does P o a M σ (.mp tk e 0 0) (σ.put tk (.row e [l])):=by
 obtain⟨M',h1,h2,h2',_,h3,h4⟩:=hM.row htk us T e [l] (row_of_list h hl e he)
 refine⟨_,M',.inl (by rw[h1];exact hrun),h3,h4,?_⟩
 simp only[ARep]
 exact⟨_,h2,h2',by simp⟩
theorem does_alloc {T:TypeId}{tk:Nat}{ti:TI}(hop:o.op= .alloc T)(hM:Match M σ)(htk:tk=σ.length)(hC:TyOk P T ti):Does P o a M σ (.mp tk ti.size 0 0) (σ.put tk (.row ti.size [zeroA ti.zero])):=by
 obtain⟨i,d,z,hi,hs,hd,hrow,hz,hzc,hp,hlen,_,_⟩:=hC
 refine does_new hM htk (zero_rep hp) (zero_leaf _) (by simp[zeroA,hlen]) (T:=T) ?_
 unfold execOp
 simp[hop,Instr.alloc,zeroValue,typeInfo,hi,hz,newVar,newRow,←hzc]
theorem does_box {T:TypeId}{x:Operand}{tk:Nat}{ti:TI}{fr:List AV}{l:List AV}(hop:o.op= .box T x)(hM:Match M σ)(hF:FRep M a fr)(htk:tk=σ.length)(hc:cellsA (evA fr x)=some l)(hl:l.length=ti.size):
 Does P o a M σ (.mp tk ti.size 0 0) (σ.put tk (.row ti.size [l])):=by
 obtain⟨h1,us,h2,h3⟩:=cells_rep hc (hF.ev x)
 refine does_new hM htk h3 h1 hl (T:=T) ?_
 unfold execOp
 simp[hop,Instr.box,newVar,newRow,h2]
theorem part_rep {r:Bool}{s off:Nat}{l:List AV}{us:List Value}{x:AV}(hl:l.all leaf=true)(h:ARepL M l us)(hx:partA r s off l=some x):∃ u,ARep M x u∧((r=true∧off+s≤us.length∧u= .agg ((us.drop off).take s).toArray)∨(r=false∧us[off]? =some u)):=by
 have hlen:=h.len
 rcases part_cases hx with⟨hr,h1,rfl⟩|⟨hr,h1⟩
 ·refine⟨_,?_,.inl ⟨hr,by omega,rfl⟩⟩
  simp only[ARep]
  exact⟨all_eq_true.2 fun y hy=>all_eq_true.1 hl y (List.mem_of_mem_drop (List.mem_of_mem_take hy)),_,rfl,(h.drop off).take s⟩
 ·obtain⟨u,h2,h3⟩:=h.get h1
  exact⟨u,h3,.inr ⟨hr,h2⟩⟩
theorem run_loadAt_one {w:World}{b off:Nat}{T:TypeId}{d:TypeDesc}{u:Value}(hd:P.underlying T=some d)(hrow:d.isRow=false)(hc:w.cell? ⟨b,off,none⟩=some u):
 (Instr.loadAt T (.pointer (some ⟨b,off,none⟩))).run P w= .ok u w:=by
 have hagg:(isAgg T).run P w= .ok false w:=by
  unfold isAgg
  rw[Sem.run_bind,run_underlying hd w]
  cases d<;>simp_all
 simp[Instr.loadAt,Instr.sureAddr,loadVar,hagg,load,Sem.run,hc]
theorem load_all {T:TypeId}{ti:TI}{o':Nat}{l:List AV}{us:List Value}{x:AV}(hC:TyOk P T ti)(hl:l.all leaf=true)(h:ARepL M l us)(hx:partA ti.row ti.size o' l=some x):
 ∃ u,ARep M x u∧∀ (w:World) (b base:Nat),w.rangeAt b base us→(Instr.loadAt T (.pointer (some ⟨b,base+o',none⟩))).run P w= .ok u w:=by
 obtain⟨i,d,z,hi,hs,hd,hrow,hz,hzc,hp,hlen,h1,_⟩:=hC
 obtain⟨u,h2,h3⟩:=part_rep hl h hx
 refine⟨u,h2,fun w b base hr=> ?_⟩
 rcases h3 with⟨hr',h4,rfl⟩|⟨hr',h4⟩
 ·refine run_loadAt_mid w b (base+o') T _ d (fun j v hj=> ?_) hd (by rw[hrow,hr']) (by rw[hi];simp[hs];omega)
  rw[getElem?_take]at hj
  split at hj
  ·rw[getElem?_drop]at hj
   rw[Nat.add_assoc];exact hr _ v hj
  ·simp at hj
 ·exact run_loadAt_one hd (by rw[hrow,hr']) (hr o' u h4)
theorem load_at {T:TypeId}{ti:TI}{b base o':Nat}{l:List AV}{us:List Value}{x:AV}{w:World}(hC:TyOk P T ti)(hl:l.all leaf=true)(h:ARepL M l us)(hx:partA ti.row ti.size o' l=some x)(hr:w.rangeAt b base us):
 ∃ u,ARep M x u∧(Instr.loadAt T (.pointer (some ⟨b,base+o',none⟩))).run P w= .ok u w:=by
 obtain⟨u,h1,h2⟩:=load_all hC hl h hx
 exact⟨u,h1,h2 w b base hr⟩
theorem rangeAt_row {w:World}{b:Nat}{cur:Array Value}{T:TypeId}{fr:Nat×Nat}(hh:w.heap[b]? =some (.cells cur T fr)){e i:Nat}{ls:List (List AV)}{c:List AV}(hr:RowRep M cur e ls)(hc:ls[i]? =some c):
 ∃ us,ARepL M c us∧c.all leaf=true∧w.rangeAt b (i*e) us:=by
 obtain⟨h1,h2⟩:=hr i c hc
 refine⟨(cur.toList.drop (i*e)).take c.length,ARepL_iff.2 ⟨?_,fun j x u hx hu=> ?_⟩,?_,fun j v hv=> ?_⟩
 ·rw[List.length_take,List.length_drop,Nat.min_eq_left]
  cases hcl:c.length with
  |zero=>omega
  |succ n=>
   obtain⟨_,u,h3,_⟩:=h2 n c[n] (List.getElem?_eq_getElem (by omega))
   have:=(Array.getElem?_eq_some_iff.1 h3).1
   simp;omega
 ·obtain⟨_,u',h3,h4⟩:=h2 j x hx
  rw[getElem?_take,if_pos (List.getElem?_eq_some_iff.1 hx).1,getElem?_drop,Array.getElem?_toList,h3]at hu
  simp at hu;subst hu;exact h4
 ·refine all_eq_true.2 fun x hx=> ?_
  obtain⟨j,hj⟩:=List.mem_iff_getElem?.1 hx
  exact (h2 j x hj).1
 ·rw[cell_of_row w b _ cur T fr hh]
  rw[getElem?_take]at hv
  split at hv
  ·rw[getElem?_drop,Array.getElem?_toList]at hv;exact hv
  ·simp at hv
theorem rangeAt_imm {c:List PV}{b off:Nat}(h:PRepC M.w M.I b off c):∃ us,ARepL M (c.map .p) us∧(c.map AV.p).all leaf=true∧M.w.rangeAt b off us:=by
 have h1:∀ j:Nat,∃ u,∀ a,c[j]? =some a→M.w.cell? ⟨b,off+j,none⟩=some u∧PRep M.w M.I a u:=fun j=>by
  cases hc:c[j]? with
  |none=>exact⟨undef,fun a ha=>by simp at ha⟩
  |some a=>
   obtain⟨u,h2,_,h3⟩:=h.get hc
   exact⟨u,fun a' ha'=>by simp at ha';subst ha';exact⟨h2,h3⟩⟩
 obtain⟨U,hU⟩:=Classical.axiomOfChoice h1
 refine⟨(List.range c.length).map U,ARepL_iff.2 ⟨by simp,fun j x u hx hu=> ?_⟩,by simp[leaf],fun j v hv=> ?_⟩
 ·rw[getElem?_map]at hx
  cases hc:c[j]? with
  |none=>rw[hc]at hx;simp at hx
  |some y=>
   rw[hc]at hx;simp at hx;subst hx
   have hj:=(List.getElem?_eq_some_iff.1 hc).1
   simp[hj]at hu;subst hu
   simp only[ARep];exact (hU j y hc).2
 ·by_cases hj:j<c.length
  ·simp[hj]at hv;subst hv
   exact (hU j _ (List.getElem?_eq_getElem hj)).1
  ·simp[hj]at hv
theorem does_load {T:TypeId}{x:Operand}{ti:TI}{fr:List AV}(hop:o.op= .load T x)(hM:Match M σ)(hF:FRep M a fr)(hC:TyOk P T ti)(h:loadA ti (evA fr x) σ=some r):Does P o a M σ r σ:=by
 have hx:=hF.ev x
 have key:∃ u,ARep M r u∧(Instr.loadAt T (a.eval x)).run P M.w= .ok u M.w:=by
  unfold loadA at h
  split at h
  ·rename_i t e i o' hev
   rw[hev]at hx
   simp only[ARep]at hx
   obtain⟨b,hb,hbl,hx⟩:=hx
   split at h
   ·rename_i e' ls hσ
    split at h
    ·rename_i he;subst he
     split at h
     ·rename_i c hc
      obtain⟨_,b',cur,T',hb',hh,hI,hr,_⟩:=hM.obj t _ hσ
      have:b'=b:=by rw[hb]at hb';simpa using hb'.symm
      subst this
      obtain⟨us,h1,h2,h3⟩:=rangeAt_row hh hr hc
      rw[hx]
      exact load_at hC h2 h1 h h3
     ·simp at h
    ·simp at h
   ·simp at h
  ·rename_i c o' hev
   rw[hev]at hx
   simp only[ARep]at hx
   obtain⟨b,off,hx,hc⟩:=hx
   obtain⟨us,h1,h2,h3⟩:=rangeAt_imm hc
   rw[hx]
   exact load_at hC h2 h1 h h3
  ·simp at h
 obtain⟨u,h1,h2⟩:=key
 refine does_stay hM (v:=u) ?_ h1
 unfold execOp
 simp[hop,h2]
theorem does_store {T:TypeId}{x y:Operand}{ti:TI}{fr:List AV}(hop:o.op= .store T x y)(hM:Match M σ)(hF:FRep M a fr)(hC:TyOk P T ti)(h:storeA ti (evA fr x) (evA fr y) σ=some σ'):Does P o a M σ (.tup []) σ':=by
 have hx:=hF.ev x
 have hy:=hF.ev y
 obtain⟨ii,d,z,hi,hs,hd,hrow,hz,hzc,hp,hlen,_,_⟩:=hC
 unfold storeA at h
 split at h
 ·rename_i t e i o' m hev hm
  rw[hev]at hx
  simp only[ARep]at hx
  obtain⟨b,hb,hbl,hx⟩:=hx
  obtain⟨hml,us,hu1,hu2⟩:=cells_rep hm hy
  split at h
  ·rename_i e' ls hσ
   split at h
   ·rename_i he;obtain⟨rfl,hms⟩:=he
    split at h
    ·rename_i c hc
     split at h
     ·rename_i ho
      simp at h;subst h
      obtain⟨M',h1,h2,h3⟩:=hM.store hσ hb hc ho hu2 hml
      refine⟨undef,M',.inr ⟨rfl,?_⟩,h2,h3,by simp only[ARep,ARepL];exact⟨[],rfl,rfl⟩⟩
      have hul:=hu2.len
      obtain⟨_,b',cur,T',hb',hh,hI,hr,_⟩:=hM.obj t _ hσ
      have:b'=b:=by rw[hb]at hb';simpa using hb'.symm
      subst this
      have hth:M.w.there b' (i*e'+o') us.length:=fun j hj=>by
       obtain⟨_,u,h5,_⟩:=(hr i c hc).2 (o'+j) c[o'+j] (List.getElem?_eq_getElem (by omega))
       rw[Nat.add_assoc,cell_of_row _ _ _ _ _ _ hh,h5]
       exact⟨rfl,by simp[World.frozen?,hh]⟩
      have h6:=run_storeAt_mid (P:=P) M.w b' (i*e'+o') T us.toArray (by simpa using hth) (by rw[hi];simp[hs];omega) (all_oneCell_toArray (hu2.ones hml))
      have h7:(Instr.storeAt T (a.eval x) (a.eval y)).run P M.w= .ok () (M.w.setCells b' (i*e'+o') us):=by
       rw[hx]
       have:Instr.storeAt T (.pointer (some ⟨b',i*e'+o',none⟩)) (a.eval y)=Instr.storeAt T (.pointer (some ⟨b',i*e'+o',none⟩)) (.agg us.toArray):=by
        simp only[Instr.storeAt,storeVar,hu1]
        rfl
       rw[this];exact h6
      unfold execOp
      simp[hop,h7,h1]
     ·simp at h
    ·simp at h
   ·simp at h
  ·simp at h
 ·simp at h
end
section
variable {P:Program} {C:Ctx} {o:Oper} {a:Act} {M:View} {σ σ':St} {r:AV}
theorem fold_set (off:Nat):∀ (vs:List Value) (k:Nat) (cs:Array Value),∃ cs',((vs.zipIdx k).foldl (fun (cs:Array Value) (x:Value×Nat)=>cs.setIfInBounds (off+x.2) x.1) cs)=cs'∧cs'.size=cs.size∧
 ∀ q,cs'[q]? =if off+k≤q∧q<off+k+vs.length∧q<cs.size then vs[q - (off+k)]? else cs[q]?
 |[],k,cs=>⟨cs,rfl,rfl,fun q=>by rw[if_neg (by simp;omega)]⟩
 |v::vs,k,cs=>by
  obtain⟨cs',h1,h2,h3⟩:=fold_set off vs (k+1) (cs.setIfInBounds (off+k) v)
  refine⟨cs',by simpa [List.zipIdx_cons]using h1,by simpa using h2,fun q=> ?_⟩
  rw[h3 q]
  simp only[Array.size_setIfInBounds,List.length_cons]
  by_cases hq:off+(k+1)≤q∧q<off+(k+1)+vs.length∧q<cs.size
  ·rw[if_pos hq,if_pos (by omega),show q - (off+k)=(q - (off+(k+1)))+1 by omega];simp
  ·rw[if_neg hq,Array.getElem?_setIfInBounds]
   by_cases he:off+k=q
   ·subst he
    by_cases hs:off+k<cs.size
    ·rw[if_pos rfl,if_pos hs,if_pos (by omega)];simp
    ·rw[if_pos rfl,if_neg hs,if_neg (by omega),Array.getElem?_eq_none (by omega)]
   ·rw[if_neg he,if_neg (by omega)]
theorem fold_splice (off:Nat)(vs us:List Value)(h:off+vs.length≤us.length):
 vs.toArray.zipIdx.foldl (fun (cs:Array Value) (x:Value×Nat)=>cs.setIfInBounds (off+x.2) x.1) us.toArray=(us.take off++vs++us.drop (off+vs.length)).toArray:=by
 obtain⟨cs',h1,h2,h3⟩:=fold_set off vs 0 us.toArray
 rw[← Array.foldl_toList,Array.toList_zipIdx]
 simp only[List.toList_toArray]
 rw[h1]
 apply Array.ext_getElem?
 intro q
 rw[h3 q]
 simp only[List.size_toArray,Nat.add_zero,List.getElem?_toArray,List.append_assoc]
 rw[List.getElem?_append,List.length_take]
 by_cases hq:q<off
 ·rw[if_neg (by omega),if_pos (by omega),getElem?_take,if_pos hq]
 ·rw[if_neg (c:=q<min off us.length) (by omega),List.getElem?_append]
  by_cases h4:q<off+vs.length
  ·rw[if_pos (by omega),if_pos (by omega),Nat.min_eq_left (by omega)]
  ·rw[if_neg (by omega),if_neg (by omega),getElem?_drop,Nat.min_eq_left (by omega)]
   congr 1;omega
theorem ARepL.splice {l m:List AV}{us vs:List Value}(h:ARepL M l us)(hm:ARepL M m vs){off:Nat}(ho:off+m.length≤l.length):ARepL M (spliceA l off m) (us.take off++vs++us.drop (off+vs.length)):=by
 rw[splice_eq ho,hm.len]
 exact ((h.take off).append hm).append (h.drop _)
theorem splice_leaf {l m:List AV}(hl:l.all leaf=true)(hm:m.all leaf=true){off:Nat}(ho:off+m.length≤l.length):(spliceA l off m).all leaf=true:=by
 rw[splice_eq ho,List.all_append,List.all_append,hm,Bool.and_true,Bool.and_eq_true]
 exact⟨all_eq_true.2 fun x hx=>all_eq_true.1 hl x (List.mem_of_mem_take hx),all_eq_true.2 fun x hx=>all_eq_true.1 hl x (List.mem_of_mem_drop hx)⟩
theorem fill_rep {fs:List (Nat×Nat×Bool)}{place:Nat→Option (Nat×Nat)}(hp:∀ (k:Nat) (x:Nat×Nat×Bool),fs[k]? =some x→place k=some (x.1,x.2.1)):
 ∀ (ps:List (Nat×AV)) (qs:List (Nat×Value)) (l:List AV) (us:List Value) (l':List AV),ARepL M l us→l.all leaf=true→qs.map (·.1)=ps.map (·.1)→ARepL M (ps.map (·.2)) (qs.map (·.2))→fillA fs l ps=some l'→
   ∃ us',Instr.fill place us.toArray qs=some us'.toArray∧ARepL M l' us'∧l'.all leaf=true
 |[],qs,l,us,l',h,hl,h1,h2,h3=>by
  simp at h1;subst h1
  simp[fillA]at h3;subst h3
  exact⟨us,rfl,h,hl⟩
 |(k,x)::ps,qs,l,us,l',h,hl,h1,h2,h3=>by
  cases qs with
  |nil=>simp at h1
  |cons q qs=>
   obtain⟨k',u⟩:=q
   simp at h1
   obtain⟨rfl,h1⟩:=h1
   simp only[List.map_cons,ARepL]at h2
   obtain⟨u',us1,e,hx,h2⟩:=h2
   simp only[List.cons.injEq]at e
   obtain⟨rfl,rfl⟩:=e
   simp only[fillA]at h3
   split at h3
   ·rename_i off s rr m hf hm
    split at h3
    ·rename_i hc
     obtain⟨hml,vs,hv1,hv2⟩:=cells_rep hm hx
     have hvl:=hv2.len
     have hul:=h.len
     obtain⟨us',h4,h5,h6⟩:=fill_rep hp ps qs _ _ l' (h.splice hv2 hc.2) (splice_leaf hl hml hc.2) h1 h2 h3
     refine⟨us',?_,h5,h6⟩
     rw[Instr.fill,hp k' _ hf]
     simp only[hv1,List.size_toArray]
     rw[if_neg (by simp;omega),fold_splice off vs us (by omega)]
     exact h4
    ·simp at h3
   ·simp at h3
theorem does_build {T:TypeId}{ps:Array (Nat×Operand)}{ti:TI}{fs:List (Nat×Nat×Bool)}{fr l:List AV}(hop:o.op= .build T ps)(hF:FRep M a fr)(hC:TyOk P T ti)(hk:ti.kind= .struct fs)
 (h:fillA fs (zeroA ti.zero) (ps.toList.map fun q=>(q.1,evA fr q.2))=some l):DoesS P o a M (.agg l):=by
 obtain⟨i,d,z,hi,hs,hd,hrow,hz,hzc,hp,hlen,_,htk⟩:=hC
 rw[hk]at htk
 obtain⟨fields,rfl,hmap,hfs⟩:=htk
 have hpl:∀ (k:Nat) (x:Nat×Nat×Bool),fs[k]? =some x→(fs.map fun x=>(x.1,x.2.1)).toArray[k]? =some (x.1,x.2.1):=fun k x hx=>by simp[hx]
 obtain⟨us',h1,h2,h3⟩:=fill_rep (place:=fun k=>(fs.map fun x=>(x.1,x.2.1)).toArray[k]?) hpl _ (ps.toList.map fun q=>(q.1,a.eval q.2)) _ ti.zero l (zero_rep (M:=M) hp) (zero_leaf _) (by simp) (by
  refine ARepL_iff.2 ⟨by simp,fun j x u hx hu=> ?_⟩
  simp only[List.map_map,getElem?_map,Option.map_eq_some_iff]at hx hu
  obtain⟨q,hq,rfl⟩:=hx
  obtain⟨q',hq',rfl⟩:=hu
  rw[hq]at hq';simp at hq';subst hq'
  exact hF.ev q.2) h
 refine does_still (v:=.agg us'.toArray) ?_ (by simp only[ARep];exact⟨h3,us',rfl,h2⟩)
 have hb:P.built T (ps.map fun q=>(q.1,a.eval q.2)).toList=some us'.toArray:=by
  unfold Program.built
  simp only[hi,hd,hz,hmap]
  rw[← h1,Array.toList_map]
  congr 1
  rw[← hzc]
 have:=fun w=>run_build w T (ps.map fun q=>(q.1,a.eval q.2)) us'.toArray hb
 intro w
 unfold execOp
 simp only[hop,Sem.run_bind,this,Result.andThen_ok]
 rfl
theorem does_array {T:TypeId}{ps:Array (Nat×Operand)}{ti:TI}{n es:Nat}{er:Bool}{fr l:List AV}(hop:o.op= .build T ps)(hF:FRep M a fr)(hC:TyOk P T ti)(hk:ti.kind= .arr n es er)
 (h:fillA (arrF n es er) (zeroA ti.zero) (ps.toList.map fun q=>(q.1,evA fr q.2))=some l):DoesS P o a M (.agg l):=by
 obtain⟨i,d,z,hi,hs,hd,hrow,hz,hzc,hp,hlen,_,htk⟩:=hC
 rw[hk]at htk
 obtain⟨e,rfl,⟨ie,de,hie,hes,_,_⟩,_,_⟩:=htk
 have hpl:∀ (k:Nat) (x:Nat×Nat×Bool),(arrF n es er)[k]? =some x→(fun i=>some (i*ie.size,ie.size)) k=some (x.1,x.2.1):=fun k x hx=>by
  unfold arrF at hx
  rw[getElem?_map,Option.map_eq_some_iff]at hx
  obtain⟨j,hj,rfl⟩:=hx
  rw[List.getElem?_range (by
   have:=(List.getElem?_eq_some_iff.1 hj).1
   simpa using this)]at hj
  simp at hj;subst hj
  simp[hes]
 obtain⟨us',h1,h2,h3⟩:=fill_rep (place:=fun i=>some (i*ie.size,ie.size)) hpl _ (ps.toList.map fun q=>(q.1,a.eval q.2)) _ ti.zero l (zero_rep (M:=M) hp) (zero_leaf _) (by simp) (by
  refine ARepL_iff.2 ⟨by simp,fun j x u hx hu=> ?_⟩
  simp only[List.map_map,getElem?_map,Option.map_eq_some_iff]at hx hu
  obtain⟨q,hq,rfl⟩:=hx
  obtain⟨q',hq',rfl⟩:=hu
  rw[hq]at hq';simp at hq';subst hq'
  exact hF.ev q.2) h
 refine does_still (v:=.agg us'.toArray) ?_ (by simp only[ARep];exact⟨h3,us',rfl,h2⟩)
 have hb:P.built T (ps.map fun q=>(q.1,a.eval q.2)).toList=some us'.toArray:=by
  unfold Program.built
  simp only[hi,hd,hz,hie]
  rw[← h1,Array.toList_map]
  congr 1
  rw[← hzc]
 have:=fun w=>run_build w T (ps.map fun q=>(q.1,a.eval q.2)) us'.toArray hb
 intro w
 unfold execOp
 simp only[hop,Sem.run_bind,this,Result.andThen_ok]
 rfl
theorem does_zero {T:TypeId}{ps:Array (Nat×Operand)}{ti:TI}{n:Nat}(hop:o.op= .build T ps)(hC:TyOk P T ti)(hk:ti.kind= .barr n)(hp:ps.toList=[]):DoesS P o a M (.agg (zeroA ti.zero)):=by
 obtain⟨i,d,z,hi,hs,hd,hrow,hz,hzc,hpl,hlen,_,htk⟩:=hC
 rw[hk]at htk
 obtain⟨e,ie,rfl,he,hie,hs1,_⟩:=htk
 have hps:ps= #[]:=by rw[← Array.toArray_toList (xs:=ps),hp]
 subst hps
 refine does_still (v:=.agg ti.zero.toArray) ?_ (by simp only[ARep];exact⟨zero_leaf _,ti.zero,rfl,zero_rep hpl⟩)
 have hb:P.built T (#[]:Array (Nat×Value)).toList=some ti.zero.toArray:=by
  unfold Program.built
  simp only[hi,hd,hz,hie,Instr.fill]
  rw[← hzc]
 intro w
 have:=run_build w T #[] ti.zero.toArray hb
 unfold execOp
 simp[hop,this]
theorem does_fieldAddr {T:TypeId}{x:Operand}{k off s:Nat}{rr:Bool}{fs:List (Nat×Nat×Bool)}{fr:List AV}(hop:o.op= .fieldAddr T x k)(hF:FRep M a fr)(hC:C.ok P)(hk:C.kind T=some (.struct fs))
 (hf:fs[k]? =some (off,s,rr)) (h:(∃ t e i o',evA fr x= .mp t e i o'∧r= .mp t e i (o'+off))∨(∃ c o',evA fr x= .ip c o'∧r= .ip c (o'+off))):DoesS P o a M r:=by
 obtain⟨d,hd,fields,rfl,_,hfs⟩:=kind_und hC hk
 obtain⟨f,hf1,hf2,⟨i,d',hi,hs,_,_⟩,hs0,_⟩:=hfs k off s rr hf
 have hx:=hF.ev x
 have hadd:∀ b q,(⟨b,q,none⟩:Addr).add off=⟨b,q+off,none⟩:=fun b q=>Addr.add_mid b q off
 have key:∀ b q,a.eval x= .pointer (some ⟨b,q,none⟩)→∀ w,(execOp a.eval o).run P w= .ok (.value (.pointer (some ⟨b,q+off,none⟩))) w:=fun b q hq w=>by
  unfold execOp
  simp[hop,hq,Instr.fieldAt,run_underlying hd,hf1,Instr.sureAddr,fieldPlace,sizeOf,typeInfo,hi,hs,Nat.pos_iff_ne_zero.1 hs0,hf2,hadd]
 rcases h with⟨t,e,i',o',he,rfl⟩|⟨c,o',he,rfl⟩
 ·rw[he]at hx
  simp only[ARep]at hx
  obtain⟨b,hb,hbl,hx⟩:=hx
  refine does_still (key b _ hx) ?_
  simp only[ARep]
  exact⟨b,hb,hbl,by rw[Nat.add_assoc]⟩
 ·rw[he]at hx
  simp only[ARep]at hx
  obtain⟨b,q,hx,hc⟩:=hx
  refine does_still (key b _ hx) ?_
  simp only[ARep]
  exact⟨b,q,by rw[Nat.add_assoc],hc⟩
theorem run_part {t:TypeId}{s off:Nat}{rr:Bool}{us:List Value}{u:Value}{w:World}(hT:TyRow P t s rr)(h:(rr=true∧off+s≤us.length∧u= .agg ((us.drop off).take s).toArray)∨(rr=false∧us[off]? =some u)):
 (part t us.toArray off).run P w= .ok u w:=by
 obtain⟨i,d,hi,hs,hd,hr⟩:=hT
 have hagg:(isAgg t).run P w= .ok rr w:=by
  unfold isAgg
  rw[Sem.run_bind,run_underlying hd w]
  subst hr
  cases d<;>simp[TypeDesc.isRow]
 rcases h with⟨rfl,h1,rfl⟩|⟨rfl,h1⟩
 ·have:us.toArray.extract off (off+s)=((us.drop off).take s).toArray:=by
   simp[List.take_drop,List.extract_toArray,List.extract_eq_take_drop]<;>try (congr 1;omega)
  simp[part,hagg,sizeOf,typeInfo,hi,hs,this]
 ·simp[part,hagg,h1]
theorem does_field {T:TypeId}{x:Operand}{k off s:Nat}{rr:Bool}{fs:List (Nat×Nat×Bool)}{fr l:List AV}(hop:o.op= .field T x k)(hF:FRep M a fr)(hC:C.ok P)(hk:C.kind T=some (.struct fs))
 (hf:fs[k]? =some (off,s,rr)) (hx:evA fr x= .agg l) (h:partA rr s off l=some r):DoesS P o a M r:=by
 obtain⟨d,hd,fields,rfl,_,hfs⟩:=kind_und hC hk
 obtain⟨f,hf1,hf2,hT,hs0,_⟩:=hfs k off s rr hf
 have hv:=hF.ev x
 rw[hx]at hv
 simp only[ARep]at hv
 obtain⟨hl,us,hv,hus⟩:=hv
 obtain⟨u,h1,h2⟩:=part_rep hl hus h
 refine does_still (v:=u) ?_ h1
 intro w
 unfold execOp
 simp[hop,hv,Instr.field,run_underlying hd,hf1,asAgg,hf2,run_part hT h2]
theorem does_extract {x:Operand}{k:Nat}{fr l:List AV}(hop:o.op= .extract x k)(hF:FRep M a fr)(hx:evA fr x= .tup l)(h:l[k]? =some r):DoesS P o a M r:=by
 have hv:=hF.ev x
 rw[hx]at hv
 simp only[ARep]at hv
 obtain⟨us,hv,hus⟩:=hv
 obtain⟨u,h1,h2⟩:=hus.get h
 refine does_still (v:=u) ?_ h2
 intro w
 unfold execOp
 simp[hop,hv,Instr.extract,h1]
theorem does_nilCheck {x:Operand}{fr:List AV}(hop:o.op= .nilCheck x)(hF:FRep M a fr)(h:(∃ c o',evA fr x= .ip c o')∨(∃ t e i o',evA fr x= .mp t e i o')):DoesS P o a M (evA fr x):=by
 have hx:=hF.ev x
 refine does_still (v:=a.eval x) ?_ hx
 have:∃ ad,a.eval x= .pointer (some ad):=by
  rcases h with⟨c,o',he⟩|⟨t,e,i,o',he⟩<;>rw[he]at hx<;>simp only[ARep]at hx
  ·obtain⟨b,q,hx,_⟩:=hx;exact⟨_,hx⟩
  ·obtain⟨b,_,_,hx⟩:=hx;exact⟨_,hx⟩
 obtain⟨ad,had⟩:=this
 intro w
 unfold execOp
 simp[hop,had]
theorem map_rep {fr:List AV}(hF:FRep M a fr)(l:List Operand):ARepL M (l.map (evA fr)) (l.map a.eval):=by
 induction l with
 |nil=>simp[ARepL]
 |cons x l ih=>simp only[List.map_cons,ARepL];exact⟨_,_,rfl,hF.ev x,ih⟩
theorem does_makeFunc {f:FuncId}{first cap:Array Operand}{fr:List AV}(hop:o.op= .makeFunc (.func f) first cap)(hF:FRep M a fr):DoesS P o a M (.fn f (first.toList.map (evA fr)) (cap.toList.map (evA fr))):=by
 refine does_still (v:=.func (.func f) (first.map a.eval) (cap.map a.eval)) ?_ ?_
 ·intro w;unfold execOp;simp[hop,Instr.makeFunc]
 ·simp only[ARep]
  exact⟨first.toList.map a.eval,cap.toList.map a.eval,by rw[← Array.toList_map,←Array.toList_map,Array.toArray_toList,Array.toArray_toList],map_rep hF _,map_rep hF _⟩
theorem does_unOp {op:UnOp}{T:TypeId}{x:Operand}{fr:List AV}(hop:o.op= .unOp op T x)(hF:FRep M a fr)(h:unA op (evA fr x)=some r):DoesS P o a M r:=by
 have hx:=hF.ev x
 unfold unA at h
 split at h
 ·rename_i k n he
  rw[he]at hx
  simp only[Option.some.injEq]at h;subst h
  refine does_still (v:=.int k (k.wrap (0 - n))) ?_ (rep_mk rfl)
  intro w
  unfold execOp
  simp[hop,rep_int hx,Op.unary,Op.intArith]
 ·rename_i b he
  rw[he]at hx
  simp at h;subst h
  refine does_still (v:=.bool !b) ?_ (rep_mk rfl)
  intro w
  unfold execOp
  simp[hop,(rep_v hx).2,Op.unary]
 ·simp at h
theorem does_convert {S T:TypeId}{x:Operand}{fr:List AV}(hop:o.op= .convert S T x)(hF:FRep M a fr)(hC:C.ok P)(h:convA C S T (evA fr x)=some r):DoesS P o a M r:=by
 have hx:=hF.ev x
 unfold convA at h
 split at h
 ·rename_i ks k k' n hs ht he
  rw[he]at hx
  simp at h;subst h
  obtain⟨d,hd,rfl⟩:=kind_und hC ht
  obtain⟨d',hd',_⟩:=kind_und hC hs
  refine does_still (v:=.int k (k.wrap n)) ?_ (rep_mk rfl)
  intro w
  unfold execOp
  simp[hop,rep_int hx,convert,run_underlying hd,run_underlying hd',Conv.intToInt]
 ·rename_i ks s hs ht he
  rw[he]at hx
  simp at h;subst h
  obtain⟨d,hd,rfl⟩:=kind_und hC ht
  obtain⟨d',hd',_⟩:=kind_und hC hs
  refine does_still (v:=.string s) ?_ (rep_mk rfl)
  intro w
  unfold execOp
  simp[hop,(rep_v hx).2,convert,run_underlying hd,run_underlying hd']
 ·simp at h
end
end Go.Proofs.YthhbnenaihkggaaGreat
