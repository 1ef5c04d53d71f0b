/- That a world that bears the abstract machine's state does what the abstract machine does: each operation. That a world that bears the abstract machine's state does what the abstract machine does: what only computes. -/
import Derived.Test.YtpoigihfeehehaaGreatDoorM02
import Derived.WalkKit
import Derived.Laws.Tables
set_option linter.all false
set_option maxRecDepth 100000
set_option maxHeartbeats 32000000
namespace Go.Proofs.YtpoigihfeehehaaGreatDoor
open Go.RowKit
section
variable {P:Program} {C:Ctx} {o:Oper} {a:Act} {M:Az} {σ σ':St} {r:AV}
theorem Cl {v:Value}(hM:Al M σ)(h:(execOp a.eval o).run P M.w= .ok (.value v) M.w)(hr:Ag M r v):Does P o a M σ r σ:=⟨v,M,.inl h,Ext.refl M σ,hM,hr⟩
def El (P:Program)(o:Oper)(a:Act)(M:Az)(r:AV):Prop:=∃ v,(∀ w,(execOp a.eval o).run P w= .ok (.value v) w)∧Ag M r v
theorem Aj {v:Value}(h:∀ w,(execOp a.eval o).run P w= .ok (.value v) w)(hr:Ag M r v):El P o a M r:=⟨v,h,hr⟩
theorem El.does (h:El P o a M r)(hM:Al M σ):Does P o a M σ r σ:=by
 obtain⟨v,h1,h2⟩:=h
 exact Cl hM (h1 M.w) h2
theorem Bi {k:IntKind}{n:Int}{u:Value}(h:Ag M (.p (.v (.int k n))) u):u= .int k n:=by simp only[Ag,Ca]at h;exact h.2
theorem Cf {x u:Value}(h:Ag M (.p (.v x)) u):plain x=true∧u=x:=by simpa only[Ag,Ca]using h
theorem Bb {x:Value}(h:plain x=true):Ag M (.p (.v x)) x:=by simp only[Ag,Ca];exact⟨h,trivial⟩
theorem Dp {x:AV}{k:IntKind}{n:Int}(h:Hi x=some (k,n)):x= .p (.v (.int k n)):=by
 unfold Hi at h
 split at h
 ·simp at h;obtain⟨rfl,rfl⟩:=h;rfl
 ·simp at h
theorem Apf (hC:C.ok P){T:TypeId}{k:TK}(h:C.kind T=some k):∃ ti,C.ty T=some ti∧ti.kind=k∧TyOk P T ti:=by
 unfold Ctx.kind at h
 split at h
 ·rename_i ti hti;simp at h;exact⟨ti,hti,h,hC.1 T ti hti⟩
 ·simp at h
theorem As (hC:C.ok P){T:TypeId}{k:TK}(h:C.kind T=some k):∃ d,P.underlying T=some d∧TKOk P d k:=by
 obtain⟨ti,_,rfl,_,d,_,_,_,hd,_,_,_,_,_,_,hk⟩:=Apf hC h
 exact⟨d,hd,hk⟩
theorem Jv {z:List Value}(hp:z.all plain=true):Af M (Co z) z:=by
 refine Bc.2 ⟨by simp[Co],fun i b u hb hu=> ?_⟩
 simp only[Co,QR,hu,XR,QB]at hb
 subst hb
 exact Bb (ZA.1 hp _ (QG hu))
theorem Fy (z:List Value):(Co z).all leaf=true:=by simp[Co,leaf]
theorem Y5 {l:List AV}{us:List Value}(h:Af M l us)(hl:l.all leaf=true)(e:Nat)(he:l.length=e):Cr M us.toArray e [l]:=by
 intro i c hc
 cases i with
 |zero=>
  simp at hc;subst hc
  refine⟨he,fun j x hx=>⟨ZA.1 hl _ (QG hx),?_⟩⟩
  obtain⟨u,h1,h2⟩:=h.get hx
  exact⟨u,by simpa using h1,h2⟩
 |succ i=>simp at hc
theorem Aam {T:TypeId}{l:List AV}{us:List Value}{e tk:Nat}(hM:Al M σ)(htk:tk=σ.length)(h:Af M l us)(hl:l.all leaf=true)(he:l.length=e)
 (hrun:(execOp a.eval o).run P M.w= .ok (.value (.pointer (some ⟨M.w.heap.size,0,none⟩))) (M.w.alloc (.cells us.toArray T))):Does P o a M σ (.mp tk e 0 0) (σ.put tk (.row e [l])):=by
 obtain⟨M',h1,h2,h2',_,h3,h4⟩:=hM.row htk us T e [l] (Y5 h hl e he)
 refine⟨_,M',.inl (by rw[h1];exact hrun),h3,h4,?_⟩
 simp only[Ag]
 exact⟨_,h2,h2',by simp⟩
theorem Adz {T:TypeId}{tk:Nat}{ti:TI}(hop:o.op= .alloc T)(hM:Al M σ)(htk:tk=σ.length)(hC:TyOk P T ti):Does P o a M σ (.mp tk ti.size 0 0) (σ.put tk (.row ti.size [Co ti.zero])):=by
 obtain⟨i,d,z,hi,hs,hd,hrow,hz,hzc,hp,hlen,_,_⟩:=hC
 refine Aam hM htk (Jv hp) (Fy _) (by simp[Co,hlen]) (T:=T) ?_
 unfold execOp
 simp[hop,Instr.alloc,zeroValue,typeInfo,hi,hz,newVar,newRow,←hzc]
theorem Akq {T:TypeId}{x:Operand}{tk:Nat}{ti:TI}{fr:List AV}{l:List AV}(hop:o.op= .box T x)(hM:Al M σ)(hF:Cx M a fr)(htk:tk=σ.length)(hc:Cu (evA fr x)=some l)(hl:l.length=ti.size):
 Does P o a M σ (.mp tk ti.size 0 0) (σ.put tk (.row ti.size [l])):=by
 obtain⟨h1,us,h2,h3⟩:=Ju hc (hF.ev x)
 refine Aam hM htk h3 h1 hl (T:=T) ?_
 unfold execOp
 simp[hop,Instr.box,newVar,newRow,h2]
theorem Sw {r:Bool}{s off:Nat}{l:List AV}{us:List Value}{x:AV}(hl:l.all leaf=true)(h:Af M l us)(hx:I1 r s off l=some x):∃ u,Ag M x u∧((r=true∧off+s≤us.length∧u= .agg ((us.drop off).take s).toArray)∨(r=false∧us[off]? =some u)):=by
 have hlen:=h.len
 rcases Adw hx with⟨hr,h1,rfl⟩|⟨hr,h1⟩
 ·refine⟨_,?_,.inl ⟨hr,by omega,rfl⟩⟩
  simp only[Ag]
  exact⟨ZA.2 fun y hy=>ZA.1 hl y (ZX (ZM hy)),_,rfl,(h.drop off).take s⟩
 ·obtain⟨u,h2,h3⟩:=h.get h1
  exact⟨u,h3,.inr ⟨hr,h2⟩⟩
theorem Qw {w:World}{b off:Nat}{T:TypeId}{d:TypeDesc}{u:Value}(hd:P.underlying T=some d)(hrow:d.isRow=false)(hc:w.cell? ⟨b,off,none⟩=some u):
 (Instr.loadAt T (.pointer (some ⟨b,off,none⟩))).run P w= .ok u w:=by
 have hagg:(isAgg T).run P w= .ok false w:=by
  unfold isAgg
  rw[Sem.run_bind,run_underlying hd w]
  cases d<;>simp_all
 simp[Instr.loadAt,Instr.sureAddr,loadVar,hagg,load,Sem.run,hc]
theorem Sx {T:TypeId}{ti:TI}{o':Nat}{l:List AV}{us:List Value}{x:AV}(hC:TyOk P T ti)(hl:l.all leaf=true)(h:Af M l us)(hx:I1 ti.row ti.size o' l=some x):
 ∃ u,Ag M x u∧∀ (w:World) (b base:Nat),w.rangeAt b base us→(Instr.loadAt T (.pointer (some ⟨b,base+o',none⟩))).run P w= .ok u w:=by
 obtain⟨i,d,z,hi,hs,hd,hrow,hz,hzc,hp,hlen,h1,_⟩:=hC
 obtain⟨u,h2,h3⟩:=Sw hl h hx
 refine⟨u,h2,fun w b base hr=> ?_⟩
 rcases h3 with⟨hr',h4,rfl⟩|⟨hr',h4⟩
 ·refine run_loadAt_mid w b (base+o') T _ d (fun j v hj=> ?_) hd (by rw[hrow,hr']) (by rw[hi];simp[hs];omega)
  rw[QT]at hj
  split at hj
  ·rw[ZK]at hj
   rw[ZY];exact hr _ v hj
  ·simp at hj
 ·exact Qw hd (by rw[hrow,hr']) (hr o' u h4)
theorem Sy {T:TypeId}{ti:TI}{b base o':Nat}{l:List AV}{us:List Value}{x:AV}{w:World}(hC:TyOk P T ti)(hl:l.all leaf=true)(h:Af M l us)(hx:I1 ti.row ti.size o' l=some x)(hr:w.rangeAt b base us):
 ∃ u,Ag M x u∧(Instr.loadAt T (.pointer (some ⟨b,base+o',none⟩))).run P w= .ok u w:=by
 obtain⟨u,h1,h2⟩:=Sx hC hl h hx
 exact⟨u,h1,h2 w b base hr⟩
theorem Ez {w:World}{b:Nat}{cur:Array Value}{T:TypeId}{fr:Nat×Nat}(hh:w.heap[b]? =some (.cells cur T fr)){e i:Nat}{ls:List (List AV)}{c:List AV}(hr:Cr M cur e ls)(hc:ls[i]? =some c):
 ∃ us,Af M c us∧c.all leaf=true∧w.rangeAt b (i*e) us:=by
 obtain⟨h1,h2⟩:=hr i c hc
 refine⟨(cur.toList.drop (i*e)).take c.length,Bc.2 ⟨?_,fun j x u hx hu=> ?_⟩,?_,fun j v hv=> ?_⟩
 ·rw[QZ,WJ,YO]
  cases hcl:c.length with
  |zero=>omega
  |succ n=>
   obtain⟨_,u,h3,_⟩:=h2 n c[n] (QN (by omega))
   have:=(QU.1 h3).1
   simp;omega
 ·obtain⟨_,u',h3,h4⟩:=h2 j x hx
  rw[QT,if_pos (QC.1 hx).1,ZK,XZ,h3]at hu
  simp at hu;subst hu;exact h4
 ·refine ZA.2 fun x hx=> ?_
  obtain⟨j,hj⟩:=YP.1 hx
  exact (h2 j x hj).1
 ·rw[cell_of_row w b _ cur T fr hh]
  rw[QT]at hv
  split at hv
  ·rw[ZK,XZ]at hv;exact hv
  ·simp at hv
theorem I3 {c:List PV}{b off:Nat}(h:Do M.w M.I b off c):∃ us,Af M (c.map .p) us∧(c.map AV.p).all leaf=true∧M.w.rangeAt b off us:=by
 have h1:∀ j:Nat,∃ u,∀ a,c[j]? =some a→M.w.cell? ⟨b,off+j,none⟩=some u∧Ca M.w M.I a u:=fun j=>by
  cases hc:c[j]? with
  |none=>exact⟨undef,fun a ha=>by simp at ha⟩
  |some a=>
   obtain⟨u,h2,_,h3⟩:=h.get hc
   exact⟨u,fun a' ha'=>by simp at ha';subst ha';exact⟨h2,h3⟩⟩
 obtain⟨U,hU⟩:=Classical.axiomOfChoice h1
 refine⟨(List.range c.length).map U,Bc.2 ⟨by simp,fun j x u hx hu=> ?_⟩,by simp[leaf],fun j v hv=> ?_⟩
 ·rw[QR]at hx
  cases hc:c[j]? with
  |none=>rw[hc]at hx;simp at hx
  |some y=>
   rw[hc]at hx;simp at hx;subst hx
   have hj:=(QC.1 hc).1
   simp[hj]at hu;subst hu
   simp only[Ag];exact (hU j y hc).2
 ·by_cases hj:j<c.length
  ·simp[hj]at hv;subst hv
   exact (hU j _ (QN hj)).1
  ·simp[hj]at hv
theorem Afk {T:TypeId}{x:Operand}{ti:TI}{fr:List AV}(hop:o.op= .load T x)(hM:Al M σ)(hF:Cx M a fr)(hC:TyOk P T ti)(h:Hc ti (evA fr x) σ=some r):Does P o a M σ r σ:=by
 have hx:=hF.ev x
 have key:∃ u,Ag M r u∧(Instr.loadAt T (a.eval x)).run P M.w= .ok u M.w:=by
  unfold Hc at h
  split at h
  ·rename_i t e i o' hev
   rw[hev]at hx
   simp only[Ag]at hx
   obtain⟨b,hb,hbl,hx⟩:=hx
   split at h
   ·rename_i e' ls hσ
    split at h
    ·rename_i he;subst he
     split at h
     ·rename_i c hc
      obtain⟨_,b',cur,T',hb',hh,hI,hr,_⟩:=hM.obj t _ hσ
      have:b'=b:=by rw[hb]at hb';simpa using hb'.symm
      subst this
      obtain⟨us,h1,h2,h3⟩:=Ez hh hr hc
      rw[hx]
      exact Sy hC h2 h1 h h3
     ·simp at h
    ·simp at h
   ·simp at h
  ·rename_i c o' hev
   rw[hev]at hx
   simp only[Ag]at hx
   obtain⟨b,off,hx,hc⟩:=hx
   obtain⟨us,h1,h2,h3⟩:=I3 hc
   rw[hx]
   exact Sy hC h2 h1 h h3
  ·simp at h
 obtain⟨u,h1,h2⟩:=key
 refine Cl hM (v:=u) ?_ h1
 unfold execOp
 simp[hop,h2]
theorem Ad0 {T:TypeId}{x y:Operand}{ti:TI}{fr:List AV}(hop:o.op= .store T x y)(hM:Al M σ)(hF:Cx M a fr)(hC:TyOk P T ti)(h:Q7 ti (evA fr x) (evA fr y) σ=some σ'):Does P o a M σ (.tup []) σ':=by
 have hx:=hF.ev x
 have hy:=hF.ev y
 obtain⟨ii,d,z,hi,hs,hd,hrow,hz,hzc,hp,hlen,_,_⟩:=hC
 unfold Q7 at h
 split at h
 ·rename_i t e i o' m hev hm
  rw[hev]at hx
  simp only[Ag]at hx
  obtain⟨b,hb,hbl,hx⟩:=hx
  obtain⟨hml,us,hu1,hu2⟩:=Ju hm hy
  split at h
  ·rename_i e' ls hσ
   split at h
   ·rename_i he;obtain⟨rfl,hms⟩:=he
    split at h
    ·rename_i c hc
     split at h
     ·rename_i ho
      simp at h;subst h
      obtain⟨M',h1,h2,h3⟩:=hM.store hσ hb hc ho hu2 hml
      refine⟨undef,M',.inr ⟨rfl,?_⟩,h2,h3,by simp only[Ag,Af];exact⟨[],rfl,rfl⟩⟩
      have hul:=hu2.len
      obtain⟨_,b',cur,T',hb',hh,hI,hr,_⟩:=hM.obj t _ hσ
      have:b'=b:=by rw[hb]at hb';simpa using hb'.symm
      subst this
      have hth:M.w.there b' (i*e'+o') us.length:=fun j hj=>by
       obtain⟨_,u,h5,_⟩:=(hr i c hc).2 (o'+j) c[o'+j] (QN (by omega))
       rw[ZY,cell_of_row _ _ _ _ _ _ hh,h5]
       exact⟨rfl,by simp[World.frozen?,hh]⟩
      have h6:=run_storeAt_mid (P:=P) M.w b' (i*e'+o') T us.toArray (by simpa using hth) (by rw[hi];simp[hs];omega) (all_oneCell_toArray (hu2.ones hml))
      have h7:(Instr.storeAt T (a.eval x) (a.eval y)).run P M.w= .ok () (M.w.setCells b' (i*e'+o') us):=by
       rw[hx]
       have:Instr.storeAt T (.pointer (some ⟨b',i*e'+o',none⟩)) (a.eval y)=Instr.storeAt T (.pointer (some ⟨b',i*e'+o',none⟩)) (.agg us.toArray):=by
        simp only[Instr.storeAt,storeVar,hu1]
        rfl
       rw[this];exact h6
      unfold execOp
      simp[hop,h7,h1]
     ·simp at h
    ·simp at h
   ·simp at h
  ·simp at h
 ·simp at h
end
section
variable {P:Program} {C:Ctx} {o:Oper} {a:Act} {M:Az} {σ σ':St} {r:AV}
theorem Aan (off:Nat):∀ (vs:List Value) (k:Nat) (cs:Array Value),∃ cs',((vs.zipIdx k).foldl (fun (cs:Array Value) (x:Value×Nat)=>cs.setIfInBounds (off+x.2) x.1) cs)=cs'∧cs'.size=cs.size∧
 ∀ q,cs'[q]? =if off+k≤q∧q<off+k+vs.length∧q<cs.size then vs[q - (off+k)]? else cs[q]?
 |[],k,cs=>⟨cs,rfl,rfl,fun q=>by rw[if_neg (by simp;omega)]⟩
 |v::vs,k,cs=>by
  obtain⟨cs',h1,h2,h3⟩:=Aan off vs (k+1) (cs.setIfInBounds (off+k) v)
  refine⟨cs',by simpa [List.zipIdx_cons]using h1,by simpa using h2,fun q=> ?_⟩
  rw[h3 q]
  simp only[Array.size_setIfInBounds,QF]
  by_cases hq:off+(k+1)≤q∧q<off+(k+1)+vs.length∧q<cs.size
  ·rw[if_pos hq,if_pos (by omega),show q - (off+k)=(q - (off+(k+1)))+1 by omega];simp
  ·rw[if_neg hq,Array.getElem?_setIfInBounds]
   by_cases he:off+k=q
   ·subst he
    by_cases hs:off+k<cs.size
    ·rw[if_pos rfl,if_pos hs,if_pos (by omega)];simp
    ·rw[if_pos rfl,if_neg hs,if_neg (by omega),XT (by omega)]
   ·rw[if_neg he,if_neg (by omega)]
theorem Ol (off:Nat)(vs us:List Value)(h:off+vs.length≤us.length):
 vs.toArray.zipIdx.foldl (fun (cs:Array Value) (x:Value×Nat)=>cs.setIfInBounds (off+x.2) x.1) us.toArray=(us.take off++vs++us.drop (off+vs.length)).toArray:=by
 obtain⟨cs',h1,h2,h3⟩:=Aan off vs 0 us.toArray
 rw[← Array.foldl_toList,Array.toList_zipIdx]
 simp only[]
 rw[h1]
 apply Array.ext_getElem?
 intro q
 rw[h3 q]
 simp only[YV,XD,YD,QX]
 rw[YR,QZ]
 by_cases hq:q<off
 ·rw[if_neg (by omega),if_pos (by omega),QT,if_pos hq]
 ·rw[if_neg (c:=q<min off us.length) (by omega),YR]
  by_cases h4:q<off+vs.length
  ·rw[if_pos (by omega),if_pos (by omega),YO (by omega)]
  ·rw[if_neg (by omega),if_neg (by omega),ZK,YO (by omega)]
   congr 1;omega
theorem Af.splice {l m:List AV}{us vs:List Value}(h:Af M l us)(hm:Af M m vs){off:Nat}(ho:off+m.length≤l.length):Af M (C9 l off m) (us.take off++vs++us.drop (off+vs.length)):=by
 rw[Hk ho,hm.len]
 exact ((h.take off).append hm).append (h.drop _)
theorem Om {l m:List AV}(hl:l.all leaf=true)(hm:m.all leaf=true){off:Nat}(ho:off+m.length≤l.length):(C9 l off m).all leaf=true:=by
 rw[Hk ho,List.all_append,List.all_append,hm,Bool.and_true,QV]
 exact⟨ZA.2 fun x hx=>ZA.1 hl x (ZM hx),ZA.2 fun x hx=>ZA.1 hl x (ZX hx)⟩
theorem Sz {fs:List (Nat×Nat×Bool)}{place:Nat→Option (Nat×Nat)}(hp:∀ (k:Nat) (x:Nat×Nat×Bool),fs[k]? =some x→place k=some (x.1,x.2.1)):
 ∀ (ps:List (Nat×AV)) (qs:List (Nat×Value)) (l:List AV) (us:List Value) (l':List AV),Af M l us→l.all leaf=true→qs.map (·.1)=ps.map (·.1)→Af M (ps.map (·.2)) (qs.map (·.2))→Nr fs l ps=some l'→
   ∃ us',Instr.fill place us.toArray qs=some us'.toArray∧Af M l' us'∧l'.all leaf=true
 |[],qs,l,us,l',h,hl,h1,h2,h3=>by
  simp at h1;subst h1
  simp[Nr]at h3;subst h3
  exact⟨us,rfl,h,hl⟩
 |(k,x)::ps,qs,l,us,l',h,hl,h1,h2,h3=>by
  cases qs with
  |nil=>simp at h1
  |cons q qs=>
   obtain⟨k',u⟩:=q
   simp at h1
   obtain⟨rfl,h1⟩:=h1
   simp only[QK,Af]at h2
   obtain⟨u',us1,e,hx,h2⟩:=h2
   simp only[YI]at e
   obtain⟨rfl,rfl⟩:=e
   simp only[Nr]at h3
   split at h3
   ·rename_i off s rr m hf hm
    split at h3
    ·rename_i hc
     obtain⟨hml,vs,hv1,hv2⟩:=Ju hm hx
     have hvl:=hv2.len
     have hul:=h.len
     obtain⟨us',h4,h5,h6⟩:=Sz hp ps qs _ _ l' (h.splice hv2 hc.2) (Om hl hml hc.2) h1 h2 h3
     refine⟨us',?_,h5,h6⟩
     rw[Instr.fill,hp k' _ hf]
     simp only[hv1,YV]
     rw[if_neg (by simp;omega),Ol off vs us (by omega)]
     exact h4
    ·simp at h3
   ·simp at h3
theorem Ad1 {T:TypeId}{ps:Array (Nat×Operand)}{ti:TI}{fs:List (Nat×Nat×Bool)}{fr l:List AV}(hop:o.op= .build T ps)(hF:Cx M a fr)(hC:TyOk P T ti)(hk:ti.kind= .struct fs)
 (h:Nr fs (Co ti.zero) (ps.toList.map fun q=>(q.1,evA fr q.2))=some l):El P o a M (.agg l):=by
 obtain⟨i,d,z,hi,hs,hd,hrow,hz,hzc,hp,hlen,_,htk⟩:=hC
 rw[hk]at htk
 obtain⟨fields,rfl,hmap,hfs⟩:=htk
 have hpl:∀ (k:Nat) (x:Nat×Nat×Bool),fs[k]? =some x→(fs.map fun x=>(x.1,x.2.1)).toArray[k]? =some (x.1,x.2.1):=fun k x hx=>by simp[hx]
 obtain⟨us',h1,h2,h3⟩:=Sz (place:=fun k=>(fs.map fun x=>(x.1,x.2.1)).toArray[k]?) hpl _ (ps.toList.map fun q=>(q.1,a.eval q.2)) _ ti.zero l (Jv (M:=M) hp) (Fy _) (by simp) (by
  refine Bc.2 ⟨by simp,fun j x u hx hu=> ?_⟩
  simp only[XV,QR,QQ]at hx hu
  obtain⟨q,hq,rfl⟩:=hx
  obtain⟨q',hq',rfl⟩:=hu
  rw[hq]at hq';simp at hq';subst hq'
  exact hF.ev q.2) h
 refine Aj (v:=.agg us'.toArray) ?_ (by simp only[Ag];exact⟨h3,us',rfl,h2⟩)
 have hb:P.built T (ps.map fun q=>(q.1,a.eval q.2)).toList=some us'.toArray:=by
  unfold Program.built
  simp only[hi,hd,hz,hmap]
  rw[← h1,WP]
  congr 1
  rw[← hzc]
 have:=fun w=>run_build w T (ps.map fun q=>(q.1,a.eval q.2)) us'.toArray hb
 intro w
 unfold execOp
 simp only[hop,Sem.run_bind,this,Result.andThen_ok]
 rfl
theorem Ad2 {T:TypeId}{ps:Array (Nat×Operand)}{ti:TI}{n es:Nat}{er:Bool}{fr l:List AV}(hop:o.op= .build T ps)(hF:Cx M a fr)(hC:TyOk P T ti)(hk:ti.kind= .arr n es er)
 (h:Nr (arrF n es er) (Co ti.zero) (ps.toList.map fun q=>(q.1,evA fr q.2))=some l):El P o a M (.agg l):=by
 obtain⟨i,d,z,hi,hs,hd,hrow,hz,hzc,hp,hlen,_,htk⟩:=hC
 rw[hk]at htk
 obtain⟨e,rfl,⟨ie,de,hie,hes,_,_⟩,_,_⟩:=htk
 have hpl:∀ (k:Nat) (x:Nat×Nat×Bool),(arrF n es er)[k]? =some x→(fun i=>some (i*ie.size,ie.size)) k=some (x.1,x.2.1):=fun k x hx=>by
  unfold arrF at hx
  rw[QR,QQ]at hx
  obtain⟨j,hj,rfl⟩:=hx
  rw[List.getElem?_range (by
   have:=(QC.1 hj).1
   simpa using this)]at hj
  simp at hj;subst hj
  simp[hes]
 obtain⟨us',h1,h2,h3⟩:=Sz (place:=fun i=>some (i*ie.size,ie.size)) hpl _ (ps.toList.map fun q=>(q.1,a.eval q.2)) _ ti.zero l (Jv (M:=M) hp) (Fy _) (by simp) (by
  refine Bc.2 ⟨by simp,fun j x u hx hu=> ?_⟩
  simp only[XV,QR,QQ]at hx hu
  obtain⟨q,hq,rfl⟩:=hx
  obtain⟨q',hq',rfl⟩:=hu
  rw[hq]at hq';simp at hq';subst hq'
  exact hF.ev q.2) h
 refine Aj (v:=.agg us'.toArray) ?_ (by simp only[Ag];exact⟨h3,us',rfl,h2⟩)
 have hb:P.built T (ps.map fun q=>(q.1,a.eval q.2)).toList=some us'.toArray:=by
  unfold Program.built
  simp only[hi,hd,hz,hie]
  rw[← h1,WP]
  congr 1
  rw[← hzc]
 have:=fun w=>run_build w T (ps.map fun q=>(q.1,a.eval q.2)) us'.toArray hb
 intro w
 unfold execOp
 simp only[hop,Sem.run_bind,this,Result.andThen_ok]
 rfl
theorem Afl {T:TypeId}{ps:Array (Nat×Operand)}{ti:TI}{n:Nat}(hop:o.op= .build T ps)(hC:TyOk P T ti)(hk:ti.kind= .barr n)(hp:ps.toList=[]):El P o a M (.agg (Co ti.zero)):=by
 obtain⟨i,d,z,hi,hs,hd,hrow,hz,hzc,hpl,hlen,_,htk⟩:=hC
 rw[hk]at htk
 obtain⟨e,ie,rfl,he,hie,hs1,_⟩:=htk
 have hps:ps= #[]:=by rw[← ZV (xs:=ps),hp]
 subst hps
 refine Aj (v:=.agg ti.zero.toArray) ?_ (by simp only[Ag];exact⟨Fy _,ti.zero,rfl,Jv hpl⟩)
 have hb:P.built T (#[]:Array (Nat×Value)).toList=some ti.zero.toArray:=by
  unfold Program.built
  simp only[hi,hd,hz,hie,Instr.fill]
  rw[← hzc]
 intro w
 have:=run_build w T #[] ti.zero.toArray hb
 unfold execOp
 simp[hop,this]
theorem Is {T:TypeId}{x:Operand}{k off s:Nat}{rr:Bool}{fs:List (Nat×Nat×Bool)}{fr:List AV}(hop:o.op= .fieldAddr T x k)(hF:Cx M a fr)(hC:C.ok P)(hk:C.kind T=some (.struct fs))
 (hf:fs[k]? =some (off,s,rr)) (h:(∃ t e i o',evA fr x= .mp t e i o'∧r= .mp t e i (o'+off))∨(∃ c o',evA fr x= .ip c o'∧r= .ip c (o'+off))):El P o a M r:=by
 obtain⟨d,hd,fields,rfl,_,hfs⟩:=As hC hk
 obtain⟨f,hf1,hf2,⟨i,d',hi,hs,_,_⟩,hs0,_⟩:=hfs k off s rr hf
 have hx:=hF.ev x
 have hadd:∀ b q,(⟨b,q,none⟩:Addr).add off=⟨b,q+off,none⟩:=fun b q=>Addr.add_mid b q off
 have key:∀ b q,a.eval x= .pointer (some ⟨b,q,none⟩)→∀ w,(execOp a.eval o).run P w= .ok (.value (.pointer (some ⟨b,q+off,none⟩))) w:=fun b q hq w=>by
  unfold execOp
  simp[hop,hq,Instr.fieldAt,run_underlying hd,hf1,Instr.sureAddr,fieldPlace,sizeOf,typeInfo,hi,hs,Nat.pos_iff_ne_zero.1 hs0,hf2,hadd]
 rcases h with⟨t,e,i',o',he,rfl⟩|⟨c,o',he,rfl⟩
 ·rw[he]at hx
  simp only[Ag]at hx
  obtain⟨b,hb,hbl,hx⟩:=hx
  refine Aj (key b _ hx) ?_
  simp only[Ag]
  exact⟨b,hb,hbl,by rw[ZY]⟩
 ·rw[he]at hx
  simp only[Ag]at hx
  obtain⟨b,q,hx,hc⟩:=hx
  refine Aj (key b _ hx) ?_
  simp only[Ag]
  exact⟨b,q,by rw[ZY],hc⟩
theorem Fb {t:TypeId}{s off:Nat}{rr:Bool}{us:List Value}{u:Value}{w:World}(hT:Vi P t s rr)(h:(rr=true∧off+s≤us.length∧u= .agg ((us.drop off).take s).toArray)∨(rr=false∧us[off]? =some u)):
 (part t us.toArray off).run P w= .ok u w:=by
 obtain⟨i,d,hi,hs,hd,hr⟩:=hT
 have hagg:(isAgg t).run P w= .ok rr w:=by
  unfold isAgg
  rw[Sem.run_bind,run_underlying hd w]
  subst hr
  cases d<;>simp[TypeDesc.isRow]
 rcases h with⟨rfl,h1,rfl⟩|⟨rfl,h1⟩
 ·have:us.toArray.extract off (off+s)=((us.drop off).take s).toArray:=by
   simp[List.take_drop,List.extract_toArray]<;>try (congr 1;omega)
  simp[part,hagg,sizeOf,typeInfo,hi,hs]
 ·simp[part,hagg,h1]
theorem Ad3 {T:TypeId}{x:Operand}{k off s:Nat}{rr:Bool}{fs:List (Nat×Nat×Bool)}{fr l:List AV}(hop:o.op= .field T x k)(hF:Cx M a fr)(hC:C.ok P)(hk:C.kind T=some (.struct fs))
 (hf:fs[k]? =some (off,s,rr)) (hx:evA fr x= .agg l) (h:I1 rr s off l=some r):El P o a M r:=by
 obtain⟨d,hd,fields,rfl,_,hfs⟩:=As hC hk
 obtain⟨f,hf1,hf2,hT,hs0,_⟩:=hfs k off s rr hf
 have hv:=hF.ev x
 rw[hx]at hv
 simp only[Ag]at hv
 obtain⟨hl,us,hv,hus⟩:=hv
 obtain⟨u,h1,h2⟩:=Sw hl hus h
 refine Aj (v:=u) ?_ h1
 intro w
 unfold execOp
 simp[hop,hv,Instr.field,run_underlying hd,hf1,asAgg,hf2,Fb hT h2]
theorem Vl {x:Operand}{k:Nat}{fr l:List AV}(hop:o.op= .extract x k)(hF:Cx M a fr)(hx:evA fr x= .tup l)(h:l[k]? =some r):El P o a M r:=by
 have hv:=hF.ev x
 rw[hx]at hv
 simp only[Ag]at hv
 obtain⟨us,hv,hus⟩:=hv
 obtain⟨u,h1,h2⟩:=hus.get h
 refine Aj (v:=u) ?_ h2
 intro w
 unfold execOp
 simp[hop,hv,Instr.extract,h1]
theorem Jw {x:Operand}{fr:List AV}(hop:o.op= .nilCheck x)(hF:Cx M a fr)(h:(∃ c o',evA fr x= .ip c o')∨(∃ t e i o',evA fr x= .mp t e i o')):El P o a M (evA fr x):=by
 have hx:=hF.ev x
 refine Aj (v:=a.eval x) ?_ hx
 have:∃ ad,a.eval x= .pointer (some ad):=by
  rcases h with⟨c,o',he⟩|⟨t,e,i,o',he⟩<;>rw[he]at hx<;>simp only[Ag]at hx
  ·obtain⟨b,q,hx,_⟩:=hx;exact⟨_,hx⟩
  ·obtain⟨b,_,_,hx⟩:=hx;exact⟨_,hx⟩
 obtain⟨ad,had⟩:=this
 intro w
 unfold execOp
 simp[hop,had]
theorem S4 {fr:List AV}(hF:Cx M a fr)(l:List Operand):Af M (l.map (evA fr)) (l.map a.eval):=by
 induction l with
 |nil=>simp[Af]
 |cons x l ih=>simp only[QK,Af];exact⟨_,_,rfl,hF.ev x,ih⟩
theorem S5 {f:FuncId}{first cap:Array Operand}{fr:List AV}(hop:o.op= .makeFunc (.func f) first cap)(hF:Cx M a fr):El P o a M (.fn f (first.toList.map (evA fr)) (cap.toList.map (evA fr))):=by
 refine Aj (v:=.func (.func f) (first.map a.eval) (cap.map a.eval)) ?_ ?_
 ·intro w;unfold execOp;simp[hop,Instr.makeFunc]
 ·simp only[Ag]
  exact⟨first.toList.map a.eval,cap.toList.map a.eval,by rw[← WP,←WP,ZV,ZV],S4 hF _,S4 hF _⟩
theorem Afm {op:UnOp}{T:TypeId}{x:Operand}{fr:List AV}(hop:o.op= .unOp op T x)(hF:Cx M a fr)(h:unA op (evA fr x)=some r):El P o a M r:=by
 have hx:=hF.ev x
 unfold unA at h
 split at h
 ·rename_i k n he
  rw[he]at hx
  simp only[QB]at h;subst h
  refine Aj (v:=.int k (k.wrap (0 - n))) ?_ (Bb rfl)
  intro w
  unfold execOp
  simp[hop,Bi hx,Op.unary,Op.intArith]
 ·rename_i b he
  rw[he]at hx
  simp at h;subst h
  refine Aj (v:=.bool !b) ?_ (Bb rfl)
  intro w
  unfold execOp
  simp[hop,(Cf hx).2,Op.unary]
 ·simp at h
theorem My {S T:TypeId}{x:Operand}{fr:List AV}(hop:o.op= .convert S T x)(hF:Cx M a fr)(hC:C.ok P)(h:Cv C S T (evA fr x)=some r):El P o a M r:=by
 have hx:=hF.ev x
 unfold Cv at h
 split at h
 ·rename_i ks k k' n hs ht he
  rw[he]at hx
  simp at h;subst h
  obtain⟨d,hd,rfl⟩:=As hC ht
  obtain⟨d',hd',_⟩:=As hC hs
  refine Aj (v:=.int k (k.wrap n)) ?_ (Bb rfl)
  intro w
  unfold execOp
  simp[hop,Bi hx,convert,run_underlying hd,run_underlying hd',Conv.intToInt]
 ·rename_i ks s hs ht he
  rw[he]at hx
  simp at h;subst h
  obtain⟨d,hd,rfl⟩:=As hC ht
  obtain⟨d',hd',_⟩:=As hC hs
  refine Aj (v:=.string s) ?_ (Bb rfl)
  intro w
  unfold execOp
  simp[hop,(Cf hx).2,convert,run_underlying hd,run_underlying hd']
 ·simp at h
end
