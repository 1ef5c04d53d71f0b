/- That a world that bears the abstract machine's state does what the abstract machine does: slices that are made, and appends. -/
import Derived.Test.YtpoigihfeehehaaGreatDoorM04
import Derived.Great.BuildSlice
set_option linter.all false
set_option maxRecDepth 100000
set_option maxHeartbeats 32000000
namespace Go.Proofs.YtpoigihfeehehaaGreatDoor
open Go.RowKit
section
variable {P:Program} {C:Ctx} {o:Oper} {a:Act} {M:Az} {σ σ':St} {r:AV}
theorem Rc {j n e:Nat}(h:j<n*e):j / e<n∧j % e<e∧j / e*e+j % e=j:=by
 have he:0<e:=by
  rcases Nat.eq_zero_or_pos e with h0|h0
  ·subst h0;simp at h
  ·exact h0
 refine⟨(Nat.div_lt_iff_lt_mul he).2 h,WW _ he,?_⟩
 rw[XL];exact Nat.div_add_mod j e
theorem Br.flat {w:World}{I:Nat→Nat→Prop}{b off e:Nat}{ls:List (List PV)}(h:Br w I b off e ls):
 ∃ us:List Value,us.length=ls.length*e∧(∀ (j:Nat) (u:Value),us[j]? =some u→w.cell? ⟨b,off+j,none⟩=some u)∧(∀ u∈us,u.oneCell'=true)∧
   ∀ (i q:Nat) (c:List PV) (x:PV),ls[i]? =some c→c[q]? =some x→∃ u,us[i*e+q]? =some u∧Ca w I x u:=by
 have hget:∀ j,j<ls.length*e→∃ c x u,ls[j / e]? =some c∧c[j % e]? =some x∧w.cell? ⟨b,off+j,none⟩=some u∧Ca w I x u:=fun j hj=>by
  obtain⟨h1,h2,h3⟩:=Rc hj
  have hc:ls[j / e]? =some ls[j / e]:=QN h1
  obtain⟨h4,h5⟩:=h.get hc
  have hx:ls[j / e][j % e]? =some (ls[j / e][j % e]'(by omega)):=QN _
  obtain⟨u,h6,_,h7⟩:=h5.get hx
  exact⟨_,_,u,hc,hx,by rw[ZY,h3]at h6;exact h6,h7⟩
 refine⟨(List.range (ls.length*e)).map fun j=>(w.cell? ⟨b,off+j,none⟩).getD undef,by simp,fun j u hu=> ?_,fun u hu=> ?_,fun i q c x hc hx=> ?_⟩
 ·have hj:j<ls.length*e:=by simpa using (QC.1 hu).1
  obtain⟨c,x,u',_,_,h1,_⟩:=hget j hj
  simp[hj,h1]at hu;subst hu;exact h1
 ·obtain⟨j,hj,rfl⟩:=ZP.1 hu
  obtain⟨c,x,u',_,_,h1,h2⟩:=hget j (by simpa using hj)
  simp[h1];exact h2.one
 ·have hi:=(QC.1 hc).1
  obtain⟨h1,h2⟩:=h.get hc
  have hq:q<e:=by rw[← h1];exact (QC.1 hx).1
  have hj:i*e+q<ls.length*e:=by
   have:(i+1)*e≤ls.length*e:=ZL _ hi
   rw[XS]at this;omega
  obtain⟨u,h3,_,h4⟩:=h2.get hx
  refine⟨u,?_,h4⟩
  rw[ZY]at h3
  simp[hj,h3]
theorem Br.of_block {w:World}{I:Nat→Nat→Prop}{b e:Nat}{cur:Array Value}{E:TypeId}{fr:Nat×Nat}{ls:List (List PV)}(hh:w.heap[b]? =some (.cells cur E fr))(hI:∀ o,o<ls.length*e→I b o)
 (h:∀ (i:Nat) (c:List PV),ls[i]? =some c→c.length=e∧∀ (q:Nat) (x:PV),c[q]? =some x→∃ u,cur[i*e+q]? =some u∧Ca w I x u):Br w I b 0 e ls:=
 Br.of_get fun i c hc=>⟨(h i c hc).1,Do.of_get fun q x hx=>by
  obtain⟨u,h1,h2⟩:=(h i c hc).2 q x hx
  have hi:=(QC.1 hc).1
  have hq:q<e:=by rw[← (h i c hc).1];exact (QC.1 hx).1
  have hj:i*e+q<ls.length*e:=by
   have:(i+1)*e≤ls.length*e:=ZL _ hi
   rw[XS]at this;omega
  rw[ZC]
  exact⟨u,by rw[cell_of_row _ _ _ _ _ _ hh];exact h1,hI _ hj,h2⟩⟩
theorem Hm {x:AV}{p:PV}{u:Value}(h:toP x=some p)(hx:Ag M x u):Ca M.w M.I p u:=by
 unfold toP at h
 split at h
 ·simp at h;subst h;simpa only[Ag]using hx
 ·simp at h;subst h
  simp only[Ag]at hx
  obtain⟨b,cap,n,h1,h2,_,h3,_⟩:=hx
  simp only[Ca]
  exact .inr ⟨b,0,cap,h1,h2,h3⟩
 ·simp at h;subst h
  simp only[Ag]at hx
  obtain⟨n,_,_,⟨rfl,rfl⟩|⟨h0,b,cap,h1,h2,_,h3,_⟩⟩:=hx
  ·simp only[Sr,List.isEmpty_nil,if_true,Ca];exact⟨rfl,trivial⟩
  ·have:(‹List (List PV)›).isEmpty=false:=by cases ‹List (List PV)› <;>simp_all
   simp only[Sr,this,XB,if_false,Ca]
   exact .inr ⟨b,0,cap,h1,h2,h3⟩
 ·simp at h
theorem J0:∀ {l:List AV} {ps:List PV},Vj l=some ps→ps.length=l.length∧∀ (i:Nat) (x:PV),ps[i]? =some x→∃ y,l[i]? =some y∧toP y=some x
 |[],ps,h=>by simp[Vj]at h;subst h;simp
 |y::l,ps,h=>by
  simp only[Vj]at h
  split at h
  ·rename_i x xs hx hxs
   simp at h;subst h
   obtain⟨h1,h2⟩:=J0 hxs
   refine⟨by simp[h1],fun i z hz=> ?_⟩
   cases i with
   |zero=>simp at hz;subst hz;exact⟨y,rfl,hx⟩
   |succ i=>simpa using h2 i z (by simpa using hz)
  ·simp at h
theorem J1:∀ {l:List (List AV)} {ps:List (List PV)},I2 l=some ps→ps.length=l.length∧∀ (i:Nat) (x:List PV),ps[i]? =some x→∃ y,l[i]? =some y∧Vj y=some x
 |[],ps,h=>by simp[I2]at h;subst h;simp
 |y::l,ps,h=>by
  simp only[I2]at h
  split at h
  ·rename_i x xs hx hxs
   simp at h;subst h
   obtain⟨h1,h2⟩:=J1 hxs
   refine⟨by simp[h1],fun i z hz=> ?_⟩
   cases i with
   |zero=>simp at hz;subst hz;exact⟨y,rfl,hx⟩
   |succ i=>simpa using h2 i z (by simpa using hz)
  ·simp at h
theorem Ou:∀ (rows:List (List AV)) (k es:Nat) (m:List AV),(∀ c∈rows,c.length=es)→m.length=es→k<rows.length→(rows.set k m).flatten=rows.flatten.take (k*es)++m++rows.flatten.drop (k*es+m.length)
 |[],k,es,m,h,hm,hk=>by simp at hk
 |c::rows,0,es,m,h,hm,hk=>by
  have hc:=h c (by simp)
  simp[hm,←hc]
 |c::rows,k+1,es,m,h,hm,hk=>by
  have hc:=h c (by simp)
  have ih:=Ou rows k es m (fun x hx=>h x (by simp[hx])) hm (by simpa using hk)
  simp only[YF,XE,ih]
  rw[show (k+1)*es=c.length+k*es by rw[XS,hc];omega,List.take_length_add_append,ZY,List.drop_length_add_append]
  simp
theorem E0:∀ (rows:List (List AV)) (es:Nat),(∀ c∈rows,c.length=es)→rows.flatten.length=rows.length*es
 |[],es,h=>by simp
 |c::rows,es,h=>by
  simp only[XE,QE,E0 rows es (fun x hx=>h x (by simp[hx])),h c (by simp),QF,XS];omega
theorem Gp:∀ (rows:List (List AV)) (es:Nat),(∀ c∈rows,c.length=es)→∀ (i q:Nat) (c:List AV) (x:AV),rows[i]? =some c→c[q]? =some x→rows.flatten[i*es+q]? =some x
 |[],es,h,i,q,c,x,hc,hx=>by simp at hc
 |d::rows,es,h,i,q,c,x,hc,hx=>by
  have hd:=h d (by simp)
  cases i with
  |zero=>
   simp at hc;subst hc
   have:=(QC.1 hx).1
   simp only[XE,WB,ZC]
   rw[QD this];exact hx
  |succ i=>
   simp at hc
   have ih:=Gp rows es (fun x hx=>h x (by simp[hx])) i q c x hc hx
   simp only[XE]
   rw[QY (by rw[XS,hd];omega),show (i+1)*es+q - d.length=i*es+q by rw[XS,hd];omega]
   exact ih
theorem Vo {es:Nat}:∀ (ps:List (Nat×AV)) (qs:List (Nat×Value)) (rows:List (List AV)) (us:List Value) (rows':List (List AV)),(∀ c∈rows,c.length=es)→Af M rows.flatten us→rows.flatten.all leaf=true→qs.map (·.1)=ps.map (·.1)→Af M (ps.map (·.2)) (qs.map (·.2))→Qu es rows ps=some rows'→
 ∃ us',Instr.fill (fun i=>some (i*es,es)) us.toArray qs=some us'.toArray∧(∀ c∈rows',c.length=es)∧rows'.length=rows.length∧Af M rows'.flatten us'∧rows'.flatten.all leaf=true
 |[],qs,rows,us,rows',he,h,hl,h1,h2,h3=>by
  simp at h1;subst h1
  simp[Qu]at h3;subst h3
  exact⟨us,rfl,he,rfl,h,hl⟩
 |(k,x)::ps,qs,rows,us,rows',he,h,hl,h1,h2,h3=>by
  cases qs with
  |nil=>simp at h1
  |cons q qs=>
   obtain⟨k',u⟩:=q
   simp at h1
   obtain⟨rfl,h1⟩:=h1
   simp only[QK,Af]at h2
   obtain⟨u',us1,e,hx,h2⟩:=h2
   simp only[YI]at e
   obtain⟨rfl,rfl⟩:=e
   simp only[Qu]at h3
   split at h3
   ·rename_i m hm
    split at h3
    ·rename_i hc
     obtain⟨hml,vs,hv1,hv2⟩:=Ju hm hx
     have hvl:=hv2.len
     have hul:=h.len
     have hfl:=E0 rows es he
     have hb:k'*es+m.length≤rows.flatten.length:=by
      have:(k'+1)*es≤rows.length*es:=ZL _ hc.2
      rw[XS]at this;omega
     have hset:=Ou rows k' es m he hc.1 hc.2
     rw[← Hk hb]at hset
     obtain⟨us',h4,h5,h5',h6,h7⟩:=Vo ps qs (rows.set k' m) _ rows' (fun c hc'=>by
      rcases List.mem_or_eq_of_mem_set hc' with hc'|rfl
      ·exact he c hc'
      ·exact hc.1) (by rw[hset];exact h.splice hv2 hb) (by rw[hset];exact Om hl hml hb) h1 h2 h3
     refine⟨us',?_,h5,by simpa using h5',h6,h7⟩
     rw[Instr.fill]
     simp only[hv1,YV]
     rw[if_neg (by simp;omega),Ol (k'*es) vs us (by omega)]
     exact h4
    ·simp at h3
   ·simp at h3
theorem replicate_zero {ez:List Value}(hp:ez.all plain=true)(n:Nat)(hz:0<ez.length):Af M (List.replicate n (Co ez)).flatten ((Array.range (n*ez.length)).map (ez.toArray[· % ez.length]!)).toList:=by
 have hlen:∀ c∈List.replicate n (Co ez),c.length=ez.length:=fun c hc=>by rw[List.eq_of_mem_replicate hc];simp[Co]
 refine Bc.2 ⟨by rw[E0 _ _ hlen];simp,fun j x u hx hu=> ?_⟩
 have hj:j<n*ez.length:=by simpa using (QC.1 hu).1
 obtain⟨h1,h2,h3⟩:=Rc hj
 have hg:=Gp _ _ hlen (j / ez.length) (j % ez.length) (Co ez) (.p (.v (ez[j % ez.length]'h2))) (by simp[h1]) (by simp[Co,h2])
 rw[h3,hx]at hg
 simp only[QB]at hg;subst hg
 simp[hj,h2]at hu;subst hu
 exact Bb (ZA.1 hp _ (XU _))
theorem Qx (ez:List Value)(n:Nat):(List.replicate n (Co ez)).flatten.all leaf=true:=by
 refine ZA.2 fun x hx=> ?_
 obtain⟨c,hc,hx⟩:=List.mem_flatten.1 hx
 rw[List.eq_of_mem_replicate hc]at hx
 exact ZA.1 (Fy ez) x hx
theorem Ad9:2 ^ 24≤maxLen:=by unfold maxLen;omega
theorem Ov {T:TypeId}{n:Nat}{ps:Array (Nat×Operand)}{fr:List AV}{E es eb tk:Nat}{ez:List Value}{ls:List (List AV)}(hop:o.op= .buildSlice T n ps)(hM:Al M σ)(hF:Cx M a fr)(hC:C.ok P)(hk:C.kind T=some (.slice E es eb ez))(htk:tk=σ.length)
 (hn:n*es≤2 ^ 24) (h:Qu es (List.replicate n (Co ez)) (ps.toList.map fun q=>(q.1,evA fr q.2))=some ls):
 (∀ pls,I2 ls=some pls→Does P o a M σ (.own tk es pls) (σ.put tk (.right E (n*es))))∧Does P o a M σ (.ms tk es 0 n) (σ.put tk (.row es ls)):=by
 obtain⟨d,hd,rfl,ii,z,hii,hs,hb,hz,hzc,hp,hel,he0⟩:=As hC hk
 have hrep:=replicate_zero (M:=M) hp n (by omega)
 rw[hel]at hrep
 obtain⟨us',h1,h2,h2',h3,h4⟩:=Vo (M:=M) _ (ps.toList.map fun q=>(q.1,a.eval q.2)) _ _ ls (fun c hc=>by rw[List.eq_of_mem_replicate hc];simp[Co,hel]) hrep (Qx ez n) (by simp) (by
  refine Bc.2 ⟨by simp,fun j x u hx hu=> ?_⟩
  simp only[XV,QR,QQ]at hx hu
  obtain⟨q,hq,rfl⟩:=hx
  obtain⟨q',hq',rfl⟩:=hu
  rw[hq]at hq';simp at hq';subst hq'
  exact hF.ev q.2) h
 simp only[XC]at h2'
 have hzz:z.cells=ez.toArray:=by simp[← hzc]
 have hr0:Array.range 0= #[]:=rfl
 have hrun:(execOp a.eval o).run P M.w= .ok (.value (.slice (some ⟨M.w.heap.size,0,none⟩) n n)) (M.w.alloc (.cells us'.toArray E)):=by
  have:(Instr.buildSlice T n (ps.map fun q=>(q.1,a.eval q.2))).run P M.w= .ok (.slice (some ⟨M.w.heap.size,0,none⟩) n n) (M.w.alloc (.cells us'.toArray E)):=by
   by_cases h0:n*es=0
   ·have hn0:n=0:=by rcases Nat.mul_eq_zero.1 h0 with h|h<;>omega
    subst hn0
    have hf:Instr.fill (fun i=>some (i*ii.size,ii.size)) #[] (ps.map fun q=>(q.1,a.eval q.2)).toList=some us'.toArray:=by
     rw[← h1,WP,hs];simp
    rw[WP]at hf
    simp[Instr.buildSlice,run_underlying hd,sizeOf,typeInfo,hii,hf,newRow,hr0]
   ·refine run_buildSlice M.w T E n _ us'.toArray ii z hd hii hz (by rw[hs];omega) (by rw[hs];exact h0) ?_
    rw[← h1,WP,hs,hzz,ZV]
    simp only[YV,hel]
  unfold execOp
  simp only[hop,Sem.run_bind,this,Result.andThen_ok]
  rfl
 have hfl:=E0 ls es h2
 rw[h2']at hfl
 have hul:=h3.len
 have hrow:Cr M us'.toArray es ls:=fun i c hc=>⟨h2 c (QG hc),fun q x hx=>by
  have hg:=Gp ls es h2 i q c x hc hx
  obtain⟨u,h5,h6⟩:=h3.get hg
  exact⟨ZA.1 h4 x (QG hg),u,by simpa using h5,h6⟩⟩
 constructor
 ·intro pls hpls
  obtain⟨M',h5,h6,h6',h7,h8,h9,h10⟩:=hM.right us'.toArray E (n*es) (.right E (n*es)) (.inl rfl) (σ.put tk (.right E (n*es))) (.inl ⟨htk,rfl⟩)
  obtain⟨hpl,hpg⟩:=J1 hpls
  refine⟨_,M',.inl (by rw[h5];exact hrun),h9,h10,?_⟩
  simp only[Ag]
  refine⟨_,n,_,by rw[hpl,h2'],by omega,?_,Br.of_block (by rw[h5];exact heap_alloc_new _ _) (fun o ho=>(h8 o).2 (by rw[hpl,h2']at ho;exact ho)) (fun i c hc=> ?_),h6',by rw[hpl,h2'];exact QH _,fun _=>⟨h6,by rw[h7];simp;omega⟩⟩
  ·have h11:=Ad9
   have:n*1≤n*es:=Nat.mul_le_mul_left _ he0
   omega
  ·obtain⟨y,hy,hyc⟩:=hpg i c hc
   obtain⟨hcl,hcg⟩:=J0 hyc
   refine⟨by rw[hcl];exact h2 y (QG hy),fun q x hx=> ?_⟩
   obtain⟨y',hy',hx'⟩:=hcg q x hx
   obtain⟨_,u,h12,h13⟩:=(hrow i y hy).2 q y' hy'
   exact⟨u,h12,Ca.later h9.imm h9.cell _ _ (Hm hx' h13)⟩
 ·obtain⟨M',h5,h6,h6',hct,h7,h8⟩:=hM.row htk us' E es ls hrow
  refine⟨_,M',.inl (by rw[h5];exact hrun),h7,h8,?_⟩
  simp only[Ag]
  refine⟨_,n,h6,h6',by simp,QH _,?_⟩
  rw[hct,hul,hfl];simp
theorem Ow {b eb n:Nat}(h:Adt b eb)(hn:eb*n≤140737488355328):b*n≤281474976710656:=by
 rcases h with rfl|⟨h,_⟩
 ·omega
 ·have h1:2*b*n≤3*eb*n:=ZL _ h
  rw[Nat.mul_assoc,Nat.mul_assoc]at h1
  omega
theorem Qy {T:TypeId}{l c:Operand}{fr:List AV}{E es eb tk:Nat}{ez:List Value}{k k':IntKind}{n m:Int}(hop:o.op= .makeSlice T l c)(hM:Al M σ)(hF:Cx M a fr)(hC:C.ok P)(hk:C.kind T=some (.slice E es eb ez))(htk:tk=σ.length)
 (hl:Hi (evA fr l)=some (k,n)) (hc:Hi (evA fr c)=some (k',m)) (hnm:n=m) (hn:0≤n) (hb:eb*n≤140737488355328) (hx:n≤maxLen):
 Does P o a M σ (.own tk es (List.replicate n.toNat (ez.map .v))) (σ.put tk (.right E (n.toNat*es))):=by
 subst hnm
 obtain⟨d,hd,rfl,ii,z,hii,hs,hbb,hz,hzc,hp,hel,he0⟩:=As hC hk
 obtain⟨n,rfl⟩:∃ q:Nat,n=q:=⟨n.toNat,by omega⟩
 have hv:=hF.ev l
 rw[Dp hl]at hv
 have e1:=Bi hv
 have hv:=hF.ev c
 rw[Dp hc]at hv
 have e2:=Bi hv
 have hzz:z.cells=ez.toArray:=by simp[← hzc]
 have hr0:Array.range 0= #[]:=rfl
 have hw:IntKind.i64.wrap (n:Int)=n:=by
  have:(n:Int)≤maxLen:=hx
  unfold maxLen at this
  exact IntWalk.i64_in _ (by omega)
 let cur:Array Value:=(Array.range (n*es)).map (ez.toArray[· % es]!)
 have hrun:(execOp a.eval o).run P M.w= .ok (.value (.slice (some ⟨M.w.heap.size,0,none⟩) n n)) (M.w.alloc (.cells cur E)):=by
  have hbig:¬ ((ii.bytes:Int)*(n:Int)>2 ^ 48):=by
   have h2:=Ow hbb (show eb*n≤140737488355328 by omega)
   omega
  have h0:¬ ((n:Int)<0):=by omega
  have:(Instr.makeSlice T (.int k n) (.int k' n)).run P M.w= .ok (.slice (some ⟨M.w.heap.size,0,none⟩) n n) (M.w.alloc (.cells cur E)):=by
   simp[Instr.makeSlice,run_underlying hd,asInt,asIntOf,typeInfo,hii,hw,sizeOf,hs,zeroValue,hz,newRow,hzz,hel]
   by_cases h1:n*es=0
   ·rw[if_neg (by omega)]
    simp[h1,cur,hr0]
   ·rw[if_neg (by omega)]
    simp[h1,cur]
  unfold execOp
  simp only[hop,e1,e2,Sem.run_bind,this,Result.andThen_ok]
  rfl
 obtain⟨M',h5,h6,h6',h7,h8,h9,h10⟩:=hM.right (t:=tk) cur E (n*es) (.right E (n*es)) (.inl rfl) (σ.put tk (.right E (n*es))) (.inl ⟨htk,rfl⟩)
 refine⟨_,M',.inl (by rw[h5];exact hrun),h9,h10,?_⟩
 simp only[Ag,XC,ZZ]
 refine⟨_,n,_,rfl,QH _,by omega,Br.of_block (by rw[h5];exact heap_alloc_new _ _) (fun o ho=>(h8 o).2 (by simpa using ho)) (fun i c hc=> ?_),h6',QH _,fun _=>⟨h6,by rw[h7];simp[cur]⟩⟩
 have hi:i<n:=by simpa using (QC.1 hc).1
 simp[hi]at hc;subst hc
 refine⟨by simp[hel],fun q x hx=> ?_⟩
 have hq:q<ez.length:=by simpa using (QC.1 hx).1
 simp[hq]at hx;subst hx
 have hj:i*es+q<n*es:=by
  have:(i+1)*es≤n*es:=ZL _ hi
  rw[XS]at this;omega
 refine⟨ez[q],?_,by simp only[Ca];exact⟨ZA.1 hp _ (XU _),trivial⟩⟩
 have hmod:(i*es+q) % es=q:=by rw[XL,Nat.mul_add_mod,YL (by omega)]
 simp[cur,hj,hmod,hq]
theorem Aea {T:TypeId}{l c:Operand}{fr:List AV}{tk:Nat}(hop:o.op= .makeSlice T l c)(hM:Al M σ)(hF:Cx M a fr)(hC:C.ok P)(htk:tk=σ.length)
 (h:Su C true tk T l c (evA fr) σ=some (r,σ')):Does P o a M σ r σ':=by
 unfold Su at h
 split at h
 case h_2=>simp at h
 rename_i E es eb ez k n k' m _ hk hl hc
 split at h
 case isFalse=>simp at h
 rename_i hh
 obtain⟨hnm,hn,hb,hx⟩:=hh
 simp only[QB,QJ]at h
 obtain⟨rfl,rfl⟩:=h
 subst hnm
 obtain⟨d,hd,rfl,ii,z,hii,hs,hbb,hz,hzc,hp,hel,he0⟩:=As hC hk
 obtain⟨n,rfl⟩:∃ q:Nat,n=q:=⟨n.toNat,by omega⟩
 have hv:=hF.ev l
 rw[Dp hl]at hv
 have e1:=Bi hv
 have hv:=hF.ev c
 rw[Dp hc]at hv
 have e2:=Bi hv
 have hzz:z.cells=ez.toArray:=by simp[← hzc]
 have hr0:Array.range 0= #[]:=rfl
 have hw:IntKind.i64.wrap (n:Int)=n:=by
  have:(n:Int)≤maxLen:=hx
  unfold maxLen at this
  exact IntWalk.i64_in _ (by omega)
 let cur:Array Value:=(Array.range (n*es)).map (ez.toArray[· % es]!)
 have hrun:(execOp a.eval o).run P M.w= .ok (.value (.slice (some ⟨M.w.heap.size,0,none⟩) n n)) (M.w.alloc (.cells cur E)):=by
  have hbig:¬ ((ii.bytes:Int)*(n:Int)>2 ^ 48):=by
   have h2:=Ow hbb (show eb*n≤140737488355328 by omega)
   omega
  have h0:¬ ((n:Int)<0):=by omega
  have:(Instr.makeSlice T (.int k n) (.int k' n)).run P M.w= .ok (.slice (some ⟨M.w.heap.size,0,none⟩) n n) (M.w.alloc (.cells cur E)):=by
   simp[Instr.makeSlice,run_underlying hd,asInt,asIntOf,typeInfo,hii,hw,sizeOf,hs,zeroValue,hz,newRow,hzz,hel]
   by_cases h1:n*es=0
   ·rw[if_neg (by omega)]
    simp[h1,cur,hr0]
   ·rw[if_neg (by omega)]
    simp[h1,cur]
  unfold execOp
  simp only[hop,e1,e2,Sem.run_bind,this,Result.andThen_ok]
  rfl
 have hrow:Cr M cur es (List.replicate n (Co ez)):=fun i c hc=>by
  have hi:i<n:=by simpa using (QC.1 hc).1
  simp[hi]at hc;subst hc
  refine⟨by simp[Co,hel],fun q x hx=> ?_⟩
  have hq:q<ez.length:=by simpa [Co]using (QC.1 hx).1
  simp[Co,hq]at hx;subst hx
  have hj:i*es+q<n*es:=by
   have:(i+1)*es≤n*es:=ZL _ hi
   rw[XS]at this;omega
  refine⟨rfl,ez[q],?_,by simp only[Ag,Ca];exact⟨ZA.1 hp _ (XU _),trivial⟩⟩
  have hmod:(i*es+q) % es=q:=by rw[XL,Nat.mul_add_mod,YL (by omega)]
  simp[cur,hj,hmod,hq]
 obtain⟨M',h5,h6,h6',hct,h7,h8⟩:=hM.row htk cur.toList E es _ (by simpa using hrow)
 refine⟨_,M',.inl (by rw[h5];simpa using hrun),h7,h8,?_⟩
 simp only[Ag,ZZ]
 exact⟨_,n,h6,h6',by simp,QH _,by rw[hct];simp[cur]⟩
end
