/- That a world that bears the abstract machine's state does what the abstract machine does: append; and all operations together. -/
import Derived.Test.YtpoigihfeehehaaGreatDoorM05
import Derived.Deep.AppendSrc
import Derived.Deep.DeepAppendWide
import Derived.Lib.AppendZerosOnto
set_option linter.all false
set_option maxRecDepth 100000
set_option maxHeartbeats 32000000
namespace Go.Proofs.YtpoigihfeehehaaGreatDoor
open Go.RowKit
section
variable {P:Program} {C:Ctx} {o:Oper} {a:Act} {M:Az} {σ σ':St} {r:AV}
theorem St.at_forget {σ:St}{t s:Nat}{ob:Ob}(h:St.at (σ.set t none) s ob):s≠t∧σ.at s ob:=by
 unfold St.at at*
 rw[QW]at h
 split at h
 ·rename_i e;subst e
  split at h<;>simp at h
 ·rename_i hne;exact⟨fun e=>hne e.symm,h⟩
theorem Al.forget (h:Al M σ)(t:Nat):Al M (σ.set t none):=
 ⟨fun s ob hs=>h.obj s ob (St.at_forget hs).2,fun s s' ob ob' b hs hs'=>h.inj s s' ob ob' b (St.at_forget hs).2 (St.at_forget hs').2,fun s hs=>h.fresh s (by simpa using hs),h.lt,h.imm,fun x hx=>by
  obtain⟨cs,T,h1,h2,h3⟩:=h.glob x hx
  exact⟨cs,T,h1,h2,fun s ob hs=>h3 s ob (St.at_forget hs).2⟩⟩
theorem Ext.forget (M:Az)(σ:St)(t:Nat):Ext M σ M (σ.set t none):=
 { Ext.refl M σ with new:=fun s ob b h1 h2=>.inr ⟨s,ob,(St.at_forget h1).2,h2⟩ }
theorem St.at_set {σ:St}{t s:Nat}{ob ob' ob0:Ob}(h0:σ.at t ob0)(h:St.at (σ.set t (some ob)) s ob'):(s=t∧ob'=ob)∨(s≠t∧σ.at s ob'):=by
 unfold St.at at*
 rw[QW]at h
 split at h
 ·rename_i e;subst e;simp[(QC.1 h0).1]at h;exact .inl ⟨rfl,h.symm⟩
 ·rename_i hne;exact .inr ⟨fun e=>hne e.symm,h⟩
theorem Al.regrow (h:Al M σ){t b n n':Nat}{E:TypeId}{ob0 ob:Ob}{w':World}{cur cur':Array Value}(ht:σ.at t ob0)(hlen:M.len t=some n)(ho:G8 M t b E n)(hob:ob= .right E n'∨(ob= .nright E n'∧0<n'))(hn:n≤n')
 (hh:M.w.heap[b]? =some (.cells cur E (0,0))) (hh':w'.heap[b]? =some (.cells cur' E (0,0))) (hsz:cur'.size=cur.size) (hold:∀ q,q<n→cur'[q]? =cur[q]?)
 (hoth:∀ k,k≠b→w'.heap[k]? =M.w.heap[k]?) (hhs:w'.heap.size=M.w.heap.size) (hos:w'.os=M.w.os) (hta:w'.tape=M.w.tape) (hou:w'.output=M.w.output):
 ∃ M',M'.w=w'∧M'.mu t=some b∧M'.len t=some n'∧M'.cap t=cur.size∧(∀ o,M'.I b o↔o<n')∧Ext M σ M' (σ.set t (some ob))∧Al M' (σ.set t (some ob)):=by
 obtain⟨cur0,hb,hh0,hcap,hI⟩:=ho
 rw[hh]at hh0
 simp only[QB,Obj.cells.injEq,and_true]at hh0
 obtain rfl:=hh0
 let M':Az:={ w:=w',I:=fun k o=>M.I k o∨(k=b∧o<n'),mu:=M.mu,len:=fun s=>if s=t then some n' else M.len s,cap:=M.cap }
 have hcell:∀ k q,M.I k q→M'.w.cell? ⟨k,q,none⟩=M.w.cell? ⟨k,q,none⟩:=fun k q hk=>by
  by_cases e:k=b
  ·subst e
   show w'.cell? _=_
   rw[cell_of_row _ _ _ _ _ _ hh',cell_of_row _ _ _ _ _ _ hh]
   exact hold q ((hI q).1 hk)
  ·exact World.cell?_of_block (hoth k e)
 have hlt:M'.len t=some n':=by simp[M']
 have hls:∀ s,s≠t→M'.len s=M.len s:=fun s hs=>by simp[M',hs]
 have hL:Later M M':=⟨fun s c hs h0=>⟨hs,by rw[hls s (fun e=>by subst e;rw[hlen]at h0;simp at h0)];exact h0,rfl⟩,fun s k hs=>by
  by_cases e:s=t
  ·subst e;rw[hlen]at hs;simp at hs;subst hs
   exact⟨n',hlt,hn,fun _=>⟨rfl,rfl⟩⟩
  ·rw[hls s e];exact⟨k,hs,QH _,fun _=>⟨rfl,rfl⟩⟩,fun _ _ h=>.inl h,hcell⟩
 have hIn:∀ o,M'.I b o↔o<n':=fun o=>by
  simp only[M',true_and]
  refine⟨fun h'=> ?_,.inr⟩
  rcases h' with h'|h'
  ·have:=(hI o).1 h';omega
  ·exact h'
 have hIo:∀ k o,k≠b→M'.I k o→M.I k o:=fun k o hk ho=>by
  rcases ho with ho|ho
  ·exact ho
  ·exact (hk ho.1).elim
 have hat:∀ s ob',St.at (σ.set t (some ob)) s ob'→(s=t∧ob'=ob)∨(s≠t∧σ.at s ob'):=fun s ob' hs=>St.at_set ht hs
 have hown:G8 M' t b E n':=⟨cur',hb,hh',by show cur'.size=M.cap t;rw[hsz];exact hcap,hIn⟩
 have hE:Ext M σ M' (σ.set t (some ob)):=by
  refine⟨hL.mu,hL.own,hL.imm,hcell,fun k hk hno=> ?_,fun s ob' k hs hk=> ?_,by simp[M',hhs],hos,hta,hou⟩
  ·have hne:k≠b:=fun e=>hno t _ ht (e▸hb)
   exact⟨hoth k hne,fun o=>hIo k o hne⟩
  ·rcases hat s ob' hs with⟨rfl,rfl⟩|⟨h1,h2⟩
   ·exact .inr ⟨s,_,ht,hk⟩
   ·exact .inr ⟨s,ob',h2,hk⟩
 refine⟨M',rfl,hb,hlt,hcap.symm,hIn,hE,?_⟩
 ·refine⟨fun s ob' hs=> ?_,fun s s' ob1 ob2 k hs hs' hk hk'=> ?_,fun s hs=> ?_,fun s c hs=> ?_,fun k q hq=> ?_,h.glob.ext hE⟩
  ·rcases hat s ob' hs with⟨rfl,rfl⟩|⟨h1,h2⟩
   ·rcases hob with rfl|⟨rfl,h0⟩
    ·exact⟨hlt,b,hown⟩
    ·exact⟨hlt,.inr ⟨h0,b,hown⟩⟩
   ·refine (h.obj s ob' h2).later hL rfl (hls s h1) rfl fun k hk=> ?_
    have hne:k≠b:=fun e=>h1 (h.inj s t _ _ k h2 ht hk (e▸hb))
    exact⟨hoth k hne,fun o=>hIo k o hne⟩
  ·rcases hat s ob1 hs with⟨rfl,rfl⟩|⟨h1,h2⟩<;>rcases hat s' ob2 hs' with⟨rfl,rfl⟩|⟨h3,h4⟩
   ·rfl
   ·exact h.inj _ _ _ _ k ht h4 hk hk'
   ·exact h.inj _ _ _ _ k h2 ht hk hk'
   ·exact h.inj _ _ _ _ k h2 h4 hk hk'
  ·have htl:=(QC.1 ht).1
   simp at hs
   rw[hls s (by omega)];exact h.fresh s hs
  ·show c<w'.heap.size
   rw[hhs];exact h.lt s c hs
  ·show k<w'.heap.size
   rw[hhs]
   rcases hq with hq|hq
   ·exact h.imm k q hq
   ·rw[hq.1];exact h.lt t b hb
theorem Apg {e:Nat}{y:AV}{u:Value}{ms:List (List PV)}(h:Ey e y=some ms)(hy:Ag M y u):
 (ms=[]∧∃ ao cap,u= .slice ao 0 cap)∨∃ b off cap,u= .slice (some ⟨b,off,none⟩) ms.length cap∧Br M.w M.I b off e ms:=by
 unfold Ey at h
 split at h
 ·simp at h;exact .inl ⟨h,_,_,(Cf hy).2⟩
 ·simp at h;exact .inl ⟨h,_,_,(Cf hy).2⟩
 ·split at h
  ·rename_i he;subst he
   simp at h;subst h
   simp only[Ag,Ca]at hy
   obtain⟨h0,ad,cap,h1,_⟩|⟨b,off,cap,h1,_,h2⟩:=hy
   ·exact .inl ⟨h0,_,_,h1⟩
   ·exact .inr ⟨b,off,cap,h1,h2⟩
  ·simp at h
 ·split at h
  ·rename_i he;subst he
   simp at h;subst h
   simp only[Ag]at hy
   obtain⟨b,cap,n,h1,_,_,h2,_⟩:=hy
   exact .inr ⟨b,0,cap,h1,h2⟩
  ·simp at h
 ·split at h
  ·rename_i he;subst he
   simp at h;subst h
   simp only[Ag]at hy
   obtain⟨n,_,_,⟨rfl,h1⟩|⟨_,b,cap,h1,_,_,h2,_⟩⟩:=hy
   ·exact .inl ⟨rfl,_,_,h1⟩
   ·exact .inr ⟨b,0,cap,h1,h2⟩
  ·simp at h
 ·simp at h
def SrcV (P:Program)(M:Az)(es:Nat)(tx:TypeId)(u:Value)(ms:List (List PV)):Prop:=
 ∃ vs,Src P es tx u ms.length vs M.w∧∀ (i:Nat) (c:List PV),ms[i]? =some c→c.length=es∧∀ (q:Nat) (x:PV),c[q]? =some x→∃ v,vs[i*es+q]? =some v∧Ca M.w M.I x v
theorem Afr {es:Nat}{tx e':TypeId}{u:Value}(hk:P.underlying tx=some (.slice e'))(h:∃ ao cap,u= .slice ao 0 cap):SrcV P M es tx u []:=by
 obtain⟨ao,cap,rfl⟩:=h
 refine⟨[],?_,fun i c hc=>by simp at hc⟩
 cases ao with
 |none=>exact Src.ofNil M.w hk cap
 |some ad=>exact Src.ofSlice M.w hk ad 0 cap [] (by simp) (fun j u hj=>by simp at hj) (fun u hu=>by cases hu)
theorem Afs {es:Nat}{tx e':TypeId}{u:Value}{ms:List (List PV)}(hk:P.underlying tx=some (.slice e'))(h:∃ b off cap,u= .slice (some ⟨b,off,none⟩) ms.length cap∧Br M.w M.I b off es ms):SrcV P M es tx u ms:=by
 obtain⟨b,off,cap,rfl,hr⟩:=h
 obtain⟨us,hu1,hu2,hu3,hu4⟩:=hr.flat
 exact⟨us,Src.ofSlice M.w hk _ _ cap us hu1 (fun j u hj=>by rw[Addr.add_mid];exact hu2 j u hj) hu3,fun i c hc=>⟨(hr.get hc).1,fun q x hx=>hu4 i q c x hc hx⟩⟩
theorem Aft {tx:TypeId}(hk:P.underlying tx=some .string)(s:ByteArray):SrcV P M 1 tx (.string s) (G9 s):=by
 have hl:(G9 s).length=s.size:=by unfold G9;rw[QL,YK];rfl
 refine⟨byteCells s,by rw[hl];exact Src.ofString M.w hk s,fun i c hc=> ?_⟩
 unfold G9 at hc
 rw[QR]at hc
 cases hb:s.data.toList[i]? with
 |none=>rw[hb]at hc;simp at hc
 |some b=>
  rw[hb]at hc;simp only[XR,QB]at hc;subst hc
  refine⟨rfl,fun q x hx=> ?_⟩
  have hq:q=0:=by
   have:=(QC.1 hx).1
   simp at this;exact this
  subst hq
  simp only[YT,QB]at hx
  subst hx
  refine⟨.int .u8 b.toNat,?_,by simp only[Ca];exact⟨rfl,trivial⟩⟩
  unfold byteCells
  rw[QR,XK,XD,hb];rfl
theorem Ta {t e2 i o n e':Nat}{u:Value}{ls:List (List AV)}{c:List AV}(hM:Al M σ)(hy:Ag M (.bs t e2 i o n) u)(hσ:σ[t]? =some (some (.row e' ls)))(he:e'=e2)(hc:ls[i]? =some c)(ho:o+n≤c.length):
 ∃ b off cap vs,u= .slice (some ⟨b,off,none⟩) n cap∧vs.length=n∧Af M ((c.drop o).take n) vs∧((c.drop o).take n).all leaf=true∧∀ (j:Nat) (v:Value),vs[j]? =some v→M.w.cell? ⟨b,off+j,none⟩=some v:=by
 subst he
 simp only[Ag]at hy
 obtain⟨b,cap,hb,_,rfl,hn⟩:=hy
 obtain⟨_,b',cur,T',hb',hh,hI,hr,_⟩:=hM.obj t _ hσ
 have:b'=b:=by rw[hb]at hb';simpa using hb'.symm
 subst this
 obtain⟨us,h1,h2,h3⟩:=Ez hh hr hc
 refine⟨b',i*e'+o,cap,(us.drop o).take n,rfl,by have:=h1.len;simp;omega,(h1.drop o).take n,ZA.2 fun x hx=>ZA.1 h2 x (ZX (ZM hx)),fun j v hj=> ?_⟩
 rw[QT]at hj
 split at hj
 ·rw[ZK]at hj
  have:=h3 _ v hj
  rw[ZY];exact this
 ·simp at hj
theorem Ars {e:Nat}{tx e':TypeId}{y:AV}{u:Value}{ms:List (List PV)}(hk:P.underlying tx=some (.slice e'))(h:Ey e y=some ms)(hy:Ag M y u):SrcV P M e tx u ms:=by
 rcases Apg h hy with⟨rfl,h1⟩|h1
 ·exact Afr hk h1
 ·exact Afs hk h1
theorem Gq {cur:Array Value}{e:Nat}{ls:List (List AV)}(h:Cr M cur e ls)(i n:Nat)(hf:i+n≤ls.length)(he:0<e)(hsz:i*e+n*e≤cur.size):
 ((cur.toList.drop (i*e)).take (n*e)).length=n*e∧(∀ j u,((cur.toList.drop (i*e)).take (n*e))[j]? =some u→cur[i*e+j]? =some u)∧(∀ u∈(cur.toList.drop (i*e)).take (n*e),u.oneCell'=true)∧Cr M ((cur.toList.drop (i*e)).take (n*e)).toArray e ((ls.drop i).take n):=by
 have hg:∀ j u,((cur.toList.drop (i*e)).take (n*e))[j]? =some u→j<n*e∧cur[i*e+j]? =some u:=fun j u hj=>by
  rw[QT]at hj
  split at hj
  ·rename_i hlt
   rw[ZK]at hj
   exact⟨hlt,by simpa using hj⟩
  ·simp at hj
 refine⟨by simp;omega,fun j u hj=>(hg j u hj).2,fun u hu=> ?_,fun k c hc=> ?_⟩
 ·obtain⟨j,hj⟩:=YP.1 hu
  obtain⟨h1,h2⟩:=hg j u hj
  have hjd:j / e<n:=by rw[Nat.div_lt_iff_lt_mul he];exact h1
  have hlt:i+j / e<ls.length:=by omega
  obtain⟨h3,h4⟩:=h (i+j / e) ls[i+j / e] (QN hlt)
  have hq:j % e<ls[i+j / e].length:=by rw[h3];exact WW _ he
  obtain⟨h5,v,h6,h7⟩:=h4 (j % e) _ (QN hq)
  have:(i+j / e)*e+j % e=i*e+j:=by
   rw[YY,ZY];congr 1;rw[XL];exact Nat.div_add_mod j e
  rw[this,h2]at h6
  simp only[QB]at h6;subst h6
  exact Ag.one h5 h7
 ·rw[QT]at hc
  split at hc
  ·rename_i hkn
   rw[ZK]at hc
   obtain⟨h1,h2⟩:=h _ c hc
   refine⟨h1,fun q x hx=> ?_⟩
   obtain⟨h3,v,h4,h5⟩:=h2 q x hx
   refine⟨h3,v,?_,h5⟩
   have hq:q<e:=by rw[← h1];exact (QC.1 hx).1
   have hlt:k*e+q<n*e:=by
    have:(k+1)*e≤n*e:=ZL _ hkn
    rw[XS]at this;omega
   rw[YD,QT,if_pos hlt,ZK]
   rw[YY,ZY]at h4
   simpa using h4
  ·simp at hc
theorem Axu {e:Nat}{tx e':TypeId}{y:AV}{u:Value}{ms:List (List PV)}(hM:Al M σ)(he:0<e)(hk:P.underlying tx=some (.slice e'))(h:Lx σ e y=some ms)(hy:Ag M y u):SrcV P M e tx u ms:=by
 unfold Lx at h
 split at h
 ·rename_i t e2 i o n
  split at h
  case isFalse=>simp at h
  rename_i he1;subst he1
  split at h
  case h_2=>simp at h
  rename_i e3 ls hσ
  split at h
  case isFalse=>simp at h
  rename_i he
  split at h
  case h_2=>simp at h
  rename_i c hc
  split at h
  case isFalse=>simp at h
  rename_i ho
  simp only[QQ]at h
  obtain⟨l,hl,rfl⟩:=h
  obtain⟨b,off,cap,vs,rfl,h1,h2,h3,h4⟩:=Ta hM hy hσ he hc ho
  obtain⟨k1,k2⟩:=J0 hl
  have hll:l.length=n:=by rw[k1];simp;omega
  refine⟨vs,?_,fun j c' hc'=> ?_⟩
  ·rw[show (l.map fun x=>[x]).length=n by simpa using hll]
   exact Src.ofSlice M.w hk _ n cap vs (by rw[h1,XK]) (fun j v hj=>by rw[Addr.add_mid];exact h4 j v hj) (h2.ones h3)
  ·rw[QR,QQ]at hc'
   obtain⟨x,hx,rfl⟩:=hc'
   refine⟨rfl,fun q x' hq=> ?_⟩
   have hq0:q=0:=by
    have:=(QC.1 hq).1
    simp at this;exact this
   subst hq0
   simp only[YT,QB]at hq
   subst hq
   obtain⟨y,g1,g2⟩:=k2 j x hx
   obtain⟨v,g3,g4⟩:=h2.get g1
   exact⟨v,by simpa using g3,Hm g2 g4⟩
 ·rename_i t e1 i n
  split at h
  case h_2=>simp at h
  rename_i e2 ls hσ
  split at h
  case isFalse=>simp at h
  rename_i hc
  obtain⟨rfl,rfl,hin⟩:=hc
  obtain⟨_,b,cur,T,hb,hh,hI,hr,hcs⟩:=hM.obj t _ hσ
  simp only[Ag]at hy
  obtain⟨b',cap,hb',_,rfl,hn,hf⟩:=hy
  have:b'=b:=by rw[hb]at hb';simpa using hb'.symm
  subst this
  rw[← hcs]at hf
  have hne:=ZL e2 hn
  obtain⟨g1,g2,g3,g4⟩:=Gq hr i n hin he (by omega)
  obtain⟨k1,k2⟩:=J1 h
  have hl:ms.length=n:=by rw[k1];simp;omega
  refine⟨(cur.toList.drop (i*e2)).take (n*e2),?_,fun j c hc=> ?_⟩
  ·rw[hl]
   exact Src.ofSlice M.w hk _ n cap _ g1 (fun j v hj=>by rw[Addr.add_mid,cell_of_row _ _ _ _ _ _ hh];exact g2 j v hj) g3
  ·obtain⟨y,g5,g6⟩:=k2 j c hc
   obtain⟨k3,k4⟩:=J0 g6
   obtain⟨g7,g8⟩:=g4 j y g5
   refine⟨by rw[k3];exact g7,fun q x hx=> ?_⟩
   obtain⟨z,g9,g10⟩:=k4 q x hx
   obtain⟨_,v,g11,g12⟩:=g8 q z g9
   rw[YD]at g11
   exact⟨v,g11,Hm g10 g12⟩
 ·exact Ars hk h hy
theorem Vp {T tx ty E:TypeId}{i:TypeInfo}(w:World)(ht:P.underlying T=some (.slice E))(hi:P.info? E=some i)(g sLen sCap:Nat)(cur:Array Value)(hg:w.heap[g]? =some (.cells cur E (0,0)))
 (x:Value) (n:Nat) (news:List Value) (hs:Src P i.size tx x n news w) (hroom:sLen+n≤sCap) (hfit:sLen*i.size+news.length≤cur.size):
 (Builtin.append_ #[T,tx] ty #[.slice (some ⟨g,0,none⟩) sLen sCap,x]).run P w=
  .ok (.slice (some ⟨g,0,none⟩) (sLen+n) sCap) (w.setRow g (cur.toList.take (sLen*i.size)++news++cur.toList.drop (sLen*i.size+news.length)).toArray):=by
 have hst:=run_storeCells_at P g (sLen*i.size) E news 0 cur w hg (by simpa using hfit) hs.one
 simp only[XD]at hst
 rcases hs.kind with⟨e',hk⟩|hk<;>simp[Builtin.append_,run_underlying ht,run_underlying hk,sizeOf,typeInfo,hi,hs.len,hroom,hs.cells,Addr.add_lit,hst]
theorem Aph {ls ms:List (List PV)}{es:Nat}{us vs:List Value}{w:World}{I:Nat→Nat→Prop}(hul:us.length=ls.length*es)
 (h1:∀ (i:Nat) (c:List PV),ls[i]? =some c→c.length=es∧∀ (q:Nat) (x:PV),c[q]? =some x→∃ u,us[i*es+q]? =some u∧Ca w I x u)
 (h2:∀ (i:Nat) (c:List PV),ms[i]? =some c→c.length=es∧∀ (q:Nat) (x:PV),c[q]? =some x→∃ u,vs[i*es+q]? =some u∧Ca w I x u):
 ∀ (i:Nat) (c:List PV),(ls++ms)[i]? =some c→c.length=es∧∀ (q:Nat) (x:PV),c[q]? =some x→∃ u,(us++vs)[i*es+q]? =some u∧Ca w I x u:=by
 intro i c hc
 rw[YR]at hc
 split at hc
 ·rename_i hi
  obtain⟨h3,h4⟩:=h1 i c hc
  refine⟨h3,fun q x hx=> ?_⟩
  obtain⟨u,h5,h6⟩:=h4 q x hx
  exact⟨u,by rw[QD (QC.1 h5).1];exact h5,h6⟩
 ·rename_i hi
  obtain⟨h3,h4⟩:=h2 _ c hc
  refine⟨h3,fun q x hx=> ?_⟩
  obtain⟨u,h5,h6⟩:=h4 q x hx
  have:i*es+q - us.length=(i - ls.length)*es+q:=by
   have h7:ls.length*es≤i*es:=ZL _ (by omega)
   rw[hul,Nat.sub_mul];omega
  have h8:us.length≤i*es+q:=by
   have h7:ls.length*es≤i*es:=ZL _ (by omega)
   omega
  exact⟨u,by rw[QY h8,this];exact h5,h6⟩
theorem Br.rows {w:World}{I:Nat→Nat→Prop}{b off e:Nat}{ls:List (List PV)}(h:Br w I b off e ls){us:List Value}
 (hg:∀ (i q:Nat) (c:List PV) (x:PV),ls[i]? =some c→c[q]? =some x→∃ u,us[i*e+q]? =some u∧Ca w I x u):
 ∀ (i:Nat) (c:List PV),ls[i]? =some c→c.length=e∧∀ (q:Nat) (x:PV),c[q]? =some x→∃ u,us[i*e+q]? =some u∧Ca w I x u:=
 fun i c hc=>⟨(h.get hc).1,fun q x hx=>hg i q c x hc hx⟩
def OwnV (M:Az)(t e:Nat)(ls:List (List PV))(u:Value):Prop:=∃ b cap,u= .slice (some ⟨b,0,none⟩) ls.length cap∧ls.length≤cap∧cap≤maxLen∧Br M.w M.I b 0 e ls∧M.len t=some (ls.length*e)∧M.mu t=some b∧M.cap t=cap*e
theorem OwnV.own {t e:Nat}{ls:List (List PV)}{u:Value}(h:OwnV M t e ls u):Ag M (.own t e ls) u:=by
 obtain⟨b,cap,h1,h2,h3,h4,h5,h6,h7⟩:=h
 simp only[Ag]
 exact⟨b,cap,_,h1,h2,h3,h4,h5,QH _,fun _=>⟨h6,h7⟩⟩
theorem OwnV.nown {t e:Nat}{ls:List (List PV)}{u:Value}(h:OwnV M t e ls u)(hne:ls≠[]):Ag M (.nown t e ls) u:=by
 obtain⟨b,cap,h1,h2,h3,h4,h5,h6,h7⟩:=h
 simp only[Ag]
 exact⟨_,h5,QH _,.inr ⟨hne,b,cap,h1,h2,h3,h4,fun _=>⟨h6,h7⟩⟩⟩
theorem Fz {b eb n cap:Nat}(h:Adt b eb)(hc:cap<n)(hn:n*eb≤140737488355328):Builtin.nextslicecap n cap*b≤281474976710656:=by
 rcases h with rfl|⟨h,hb⟩
 ·exact growslice_fits hc hn
 ·refine growslice_fits_wide hc ?_
  have a1:n*(2*b)≤n*(3*eb):=Nat.mul_le_mul_left _ h
  rw[Nat.mul_left_comm,Nat.mul_left_comm n 3]at a1
  have a2:4*(n / 4)*b≤n*b:=ZL _ (Nat.mul_div_le n 4)
  rw[Nat.mul_assoc]at a2
  rw[YY,YY]
  omega
theorem Afu (hM:Al M σ){t:Nat}{E:TypeId}{es cap:Nat}{ls:List (List PV)}{us:List Value}{rest:Array Value}{v:Value}{ob:Ob}
 (hg:∀ (i:Nat) (c:List PV),ls[i]? =some c→c.length=es∧∀ (q:Nat) (x:PV),c[q]? =some x→∃ u,us[i*es+q]? =some u∧Ca M.w M.I x u)
 (hcs:(us.toArray++rest).size=cap*es) (hlc:ls.length≤cap) (hcm:cap≤maxLen) (hv:v= .slice (some ⟨M.w.heap.size,0,none⟩) ls.length cap)
 (hob:ob= .right E (ls.length*es)∨(ob= .nright E (ls.length*es)∧0<ls.length*es))
 (hold:(t=σ.length∧σ'=σ.put t ob)∨(∃ m ob0,σ.at t ob0∧M.len t=some m∧m<ls.length*es∧σ'=σ.set t (some ob))):
 ∃ M',M'.w=M.w.drew.alloc (.cells (us.toArray++rest) E)∧Ext M σ M' σ'∧Al M' σ'∧OwnV M' t es ls v:=by
 obtain⟨M',h5,h6,h6',h7,h8,h9,h10⟩:=hM.drew.right (us.toArray++rest) E (ls.length*es) ob hob σ' hold
 have hx:=(Ext.drew M σ).trans h9
 refine⟨M',h5,hx,h10,?_⟩
 subst hv
 refine⟨_,cap,rfl,hlc,hcm,Br.of_block (by rw[h5];exact heap_alloc_new _ _) (fun o ho=>(h8 o).2 ho) (fun i c hc=>⟨(hg i c hc).1,fun q x hxx=> ?_⟩),h6',h6,by rw[h7,hcs]⟩
 obtain⟨u,h11,h12⟩:=(hg i c hc).2 q x hxx
 refine⟨u,?_,Ca.later hx.imm hx.cell _ _ h12⟩
 rw[Array.getElem?_append_left (by simpa using (QC.1 h11).1)]
 simpa using h11
section
variable {T:TypeId} {E es eb:Nat} {ii:TypeInfo} {z:Value} {ty tx:TypeId}
theorem Vq (hM:Al M σ)(hd:P.underlying T=some (.slice E))(hii:P.info? E=some ii)(hs:ii.size=es)(hbb:Adt ii.bytes eb)(hz:ii.zero=some z)(hzs:z.cells.size=es){t:Nat}{ms:List (List PV)}{u:Value}{ob:Ob}(hne:ms≠[])(hsrc:SrcV P M es tx u ms)
 (h1:ms.length*eb≤140737488355328) (h2:ms.length≤maxLen) (hob:ob= .right E (ms.length*es)∨(ob= .nright E (ms.length*es)∧0<ms.length*es))
 (hold:(t=σ.length∧σ'=σ.put t ob)∨(∃ m ob0,σ.at t ob0∧M.len t=some m∧m<ms.length*es∧σ'=σ.set t (some ob))):
 ∃ v M',(Builtin.append_ #[T,tx] ty #[.slice none 0 0,u]).run P M.w= .ok v M'.w∧Ext M σ M' σ'∧Al M' σ'∧OwnV M' t es ms v:=by
 obtain⟨us,hsr,hug⟩:=hsrc
 have hu1:=hsr.newsLen
 have hl0:0<ms.length:=XX.2 hne
 have hmx:ms.length≤9223372036854775807:=by have:=h2;unfold maxLen at this;exact this
 have hrun:=run_append_grow_src (P:=P) M.w T tx ty E ii z hd hii hz none 0 0 [] (run_firstCells_none M.w.drew ii.size 0 0 0) u ms.length us (by rw[hs];exact hsr) (by omega) (by omega) (by exact Fz hbb (by omega) (by rw[ZC];exact h1))
 simp only[ZC,ZQ]at hrun
 have hge:=grownCap_ge M.w ms.length 0 E
 obtain⟨M',h5,h6,h7,h8⟩:=Afu hM (E:=E) (t:=t) (us:=us) (rest:=Builtin.zeroCells z.cells (grownCap M.w ms.length 0 E - ms.length)) (cap:=grownCap M.w ms.length 0 E) hug (by
  simp only[Array.size_append,YV,size_zeroCells,hzs,hu1,←YY]
  congr 1;omega) hge (grownCap_le_maxLen _ _ _ _ h2) rfl hob hold
 exact⟨_,M',by rw[hrun,h5],h6,h7,h8⟩
theorem Vr (hM:Al M σ)(hd:P.underlying T=some (.slice E))(hii:P.info? E=some ii)(hs:ii.size=es)(hbb:Adt ii.bytes eb)(hz:ii.zero=some z)(hzs:z.cells.size=es)(he0:0<es){t b cap:Nat}{ls ms:List (List PV)}{u:Value}{ob0 ob:Ob}(ht:σ.at t ob0)(hlen:M.len t=some (ls.length*es))(ho:G8 M t b E (ls.length*es))(hcap:M.cap t=cap*es)
 (hlc:ls.length≤cap) (hcm:cap≤maxLen) (hr:Br M.w M.I b 0 es ls)
 (hsrc:SrcV P M es tx u ms)
 (hlim1:(ls.length+ms.length)*eb≤140737488355328) (hlim2:ls.length+ms.length≤maxLen) (hob:ob= .right E ((ls++ms).length*es)∨(ob= .nright E ((ls++ms).length*es)∧0<(ls++ms).length*es)):
 ∃ v M',(Builtin.append_ #[T,tx] ty #[.slice (some ⟨b,0,none⟩) ls.length cap,u]).run P M.w= .ok v M'.w∧Ext M σ M' (σ.set t (some ob))∧Al M' (σ.set t (some ob))∧OwnV M' t es (ls++ms) v:=by
 have ho':=ho
 obtain⟨cur,hb,hh,hcur,hI⟩:=ho
 rw[hcap]at hcur
 obtain⟨us,hu1,hu2,hu3,hu4⟩:=hr.flat
 obtain⟨vs,hsr,hvg⟩:=hsrc
 have hvl:=hsr.newsLen
 have hag:=Aph hu1 (hr.rows hu4) hvg
 by_cases hroom:ls.length+ms.length≤cap
 ·have hfit:ls.length*es+vs.length≤cur.size:=by
   rw[hcur,hvl,←YY];exact ZL _ hroom
  have hrun:∃ cur',(Builtin.append_ #[T,tx] ty #[.slice (some ⟨b,0,none⟩) ls.length cap,u]).run P M.w= .ok (.slice (some ⟨b,0,none⟩) (ls.length+ms.length) cap) (M.w.setRow b cur')∧cur'.size=cur.size∧
   (∀ q,q<ls.length*es→cur'[q]? =cur[q]?)∧(∀ (q:Nat) (u:Value),(us++vs)[q]? =some u→cur'[q]? =some u):=by
   have hus:∀ (q:Nat) (u:Value),us[q]? =some u→cur[q]? =some u:=fun q u hq=>by
    have:=hu2 q u hq
    rw[ZC,cell_of_row _ _ _ _ _ _ hh]at this
    exact this
   ·have hrun:=Vp (P:=P) (ty:=ty) M.w hd hii b ls.length cap cur hh u ms.length vs (by rw[hs];exact hsr) hroom (by rw[hs];exact hfit)
    rw[hs]at hrun
    refine⟨_,hrun,?_,fun q hq=> ?_,fun q u hq=> ?_⟩
    ·simp;omega
    ·simp only[YD]
     rw[QX,QD (by simp;omega),QT,if_pos hq];simp
    ·simp only[YD]
     rw[YR]at hq
     split at hq
     ·rename_i hlt
      rw[QX,QD (by simp;omega),QT,if_pos (by omega)]
      simpa using hus q u hq
     ·rename_i hge
      have hlt:=(QC.1 hq).1
      rw[QX,QY (by simp;omega),QD (by simp;omega),←hq]
      congr 1;simp;omega
  obtain⟨cur',hrun,hcs',hold,hnew⟩:=hrun
  obtain⟨M',h5,h6,h6',h7,h8,h9,h10⟩:=hM.regrow (n':=(ls++ms).length*es) (w':=M.w.setRow b cur') ht hlen ho' hob (by simp[YY]) hh (setRow_heap _ _ _ _ _ _ hh) hcs' hold (fun k hk=>setRow_other _ _ _ _ hk) (by simp) rfl rfl rfl
  refine⟨_,M',by rw[h5];exact hrun,h9,h10,b,cap,by simp,by simpa using hroom,hcm,Br.of_block (by rw[h5];exact setRow_heap _ _ _ _ _ _ hh) (fun o ho=>(h8 o).2 ho) (fun i c hc=>⟨(hag i c hc).1,fun q x hxx=> ?_⟩),h6',h6,by rw[h7,hcur]⟩
  obtain⟨u,h11,h12⟩:=(hag i c hc).2 q x hxx
  exact⟨u,hnew _ u h11,Ca.later h9.imm h9.cell _ _ h12⟩
 ·have hmx:ls.length+ms.length≤9223372036854775807:=by have:=hlim2;unfold maxLen at this;exact this
  ·have hold:=run_firstCells_some (P:=P) M.w.drew ii.size ls.length ⟨b,0,none⟩ ls.length cap us (by rw[hu1,hs]) (fun j u hj=>by rw[Addr.add_mid];simpa using hu2 j u hj)
   have hrun:=run_append_grow_src (P:=P) M.w T tx ty E ii z hd hii hz (some ⟨b,0,none⟩) ls.length cap us hold u ms.length vs (by rw[hs];exact hsr) (by omega) (by omega) (by exact Fz hbb (by omega) hlim1)
   have hge:=grownCap_ge M.w (ls.length+ms.length) cap E
   obtain⟨M',h5,h6,h7,h8⟩:=Afu hM (t:=t) (σ':=σ.set t (some ob)) (E:=E) (es:=es) (cap:=grownCap M.w (ls.length+ms.length) cap E) (ls:=ls++ms) (us:=us++vs)
    (rest:=Builtin.zeroCells z.cells (grownCap M.w (ls.length+ms.length) cap E - (ls.length+ms.length))) hag (by
     simp only[Array.size_append,YV,size_zeroCells,hzs,QE,hu1,hvl,←YY]
     congr 1;omega) (by simpa using hge) (grownCap_le_maxLen _ _ _ _ hlim2) rfl hob (.inr ⟨_,ob0,ht,hlen,by
      rw[QE]
      exact Nat.mul_lt_mul_of_pos_right (by omega) he0,rfl⟩)
   exact⟨_,M',by rw[hrun,h5];simp,h6,h7,h8⟩
end
theorem M4 {T tx:TypeId}{x y:Operand}{ya:AV}{fr:List AV}{tk:Nat}(hop:o.op= .call { callee:=.builtin .append,args:= #[x,y],argTypes:= #[T,tx] })(hM:Al M σ)(hF:Cx M a fr)(hC:C.ok P)(htk:tk=σ.length)
 (hsrcA:∀ E es ms,0<es→P.underlying T=some (.slice E)→Lx σ es ya=some ms→SrcV P M es tx (a.eval y) ms)
 (h:A2 C tk T (evA fr x) ya σ=some (r,σ')):Does P o a M σ r σ':=by
 have hx:=hF.ev x
 have hexec:∀ v w',(Builtin.append_ #[T,tx] o.type #[a.eval x,a.eval y]).run P M.w= .ok v w'→(execOp a.eval o).run P M.w= .ok (.value v) w':=fun v w' hr=>by
  unfold execOp
  simp only[hop,resolve,invoke,builtin,Sem.run_bind,Sem.run_pure,Result.andThen_ok,VD,QK,ZB,hr]
 unfold A2 at h
 split at h
 ·rename_i E es eb ez hk
  obtain⟨d,hd,rfl,ii,z,hii,hs,hbb,hz,hzc,hp,hel,he0⟩:=As hC hk
  have hzs:z.cells.size=es:=by rw[← hel,←hzc];simp
  split at h
  ·rename_i ms hms
   have hsrc:=hsrcA _ _ _ he0 hd hms
   have hnil:ms=[]→(Builtin.append_ #[T,tx] o.type #[.slice none 0 0,a.eval y]).run P M.w= .ok (.slice none 0 0) M.w:=fun e=>by
    subst e
    obtain⟨vs,hsr,_⟩:=hsrc
    have hv0:vs=[]:=by have:=hsr.newsLen;simpa using this
    subst hv0
    have hc:=hsr.cells
    have hl:=hsr.len
    simp only[QI]at hc hl
    rcases hsr.kind with⟨e',hk⟩|hk<;>simp[Builtin.append_,run_underlying hd,run_underlying hk,sizeOf,typeInfo,hii,hl,hs,hc]
   split at h
   ·rename_i he
    rw[he]at hx
    have e1:=(Cf hx).2
    split at h
    ·rename_i hlim
     split at h
     ·simp only[QB,QJ]at h
      obtain⟨rfl,rfl⟩:=h
      exact Cl hM (v:=.slice none 0 0) (hexec _ _ (by rw[e1];exact hnil rfl)) (Bb rfl)
     ·rename_i m ms'
      simp only[QB,QJ]at h
      obtain⟨rfl,rfl⟩:=h
      ·obtain⟨v,M',h5,h6,h7,h8⟩:=Vq (ty:=o.type) hM hd hii hs hbb hz hzs (t:=tk) (ob:=.right E ((m::ms').length*es)) (by simp) hsrc hlim.1 hlim.2 (.inl rfl) (.inl ⟨htk,rfl⟩)
       exact⟨v,M',.inl (hexec _ _ (by rw[e1];exact h5)),h6,h7,h8.own⟩
    ·simp at h
   ·rename_i t e ls he
    rw[he]at hx
    simp only[Ag]at hx
    obtain⟨b,cap,n0,e1,hlc,hcm,hr,hln,_,himp⟩:=hx
    split at h
    ·rename_i hlim
     obtain⟨rfl,hlim1,hlim2⟩:=hlim
     split at h
     ·rename_i E' n hσ
      split at h
      ·rename_i hE
       obtain⟨rfl,rfl⟩:=hE
       simp only[QB,QJ]at h
       obtain⟨rfl,rfl⟩:=h
       obtain⟨hl1,b',ho⟩:=hM.obj t _ hσ
       rw[hl1]at hln
       simp only[QB]at hln
       obtain⟨hb,hcap⟩:=himp hln
       have:b'=b:=by obtain⟨_,hb',_⟩:=ho;rw[hb]at hb';simpa using hb'.symm
       subst this
       obtain⟨v,M',h5,h6,h7,h8⟩:=Vr (ty:=o.type) hM hd hii hs hbb hz hzs he0 hσ hl1 ho hcap hlc hcm hr hsrc hlim1 hlim2 (.inl rfl)
       exact⟨v,M',.inl (hexec _ _ (by rw[e1];exact h5)),h6,h7,h8.own⟩
      ·simp at h
     ·simp at h
    ·simp at h
   ·rename_i t e ls he
    rw[he]at hx
    simp only[Ag]at hx
    obtain⟨n0,hln,_,hx⟩:=hx
    split at h
    ·rename_i hlim
     obtain⟨rfl,hlim1,hlim2⟩:=hlim
     split at h
     ·rename_i E' n hσ
      split at h
      ·rename_i hE
       obtain⟨rfl,rfl⟩:=hE
       simp only[QB,QJ]at h
       obtain⟨rfl,rfl⟩:=h
       obtain⟨hl1,ho⟩:=hM.obj t _ hσ
       have hln':=hln
       rw[hl1]at hln'
       simp only[QB]at hln'
       rcases hx with⟨rfl,e1⟩|⟨hne,b,cap,e1,hlc,hcm,hr,himp⟩
       ·by_cases hm0:ms=[]
        ·subst hm0
         have hself:σ.set t (some (.nright E' (([]++[]:List (List PV)).length*e)))=σ:=by
          apply XM
          intro k
          rw[QW]
          split
          ·rename_i ek;subst ek
           simp only[ZT,QI,WB]at hσ ⊢
           rw[hσ,if_pos (QC.1 hσ).1]
          ·rfl
         rw[hself]
         refine Cl hM (v:=.slice none 0 0) (hexec _ _ (by rw[e1];exact hnil rfl)) ?_
         simp only[Ag,ZT]
         exact⟨n0,hln,by simp,.inl ⟨trivial,trivial⟩⟩
        ·skip
         ·have hpos:0<ms.length*e:=Nat.mul_pos (XX.2 hm0) he0
          obtain⟨v,M',h5,h6,h7,h8⟩:=Vq (ty:=o.type) (σ':=σ.set t (some (.nright E' (([]++ms).length*e)))) hM hd hii hs hbb hz hzs (t:=t) (ob:=.nright E' (ms.length*e)) hm0 hsrc (by simpa using hlim1) (by simpa using hlim2) (.inr ⟨rfl,hpos⟩) (.inr ⟨_,_,hσ,hl1,by simpa using hpos,by simp⟩)
          exact⟨v,M',.inl (hexec _ _ (by rw[e1];exact h5)),h6,h7,by simpa using h8.nown hm0⟩
       ·rcases ho with⟨h0,_⟩|⟨hpos,b',ho⟩
        ·have:0<ls.length*e:=Nat.mul_pos (XX.2 hne) he0
         omega
        ·obtain⟨hb,hcap⟩:=himp hln'
         have:b'=b:=by obtain⟨_,hb',_⟩:=ho;rw[hb]at hb';simpa using hb'.symm
         subst this
         have hpos':0<(ls++ms).length*e:=by rw[QE,YY];omega
         obtain⟨v,M',h5,h6,h7,h8⟩:=Vr (ty:=o.type) hM hd hii hs hbb hz hzs he0 hσ hl1 ho hcap hlc hcm hr hsrc hlim1 hlim2 (.inr ⟨rfl,hpos'⟩)
         exact⟨v,M',.inl (hexec _ _ (by rw[e1];exact h5)),h6,h7,h8.nown (by simp[hne])⟩
      ·simp at h
     ·simp at h
    ·simp at h
   ·simp at h
  ·simp at h
 ·simp at h
theorem Y7 {T:TypeId}{x y:Operand}{fr:List AV}{tk:Nat}(hop:o.op= .call { callee:=.builtin .append,args:= #[x,y],argTypes:= #[T,T] })(hM:Al M σ)(hF:Cx M a fr)(hC:C.ok P)(htk:tk=σ.length)
 (h:A2 C tk T (evA fr x) (evA fr y) σ=some (r,σ')):Does P o a M σ r σ':=
 M4 hop hM hF hC htk (fun _ _ _ h0 hd hms=>Axu hM h0 hd hms (hF.ev y)) h
theorem Vs {T T':TypeId}{x y:Operand}{fr:List AV}{tk:Nat}(hop:o.op= .call { callee:=.builtin .append,args:= #[x,y],argTypes:= #[T,T'] })(hM:Al M σ)(hF:Cx M a fr)(hC:C.ok P)(htk:tk=σ.length)
 (h:Oj C tk T T' (evA fr x) (evA fr y) σ=some (r,σ')):Does P o a M σ r σ':=by
 have hx:=hF.ev x
 have hy:=hF.ev y
 unfold Oj at h
 split at h
 case h_2=>simp at h
 rename_i E es eb ez kn kq n hk hkt he hi
 obtain⟨d,hd,rfl,ii,z,hii,hs,hbb,hz,hzc,hp,hel,he0⟩:=As hC hk
 obtain⟨d',hd',rfl⟩:=As hC hkt
 have hzs:z.cells.size=es:=by rw[← hel,←hzc];simp
 split at h
 case isFalse=>simp at h
 rename_i hlim
 obtain⟨h0,h1,h2⟩:=hlim
 simp only[QB,QJ]at h
 obtain⟨rfl,rfl⟩:=h
 obtain⟨n,rfl⟩:∃ m:Nat,n=m:=⟨n.toNat,by omega⟩
 rw[he]at hx
 have e1:=(Cf hx).2
 rw[Dp hi]at hy
 have e2:=Bi hy
 have h2':n≤maxLen:=by omega
 have hmx:n≤9223372036854775807:=by unfold maxLen at h2';exact h2'
 have h1':eb*n≤140737488355328:=by omega
 have hrun:=Go.Lib.run_append_grow_zeros (P:=P) M.w T T' o.type E ii z kq kn hd hd' hii hz none 0 0 [] (run_firstCells_none M.w.drew ii.size 0 0 0) n (by omega) (by omega) (by omega) (by omega) (by rw[XL];exact Ow hbb h1') (by exact Fz hbb (by omega) (by rw[ZC,XL];exact h1'))
 simp only[ZC]at hrun
 have hge:=grownCap_ge M.w n 0 E
 obtain⟨M',h5,h6,h6',h7,h8,h9,h10⟩:=hM.drew.right (t:=tk) (([]:List Value).toArray++Builtin.zeroCells z.cells n++Builtin.zeroCells z.cells (grownCap M.w n 0 E - n)) E 0 (.right E 0) (.inl rfl) (σ.put tk (.right E 0)) (.inl ⟨htk,rfl⟩)
 refine⟨.slice (some ⟨M.w.heap.size,0,none⟩) n (grownCap M.w n 0 E),M',.inl ?_,(Ext.drew M σ).trans h9,h10,?_⟩
 ·rw[h5]
  unfold execOp
  simp only[hop,resolve,invoke,builtin,Sem.run_bind,Sem.run_pure,Result.andThen_ok,VD,QK,ZB,e1,e2,hrun]
  rfl
 ·simp only[Ag,ZZ]
  refine⟨_,_,0,rfl,hge,grownCap_le_maxLen _ _ _ _ h2',h6',fun _=>⟨h6,?_⟩⟩
  rw[h7]
  simp only[Array.size_append,size_zeroCells,hzs,YV,QI,ZC,←YY]
  congr 1;omega
theorem Vt {T T':TypeId}{x y:Operand}{fr:List AV}{tk:Nat}(hop:o.op= .call { callee:=.builtin .append,args:= #[x,y],argTypes:= #[T,T'] })(hM:Al M σ)(hF:Cx M a fr)(hC:C.ok P)(htk:tk=σ.length)
 (h:Gm C tk T T' (evA fr x) (evA fr y) σ=some (r,σ')):Does P o a M σ r σ':=by
 have hy:=hF.ev y
 unfold Gm at h
 split at h
 ·rename_i s hk he
  obtain⟨d,hd,hkd⟩:=As hC hk
  rw[he]at hy
  have e1:=(Cf hy).2
  refine M4 hop hM hF hC htk (fun E es ms _ _ hms=> ?_) h
  replace hms:Ey es (.p (.sl 1 (G9 s)))=some ms:=hms
  unfold Ey at hms
  split at hms
  case h_3=>
   rename_i e' ls heq
   simp only[AV.p.injEq,PV.sl.injEq]at heq
   obtain⟨rfl,rfl⟩:=heq
   split at hms
   ·rename_i he1
    subst he1
    simp only[QB]at hms
    subst hms
    rw[e1]
    exact Aft (by rw[hd];exact congrArg some hkd) s
   ·simp at hms
  all_goals simp_all
 ·exact Vs hop hM hF hC htk h
theorem Al.rowAt (h:Al M σ){t tk b e:Nat}{E:TypeId}{ob0:Ob}{w':World}{cur':Array Value}{ls:List (List AV)}(ht:σ.at t ob0)(hb:M.mu t=some b)(hI:∀ o,¬ M.I b o)(htk:tk=σ.length)
 (hh':w'.heap[b]? =some (.cells cur' E (0,0))) (hoth:∀ k,k≠b→w'.heap[k]? =M.w.heap[k]?) (hhs:w'.heap.size=M.w.heap.size) (hos:w'.os=M.w.os) (hta:w'.tape=M.w.tape) (hou:w'.output=M.w.output) (hr:Cr M cur' e ls):
 ∃ M',M'.w=w'∧M'.mu tk=some b∧M'.len tk=none∧M'.cap tk=cur'.size∧Ext M σ M' (St.put (σ.set t none) tk (.row e ls))∧Al M' (St.put (σ.set t none) tk (.row e ls)):=by
 obtain⟨hm,hl⟩:=h.fresh tk (by omega)
 have htl:t<σ.length:=(QC.1 ht).1
 let M':Az:={ w:=w',I:=M.I,mu:=fun s=>if s=tk then some b else M.mu s,len:=M.len,cap:=fun s=>if s=tk then cur'.size else M.cap s }
 have hcell:∀ k q,M.I k q→M'.w.cell? ⟨k,q,none⟩=M.w.cell? ⟨k,q,none⟩:=fun k q hk=>
  World.cell?_of_block (hoth k fun e=>hI q (e▸hk))
 have hmt:M'.mu tk=some b:=by simp[M']
 have hms:∀ s,s≠tk→M'.mu s=M.mu s:=fun s hs=>by simp[M',hs]
 have hct:M'.cap tk=cur'.size:=by simp[M']
 have hcs:∀ s,s≠tk→M'.cap s=M.cap s:=fun s hs=>by simp[M',hs]
 have hL:Later M M':=⟨fun s c hs h0=>⟨by rw[hms s (fun e=>by subst e;rw[hm]at hs;simp at hs)];exact hs,h0,hcs s (fun e=>by subst e;rw[hm]at hs;simp at hs)⟩,fun s n hs=>⟨n,hs,QH _,fun _=>⟨hms s (fun e=>by subst e;rw[hl]at hs;simp at hs),hcs s (fun e=>by subst e;rw[hl]at hs;simp at hs)⟩⟩,fun _ _ h=>h,hcell⟩
 have htk':tk≤(σ.set t none).length:=by simp;omega
 have hat:∀ s ob,St.at (St.put (σ.set t none) tk (.row e ls)) s ob→(s=tk∧ob= .row e ls)∨(s≠tk∧s≠t∧σ.at s ob):=fun s ob hs=>by
  rcases St.at_put htk' hs with h1|⟨h1,h2⟩
  ·exact .inl h1
  ·exact .inr ⟨h1,(St.at_forget h2).1,(St.at_forget h2).2⟩
 have hE:Ext M σ M' (St.put (σ.set t none) tk (.row e ls)):=by
  refine⟨hL.mu,hL.own,hL.imm,hcell,fun k hk hno=>⟨hoth k fun e=>hno t _ ht (e▸hb),fun _ h=>h⟩,fun s ob k hs hk=> ?_,by simp[M',hhs],hos,hta,hou⟩
  rcases hat s ob hs with⟨rfl,rfl⟩|⟨h1,h2,h3⟩
  ·rw[hmt]at hk;simp at hk;subst hk;exact .inr ⟨t,_,ht,hb⟩
  ·rw[hms s h1]at hk;exact .inr ⟨s,ob,h3,hk⟩
 refine⟨M',rfl,hmt,hl,hct,hE,?_⟩
 ·refine⟨fun s ob hs=> ?_,fun s s' ob ob' k hs hs' hk hk'=> ?_,fun s hs=> ?_,fun s c hs=> ?_,fun k q hq=> ?_,h.glob.ext hE⟩
  ·rcases hat s ob hs with⟨rfl,rfl⟩|⟨h1,h2,h3⟩
   ·exact⟨hl,b,cur',E,hmt,hh',hI,hr.later hL,hct.symm⟩
   ·exact (h.obj s ob h3).later hL (hms s h1) rfl (hcs s h1) fun k hk=>⟨hoth k fun e=>h2 (h.inj s t _ _ k h3 ht hk (e▸hb)),fun _ h=>h⟩
  ·rcases hat s ob hs with⟨rfl,rfl⟩|⟨h1,h2,h3⟩<;>rcases hat s' ob' hs' with⟨rfl,rfl⟩|⟨h4,h5,h6⟩
   ·rfl
   ·rw[hmt]at hk;simp at hk;subst hk;rw[hms s' h4]at hk'
    exact (h5 (h.inj s' t _ _ _ h6 ht hk' hb)).elim
   ·rw[hmt]at hk';simp at hk';subst hk';rw[hms s h1]at hk
    exact (h2 (h.inj s t _ _ _ h3 ht hk hb)).elim
   ·rw[hms s h1]at hk;rw[hms s' h4]at hk';exact h.inj s s' _ _ k h3 h6 hk hk'
  ·have h1:=St.put_len (ob:=.row e ls) htk'
   simp only[ZW]at h1
   rw[hms s (by omega)];exact h.fresh s (by omega)
  ·show c<w'.heap.size
   rw[hhs]
   by_cases he:s=tk
   ·subst he;rw[hmt]at hs;simp at hs;subst hs;exact h.lt t b hb
   ·rw[hms s he]at hs;exact h.lt s c hs
  ·show k<w'.heap.size
   rw[hhs];exact h.imm k q hq
def SrcN (P:Program)(M:Az)(es:Nat)(tx:TypeId)(u:Value)(ms:List (List AV)):Prop:=
 ∃ vs,Src P es tx u ms.length vs M.w∧Cr M vs.toArray es ms
theorem Api {es:Nat}{tx:TypeId}{u:Value}{ms:List (List PV)}(h:SrcV P M es tx u ms):SrcN P M es tx u (ms.map fun c=>c.map .p):=by
 obtain⟨vs,h1,h2⟩:=h
 refine⟨vs,by simpa using h1,fun i c hi=> ?_⟩
 rw[QR]at hi
 cases hm:ms[i]? with
 |none=>rw[hm]at hi;simp at hi
 |some c0=>
  rw[hm]at hi;simp at hi;subst hi
  obtain⟨g1,g2⟩:=h2 i c0 hm
  refine⟨by simp[g1],fun j x hx=> ?_⟩
  rw[QR]at hx
  cases hj:c0[j]? with
  |none=>rw[hj]at hx;simp at hx
  |some y=>
   rw[hj]at hx;simp at hx;subst hx
   obtain⟨u,g3,g4⟩:=g2 j y hj
   exact⟨rfl,u,by simpa using g3,by simpa only[Ag]using g4⟩
theorem Axv {e:Nat}{tx e':TypeId}{y:AV}{u:Value}{ms:List (List AV)}(hM:Al M σ)(he:0<e)(hk:P.underlying tx=some (.slice e'))(h:srcM σ e y=some ms)(hy:Ag M y u):SrcN P M e tx u ms:=by
 unfold srcM at h
 split at h
 ·rename_i ms0 h0
  simp only[QB]at h;subst h
  exact Api (Ars hk h0 hy)
 ·rename_i hs0
  split at h
  ·rename_i t e1 i n
   split at h
   ·rename_i e2 ls hσ
    split at h
    ·rename_i hc
     obtain⟨rfl,rfl,hin⟩:=hc
     simp only[QB]at h;subst h
     obtain⟨_,b,cur,T,hb,hh,hI,hr,hcs⟩:=hM.obj t _ hσ
     simp only[Ag]at hy
     obtain⟨b',cap,hb',_,rfl,hn,hf⟩:=hy
     have:b'=b:=by rw[hb]at hb';simpa using hb'.symm
     subst this
     rw[← hcs]at hf
     have hne:=ZL e2 hn
     obtain⟨g1,g2,g3,g4⟩:=Gq hr i n hin he (by omega)
     have hl:((ls.drop i).take n).length=n:=by simp;omega
     refine⟨_,?_,g4⟩
     rw[hl]
     exact Src.ofSlice M.w hk _ n cap _ g1 (fun j v hj=>by rw[Addr.add_mid,cell_of_row _ _ _ _ _ _ hh];exact g2 j v hj) g3
    ·simp at h
   ·simp at h
  ·rename_i t e2 i o n
   split at h
   case isFalse=>simp at h
   rename_i he1;subst he1
   split at h
   case h_2=>simp at h
   rename_i e3 ls hσ
   split at h
   case isFalse=>simp at h
   rename_i he3
   split at h
   case h_2=>simp at h
   rename_i c hc
   split at h
   case isFalse=>simp at h
   rename_i ho
   simp only[QB]at h;subst h
   obtain⟨b,off,cap,vs,rfl,h1,h2,h3,h4⟩:=Ta hM hy hσ he3 hc ho
   have hll:((c.drop o).take n).length=n:=by simp;omega
   refine⟨vs,?_,fun j c' hc'=> ?_⟩
   ·rw[show (((c.drop o).take n).map fun a=>[a]).length=n by rw[QL];exact hll]
    exact Src.ofSlice M.w hk _ n cap vs (by rw[h1,XK]) (fun j v hj=>by rw[Addr.add_mid];exact h4 j v hj) (h2.ones h3)
   ·rw[QR,QQ]at hc'
    obtain⟨x,hx,rfl⟩:=hc'
    refine⟨rfl,fun q x' hq=> ?_⟩
    have hq0:q=0:=by
     have:=(QC.1 hq).1
     simp at this;exact this
    subst hq0
    simp only[YT,QB]at hq
    subst hq
    obtain⟨v,g3,g4⟩:=h2.get hx
    exact⟨ZA.1 h3 _ (QG hx),v,by simpa using g3,g4⟩
  ·simp at h
theorem Ox {es:Nat}{us vs:List Value}{cur:Array Value}{ls ms:List (List AV)}(hul:us.length=ls.length*es)(h1:Cr M us.toArray es ls)(h2:Cr M vs.toArray es ms)(hc:∀ (q:Nat) (u:Value),(us++vs)[q]? =some u→cur[q]? =some u):Cr M cur es (ls++ms):=by
 intro i c hi
 rw[YR]at hi
 split at hi
 ·obtain⟨h3,h4⟩:=h1 i c hi
  refine⟨h3,fun q x hx=> ?_⟩
  obtain⟨h5,u,h6,h7⟩:=h4 q x hx
  rw[YD]at h6
  exact⟨h5,u,hc _ u (by rw[QD (QC.1 h6).1];exact h6),h7⟩
 ·rename_i hge
  obtain⟨h3,h4⟩:=h2 _ c hi
  refine⟨h3,fun q x hx=> ?_⟩
  obtain⟨h5,u,h6,h7⟩:=h4 q x hx
  rw[YD]at h6
  have h8:ls.length*es≤i*es:=ZL _ (by omega)
  refine⟨h5,u,hc _ u ?_,h7⟩
  rw[QY (by omega),←h6]
  congr 1
  rw[hul,Nat.sub_mul];omega
theorem Tb {T tx ty E E':TypeId}{i:TypeInfo}(w:World)(ht:P.underlying T=some (.slice E))(hi:P.info? E=some i)(g sLen sCap:Nat)(cur:Array Value)(hg:w.heap[g]? =some (.cells cur E' (0,0)))
 (x:Value) (n:Nat) (news:List Value) (hs:Src P i.size tx x n news w) (hroom:sLen+n≤sCap) (hfit:sLen*i.size+news.length≤cur.size):
 (Builtin.append_ #[T,tx] ty #[.slice (some ⟨g,0,none⟩) sLen sCap,x]).run P w=
  .ok (.slice (some ⟨g,0,none⟩) (sLen+n) sCap) (w.setRow g (cur.toList.take (sLen*i.size)++news++cur.toList.drop (sLen*i.size+news.length)).toArray):=by
 have hst:=run_storeCells_at P g (sLen*i.size) E' news 0 cur w hg (by simpa using hfit) hs.one
 simp only[XD]at hst
 rcases hs.kind with⟨e',hk⟩|hk<;>simp[Builtin.append_,run_underlying ht,run_underlying hk,sizeOf,typeInfo,hi,hs.len,hroom,hs.cells,Addr.add_lit,hst]
section
variable {T:TypeId} {E es eb:Nat} {ii:TypeInfo} {z:Value} {ty tx:TypeId}
theorem Vu (hM:Al M σ)(hd:P.underlying T=some (.slice E))(hii:P.info? E=some ii)(hs:ii.size=es)(hbb:Adt ii.bytes eb)(hz:ii.zero=some z)(hzs:z.cells.size=es){t tk b cap:Nat}{ob0:Ob}{cur:Array Value}{T':TypeId}{ls ms:List (List AV)}{us:List Value}{u:Value}
 (hσ:σ.at t ob0) (hb:M.mu t=some b) (hI:∀ o,¬ M.I b o) (htk:tk=σ.length) (hh:M.w.heap[b]? =some (.cells cur T' (0,0))) (hcap:cap*es≤cur.size) (hlc:ls.length≤cap) (hul:us.length=ls.length*es) (hcu:∀ (j:Nat) (v:Value),us[j]? =some v→cur[j]? =some v)
 (hr:Cr M us.toArray es ls) (hsrc:SrcN P M es tx u ms) (hlim1:(ls.length+ms.length)*eb≤140737488355328) (hlim2:ls.length+ms.length≤maxLen):
 ∃ v M',(Builtin.append_ #[T,tx] ty #[.slice (some ⟨b,0,none⟩) ls.length cap,u]).run P M.w= .ok v M'.w∧Ext M σ M' (St.put (σ.set t none) tk (.row es (ls++ms)))∧Al M' (St.put (σ.set t none) tk (.row es (ls++ms)))∧Ag M' (.ms tk es 0 (ls.length+ms.length)) v:=by
 obtain⟨vs,hsr,hvr⟩:=hsrc
 have hvl:=hsr.newsLen
 by_cases hroom:ls.length+ms.length≤cap
 ·have hfit:ls.length*es+vs.length≤cur.size:=by
   rw[hvl,←YY];exact ZO (ZL _ hroom) hcap
  have hrun:=Tb (P:=P) (ty:=ty) M.w hd hii b ls.length cap cur hh u ms.length vs (by rw[hs];exact hsr) hroom (by rw[hs];exact hfit)
  rw[hs]at hrun
  generalize hcur':(cur.toList.take (ls.length*es)++vs++cur.toList.drop (ls.length*es+vs.length)).toArray=cur' at hrun
  have hcs':cur'.size=cur.size:=by rw[← hcur'];simp;omega
  have hnew:∀ (q:Nat) (u:Value),(us++vs)[q]? =some u→cur'[q]? =some u:=fun q u hq=>by
   rw[← hcur']
   simp only[YD]
   rw[YR]at hq
   split at hq
   ·rename_i hlt
    rw[QX,QD (by simp;omega),QT,if_pos (by omega)]
    simpa using hcu q u hq
   ·rename_i hge
    have hlt:=(QC.1 hq).1
    rw[QX,QY (by simp;omega),QD (by simp;omega),←hq]
    congr 1;simp;omega
  obtain⟨M',h5,h6,h6',hct,h7,h8⟩:=hM.rowAt (w':=M.w.setRow b cur') hσ hb hI htk (setRow_heap _ _ _ _ _ _ hh) (fun k hk=>setRow_other _ _ _ _ hk) (by simp) rfl rfl rfl (Ox hul hr hvr hnew)
  refine⟨.slice (some ⟨b,0,none⟩) (ls.length+ms.length) cap,M',by rw[h5];exact hrun,h7,h8,by simp only[Ag];exact⟨b,cap,h6,h6',by simp,hroom,by rw[hct,hcs'];omega⟩⟩
 ·have hmx:ls.length+ms.length≤9223372036854775807:=by have:=hlim2;unfold maxLen at this;exact this
  have hold:=run_firstCells_some (P:=P) M.w.drew ii.size ls.length ⟨b,0,none⟩ ls.length cap us (by rw[hul,hs]) (fun j u hj=>by
   rw[Addr.add_mid]
   show M.w.cell? _=_
   rw[cell_of_row _ _ _ _ _ _ hh,ZC];exact hcu j u hj)
  have hrun:=run_append_grow_src (P:=P) M.w T tx ty E ii z hd hii hz (some ⟨b,0,none⟩) ls.length cap us hold u ms.length vs (by rw[hs];exact hsr) (by omega) (by omega) (by exact Fz hbb (by omega) hlim1)
  have hge:=grownCap_ge M.w (ls.length+ms.length) cap E
  have hrow:Cr M.drew (us++vs++(Builtin.zeroCells z.cells (grownCap M.w (ls.length+ms.length) cap E - (ls.length+ms.length))).toList).toArray es (ls++ms):=
   (Ox hul hr hvr (fun q u hq=>by
    simp only[YD]
    rw[QD (QC.1 hq).1];exact hq)).later (Later.drew M)
  obtain⟨M',h5,h6,h6',hct,h7,h8⟩:=(hM.drew.forget t).row (t:=tk) (by simpa using htk) (us++vs++(Builtin.zeroCells z.cells (grownCap M.w (ls.length+ms.length) cap E - (ls.length+ms.length))).toList) E es _ hrow
  refine⟨.slice (some ⟨M.w.heap.size,0,none⟩) (ls.length+ms.length) (grownCap M.w (ls.length+ms.length) cap E),M',?_,(Ext.drew M σ).trans ((Ext.forget M.drew σ t).trans h7),h8,by
   simp only[Ag]
   refine⟨_,_,h6,h6',by simp[Az.drew],hge,?_⟩
   rw[hct]
   simp only[QE,YK,size_zeroCells,hzs,hul,hvl,←YY,WB,ZC]
   exact ZL _ (by omega)⟩
  have hcells:((us++vs).toArray++Builtin.zeroCells z.cells (grownCap M.w (ls.length+ms.length) cap E - (ls.length+ms.length)))=(us++vs++(Builtin.zeroCells z.cells (grownCap M.w (ls.length+ms.length) cap E - (ls.length+ms.length))).toList).toArray:=by
   apply Array.ext';simp
  rw[h5,hrun,hcells]
  rfl
end
theorem Vv {T:TypeId}{x y:Operand}{fr:List AV}{tk:Nat}(hop:o.op= .call { callee:=.builtin .append,args:= #[x,y],argTypes:= #[T,T] })(hM:Al M σ)(hF:Cx M a fr)(hC:C.ok P)(htk:tk=σ.length)
 (h:Da C tk T (evA fr x) (evA fr y) σ=some (r,σ')):Does P o a M σ r σ':=by
 have hx:=hF.ev x
 have hy:=hF.ev y
 have hexec:∀ v w',(Builtin.append_ #[T,T] o.type #[a.eval x,a.eval y]).run P M.w= .ok v w'→(execOp a.eval o).run P M.w= .ok (.value v) w':=fun v w' hr=>by
  unfold execOp
  simp only[hop,resolve,invoke,builtin,Sem.run_bind,Sem.run_pure,Result.andThen_ok,VD,QK,ZB,hr]
 unfold Da at h
 split at h
 case h_2=>simp at h
 rename_i E es eb ez hk
 obtain⟨d,hd,rfl,ii,z,hii,hs,hbb,hz,hzc,hp,hel,he0⟩:=As hC hk
 have hzs:z.cells.size=es:=by rw[← hel,←hzc];simp
 split at h
 case h_2=>simp at h
 rename_i ms hms
 have hsrc:=Axv hM he0 hd hms hy
 split at h
 ·rename_i t e he
  split at h
  case isFalse=>simp at h
  rename_i hlim
  obtain⟨rfl,hlim1,hlim2⟩:=hlim
  split at h
  case h_2=>simp at h
  rename_i E' hσ
  split at h
  case isFalse=>simp at h
  rename_i hE
  subst hE
  simp only[QB,QJ]at h
  obtain⟨rfl,rfl⟩:=h
  rw[he]at hx
  simp only[Ag]at hx
  obtain⟨b,cap,n0,e1,hlc,hcm,_,hln,_,himp⟩:=hx
  obtain⟨hl1,b',ho⟩:=hM.obj t _ hσ
  rw[hl1]at hln
  simp only[QB]at hln
  obtain⟨hb,hcap⟩:=himp (by simpa using hln)
  obtain⟨cur,hb',hh,hcur,hI⟩:=ho
  have:b'=b:=by rw[hb]at hb';simpa using hb'.symm
  subst this
  have hI0:∀ o,¬ M.I b' o:=fun o ho=>by have:=(hI o).1 ho;omega
  rw[hcap]at hcur
  obtain⟨v,M',h5,h6,h7,h8⟩:=Vu (ty:=o.type) (cap:=cap) (ls:=[]) (us:=[]) hM hd hii hs hbb hz hzs hσ hb hI0 htk hh (Nat.le_of_eq hcur.symm) (YS _) (by simp) (fun j v hj=>by simp at hj) (fun i c hi=>by simp at hi) hsrc (by simpa using hlim1) (by simpa using hlim2)
  simp only[ZQ,QI,ZC]at h5 h6 h7 h8
  simp only[QI]at e1
  exact⟨v,M',.inl (hexec _ _ (by rw[e1];exact h5)),h6,h7,h8⟩
 ·rename_i he
  split at h
  case isFalse=>simp at h
  rename_i hlim
  obtain⟨hl0,hlim1,hlim2⟩:=hlim
  simp only[QB,QJ]at h
  obtain⟨rfl,rfl⟩:=h
  rw[he]at hx
  have e1:=(Cf hx).2
  obtain⟨us,hsr,hvr⟩:=hsrc
  have hvl:=hsr.newsLen
  have hmx:ms.length≤9223372036854775807:=by have:=hlim2;unfold maxLen at this;exact this
  have hrun:=run_append_grow_src (P:=P) M.w T T o.type E ii z hd hii hz none 0 0 [] (run_firstCells_none M.w.drew ii.size 0 0 0) (a.eval y) ms.length us (by rw[hs];exact hsr) (by omega) (by omega) (by exact Fz hbb (by omega) (by rw[ZC];exact hlim1))
  simp only[ZC,ZQ]at hrun
  have hge:=grownCap_ge M.w ms.length 0 E
  have hrow:Cr M.drew (us++(Builtin.zeroCells z.cells (grownCap M.w ms.length 0 E - ms.length)).toList).toArray es ms:=by
   have:=(Ox (M:=M) (ls:=[]) (us:=[]) (cur:=(us++(Builtin.zeroCells z.cells (grownCap M.w ms.length 0 E - ms.length)).toList).toArray) (by simp) (fun i c hi=>by simp at hi) hvr (fun q u hq=>by
    simp only[YD]
    rw[ZQ]at hq
    rw[QD (QC.1 hq).1];exact hq)).later (Later.drew M)
   simpa using this
  obtain⟨M',h5,h6,h6',hct,h7,h8⟩:=hM.drew.row (t:=tk) htk (us++(Builtin.zeroCells z.cells (grownCap M.w ms.length 0 E - ms.length)).toList) E es _ hrow
  refine⟨.slice (some ⟨M.w.heap.size,0,none⟩) ms.length (grownCap M.w ms.length 0 E),M',.inl (hexec _ _ ?_),(Ext.drew M σ).trans h7,h8,by
   simp only[Ag]
   refine⟨_,_,h6,h6',by simp[Az.drew],hge,?_⟩
   rw[hct]
   simp only[QE,YK,size_zeroCells,hzs,hvl,←YY,WB,ZC]
   exact ZL _ (by omega)⟩
  have hcells:(us.toArray++Builtin.zeroCells z.cells (grownCap M.w ms.length 0 E - ms.length))=(us++(Builtin.zeroCells z.cells (grownCap M.w ms.length 0 E - ms.length)).toList).toArray:=by
   apply Array.ext';simp
  rw[e1,h5,hrun,hcells]
  rfl
 ·rename_i t e hh0 he
  split at h
  case isFalse=>simp at h
  rename_i hlim
  obtain⟨rfl,hlim1,hlim2⟩:=hlim
  split at h
  case h_2=>simp at h
  rename_i e2 ls hσ
  split at h
  case isFalse=>simp at h
  rename_i hc
  obtain⟨rfl,hhl⟩:=hc
  simp only[QB,QJ]at h
  obtain⟨rfl,rfl⟩:=h
  rw[he]at hx
  simp only[Ag]at hx
  obtain⟨b,cap,hb,_,e1,hn,hf⟩:=hx
  obtain⟨_,b',cur,T',hb',hh,hI,hr,hcs⟩:=hM.obj t _ hσ
  have:b'=b:=by rw[hb]at hb';simpa using hb'.symm
  subst this
  rw[← hcs]at hf
  simp only[WB,ZC]at hf e1
  have hne:hh0*e2≤cap*e2:=ZL _ hn
  obtain⟨g1,g2,g3,g4⟩:=Gq hr 0 hh0 (by omega) he0 (by omega)
  simp only[WB,ZC,XA]at g1 g2 g3 g4
  have hl:(ls.take hh0).length=hh0:=by simp;omega
  obtain⟨v,M',h5,h6,h7,h8⟩:=Vu (ty:=o.type) (cap:=cap) (ls:=ls.take hh0) hM hd hii hs hbb hz hzs hσ hb' hI htk hh hf (by omega) (by rw[hl];exact g1) g2 g4 hsrc (by rw[hl];exact hlim1) (by rw[hl];exact hlim2)
  rw[hl]at h5 h8
  exact⟨v,M',.inl (hexec _ _ (by rw[e1];exact h5)),h6,h7,h8⟩
 ·simp at h
end
