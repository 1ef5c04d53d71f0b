/- Maps, as a world bears them. That a world that bears the abstract machine's state does what the abstract machine does: copy, delete, interface values, arrays of slices. -/
import Derived.Test.YtpoigihfeehehaaGreatDoorM06
import Derived.MapKept
import Derived.Laws.IdiomCopy
set_option linter.all false
set_option maxRecDepth 100000
set_option maxHeartbeats 32000000
namespace Go.Proofs.YtpoigihfeehehaaGreatDoor
open Go.RowKit Go.MapKept
section
variable {P:Program} {C:Ctx} {o:Oper} {a:Act} {M:Az} {σ σ':St} {r:AV}
theorem Td {kd:TypeDesc}{k:Value}(h:Vk kd k=true):IsKey kd k:=by
 unfold Vk at h
 split at h
 ·simp[IsKey]
 ·simp only[decide_eq_true_eq]at h;subst h;simp[IsKey]
 ·simp at h
theorem F0 {kd : TypeDesc} {k : Value} {M : Az} : ∀ (es : List (Value × AV)) (cur : List MapEntry) (i : Nat) (f : Option (Nat × AV)), cur.length = es.length → (∀ (j : Nat) (q : Value × AV), es[j]? = some q → ∃ e, cur[j]? = some e ∧ e.key = q.1 ∧ Ag M q.2 e.val) → Jr kd k es i = some f →
    match f with
    | none => Instr.findNow kd k cur i = some none
    | some (j, x) => ∃ e, i ≤ j ∧ cur[j - i]? = some e ∧ Instr.findNow kd k cur i = some (some (j, e.val)) ∧ Instr.sameNow kd k e.key = some true ∧ Ag M x e.val
  | [], cur, i, f, hl, _, h => by
    have : cur = [] := YX.1 (by simpa using hl)
    subst this
    simp only [Jr, QB] at h
    subst h
    rfl
  | q :: es, cur, i, f, hl, hr, h => by
    match cur, hl with
    | e :: cur, hl =>
      obtain ⟨e', h1, h2, h3⟩ := hr 0 q rfl
      simp only [YT, QB] at h1
      subst h1
      simp only [Jr, ← h2] at h
      simp only [Instr.findNow]
      split at h
      · rename_i hs
        simp only [QB] at h
        subst h
        exact ⟨e, QH _, by simp, by rw [hs], hs, h3⟩
      · rename_i hs
        have ih := F0 es cur (i + 1) f (by simpa using hl) (fun j q' hj => by have := hr (j + 1) q' (by simpa using hj); simpa using this) h
        rw [hs]
        match f, ih with
        | none, ih => exact ih
        | some (j, x), ⟨e2, g1, g2, g3, g4, g5⟩ =>
          refine ⟨e2, by omega, ?_, g3, g4, g5⟩
          have : j - i = (j - (i + 1)) + 1 := by omega
          rw [this, XN]; exact g2
      · simp at h
theorem Apj {z:Value}{x:AV}(h:zAV z=some x):Ag M x z:=by
 unfold zAV at h
 split at h
 ·rename_i us
  split at h
  ·rename_i hp
   simp only[QB]at h
   subst h
   simp only[Ag]
   exact⟨Fy _,us.toList,by simp,Jv hp⟩
  ·simp at h
 ·split at h
  ·rename_i hp
   simp only[QB]at h
   subst h
   exact Bb hp
  ·simp at h
theorem Akr {E:TypeId}{i:TypeInfo}{z:Value}{w:World}(hi:P.info? E=some i)(hz:i.zero=some z):(zeroValue E).run P w= .ok z w:=by
 simp[zeroValue,typeInfo,hi,hz,Result.andThen]
theorem Aao {T K E:TypeId}{kd:TypeDesc}{i:TypeInfo}{z k x:Value}{w:World}{ok:Bool}{es:List (Value×AV)}{cur:Array MapEntry}{r:AV}(hd:P.underlying T=some (.map K E))(hK:P.underlying K=some kd)(hi:P.info? E=some i)(hz:i.zero=some z)
 (hx:(x= .map none∧cur= #[])∨∃ b clock,x= .map (some b)∧w.heap[b]? =some (.map cur clock)) (hr:Fw M cur es) (h:Sv kd z k ok es=some r):
 ∃ v,(Instr.lookup T x k ok).run P w= .ok v w∧Ag M r v:=by
 unfold Sv at h
 split at h
 case isFalse=>simp at h
 rename_i hk
 have hkey:=Td hk
 have hfun:∀ (a:Option (Nat×Value)),Instr.findNow kd k cur.toList 0=some a→(Instr.lookup T x k ok).run P w= .ok (match a with
  |some (_,v)=>if ok=true then .tuple #[v,.bool true]else v
  |none=>if ok=true then .tuple #[z,.bool false]else z) w:=fun a ha=>by
  have h1:=run_checkKey (P:=P) (w:=w) hK hkey cur.isEmpty 9999
  have h2:=run_findKey (P:=P) (w:=w) hK ha
  have h3:=Akr (P:=P) (w:=w) hi hz
  rcases hx with⟨rfl,rfl⟩|⟨b,clock,rfl,hb⟩
  ·simp only[Instr.lookup,Sem.run_bind,run_underlying hd,Result.andThen,Sem.run_pure,h1,h2]
   cases a with
   |none=>cases ok<;>simp[h3,Result.andThen]
   |some q=>cases ok<;>simp[]
  ·have h0:=Go.MapKept.run_getObj_map (P:=P) hb
   simp only[Instr.lookup,Sem.run_bind,run_underlying hd,Result.andThen,Sem.run_pure,h0,h1,h2]
   cases a with
   |none=>cases ok<;>simp[h3,Result.andThen]
   |some q=>cases ok<;>simp[]
 split at h
 ·rename_i j x' hf
  simp only[QB]at h
  have:=F0 (M:=M) es cur.toList 0 _ (by simpa using hr.1) (fun j q hj=>by obtain⟨e,g1,g2⟩:=hr.2 j q hj;exact⟨e,by simpa using g1,g2⟩) hf
  obtain⟨e,_,_,g3,_,g5⟩:=this
  refine⟨_,hfun _ g3,?_⟩
  subst h
  cases ok
  ·simpa using g5
  ·simp only[if_true,Ag,Af]
   exact⟨_,rfl,_,_,rfl,g5,_,_,rfl,by simp[Av,Ag,Ca,plain],rfl⟩
 ·rename_i hf
  simp only[QQ]at h
  obtain⟨a0,hz0,rfl⟩:=h
  have:=F0 (M:=M) es cur.toList 0 _ (by simpa using hr.1) (fun j q hj=>by obtain⟨e,g1,g2⟩:=hr.2 j q hj;exact⟨e,by simpa using g1,g2⟩) hf
  refine⟨_,hfun _ this,?_⟩
  have hza:=Apj (M:=M) hz0
  cases ok
  ·simpa using hza
  ·simp only[if_true,Ag,Af]
   exact⟨_,rfl,_,_,rfl,hza,_,_,rfl,by simp[Av,Ag,Ca,plain],rfl⟩
 ·simp at h
theorem Aeb {kd:TypeDesc}{k q:Value}(hk:IsKey kd k)(h:Instr.sameNow kd k q=some true):q=k:=by
 cases kd<;>cases k<;>cases q<;>simp_all [IsKey,Instr.sameNow,bytes_beq]
theorem Vw {T:TypeId}{tk:Nat}(hop:o.op= .makeMap T none)(hM:Al M σ)(htk:tk=σ.length):Does P o a M σ (.mmap tk) (σ.put tk (.map [])):=by
 obtain⟨M',h1,h2,h3,h4,h5⟩:=hM.mapNew htk
 have hrun:(execOp a.eval o).run P M.w= .ok (.value (.map (some M.w.heap.size))) (M.w.alloc (.map #[] 0)):=by
  unfold execOp
  simp[hop,Instr.makeMap]
 refine⟨_,M',.inl (by rw[h1];exact hrun),h4,h5,?_⟩
 simp only[Ag]
 exact⟨_,h2,h3,rfl⟩
theorem Oy {T:TypeId}{x ix:Operand}{ok:Bool}{kd:TypeDesc}{z kv:Value}{fr:List AV}(hop:o.op= .lookup T x ix ok)(hM:Al M σ)(hF:Cx M a fr)(hC:C.ok P)(hk:C.kind T=some (.map kd z))(hi:evA fr ix= .p (.v kv))
 (hx:(∃ t es,evA fr x= .mmap t∧σ[t]? =some (some (.map es))∧Sv kd z kv ok es=some r)∨(evA fr x= .p (.v (.map none))∧Sv kd z kv ok []=some r)):Does P o a M σ r σ:=by
 obtain⟨d,hd,K,E,i,rfl,hK,hE,hz⟩:=As hC hk
 have hv:=hF.ev ix
 rw[hi]at hv
 have e1:=(Cf hv).2
 have hv2:=hF.ev x
 have key:∃ v,(Instr.lookup T (a.eval x) kv ok).run P M.w= .ok v M.w∧Ag M r v:=by
  rcases hx with⟨t,es,hx,ht,h⟩|⟨hx,h⟩
  ·rw[hx]at hv2
   simp only[Ag]at hv2
   obtain⟨b,hb,_,e2⟩:=hv2
   obtain⟨_,b',cur,clock,hb',hh,_,hr⟩:=hM.obj t _ ht
   have:b'=b:=by rw[hb]at hb';simpa using hb'.symm
   subst this
   rw[e2]
   exact Aao hd hK hE hz (.inr ⟨_,clock,rfl,hh⟩) hr h
  ·rw[hx]at hv2
   have e2:=(Cf hv2).2
   rw[e2]
   exact Aao hd hK hE hz (.inl ⟨rfl,rfl⟩) ⟨rfl,fun i q hq=>by simp at hq⟩ h
 obtain⟨v,h1,h2⟩:=key
 refine Cl hM (v:=v) ?_ h2
 unfold execOp
 simp[hop,e1,h1]
theorem Qz {T:TypeId}{m k x:Operand}{kd:TypeDesc}{z kv:Value}{fr:List AV}{t:Nat}{es es':List (Value×AV)}(hop:o.op= .mapUpdate T m k x)(hM:Al M σ)(hF:Cx M a fr)(hC:C.ok P)(hk:C.kind T=some (.map kd z))(hi:evA fr k= .p (.v kv))
 (hm:evA fr m= .mmap t) (ht:σ[t]? =some (some (.map es))) (h:updK kd kv (evA fr x) es=some es'):Does P o a M σ (.tup []) (σ.set t (some (.map es'))):=by
 obtain⟨d,hd,K,E,i,rfl,hK,hE,hz⟩:=As hC hk
 have hv:=hF.ev k
 rw[hi]at hv
 have e1:=(Cf hv).2
 have hv2:=hF.ev m
 rw[hm]at hv2
 simp only[Ag]at hv2
 obtain⟨b,hb,_,e2⟩:=hv2
 have hvx:=hF.ev x
 obtain⟨_,b',cur,clock,hb',hh,_,hr⟩:=hM.obj t _ ht
 have:b'=b:=by rw[hb]at hb';simpa using hb'.symm
 subst this
 unfold updK at h
 split at h
 case isFalse=>simp at h
 rename_i hkk
 have hkey:=Td hkk
 have hnow:=fun f hf=>F0 (M:=M) (kd:=kd) (k:=kv) es cur.toList 0 f (by simpa using hr.1) (fun j q hj=>by obtain⟨e,g1,g2⟩:=hr.2 j q hj;exact⟨e,by simpa using g1,g2⟩) hf
 have h1:=fun e=>run_checkKey (P:=P) (w:=M.w) hK hkey e 9999
 have hfin:∀ (cur':Array MapEntry) (clock':Nat),(Instr.mapUpdate T (a.eval m) kv (a.eval x)).run P M.w= .ok () { M.w with heap:=M.w.heap.setIfInBounds b' (.map cur' clock') }→Fw M cur' es'→Does P o a M σ (.tup []) (σ.set t (some (.map es'))):=fun cur' clock' hrun hr'=>by
  have hs:=Go.MapKept.heap_set (o':=.map cur' clock') hh
  obtain⟨M',g1,g2,g3⟩:=hM.mapSet (w':={ M.w with heap:=M.w.heap.setIfInBounds b' (.map cur' clock') }) (es':=es') ht hb hs.1 hs.2 (by simp) rfl rfl rfl hr'
  refine⟨undef,M',.inr ⟨rfl,?_⟩,g2,g3,by simp only[Ag,Af];exact⟨[],rfl,rfl⟩⟩
  rw[g1]
  unfold execOp
  simp[hop,e1,hrun]
 split at h
 ·rename_i j x' hf
  simp only[QB]at h
  obtain⟨e,_,q2,q3,q4,_⟩:=hnow _ hf
  have hke:=Aeb hkey q4
  have hj:cur[j]? =some e:=by simpa using q2
  refine hfin (cur.modify j fun e=>{ e with key:=kv,val:=a.eval x }) clock ?_ ?_
  ·have h2:=run_findKey (P:=P) (w:=M.w) hK q3
   simp[e2,Instr.mapUpdate,run_underlying hd,Go.MapKept.run_getObj_map hh,h1,h2,hj,hke,run_keyThatStays hkey,Go.MapKept.run_setObj_map _ hh,Result.andThen]
  ·subst h
   refine⟨by simpa using hr.1,fun i q hq=> ?_⟩
   rw[QW]at hq
   rw[WI]
   split at hq
   ·rename_i hij
    subst hij
    split at hq
    ·simp only[QB]at hq
     subst hq
     exact⟨_,by rw[if_pos rfl,hj];rfl,rfl,hvx⟩
    ·simp at hq
   ·rename_i hij
    rw[if_neg hij]
    exact hr.2 i q hq
 ·rename_i hf
  simp only[QB]at h
  have q3:=hnow _ hf
  refine hfin (cur.push { key:=kv,val:=a.eval x,born:=clock }) (clock+1) ?_ ?_
  ·have h2:=run_findKey (P:=P) (w:=M.w) hK q3
   simp[e2,Instr.mapUpdate,run_underlying hd,Go.MapKept.run_getObj_map hh,h1,h2,Go.MapKept.run_setObj_map _ hh,Result.andThen]
  ·subst h
   have hl:=hr.1
   refine⟨by simpa using hr.1,fun i q hq=> ?_⟩
   by_cases hi:i<es.length
   ·rw[QD hi]at hq
    obtain⟨e,g1,g2⟩:=hr.2 i q hq
    exact⟨e,by rw[Array.getElem?_push,if_neg (by omega)];exact g1,g2⟩
   ·rw[QY (by omega)]at hq
    have:i=es.length:=by
     by_cases h0:i - es.length=0
     ·omega
     ·rw[ZG (by simp;omega)]at hq;simp at hq
    subst this
    simp at hq
    subst hq
    exact⟨_,by rw[Array.getElem?_push,if_pos hl.symm],rfl,hvx⟩
 ·simp at h
end
end Go.Proofs.YtpoigihfeehehaaGreatDoor
namespace Go.Proofs.YtpoigihfeehehaaGreatDoor
open Go.RowKit Go.MapKept
section
variable {P:Program} {C:Ctx} {o:Oper} {a:Act} {M:Az} {σ σ':St} {r:AV}
theorem Al.storeG (h:Al M σ){t e p b:Nat}{ls ls':List (List AV)}{us:List Value}{cur:Array Value}{T:TypeId}(ht:σ.at t (.row e ls))(hb:M.mu t=some b)(hh:M.w.heap[b]? =some (.cells cur T (0,0)))
 (hr':∀ cur':Array Value,cur'.size=cur.size→(∀ k,cur'[k]? =if p≤k∧k<p+us.length∧k<cur.size then us[k - p]? else cur[k]?)→Cr M cur' e ls'):
 ∃ M',M'.w=M.w.setCells b p us∧Ext M σ M' (σ.set t (some (.row e ls')))∧Al M' (σ.set t (some (.row e ls'))):=by
 have htl:t<σ.length:=(QC.1 ht).1
 obtain⟨hlen,b',cur0,T0,hb',hh0,hI,hr,hcs⟩:=h.obj t _ ht
 have:b'=b:=by rw[hb]at hb';simpa using hb'.symm
 subst this
 rw[hh]at hh0
 simp only[QB,Obj.cells.injEq,and_true]at hh0
 obtain⟨rfl,rfl⟩:=hh0
 obtain⟨cur',h1,h2,h3⟩:=Gn b' us p M.w cur T (0,0) hh
 let M':Az:={ M with w:=M.w.setCells b' p us }
 have hcell:∀ k q,M.I k q→M'.w.cell? ⟨k,q,none⟩=M.w.cell? ⟨k,q,none⟩:=fun k q hk=>
  World.cell?_of_block (Cp b' us _ M.w k (fun e=>hI q (e▸hk)))
 have hL:Later M M':=⟨fun _ _ h h'=>⟨h,h',rfl⟩,C5 (fun _=>rfl) (fun _=>rfl) (fun _=>rfl),fun _ _ h=>h,hcell⟩
 have hat:∀ s ob,St.at (σ.set t (some (.row e ls'))) s ob→(s=t∧ob= .row e ls')∨(s≠t∧σ.at s ob):=fun s ob hs=>by
  unfold St.at at hs
  rw[QW]at hs
  split at hs
  ·rename_i e;subst e;simp[]at hs;exact .inl ⟨rfl,hs.symm⟩
  ·rename_i hne;exact .inr ⟨fun e=>hne e.symm,hs⟩
 have hE:Ext M σ M' (σ.set t (some (.row e ls'))):=by
  refine⟨hL.mu,hL.own,hL.imm,hcell,fun k hk hn=>⟨Cp b' us _ M.w k (fun e=>hn t _ ht (e▸hb)),fun _ h=>h⟩,fun s ob k hs hk=> ?_,by simp[M',setCells_size],(Cz b' us _ M.w).1,(Cz b' us _ M.w).2.1,(Cz b' us _ M.w).2.2⟩
  rcases hat s ob hs with⟨rfl,rfl⟩|⟨h5,h6⟩
  ·exact .inr ⟨s,_,ht,hk⟩
  ·exact .inr ⟨s,ob,h6,hk⟩
 refine⟨M',rfl,hE,?_⟩
 refine⟨fun s ob hs=> ?_,fun s s' ob ob' k hs hs' hk hk'=> ?_,fun s hs=>h.fresh s (by simpa using hs),fun s k hs=>by simpa [M',setCells_size]using h.lt s k hs,fun k q hq=>by simpa [M',setCells_size]using h.imm k q hq,h.glob.ext hE⟩
 ·rcases hat s ob hs with⟨rfl,rfl⟩|⟨h5,h6⟩
  ·exact⟨hlen,b',cur',T,hb,h1,hI,(hr' cur' h2 h3).later hL,h2.trans hcs⟩
  ·exact (h.obj s ob h6).later hL rfl rfl rfl fun k h7=>⟨Cp b' us _ M.w k (fun e=>h5 (h.inj s t _ _ k h6 ht h7 (e▸hb))),fun _ h=>h⟩
 ·rcases hat s ob hs with⟨rfl,rfl⟩|⟨h5,h6⟩<;>rcases hat s' ob' hs' with⟨rfl,rfl⟩|⟨h7,h8⟩
  ·rfl
  ·exact h.inj _ _ _ _ k ht h8 hk hk'
  ·exact h.inj _ _ _ _ k h6 ht hk hk'
  ·exact h.inj _ _ _ _ k h6 h8 hk hk'
theorem Vx {α:Type}:∀ (ls:List (List α)),(∀ c∈ls,c.length=1)→ls.flatten.length=ls.length
 |[],_=>rfl
 |c::ls,h=>by
  simp only[XE,QE,h c (by simp),Vx ls fun c hc=>h c (by simp[hc]),QF];omega
theorem Vy {α:Type}:∀ (ls:List (List α)) (j:Nat) (q:α),(∀ c∈ls,c.length=1)→ls[j]? =some [q]→ls.flatten[j]? =some q
 |[],j,q,_,h=>by simp at h
 |[z]::ls,0,q,_,h=>by simp at h;simp[h]
 |[z]::ls,j+1,q,h1,h=>by simpa using Vy ls j q (fun c hc=>h1 c (by simp[hc])) (by simpa using h)
 |[]::ls,j,q,h1,h=>by have:=h1 [] (by simp);simp at this
 |(_::_::_)::ls,j,q,h1,h=>by have:=h1 _ (List.mem_cons_self);simp at this
theorem Aks {y:AV}{u:Value}{cs:List AV}(hM:Al M σ)(h:srcC σ y=some cs)(hy:Ag M y u):
 ∃ ad cap vs,u= .slice ad cs.length cap∧Af M cs vs∧cs.all leaf=true∧(cs=[]∨∃ b off,ad=some ⟨b,off,none⟩∧∀ (j:Nat) (v:Value),vs[j]? =some v→M.w.cell? ⟨b,off+j,none⟩=some v):=by
 unfold srcC at h
 split at h
 ·simp only[QB]at h;subst h
  have:=(Cf hy).2;subst this
  exact⟨_,_,[],rfl,by simp[Af],rfl,.inl rfl⟩
 ·rename_i t e i n
  split at h
  case isFalse=>simp at h
  rename_i he;subst he
  split at h
  case h_2=>simp at h
  rename_i e2 ls hσ
  split at h
  case isFalse=>simp at h
  rename_i hc
  obtain⟨rfl,hin⟩:=hc
  simp only[QB]at h;subst h
  obtain⟨_,b,cur,T,hb,hh,hI,hr,hcs⟩:=hM.obj t _ hσ
  simp only[Ag]at hy
  obtain⟨b',cap,hb',_,rfl,hn,hf⟩:=hy
  have:b'=b:=by rw[hb]at hb';simpa using hb'.symm
  subst this
  rw[← hcs]at hf
  obtain⟨g1,g2,g3,g4⟩:=Gq hr i n hin (Nat.lt_succ_self 0) (by omega)
  have hl:((ls.drop i).take n).length=n:=by simp;omega
  have hone:∀ c∈(ls.drop i).take n,c.length=1:=fun c hc=>by
   obtain⟨k,hk⟩:=YP.1 hc
   exact (g4 k c hk).1
  have hfl:((ls.drop i).take n).flatten.length=n:=by rw[E0 _ 1 hone,hl,XK]
  have hget:∀ (j:Nat) (x:AV),((ls.drop i).take n).flatten[j]? =some x→leaf x=true∧∃ v,(cur.toList.drop (i*1)).take (n*1) |>.toArray[j]? =some v∧Ag M x v:=fun j x hx=>by
   have hjn:j<n:=by rw[← hfl];exact (QC.1 hx).1
   have hcj:((ls.drop i).take n)[j]? =some (((ls.drop i).take n)[j]'(by omega)):=QN _
   generalize ((ls.drop i).take n)[j]'(by omega)=c at hcj
   have hc1:=hone c (QG hcj)
   match c,hc1 with
   |[y],_=>
    have:=Gp _ 1 hone j 0 [y] y hcj rfl
    rw[show j*1+0=j by omega,hx]at this
    simp only[QB]at this
    subst this
    obtain⟨h5,v,h6,h7⟩:=(g4 j [x] hcj).2 0 x rfl
    exact⟨h5,v,by simpa using h6,h7⟩
  refine⟨_,cap,(cur.toList.drop (i*1)).take (n*1),by rw[hfl],Bc.2 ⟨by rw[hfl,g1,XK],fun j x v hx hv=> ?_⟩,ZA.2 fun x hx=> ?_,.inr ⟨b',i*1,rfl,fun j v hj=>by rw[cell_of_row _ _ _ _ _ _ hh];exact g2 j v hj⟩⟩
  ·obtain⟨_,v',h1,h2⟩:=hget j x hx
   rw[YD,hv]at h1
   simp only[QB]at h1;subst h1
   exact h2
  ·obtain⟨j,hj⟩:=YP.1 hx
   exact (hget j x hj).1
 ·rename_i t e i o n
  split at h
  case h_2=>simp at h
  rename_i e2 ls hσ
  split at h
  case isFalse=>simp at h
  rename_i he
  split at h
  case h_2=>simp at h
  rename_i c hc
  split at h
  case isFalse=>simp at h
  rename_i ho
  simp only[QB]at h;subst h
  obtain⟨b,off,cap,vs,rfl,h1,h2,h3,h4⟩:=Ta hM hy hσ he hc ho
  have hll:((c.drop o).take n).length=n:=by simp;omega
  exact⟨_,cap,vs,by rw[hll],h2,h3,.inr ⟨b,off,rfl,h4⟩⟩
 ·split at h
  case h_2=>simp at h
  rename_i e ls hel
  split at h
  case isFalse=>simp at h
  rename_i he;subst he
  simp only[QB]at h;subst h
  obtain⟨rfl,ad,cap,rfl,_⟩|⟨b,off,cap,rfl,_,hr⟩:=Hl hel hy
  ·exact⟨_,_,[],rfl,by simp[Af],rfl,.inl rfl⟩
  ·obtain⟨us,hu1,hu2,hu3,hu4⟩:=hr.flat
   have hone:∀ c∈ls,c.length=1:=fun c hc=>by
    obtain⟨k,hk⟩:=YP.1 hc
    exact (hr.get hk).1
   have hfl:ls.flatten.length=ls.length:=Vx ls hone
   refine⟨_,cap,us,by rw[QL,hfl],Bc.2 ⟨by rw[QL,hfl,hu1,XK],fun j x v hx hv=> ?_⟩,by simp[leaf],.inr ⟨b,off,rfl,hu2⟩⟩
   rw[QR,QQ]at hx
   obtain⟨p,hp,rfl⟩:=hx
   have hjn:j<ls.length:=by rw[← hfl];exact (QC.1 hp).1
   have hcj:ls[j]? =some ls[j]:=QN hjn
   generalize ls[j]=c at hcj
   have hc1:=hone c (QG hcj)
   match c,hc1 with
   |[q],_=>
    obtain⟨v',g1,g2⟩:=hu4 j 0 [q] q hcj rfl
    rw[show j*1+0=j by omega,hv]at g1
    simp only[QB]at g1;subst g1
    have:ls.flatten[j]? =some q:=Vy ls j q hone hcj
    rw[this]at hp
    simp only[QB]at hp;subst hp
    simpa only[Ag]using g2
theorem Afv {T tx:TypeId}{x y:Operand}{fr:List AV}(hop:o.op= .call { callee:=.builtin .copy,args:= #[x,y],argTypes:= #[T,tx] })(hM:Al M σ)(hF:Cx M a fr)(hC:C.ok P)
 (h:Qv C T (evA fr x) (evA fr y) σ=some (r,σ')):Does P o a M σ r σ':=by
 have hx:=hF.ev x
 have hy:=hF.ev y
 have hexec:∀ v w',(Builtin.copy_ #[T,tx] o.type #[a.eval x,a.eval y]).run P M.w= .ok v w'→(execOp a.eval o).run P M.w= .ok (.value v) w':=fun v w' hr=>by
  unfold execOp
  simp only[hop,resolve,invoke,builtin,Sem.run_bind,Sem.run_pure,Result.andThen_ok,VD,QK,ZB,hr]
 unfold Qv at h
 split at h
 case h_2=>simp at h
 rename_i E eb ez cs hk hcs
 obtain⟨d,hd,rfl,ii,z,hii,hs,_⟩:=As hC hk
 have hs1:(P.info? E).map (·.size)=some 1:=by rw[hii];simp[hs]
 obtain⟨ad,sc,vs,e2,hvs,hlf,hsrc⟩:=Aks hM hcs hy
 have hvl:=hvs.len
 have hrun:∀ (b off dl dc:Nat) (cur:Array Value) (T0:TypeId),a.eval x= .slice (some ⟨b,off,none⟩) dl dc→M.w.heap[b]? =some (.cells cur T0 (0,0))→off+dl≤cur.size→
  (Builtin.copy_ #[T,tx] o.type #[a.eval x,a.eval y]).run P M.w= .ok (.int .i64 ((cs.take dl).length:Nat)) (M.w.setCells b off (vs.take dl)):=fun b off dl dc cur T0 e1 hh hfit=>by
  have hlt:(vs.take dl).length=(cs.take dl).length:=by simp[hvl]
  rw[e1,e2]
  rcases hsrc with rfl|⟨b',off',rfl,hcell⟩
  ·have:vs=[]:=YX.1 hvl
   subst this
   have:=run_copy_none (P:=P) M.w T tx o.type E (some ⟨b,off,none⟩) ad dl dc 0 sc hd hs1 (by simp)
   simpa [World.setCells,goInt]using this
  ·have:=run_copy_cells (P:=P) M.w T tx o.type E b off dl dc ⟨b',off',none⟩ cs.length sc (vs.take dl) hd hs1 (by simp[hvl,Nat.min_comm]) (fun j v hj=>by
    rw[Addr.add_mid]
    rw[QT]at hj
    split at hj
    ·exact hcell j v hj
    ·simp at hj) (fun j hj=>by
    rw[cell_of_row _ _ _ _ _ _ hh]
    have:off+j<cur.size:=by simp at hj;omega
    simp[this]) (fun j hj=>by simp[World.frozen?,hh]) (fun v hv=>hvs.ones hlf v (ZM hv))
   rw[hlt]at this
   simpa [goInt]using this
 split at h
 ·rename_i t e i q n he
  rw[he]at hx
  simp only[Ag]at hx
  obtain⟨b,cap,hb,_,e1,hn⟩:=hx
  split at h
  case h_2=>simp at h
  rename_i e2' ls hσ
  split at h
  case isFalse=>simp at h
  rename_i hee;subst hee
  split at h
  case h_2=>simp at h
  rename_i c hc
  split at h
  case isFalse=>simp at h
  rename_i ho
  simp only[QB,QJ]at h
  obtain⟨rfl,rfl⟩:=h
  have htl:(cs.take n).length≤n:=by simp;omega
  obtain⟨M',h1,h2,h3⟩:=hM.store hσ hb hc (m:=cs.take n) (us:=vs.take n) (o:=q) (by omega) (hvs.take n) (ZA.2 fun x hx=>ZA.1 hlf x (ZM hx))
  obtain⟨_,b',cur,T0,hb',hh,hI,hr,hcz⟩:=hM.obj t _ hσ
  have:b'=b:=by rw[hb]at hb';simpa using hb'.symm
  subst this
  obtain⟨us0,k1,k2,k3⟩:=Ez hh hr hc
  have hfit:i*e2'+q+n≤cur.size:=by
   rcases Nat.eq_zero_or_pos (q+n)with h0|h0
   ·have:n=0:=by omega
    have:q=0:=by omega
    subst q n
    simp only[XD]
    rcases Nat.eq_zero_or_pos c.length with hc0|hc0
    ·have hcl:=(hr i c hc).1
     have:e2'=0:=by omega
     subst this;simp
    ·have hl0:us0[0]? =some (us0[0]'(by rw[k1.len];omega)):=QN _
     have:=k3 0 _ hl0
     rw[cell_of_row _ _ _ _ _ _ hh]at this
     have:=(QU.1 this).1
     omega
   ·have hlt:q+n - 1<us0.length:=by rw[k1.len];omega
    have:=k3 (q+n - 1) _ (QN hlt)
    rw[cell_of_row _ _ _ _ _ _ hh]at this
    have:=(QU.1 this).1
    omega
  refine⟨_,M',.inl (hexec _ _ ?_),h2,h3,Bb rfl⟩
  rw[hrun b' _ n cap cur T0 e1 hh hfit,h1]
 ·rename_i t e i n he
  split at h
  case isFalse=>simp at h
  rename_i hee;subst hee
  rw[he]at hx
  simp only[Ag]at hx
  obtain⟨b,cap,hb,_,e1,hn,hcapb⟩:=hx
  split at h
  case h_2=>simp at h
  rename_i e2' ls hσ
  split at h
  case isFalse=>simp at h
  rename_i hc
  obtain⟨rfl,hin⟩:=hc
  simp only[QB,QJ]at h
  obtain⟨rfl,rfl⟩:=h
  obtain⟨_,b',cur,T0,hb',hh,hI,hr,hcz⟩:=hM.obj t _ hσ
  have:b'=b:=by rw[hb]at hb';simpa using hb'.symm
  subst this
  have htl:(cs.take n).length≤n:=by simp;omega
  have hvt:(vs.take n).length=(cs.take n).length:=by simp[hvl]
  obtain⟨M',h1,h2,h3⟩:=hM.storeG (p:=i*1) (us:=vs.take n) (ls':=ls.take i++(cs.take n).map (fun a=>[a])++ls.drop (i+(cs.take n).length)) hσ hb hh (fun cur' hz hg k c hk=>by
   rw[QX,YR,QZ]at hk
   have old:∀ c,ls[k]? =some c→(k<i∨i+(cs.take n).length≤k)→c.length=1∧∀ (j:Nat) (a:AV),c[j]? =some a→leaf a=true∧∃ u,cur'[k*1+j]? =some u∧Ag M a u:=fun c hk ho=>by
    obtain⟨g1,g2⟩:=hr k c hk
    refine⟨g1,fun j x hx=> ?_⟩
    obtain⟨g3,v,g4,g5⟩:=g2 j x hx
    have hj:j<1:=by rw[← g1];exact (QC.1 hx).1
    exact⟨g3,v,by rw[hg,if_neg (by omega)];exact g4,g5⟩
   by_cases hki:k<i
   ·rw[if_pos (by omega),QT,if_pos hki]at hk
    exact old c hk (.inl hki)
   ·rw[if_neg (by omega),YR]at hk
    split at hk
    ·rename_i hlt
     rw[QR,QQ]at hk
     obtain⟨x,hx,rfl⟩:=hk
     rw[YO (by omega)]at hx
     simp only[QL]at hlt
     refine⟨rfl,fun j y hy=> ?_⟩
     have hj:j=0:=by have:=(QC.1 hy).1;simp at this;exact this
     subst hj
     simp only[YT,QB]at hy
     subst hy
     obtain⟨v,g1,g2⟩:=(hvs.take n).get hx
     refine⟨ZA.1 hlf _ (ZM (QG hx)),v,?_,g2⟩
     have hks:k<cur.size:=by
      obtain⟨g1,g2⟩:=hr k (ls[k]'(by omega)) (QN _)
      have h0:(ls[k]'(by omega))[0]? =some ((ls[k]'(by omega))[0]'(by omega)):=QN _
      obtain⟨_,u,g4,_⟩:=g2 0 _ h0
      have:=(QU.1 g4).1
      omega
     rw[hg,if_pos ⟨by omega,by omega,by omega⟩,←g1]
     congr 1;omega
    ·rename_i hge
     rw[ZK]at hk
     simp only[QL]at hk hge
     rw[show i+(cs.take n).length+(k - min i ls.length - (cs.take n).length)=k by omega]at hk
     exact old c hk (.inr (by omega)))
  refine⟨_,M',.inl (hexec _ _ ?_),h2,h3,Bb rfl⟩
  rw[hrun b' _ n cap cur T0 e1 hh (by omega),h1]
 ·simp at h
theorem Y8 {T tx:TypeId}{m k:Operand}{fr:List AV}(hop:o.op= .call { callee:=.builtin .delete,args:= #[m,k],argTypes:= #[T,tx] })(hM:Al M σ)(hF:Cx M a fr)(hC:C.ok P)
 (h:Ly C T (evA fr m) (evA fr k) σ=some (r,σ')):Does P o a M σ r σ':=by
 unfold Ly at h
 split at h
 case h_2=>simp at h
 rename_i kd z kv t hk hi hm
 split at h
 case h_2=>simp at h
 rename_i es ht
 simp only[QQ,QJ]at h
 obtain⟨es',h,rfl,rfl⟩:=h
 obtain⟨d,hd,K,E,i,rfl,hK,hE,hz⟩:=As hC hk
 have hv:=hF.ev k
 rw[hi]at hv
 have e1:=(Cf hv).2
 have hv2:=hF.ev m
 rw[hm]at hv2
 simp only[Ag]at hv2
 obtain⟨b,hb,_,e2⟩:=hv2
 obtain⟨_,b',cur,clock,hb',hh,_,hr⟩:=hM.obj t _ ht
 have:b'=b:=by rw[hb]at hb';simpa using hb'.symm
 subst this
 unfold delK at h
 split at h
 case isFalse=>simp at h
 rename_i hkk
 have hkey:=Td hkk
 have hnow:=fun f hf=>F0 (M:=M) (kd:=kd) (k:=kv) es cur.toList 0 f (by simpa using hr.1) (fun j q hj=>by obtain⟨e,g1,g2⟩:=hr.2 j q hj;exact⟨e,by simpa using g1,g2⟩) hf
 have h1:=fun e=>run_checkKey (P:=P) (w:=M.w) hK hkey e 9999
 have hfin:∀ (cur':Array MapEntry) (clock':Nat),(Builtin.delete_ #[T,tx] o.type #[a.eval m,kv]).run P M.w= .ok (.tuple #[]) { M.w with heap:=M.w.heap.setIfInBounds b' (.map cur' clock') }→Fw M cur' es'→Does P o a M σ (.tup []) (σ.set t (some (.map es'))):=fun cur' clock' hrun hr'=>by
  have hs:=Go.MapKept.heap_set (o':=.map cur' clock') hh
  obtain⟨M',g1,g2,g3⟩:=hM.mapSet (w':={ M.w with heap:=M.w.heap.setIfInBounds b' (.map cur' clock') }) (es':=es') ht hb hs.1 hs.2 (by simp) rfl rfl rfl hr'
  refine⟨.tuple #[],M',.inl ?_,g2,g3,by simp only[Ag,Af];exact⟨[],rfl,rfl⟩⟩
  rw[g1]
  unfold execOp
  simp only[hop,resolve,invoke,builtin,Sem.run_bind,Sem.run_pure,Result.andThen_ok,VD,QK,ZB,e1,hrun]
 split at h
 ·rename_i j x' hf
  simp only[QB]at h
  obtain⟨e,_,q2,q3,q4,_⟩:=hnow _ hf
  refine hfin (cur.eraseIdxIfInBounds j) clock ?_ ?_
  ·have h2:=run_findKey (P:=P) (w:=M.w) hK q3
   simp[e2,Builtin.delete_,run_underlying hd,Go.MapKept.run_getObj_map hh,h1,h2,Go.MapKept.run_setObj_map _ hh,Result.andThen]
  ·subst h
   have hjl:j<cur.size:=by have:=(QC.1 q2).1;simpa using this
   have hsz:=hr.1
   have he:(cur.eraseIdxIfInBounds j)=cur.eraseIdx j hjl:=by simp[Array.eraseIdxIfInBounds,hjl]
   rw[he]
   refine⟨by rw[Array.size_eraseIdx,List.length_eraseIdx,if_pos (by omega)];omega,fun i q hq=> ?_⟩
   rw[List.getElem?_eraseIdx]at hq
   rw[Array.getElem?_eraseIdx]
   split at hq
   ·rename_i hij;rw[if_pos hij];exact hr.2 i q hq
   ·rename_i hij;rw[if_neg hij];exact hr.2 _ q hq
 ·rename_i hf
  simp only[QB]at h
  subst h
  have hq:=hnow _ hf
  refine hfin cur clock ?_ hr
  have h2:=run_findKey (P:=P) (w:=M.w) hK hq
  simp[e2,Builtin.delete_,run_underlying hd,Go.MapKept.run_getObj_map hh,h1,h2,Go.MapKept.run_setObj_map _ hh,Result.andThen]
 ·simp at h
theorem Afw {fr:List AV}(hC:C.ok P)(hM:Al M σ)(hF:Cx M a fr)(h:aopX C o.op (evA fr) σ=some (r,σ')):Does P o a M σ r σ':=by
 cases hop:o.op
 case makeInterface T x=>
  simp only[hop,aopX,QQ,QJ]at h
  obtain⟨z,hz,rfl,rfl⟩:=h
  unfold mkIA at hz
  split at hz
  case h_2=>simp at hz
  rename_i hk
  simp only[QB]at hz;subst hz
  obtain⟨d,hd,E,rfl⟩:=As hC hk
  refine Cl hM (v:=.iface T (a.eval x)) ?_ (by simp only[Ag];exact⟨_,rfl,hF.ev x⟩)
  unfold execOp
  simp[hop,Instr.makeInterface,run_underlying hd]
 case typeAssert x S T ok=>
  simp only[hop,aopX,QQ,QJ]at h
  obtain⟨z,hz,rfl,rfl⟩:=h
  unfold asIA at hz
  split at hz
  case h_2=>simp at hz
  rename_i T' y hk he
  split at hz
  case isFalse=>simp at hz
  rename_i hT;subst hT
  simp only[QB]at hz;subst hz
  obtain⟨d,hd,E,rfl⟩:=As hC hk
  have hv:=hF.ev x
  rw[he]at hv
  simp only[Ag]at hv
  obtain⟨v,e1,hv⟩:=hv
  cases ok
  ·refine Cl hM (v:=v) ?_ hv
   unfold execOp
   simp[hop,Instr.typeAssert,run_underlying hd,e1]
  ·refine Cl hM (v:=.tuple #[v,.bool true]) ?_ (by simp only[if_true,Ag,Af];exact⟨_,rfl,_,_,rfl,hv,_,_,rfl,by simp[Av,Ag,Ca,plain],rfl⟩)
   unfold execOp
   simp[hop,Instr.typeAssert,run_underlying hd,e1]
 case sliceToArrayPointer T x=>
  simp only[hop,aopX,QQ,QJ]at h
  obtain⟨z,hz,rfl,rfl⟩:=h
  unfold Y4 at hz
  split at hz
  case h_2=>simp at hz
  rename_i m t e i q n hk he
  split at hz
  case isFalse=>simp at hz
  rename_i hmn
  simp only[QB]at hz;subst hz
  obtain⟨d,hd,E,ii,rfl,_⟩:=As hC hk
  have hv:=hF.ev x
  rw[he]at hv
  simp only[Ag]at hv
  obtain⟨b,cap,hb,hbl,e1,hn⟩:=hv
  refine Cl hM (v:=.pointer (some ⟨b,i*e+q,none⟩)) ?_ (by simp only[Ag];exact⟨b,hb,hbl,rfl⟩)
  unfold execOp
  simp[hop,Instr.arrayAt,run_underlying hd,e1,Nat.not_lt.2 hmn]
 case call c=>
  simp only[hop,aopX]at h
  split at h
  case h_2=>simp at h
  rename_i b hb
  obtain⟨callee,args,argTypes⟩:=c
  simp only at hb h
  subst hb
  unfold Jt at h
  split at h
  all_goals try (simp at h;done)
  all_goals
   rename_i T T' x y hts hxs
   obtain⟨x',y',hargs,rfl,rfl⟩:∃ x' y',args.toList=[x',y']∧evA fr x'=x∧evA fr y'=y:=by
    match hl:args.toList,hxs with
    |[x',y'],hxs=>simp at hxs;exact⟨x',y',rfl,hxs.1,hxs.2⟩
   have h1:args= #[x',y']:=by rw[← ZV (xs:=args),hargs]
   have h2:argTypes= #[T,T']:=by rw[← ZV (xs:=argTypes),hts]
   subst h1 h2
   first
    |exact Afv hop hM hF hC h
    |exact Y8 hop hM hF hC h
 all_goals (rw[hop]at h;simp[aopX]at h;done)
theorem Akt {op:Op}{ρ:Operand→AV}(h:aopX C op ρ σ=some (r,σ')):σ.length≤σ'.length:=by
 cases op<;>simp only[aopX]at h<;>try (simp at h;done)
 case makeInterface=>simp only[QQ,QJ]at h;obtain⟨_,_,_,rfl⟩:=h;exact QH _
 case typeAssert=>simp only[QQ,QJ]at h;obtain⟨_,_,_,rfl⟩:=h;exact QH _
 case sliceToArrayPointer=>simp only[QQ,QJ]at h;obtain⟨_,_,_,rfl⟩:=h;exact QH _
 case call c=>
  split at h
  case h_2=>simp at h
  unfold Jt at h
  split at h
  ·unfold Qv at h
   repeat' (split at h)
   all_goals simp only[QB,QJ,reduceCtorEq]at h
   all_goals (obtain⟨_,rfl⟩:=h;simp)
  ·unfold Ly at h
   repeat' (split at h)
   all_goals simp only[QQ,QJ,reduceCtorEq]at h
   all_goals (obtain⟨_,_,_,rfl⟩:=h;simp)
  ·simp at h
theorem M5:∀ {ls:List (List AV)} {bs:List UInt8},Jq ls=some bs→ls=bs.map fun b=>[.p (.v (.int .u8 b.toNat))]
 |[],bs,h=>by simp[Jq]at h;subst h;rfl
 |c::ls,bs,h=>by
  unfold Jq at h
  split at h
  ·rename_i heq;simp at heq
  ·rename_i x l heq
   simp at heq
   obtain⟨rfl,rfl⟩:=heq
   split at h
   ·rename_i b bs' hb hbs
    simp at h;subst h
    rw[Lz hb,M5 hbs];rfl
   ·simp at h
  ·simp at h
theorem Vz (w:World)(S E:TypeId)(b n cap:Nat)(cur:Array Value)(hS:P.underlying S=some (.slice E))(hE:P.underlying E=some (.int .u8))(hh:w.heap[b]? =some (.cells cur E (0,0))):
 ∃ w',(convert S S (.slice (some ⟨b,0,none⟩) n cap)).run P w= .ok (.slice (some ⟨b,0,none⟩) n cap) w'∧w'.heap[b]? =some (.cells cur E (cur.size,cur.size+1))∧(∀ k,k≠b→w'.heap[k]? =w.heap[k]?)∧w'.heap.size=w.heap.size∧w'.os=w.os∧w'.tape=w.tape∧w'.output=w.output:=by
 have hsh:w.shape? b=some (E,cur.size):=by unfold World.shape?;rw[hh]
 have hfr:w.freeze ⟨b,cur.size,none⟩ 1={ w with heap:=w.heap.modify b fun| .cells c elem (lo,hi)=>.cells c elem (if lo==hi then (cur.size,cur.size+1)else (min lo cur.size,max hi (cur.size+1)))|o=>o }:=by
  unfold World.freeze
  rw[if_neg (by decide)]
  rfl
 refine⟨w.freeze ⟨b,cur.size,none⟩ 1,?_,?_,fun k hk=> ?_,?_,?_,?_,?_⟩
 ·simp[convert,run_underlying hS,run_underlying hE,markStringish,hsh]
 ·rw[hfr]
  show (w.heap.modify b _)[b]? =_
  rw[WI,hh];simp
 ·rw[hfr]
  show (w.heap.modify b _)[k]? =_
  have:¬ b=k:=fun e=>hk e.symm
  rw[WI,if_neg this]
 ·rw[hfr];simp
 ·rw[hfr]
 ·rw[hfr]
 ·rw[hfr]
theorem Aec {S T:TypeId}{x:Operand}{fr:List AV}(hop:o.op= .convert S T x)(hM:Al M σ)(hF:Cx M a fr)(hC:C.ok P)(h:Adv C S T (evA fr x) σ=some (r,σ')):Does P o a M σ r σ':=by
 have hx:=hF.ev x
 unfold Adv at h
 split at h
 case h_2=>simp at h
 rename_i E es eb ez hks
 split at h
 case h_2=>simp at h
 rename_i hke
 obtain⟨d,hd,rfl,_⟩:=As hC hks
 obtain⟨d'',hd'',rfl⟩:=As hC hke
 split at h
 case h_3=>simp at h
 ·rename_i t i n he
  split at h
  case h_2=>simp at h
  rename_i hkt
  obtain⟨d',hd',rfl⟩:=As hC hkt
  split at h
  case h_2=>simp at h
  rename_i ls ht
  split at h
  case isFalse=>simp at h
  rename_i hin
  simp only[QQ,QJ]at h
  obtain⟨bs,hbs,rfl,rfl⟩:=h
  rw[he]at hx
  simp only[Ag]at hx
  obtain⟨b,cap,hb,hbl,e2,hcap,_⟩:=hx
  obtain⟨_,b',cur,T',hb',hh,hI,hr,_⟩:=hM.obj t _ ht
  have:b'=b:=by rw[hb]at hb';simpa using hb'.symm
  subst this
  have hls:=M5 hbs
  have hn:n=bs.length:=by
   have:=congrArg List.length hls
   simpa [YO (show n≤ls.length - i by omega)]using this
  refine Cl hM (v:=.string ⟨bs.toArray⟩) ?_ (Bb rfl)
  have hcells:(loadCells ⟨b',i,none⟩ bs.length).run P M.w= .ok (bs.map fun b=>Value.int .u8 b.toNat).toArray M.w:=by
   have:=run_loadCells_list (P:=P) M.w ⟨b',i,none⟩ (bs.map fun b=>Value.int .u8 b.toNat) (fun j v hj=>by
    rw[Addr.add_mid]
    rw[QR]at hj
    cases hbj:bs[j]? with
    |none=>rw[hbj]at hj;simp at hj
    |some c=>
     rw[hbj]at hj;simp at hj;subst hj
     have hjl:=(QC.1 hbj).1
     have hlj:ls[i+j]? =some [.p (.v (.int .u8 c.toNat))]:=by
      have h1:((ls.drop i).take n)[j]? =some [.p (.v (.int .u8 c.toNat))]:=by rw[hls];simp[hbj]
      rw[QT,if_pos (by omega),ZK]at h1
      exact h1
     obtain⟨_,h4⟩:=hr (i+j) _ hlj
     obtain⟨_,u,h5,h6⟩:=h4 0 _ rfl
     rw[cell_of_row _ _ _ _ _ _ hh]
     rw[XK,XD]at h5
     rw[h5,(Cf h6).2])
   simpa using this
  have hrun:(convert S T (.slice (some ⟨b',i,none⟩) n cap)).run P M.w= .ok (.string ⟨bs.toArray⟩) M.w:=by
   rw[run_convert_bytes_string M.w S T E _ _ cap hd hd'' hd',hn]
   rw[run_bytesToString M.w ⟨b',i,none⟩ _ cap (bs.map fun b=>(b.toNat:Int)) (by rw[hcells];simp),Ot]
   simp
  unfold execOp
  rw[XK]at e2
  simp[hop,e2,hrun]
 ·rename_i t ls he
  split at h
  case isFalse=>simp at h
  rename_i hST
  subst hST
  split at h
  case h_2=>simp at h
  rename_i E' n ht
  split at h
  case isFalse=>simp at h
  rename_i hc
  obtain⟨rfl,rfl,hpos⟩:=hc
  simp only[QB,QJ]at h
  obtain⟨rfl,rfl⟩:=h
  rw[he]at hx
  simp only[Ag]at hx
  obtain⟨b,cap,n,e2,hcap,hmax,hrow,hlen,hle,heq⟩:=hx
  obtain⟨hlen',b',cur,hb',hh,hcs,hI⟩:=hM.obj t _ ht
  have hn:n=ls.length:=by rw[hlen]at hlen';simpa using hlen'
  subst hn
  obtain⟨hb,_⟩:=heq (by rw[XK])
  have:b'=b:=by rw[hb]at hb';simpa using hb'.symm
  subst this
  obtain⟨w',h1,h2,h3,h4,h5,h6,h7⟩:=Vz (P:=P) M.w S E' b' ls.length cap cur hd hd'' hh
  have hcell:∀ p:Addr,w'.cell? p=M.w.cell? p:=fun p=>by
   unfold World.cell?
   by_cases e:p.block=b'
   ·rw[e,h2,hh]
   ·rw[h3 _ e]
  let M':Az:={ M with w:=w' }
  have hL:Later M M':=⟨fun _ _ h h'=>⟨h,h',rfl⟩,C5 (fun _=>rfl) (fun _=>rfl) (fun _=>rfl),fun _ _ h=>h,fun b o _=>hcell _⟩
  have hf:=hM.forget t
  have hne:∀ s ob,St.at (σ.set t none) s ob→M.mu s≠some b':=fun s ob hs e=>by
   obtain⟨hst,hs'⟩:=St.at_forget hs
   exact hst (hM.inj s t ob _ b' hs' ht e hb)
  have hE:Ext M σ M' (σ.set t none):=⟨hL.mu,hL.own,hL.imm,fun b o _=>hcell _,fun q hq hno=>⟨h3 q fun e=>hno t _ ht (by rw[e];exact hb),fun o ho=>ho⟩,fun s ob q hs hq=>.inr ⟨s,ob,(St.at_forget hs).2,hq⟩,by show M.w.heap.size≤w'.heap.size;omega,h5,h6,h7⟩
  refine⟨.slice (some ⟨b',0,none⟩) ls.length cap,M',.inl ?_,hE,?_,?_⟩
  ·unfold execOp
   simp[hop,e2,h1,M']
  ·refine⟨fun s ob hs=> ?_,fun s s' ob ob' q hs hs' hq hq'=>hf.inj s s' ob ob' q hs hs' hq hq',fun s hs=>hf.fresh s hs,fun s q hq=>by show q<w'.heap.size;rw[h4];exact hM.lt s q hq,fun q o ho=>by show q<w'.heap.size;rw[h4];exact hM.imm q o ho,hM.glob.ext hE⟩
   exact (hf.obj s ob hs).later hL rfl rfl rfl fun q hq=>⟨h3 q fun e=>hne s ob hs (by rw[← e];exact hq),fun _ h=>h⟩
  ·simp only[Ag,Ca]
   refine .inr ⟨b',0,cap,rfl,hcap,?_⟩
   exact Br.later (fun _ _ h=>h) (fun q o _=>hcell _) _ _ _ _ hrow
end
