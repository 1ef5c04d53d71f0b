/- What a piece of code comes to on the abstract machine, and that the world does the same. Of a state less is known: objects are forgotten, slots too; nil is a row to append to. -/
import Derived.Test.YtpoigihfeehehaaGreatDoorM07
set_option linter.all false
set_option maxRecDepth 100000
set_option maxHeartbeats 32000000
namespace Go.Proofs.YtpoigihfeehehaaGreatDoor
open Go.RowKit
section
variable {P:Program} {C:Ctx} {o:Oper} {a:Act} {M:Az} {σ σ':St} {r:AV}
def Du (C:Ctx):Op→Bool
 | .move _| .assign _| .pick .. | .build .. | .binOp .. | .unOp .. | .fieldAddr .. | .field .. | .indexAddr .. | .index .. | .extract .. | .nilCheck _| .makeFunc .. | .slice .. =>true
 | .convert S T _=>match C.kind S,C.kind T with
   |some (.slice ..),_=>false
   |_,some (.slice ..)=>false
   |_,_=>true
 | .call c=>match c.callee with
   | .builtin .len| .builtin .min| .builtin .max| .builtin .cap=>true
   |_=>false
 |_=>false
theorem V0 {fr:List AV}{tk:Nat}(hC:C.ok P)(hF:Cx M a fr)(hs:Du C o.op=true)(h:aop C tk o.op (evA fr) σ=some (r,σ')):σ'=σ∧El P o a M r:=by
 cases hop:o.op
 case move x=>
  simp only[hop,aop,QB,QJ]at h
  obtain⟨rfl,rfl⟩:=h
  exact⟨rfl,Aj (v:=a.eval x) (fun w=>by unfold execOp;simp[hop]) (hF.ev x)⟩
 case assign x=>
  simp only[hop,aop,QB,QJ]at h
  obtain⟨rfl,rfl⟩:=h
  exact⟨rfl,Aj (v:=a.eval x) (fun w=>by unfold execOp;simp[hop]) (hF.ev x)⟩
 case pick c x y=>
  simp only[hop,aop]at h
  split at h
  ·rename_i t he
   simp only[QB,QJ]at h
   obtain⟨rfl,rfl⟩:=h
   have hv:=hF.ev c
   rw[he]at hv
   refine⟨rfl,Aj (v:=if t then a.eval x else a.eval y) ?_ ?_⟩
   ·intro w;unfold execOp;cases t<;>simp[hop,(Cf hv).2,asBool]
   ·cases t
    ·exact hF.ev y
    ·exact hF.ev x
  ·simp at h
 case build T ps=>
  simp only[hop,aop]at h
  split at h
  ·rename_i ti hti
   split at h
   ·rename_i fs hk
    simp only[QQ,QJ]at h
    obtain⟨l,hl,rfl,rfl⟩:=h
    exact⟨rfl,Ad1 hop hF (hC.1 T ti hti) hk hl⟩
   ·rename_i n es er hk
    simp only[QQ,QJ]at h
    obtain⟨l,hl,rfl,rfl⟩:=h
    exact⟨rfl,Ad2 hop hF (hC.1 T ti hti) hk hl⟩
   ·rename_i n hk
    split at h
    ·rename_i hps
     simp only[QB,QJ]at h
     obtain⟨rfl,rfl⟩:=h
     exact⟨rfl,Afl hop (hC.1 T ti hti) hk hps⟩
    ·simp at h
   ·simp at h
  ·simp at h
 case nilCheck x=>
  simp only[hop,aop]at h
  split at h
  ·rename_i c o' he
   simp only[QB,QJ]at h
   obtain⟨rfl,rfl⟩:=h
   rw[← he];exact⟨rfl,Jw hop hF (.inl ⟨_,_,he⟩)⟩
  ·rename_i t e i o' he
   simp only[QB,QJ]at h
   obtain⟨rfl,rfl⟩:=h
   rw[← he];exact⟨rfl,Jw hop hF (.inr ⟨_,_,_,_,he⟩)⟩
  ·simp at h
 case binOp op T x y T'=>
  simp only[hop,aop,QQ,QJ]at h
  obtain⟨z,hz,rfl,rfl⟩:=h
  exact⟨rfl,Ad6 hop hF hC hz⟩
 case unOp op T x=>
  simp only[hop,aop,QQ,QJ]at h
  obtain⟨z,hz,rfl,rfl⟩:=h
  exact⟨rfl,Afm hop hF hz⟩
 case convert S T x=>
  simp only[hop,aop]at h
  split at h
  ·rename_i z hz
   simp only[QB,QJ]at h
   obtain⟨rfl,rfl⟩:=h
   exact⟨rfl,My hop hF hC hz⟩
  ·split at h
   ·rename_i z hz
    exfalso
    unfold Adu at hz
    split at hz
    ·rename_i hks hkt
     simp[hop,Du,hks]at hs
    ·rename_i hks hkt
     simp[hop,Du,hks,hkt]at hs
    ·simp at hz
   ·exfalso
    unfold Adv at h
    cases hk:C.kind S with
    |none=>rw[hk]at h;simp at h
    |some kd=>
     rw[hk]at h
     cases kd<;>first|(simp at h;done)|(simp[hop,Du,hk]at hs;done)
 case makeFunc f first cap=>
  cases f<;>simp only[hop,aop]at h<;>try (simp at h;done)
  simp only[QB,QJ]at h
  obtain⟨rfl,rfl⟩:=h
  exact⟨rfl,S5 hop hF⟩
 case slice T x lo hi mx=>
  cases mx<;>simp only[hop,aop]at h<;>try (simp at h;done)
  simp only[QQ,QJ]at h
  obtain⟨z,hz,rfl,rfl⟩:=h
  exact⟨rfl,Ad8 hop hF hC hz⟩
 case fieldAddr T x k=>
  simp only[hop,aop]at h
  split at h
  ·rename_i fs hk
   split at h
   ·rename_i off s rr t e i o' hf he
    simp only[QB,QJ]at h
    obtain⟨rfl,rfl⟩:=h
    exact⟨rfl,Is hop hF hC hk hf (.inl ⟨_,_,_,_,he,rfl⟩)⟩
   ·rename_i off s rr c o' hf he
    simp only[QB,QJ]at h
    obtain⟨rfl,rfl⟩:=h
    exact⟨rfl,Is hop hF hC hk hf (.inr ⟨_,_,he,rfl⟩)⟩
   ·simp at h
  ·simp at h
 case field T x k=>
  simp only[hop,aop]at h
  split at h
  ·rename_i fs l hk he
   split at h
   ·rename_i off s rr hf
    simp only[QQ,QJ]at h
    obtain⟨z,hz,rfl,rfl⟩:=h
    exact⟨rfl,Ad3 hop hF hC hk hf he hz⟩
   ·simp at h
  ·simp at h
 case indexAddr T x i=>
  simp only[hop,aop]at h
  split at h
  ·rename_i E es eb ez k n hk hi
   split at h
   ·rename_i t e j m he
    split at h
    ·rename_i hh
     simp only[QB,QJ]at h
     obtain⟨rfl,rfl⟩:=h
     exact⟨rfl,Vm hop hF hC hk hi he hh.1 hh.2.1 hh.2.2⟩
    ·simp at h
   ·rename_i t e j q m he
    split at h
    ·rename_i hh
     simp only[QB,QJ]at h
     obtain⟨rfl,rfl⟩:=h
     exact⟨rfl,Vn hop hF hC hk hi he hh.1 hh.2.1 hh.2.2⟩
    ·simp at h
   ·split at h
    ·rename_i e ls hel
     split at h
     ·rename_i hh
      split at h
      ·rename_i c hc
       simp only[QB,QJ]at h
       obtain⟨rfl,rfl⟩:=h
       exact⟨rfl,Oo hop hF hC hk hi hel hh.1 hh.2 hc⟩
      ·simp at h
     ·simp at h
    ·simp at h
  ·rename_i m k n hk hi
   split at h
   ·rename_i hh
    split at h
    ·rename_i t e j o' he
     simp only[QB,QJ]at h
     obtain⟨rfl,rfl⟩:=h
     exact⟨rfl,Oq hop hF hC hk hi hh.1 hh.2 (.inl ⟨_,_,_,_,he,rfl⟩)⟩
    ·rename_i c o' he
     simp only[QB,QJ]at h
     obtain⟨rfl,rfl⟩:=h
     exact⟨rfl,Oq hop hF hC hk hi hh.1 hh.2 (.inr ⟨_,_,he,rfl⟩)⟩
    ·simp at h
   ·simp at h
  ·rename_i m es er k n hk hi
   split at h
   ·rename_i hh
    split at h
    ·rename_i t e j o' he
     simp only[QB,QJ]at h
     obtain⟨rfl,rfl⟩:=h
     exact⟨rfl,Jy hop hF hC hk hi hh.1 hh.2 (.inl ⟨_,_,_,_,he,rfl⟩)⟩
    ·rename_i c o' he
     simp only[QB,QJ]at h
     obtain⟨rfl,rfl⟩:=h
     exact⟨rfl,Jy hop hF hC hk hi hh.1 hh.2 (.inr ⟨_,_,he,rfl⟩)⟩
    ·simp at h
   ·simp at h
  ·simp at h
 case index T x i=>
  simp only[hop,aop]at h
  split at h
  ·rename_i s k n hk he hi
   split at h
   ·rename_i hn
    split at h
    ·rename_i c hc
     simp only[QB,QJ]at h
     obtain⟨rfl,rfl⟩:=h
     exact⟨rfl,S7 hop hF hC hk he hi hn hc⟩
    ·simp at h
   ·simp at h
  ·rename_i m es er l k n hk he hi
   split at h
   ·rename_i hh
    simp only[QQ,QJ]at h
    obtain⟨z,hz,rfl,rfl⟩:=h
    exact⟨rfl,S8 hop hF hC hk he hi hh.1 hh.2 hz⟩
   ·simp at h
  ·simp at h
 case extract x k=>
  simp only[hop,aop]at h
  split at h
  ·rename_i l he
   split at h
   ·rename_i z hz
    simp only[QB,QJ]at h
    obtain⟨rfl,rfl⟩:=h
    exact⟨rfl,Vl hop hF he hz⟩
   ·simp at h
  ·simp at h
 case call c=>
  simp only[hop,aop]at h
  split at h
  ·rename_i b hb
   obtain⟨callee,args,argTypes⟩:=c
   simp only at hb h
   subst hb
   unfold Dn at h
   split at h
   ·rename_i T T' x y hts hxs
    split at h
    ·rename_i e;subst e
     obtain⟨x',y',hargs,rfl,rfl⟩:∃ x' y',args.toList=[x',y']∧evA fr x'=x∧evA fr y'=y:=by
      match hl:args.toList,hxs with
      |[x',y'],hxs=>simp at hxs;exact⟨x',y',rfl,hxs.1,hxs.2⟩
     have h1:args= #[x',y']:=by rw[← ZV (xs:=args),hargs]
     have h2:argTypes= #[T,T]:=by rw[← ZV (xs:=argTypes),hts]
     subst h1 h2
     rw[hop]at hs;simp[Du]at hs
    ·rw[hop]at hs;simp[Du]at hs
   ·rename_i T x hts hxs
    obtain⟨x',hargs,rfl⟩:∃ x',args.toList=[x']∧evA fr x'=x:=by
     match hl:args.toList,hxs with
     |[x'],hxs=>simp at hxs;exact⟨x',rfl,hxs⟩
    have h1:args= #[x']:=by rw[← ZV (xs:=args),hargs]
    have h2:argTypes= #[T]:=by rw[← ZV (xs:=argTypes),hts]
    subst h1 h2
    simp only[QQ,QJ]at h
    obtain⟨n,hn,rfl,rfl⟩:=h
    unfold Ba at hn
    split at hn
    ·rename_i s hk he
     try simp only[QB]at hn
     exact⟨rfl,Jz hop hF hC (.inl ⟨hk,_,he,hn.symm⟩)⟩
    ·rename_i _ _ E es eb ez hk
     split at hn
     ·rename_i e ls hel
      try simp only[QB]at hn
      exact⟨rfl,Jz hop hF hC (.inr ⟨⟨_,_,_,_,hk⟩,.inl ⟨_,_,hel,hn.symm⟩⟩)⟩
     ·split at hn
      ·rename_i he2
       try simp only[QB]at hn
       exact⟨rfl,Jz hop hF hC (.inr ⟨⟨_,_,_,_,hk⟩,.inr (.inl ⟨he2,hn.symm⟩)⟩)⟩
      ·rename_i t e i n' he2
       try simp only[QB]at hn
       subst hn
       exact⟨rfl,Jz hop hF hC (.inr ⟨⟨_,_,_,_,hk⟩,.inr (.inr (.inl ⟨_,_,_,he2⟩))⟩)⟩
      ·rename_i t e i q n' he2
       try simp only[QB]at hn
       subst hn
       exact⟨rfl,Jz hop hF hC (.inr ⟨⟨_,_,_,_,hk⟩,.inr (.inr (.inr ⟨_,_,_,_,he2⟩))⟩)⟩
      ·simp at hn
    ·simp at hn
   ·rename_i T x hts hxs
    obtain⟨x',hargs,rfl⟩:∃ x',args.toList=[x']∧evA fr x'=x:=by
     match hl:args.toList,hxs with
     |[x'],hxs=>simp at hxs;exact⟨x',rfl,hxs⟩
    have h1:args= #[x']:=by rw[← ZV (xs:=args),hargs]
    have h2:argTypes= #[T]:=by rw[← ZV (xs:=argTypes),hts]
    subst h1 h2
    split at h
    ·rename_i hk he
     simp only[QB,QJ]at h
     obtain⟨rfl,rfl⟩:=h
     obtain⟨d,hd,rfl,_⟩:=As hC hk
     have e1:=hF.ev x'
     rw[he]at e1
     refine⟨rfl,Aj (v:=.int .i64 0) ?_ (Bb rfl)⟩
     intro w
     unfold execOp
     simp[hop,resolve,invoke,builtin,Builtin.cap_,run_underlying hd,(Cf e1).2,goInt]
    ·simp at h
   all_goals try (simp at h;done)
   all_goals
    rename_i x y hxs
    obtain⟨x',y',hargs,rfl,rfl⟩:∃ x' y',args.toList=[x',y']∧evA fr x'=x∧evA fr y'=y:=by
     match hl:args.toList,hxs with
     |[x',y'],hxs=>simp at hxs;exact⟨x',y',rfl,hxs.1,hxs.2⟩
    have h1:args= #[x',y']:=by rw[← ZV (xs:=args),hargs]
    subst h1
    split at h
    ·rename_i k n k' m hx hy
     simp only[QB,QJ]at h
     obtain⟨rfl,rfl⟩:=h
     have e1:=hF.ev x'
     rw[Dp hx]at e1
     have e2:=hF.ev y'
     rw[Dp hy]at e2
     refine⟨rfl,Aj ?_ (Bb rfl)⟩
     intro w
     unfold execOp
     simp[hop,resolve,invoke,builtin,Builtin.min_,Builtin.max_,Builtin.min2,Builtin.max2,Bi e1,Bi e2]
    ·simp at h
  ·simp at h
 all_goals (rw[hop]at hs;simp[Du]at hs)
theorem Ny {fr:List AV}{tk:Nat}(hC:C.ok P)(hM:Al M σ)(hF:Cx M a fr)(htk:tk=σ.length)(h:aop C tk o.op (evA fr) σ=some (r,σ')):Does P o a M σ r σ':=by
 by_cases hs:Du C o.op=true
 ·obtain⟨rfl,h1⟩:=V0 hC hF hs h
  exact h1.does hM
 cases hop:o.op
 case alloc T=>
  simp only[hop,aop,QQ,QJ]at h
  obtain⟨ti,hti,rfl,rfl⟩:=h
  exact Adz hop hM htk (hC.1 T ti hti)
 case box T x=>
  simp only[hop,aop]at h
  split at h
  ·rename_i ti l hti hl
   split at h
   ·rename_i hs
    simp only[QB,QJ]at h
    obtain⟨rfl,rfl⟩:=h
    exact Akq hop hM hF htk hl hs
   ·simp at h
  ·simp at h
 case buildSlice T n ps=>
  simp only[hop,aop]at h
  split at h
  ·rename_i E es eb ez hk
   split at h
   ·rename_i hn
    split at h
    ·rename_i ls hls
     have:=Ov hop hM hF hC hk htk hn hls
     split at h
     ·rename_i pls hpls
      simp only[QB,QJ]at h
      obtain⟨rfl,rfl⟩:=h
      exact this.1 pls hpls
     ·simp only[QB,QJ]at h
      obtain⟨rfl,rfl⟩:=h
      exact this.2
    ·simp at h
   ·simp at h
  ·simp at h
 case load T x=>
  simp only[hop,aop]at h
  split at h
  ·rename_i ti hti
   simp only[QQ,QJ]at h
   obtain⟨y,hy,rfl,rfl⟩:=h
   exact Afk hop hM hF (hC.1 T ti hti) hy
  ·simp at h
 case store T x y=>
  simp only[hop,aop]at h
  split at h
  ·rename_i ti hti
   simp only[QQ,QJ]at h
   obtain⟨s,hs,rfl,rfl⟩:=h
   exact Ad0 hop hM hF (hC.1 T ti hti) hs
  ·simp at h
 case makeSlice T l c=>
  simp only[hop,aop]at h
  split at h
  ·rename_i E es eb ez k n k' m hk hl hc
   split at h
   ·rename_i hh
    simp only[QB,QJ]at h
    obtain⟨rfl,rfl⟩:=h
    exact Qy hop hM hF hC hk htk hl hc hh.1 hh.2.1 hh.2.2.1 hh.2.2.2
   ·simp at h
  ·simp at h
 case makeMap T rv=>
  cases rv with
  |some y=>simp[hop,aop]at h
  |none=>
   simp only[hop,aop]at h
   split at h
   ·simp only[QB,QJ]at h
    obtain⟨rfl,rfl⟩:=h
    exact Vw hop hM htk
   ·simp at h
 case lookup T x ix ok=>
  simp only[hop,aop]at h
  split at h
  ·rename_i kd z kv t hk hi hx
   split at h
   ·rename_i es ht
    simp only[QQ,QJ]at h
    obtain⟨y,hy,rfl,rfl⟩:=h
    exact Oy hop hM hF hC hk hi (.inl ⟨t,es,hx,ht,hy⟩)
   ·simp at h
  ·rename_i kd z kv hk hi hx
   simp only[QQ,QJ]at h
   obtain⟨y,hy,rfl,rfl⟩:=h
   exact Oy hop hM hF hC hk hi (.inr ⟨hx,hy⟩)
  ·simp at h
 case mapUpdate T m k x=>
  simp only[hop,aop]at h
  split at h
  ·rename_i kd z kv t hk hi hx
   split at h
   ·rename_i es ht
    simp only[QQ,QJ]at h
    obtain⟨y,hy,rfl,rfl⟩:=h
    exact Qz hop hM hF hC hk hi hx ht hy
   ·simp at h
  ·simp at h
 case call c=>
  simp only[hop,aop]at h
  split at h
  ·rename_i b hb
   obtain⟨callee,args,argTypes⟩:=c
   simp only at hb h
   subst hb
   unfold Dn at h
   split at h
   ·rename_i T T' x y hts hxs
    split at h
    ·rename_i e;subst e
     obtain⟨x',y',hargs,rfl,rfl⟩:∃ x' y',args.toList=[x',y']∧evA fr x'=x∧evA fr y'=y:=by
      match hl:args.toList,hxs with
      |[x',y'],hxs=>simp at hxs;exact⟨x',y',rfl,hxs.1,hxs.2⟩
     have h1:args= #[x',y']:=by rw[← ZV (xs:=args),hargs]
     have h2:argTypes= #[T,T]:=by rw[← ZV (xs:=argTypes),hts]
     subst h1 h2
     exact Y7 hop hM hF hC htk h
    ·obtain⟨x',y',hargs,rfl,rfl⟩:∃ x' y',args.toList=[x',y']∧evA fr x'=x∧evA fr y'=y:=by
      match hl:args.toList,hxs with
      |[x',y'],hxs=>simp at hxs;exact⟨x',y',rfl,hxs.1,hxs.2⟩
     have h1:args= #[x',y']:=by rw[← ZV (xs:=args),hargs]
     have h2:argTypes= #[T,T']:=by rw[← ZV (xs:=argTypes),hts]
     subst h1 h2
     exact Vt hop hM hF hC htk h
   all_goals first|(simp at h;done)|(simp[hop,Du]at hs;done)
  ·simp at h
 case convert S T x=>
  simp only[hop,aop]at h
  split at h
  ·rename_i z hz
   simp only[QB,QJ]at h
   obtain⟨rfl,rfl⟩:=h
   exact (My hop hF hC hz).does hM
  ·split at h
   ·rename_i z hz
    simp only[QB,QJ]at h
    obtain⟨rfl,rfl⟩:=h
    exact Ad7 hop hM hF hC hz
   ·exact Aec hop hM hF hC h
 all_goals first|(rw[hop]at hs;simp[Du]at hs;done)|(rw[hop]at h;simp[aop]at h;done)
end
mutual
def A0 (n:Nat):AV→Bool
 | .any| .p _| .ip _ _=>true
 | .own t _ _| .nown t _ _| .mp t _ _ _| .ms t _ _ _| .mmap t| .raw t _ _=>decide (t<n)
 | .fn _ f c=>Ci n f&&Ci n c
 | .agg l| .tup l=>Ci n l
 | .dyn _ a=>A0 n a
 | .bs t _ _ _ _=>decide (t<n)
def Ci (n:Nat):List AV→Bool
 |[]=>true
 |a::l=>A0 n a&&Ci n l
end
structure Alike (n:Nat)(M M':Az):Prop where
 w:M'.w=M.w
 I:M'.I=M.I
 mu:∀ t,t<n→M'.mu t=M.mu t
 len:∀ t,t<n→M'.len t=M.len t
 cap:∀ t,t<n→M'.cap t=M.cap t
mutual
theorem Ag.alike {n:Nat} {M M':Az} (h:Alike n M M'):∀ (a:AV) (u:Value),A0 n a=true→Ag M a u→Ag M' a u
 | .any,u,ht,hr=>by simp[Ag]
 | .p x,u,ht,hr=>by simp only[Ag]at hr ⊢;rw[h.w,h.I];exact hr
 | .own t e ls,u,ht,hr=>by
   simp only[A0,decide_eq_true_eq]at ht
   simp only[Ag]at hr ⊢
   rw[h.w,h.I,h.mu t ht,h.len t ht,h.cap t ht];exact hr
 | .nown t e ls,u,ht,hr=>by
   simp only[A0,decide_eq_true_eq]at ht
   simp only[Ag]at hr ⊢
   rw[h.w,h.I,h.mu t ht,h.len t ht,h.cap t ht];exact hr
 | .ip c o,u,ht,hr=>by simp only[Ag]at hr ⊢;rw[h.w,h.I];exact hr
 | .mp t e i o,u,ht,hr=>by
   simp only[A0,decide_eq_true_eq]at ht
   simp only[Ag]at hr ⊢
   rw[h.mu t ht,h.len t ht];exact hr
 | .ms t e i n',u,ht,hr=>by
   simp only[A0,decide_eq_true_eq]at ht
   simp only[Ag]at hr ⊢
   rw[h.mu t ht,h.len t ht,h.cap t ht];exact hr
 | .raw t e k,u,ht,hr=>by
   simp only[A0,decide_eq_true_eq]at ht
   simp only[Ag]at hr ⊢
   rw[h.mu t ht,h.len t ht,h.cap t ht];exact hr
 | .mmap t,u,ht,hr=>by
   simp only[A0,decide_eq_true_eq]at ht
   simp only[Ag]at hr ⊢
   rw[h.mu t ht,h.len t ht];exact hr
 | .fn f first cap,u,ht,hr=>by
   simp only[A0,QV]at ht
   simp only[Ag]at hr ⊢
   obtain⟨us,vs,h1,h2,h3⟩:=hr
   exact⟨us,vs,h1,Af.alike h first us ht.1 h2,Af.alike h cap vs ht.2 h3⟩
 | .agg l,u,ht,hr=>by
   simp only[A0]at ht
   simp only[Ag]at hr ⊢
   obtain⟨h0,us,h1,h2⟩:=hr
   exact⟨h0,us,h1,Af.alike h l us ht h2⟩
 | .tup l,u,ht,hr=>by
   simp only[A0]at ht
   simp only[Ag]at hr ⊢
   obtain⟨us,h1,h2⟩:=hr
   exact⟨us,h1,Af.alike h l us ht h2⟩
 | .dyn T a,u,ht,hr=>by
   simp only[A0]at ht
   simp only[Ag]at hr ⊢
   obtain⟨v,h1,h2⟩:=hr
   exact⟨v,h1,Ag.alike h a v ht h2⟩
 | .bs t e i o n',u,ht,hr=>by
   simp only[A0,decide_eq_true_eq]at ht
   simp only[Ag]at hr ⊢
   rw[h.mu t ht,h.len t ht];exact hr
theorem Af.alike {n:Nat} {M M':Az} (h:Alike n M M'):∀ (l:List AV) (us:List Value),Ci n l=true→Af M l us→Af M' l us
 |[],us,ht,hr=>by simpa [Af]using hr
 |a::l,us,ht,hr=>by
  simp only[Ci,QV]at ht
  simp only[Af]at hr ⊢
  obtain⟨u,us',h1,h2,h3⟩:=hr
  exact⟨u,us',h1,Ag.alike h a u ht.1 h2,Af.alike h l us' ht.2 h3⟩
end
def Afx (σ τ:St)(t e i m:Nat):Option (List (List PV)):=match σ[t]?,τ[t]? with
 |some (some (.row e' ls)),none=>if e'=e∧i+m≤ls.length then I2 ((ls.drop i).take m)else none
 |some (some (.row e' ls)),some none=>if e'=e∧i+m≤ls.length then I2 ((ls.drop i).take m)else none
 |_,_=>none
def leA (σ:St)(n:Nat)(τ:St)(x y:AV):Prop:=
 y= .any∨(x=y∧A0 n y=true)∨(∃ t e ls,x= .own t e ls∧y= .p (.sl e ls))∨(∃ t e ls,x= .nown t e ls∧y= .p (Sr e ls))∨(∃ t e E,x=Sq∧y= .nown t e []∧n≤t∧τ[t]? =some (some (.nright E 0)))∨
  (∃ t e ls,x= .nown t e ls∧y= .p (.sl e ls))∨(∃ e,x=Sq∧y= .p (.sl e []))∨(∃ t e i m pls,x= .ms t e i m∧y= .p (.sl e pls)∧Afx σ τ t e i m=some pls)
def leC (σ:St)(n:Nat)(τ:St):List AV→List AV→Prop
 |[],[]=>True
 |x::xs,y::ys=>leA σ n τ x y∧leaf y=true∧leC σ n τ xs ys
 |_,_=>False
def leG (σ:St)(n:Nat)(τ:St)(x y:AV):Prop:=leA σ n τ x y∨∃ l l',x= .agg l∧y= .agg l'∧leC σ n τ l l'
def leM (σ:St)(n:Nat)(τ:St):List AV→List AV→Prop
 |[],[]=>True
 |x::xs,y::ys=>leG σ n τ x y∧leM σ n τ xs ys
 |_,_=>False
def leT (σ:St)(n:Nat)(τ:St)(x y:AV):Prop:=leG σ n τ x y∨∃ l l',x= .tup l∧y= .tup l'∧leM σ n τ l l'
def leL (σ:St)(n:Nat)(τ:St):List AV→List AV→Prop
 |[],[]=>True
 |x::xs,y::ys=>leT σ n τ x y∧leL σ n τ xs ys
 |_,_=>False
def leR (σ:St)(n:Nat)(τ:St):List (List AV)→List (List AV)→Prop
 |[],[]=>True
 |x::xs,y::ys=>leC σ n τ x y∧leR σ n τ xs ys
 |_,_=>False
def leO (σ:St)(n:Nat)(τ:St):Option Ob→Option Ob→Prop
 |_,none=>True
 |some (.row e ls),some (.row e' ls')=>e=e'∧(ls=ls'∧ls.all (Ci n)=true∨leR σ n τ ls ls')
 |some (.right E m),some (.right E' m')=>E=E'∧m=m'
 |some (.nright E m),some (.nright E' m')=>E=E'∧m=m'
 |some (.map es),some (.map es')=>es=es'∧es.all (fun q=>A0 n q.2)=true
 |_,_=>False
def leS (σ0:St)(n:Nat)(τ:St):St→St→Prop
 |_,[]=>True
 |[],none::σ'=>leS σ0 n τ [] σ'
 |[],some (.nright _ 0)::σ'=>leS σ0 n τ [] σ'
 |s::σ,s'::σ'=>leO σ0 n τ s s'∧leS σ0 n τ σ σ'
 |_,_=>False
def Weak (fr:List AV)(σ:St)(fr':List AV)(σ':St):Prop:=leL σ (min σ.length σ'.length) σ' fr fr'∧leS σ (min σ.length σ'.length) σ' σ σ'
def Afy (M:Az)(σ τ:St)(b:Nat):Prop:=∃ t e ls,σ.at t (.row e ls)∧(τ[t]? =none∨τ[t]? =some none)∧M.mu t=some b
def Az.froz (M:Az)(σ τ:St):Az:={ M with I:=fun b o=>M.I b o∨Afy M σ τ b }
theorem Az.froz_later (M:Az)(σ τ:St):Later M (M.froz σ τ):=⟨fun _ _ h h'=>⟨h,h',rfl⟩,C5 (fun _=>rfl) (fun _=>rfl) (fun _=>rfl),fun _ _ h=>.inl h,fun _ _ _=>rfl⟩
def Az.cut (M:Az)(σ:St)(n:Nat)(τ:St):Az:=
 { M.froz σ τ with mu:=fun t=>if t<n then M.mu t else none,len:=fun t=>if t<n then M.len t else match τ[t]? with|some (some (.nright _ 0))=>some 0|_=>none }
theorem Az.cut_alike (M:Az)(σ:St)(n:Nat)(τ:St):Alike n (M.froz σ τ) (M.cut σ n τ):=
 ⟨rfl,rfl,fun t ht=>by simp[Az.cut,Az.froz,ht],fun t ht=>by simp[Az.cut,Az.froz,ht],fun t ht=>rfl⟩
theorem Aed {σ τ:St}{t e i m:Nat}{pls:List (List PV)}{M:Az}{u:Value}(hM:Al M σ)(h:Afx σ τ t e i m=some pls)(hx:Ag M (.ms t e i m) u):Ca M.w (M.froz σ τ).I (.sl e pls) u:=by
 have key:∃ ls,σ.at t (.row e ls)∧(τ[t]? =none∨τ[t]? =some none)∧i+m≤ls.length∧I2 ((ls.drop i).take m)=some pls:=by
  unfold Afx at h
  split at h
  ·rename_i e' ls h1 h2
   split at h
   ·rename_i hc;obtain⟨rfl,hc⟩:=hc;exact⟨ls,h1,.inl h2,hc,h⟩
   ·simp at h
  ·rename_i e' ls h1 h2
   split at h
   ·rename_i hc;obtain⟨rfl,hc⟩:=hc;exact⟨ls,h1,.inr h2,hc,h⟩
   ·simp at h
  ·simp at h
 obtain⟨ls,h1,h2,h3,h4⟩:=key
 obtain⟨_,b,cur,T,hb,hh,hI,hr,_⟩:=hM.obj t _ h1
 simp only[Ag]at hx
 obtain⟨b',cap,hb',_,rfl,hc,_⟩:=hx
 have:b'=b:=by rw[hb]at hb';simpa using hb'.symm
 subst this
 obtain⟨k1,k2⟩:=J1 h4
 have hlen:pls.length=m:=by rw[k1];simp;omega
 simp only[Ca]
 refine .inr ⟨b',i*e,cap,by rw[hlen],by omega,Br.of_get fun j c hj=> ?_⟩
 obtain⟨c0,g1,g2⟩:=k2 j c hj
 obtain⟨g3,g4⟩:=J0 g2
 have hjm:j<m:=by rw[← hlen];exact (QC.1 hj).1
 rw[QT,if_pos hjm,ZK]at g1
 obtain⟨g5,g6⟩:=hr (i+j) c0 g1
 refine⟨by rw[g3,g5],Do.of_get fun q p hp=> ?_⟩
 obtain⟨y,g7,g8⟩:=g4 q p hp
 obtain⟨_,v,g9,g10⟩:=g6 q y g7
 refine⟨v,?_,.inr ⟨t,e,ls,h1,h2,hb⟩,Ca.later (M.froz_later σ τ).imm (M.froz_later σ τ).cell _ _ (Hm g8 g10)⟩
 rw[cell_of_row _ _ _ _ _ _ hh,←YY];exact g9
theorem leA.rep {σ:St}{n:Nat}{τ:St}{x y:AV}{M:Az}{u:Value}(hM:Al M σ)(h:leA σ n τ x y)(hx:Ag M x u):Ag (M.cut σ n τ) y u:=by
 have hp:∀ p,Ca M.w M.I p u→Ca M.w (M.froz σ τ).I p u:=fun p h=>Ca.later (M.froz_later σ τ).imm (M.froz_later σ τ).cell _ _ h
 rcases h with rfl|⟨rfl,ht⟩|⟨t,e,ls,rfl,rfl⟩|⟨t,e,ls,rfl,rfl⟩|⟨t,e,E,rfl,rfl,hn,hτ⟩|⟨t,e,ls,rfl,rfl⟩|⟨e,rfl,rfl⟩|⟨t,e,i,m,pls,rfl,rfl,hf⟩
 ·simp[Ag]
 ·exact Ag.alike (M.cut_alike σ n τ) _ _ ht (Ag.later (M.froz_later σ τ) _ _ hx)
 ·simp only[Ag];exact hp _ (Hm (M:=M) (x:=.own t e ls) rfl hx)
 ·simp only[Ag];exact hp _ (Hm (M:=M) (x:=.nown t e ls) rfl hx)
 ·have:=(Cf hx).2;subst this
  simp only[Ag]
  exact⟨0,by simp[Az.cut,Nat.not_lt.2 hn,hτ],by simp,.inl ⟨trivial,trivial⟩⟩
 ·simp only[Ag]
  refine hp (.sl e ls) ?_
  simp only[Ag]at hx
  simp only[Ca]
  obtain⟨n,_,_,⟨rfl,h1⟩|⟨_,b,cap,h1,h2,_,h3,_⟩⟩:=hx
  ·exact .inl ⟨rfl,none,0,h1,fun _=>rfl⟩
  ·exact .inr ⟨b,0,cap,h1,h2,h3⟩
 ·have:=(Cf hx).2;subst this
  simp only[Ag,Ca]
  exact .inl ⟨trivial,none,0,rfl,fun _=>rfl⟩
 ·simp only[Ag];exact Aed hM hf hx
theorem leC.rep {σ:St}{n:Nat}{τ:St}{M:Az}(hM:Al M σ):∀ {xs ys:List AV} {us:List Value},leC σ n τ xs ys→Af M xs us→Af (M.cut σ n τ) ys us∧ys.all leaf=true
 |[],[],us,h,hx=>by simpa [Af]using hx
 |x::xs,y::ys,us,h,hx=>by
  simp only[Af]at hx ⊢
  obtain⟨u,us',rfl,h1,h2⟩:=hx
  obtain⟨g1,g2⟩:=leC.rep hM h.2.2 h2
  exact⟨⟨u,us',rfl,h.1.rep hM h1,g1⟩,by simp[h.2.1,g2]⟩
 |[],y::ys,us,h,hx=>h.elim
 |x::xs,[],us,h,hx=>h.elim
theorem leG.rep {σ:St}{n:Nat}{τ:St}{x y:AV}{M:Az}{u:Value}(hM:Al M σ)(h:leG σ n τ x y)(hx:Ag M x u):Ag (M.cut σ n τ) y u:=by
 rcases h with h|⟨l,l',rfl,rfl,h⟩
 ·exact h.rep hM hx
 ·simp only[Ag]at hx ⊢
  obtain⟨_,us,rfl,h2⟩:=hx
  obtain⟨g1,g2⟩:=leC.rep hM h h2
  exact⟨g2,us,rfl,g1⟩
theorem leM.rep {σ:St}{n:Nat}{τ:St}{M:Az}(hM:Al M σ):∀ {xs ys:List AV} {us:List Value},leM σ n τ xs ys→Af M xs us→Af (M.cut σ n τ) ys us
 |[],[],us,h,hx=>by simpa [Af]using hx
 |x::xs,y::ys,us,h,hx=>by
  simp only[Af]at hx ⊢
  obtain⟨u,us',rfl,h1,h2⟩:=hx
  exact⟨u,us',rfl,h.1.rep hM h1,leM.rep hM h.2 h2⟩
 |[],y::ys,us,h,hx=>h.elim
 |x::xs,[],us,h,hx=>h.elim
theorem leT.rep {σ:St}{n:Nat}{τ:St}{x y:AV}{M:Az}{u:Value}(hM:Al M σ)(h:leT σ n τ x y)(hx:Ag M x u):Ag (M.cut σ n τ) y u:=by
 rcases h with h|⟨l,l',rfl,rfl,h⟩
 ·exact h.rep hM hx
 ·simp only[Ag]at hx ⊢
  obtain⟨us,rfl,h2⟩:=hx
  exact⟨us,rfl,leM.rep hM h h2⟩
theorem leL.rep {σ:St}{n:Nat}{τ:St}{M:Az}(hM:Al M σ):∀ {xs ys:List AV} {us:List Value},leL σ n τ xs ys→Af M xs us→Af (M.cut σ n τ) ys us
 |[],[],us,h,hx=>by simpa [Af]using hx
 |x::xs,y::ys,us,h,hx=>by
  simp only[Af]at hx ⊢
  obtain⟨u,us',rfl,h1,h2⟩:=hx
  exact⟨u,us',rfl,h.1.rep hM h1,leL.rep hM h.2 h2⟩
 |[],y::ys,us,h,hx=>h.elim
 |x::xs,[],us,h,hx=>h.elim
theorem leC.get {σ0:St}{n:Nat}{τ:St}:∀ {xs ys:List AV},leC σ0 n τ xs ys→xs.length=ys.length∧∀ (j:Nat) (y:AV),ys[j]? =some y→∃ x,xs[j]? =some x∧leA σ0 n τ x y∧leaf y=true
 |[],[],h=>by simp
 |x::xs,y::ys,h=>by
  obtain⟨h1,h2,h3⟩:=h
  obtain⟨h4,h5⟩:=leC.get h3
  refine⟨by simp[h4],fun j z hz=> ?_⟩
  cases j with
  |zero=>simp at hz;subst hz;exact⟨x,rfl,h1,h2⟩
  |succ j=>simpa using h5 j z (by simpa using hz)
 |[],y::ys,h=>h.elim
 |x::xs,[],h=>h.elim
theorem leR.get {σ0:St}{n:Nat}{τ:St}:∀ {xs ys:List (List AV)},leR σ0 n τ xs ys→∀ (j:Nat) (y:List AV),ys[j]? =some y→∃ x,xs[j]? =some x∧leC σ0 n τ x y
 |[],[],h=>by simp
 |x::xs,y::ys,h=>by
  intro j z hz
  cases j with
  |zero=>simp at hz;subst hz;exact⟨x,rfl,h.1⟩
  |succ j=>simpa using leR.get h.2 j z (by simpa using hz)
 |[],y::ys,h=>h.elim
 |x::xs,[],h=>h.elim
theorem leS.get {σ0:St}{n:Nat}{τ:St}:∀ {σ σ':St},leS σ0 n τ σ σ'→∀ (t:Nat) (ob:Ob),σ'.at t ob→(t<σ.length∧∃ s,σ[t]? =some s∧leO σ0 n τ s (some ob))∨(σ.length≤t∧∃ E,ob= .nright E 0)
 |σ,[],h,t,ob,ht=>by simp[St.at]at ht
 |[],none::σ',h,t,ob,ht=>by
  cases t with
  |zero=>simp[St.at]at ht
  |succ t=>
   rcases leS.get (σ:=[]) (σ':=σ') (by simpa [leS]using h) t ob (by simpa [St.at]using ht)with⟨h1,_⟩|⟨_,h2⟩
   ·simp at h1
   ·exact .inr ⟨by simp,h2⟩
 |[],some (.nright E m)::σ',h,t,ob,ht=>by
  cases m with
  |succ m=>simp[leS]at h
  |zero=>
   cases t with
   |zero=>simp[St.at]at ht;exact .inr ⟨by simp,E,ht.symm⟩
   |succ t=>
    rcases leS.get (σ:=[]) (σ':=σ') (by simpa [leS]using h) t ob (by simpa [St.at]using ht)with⟨h1,_⟩|⟨_,h2⟩
    ·simp at h1
    ·exact .inr ⟨by simp,h2⟩
 |[],some (.row e ls)::σ',h,t,ob,ht=>by simp[leS]at h
 |[],some (.right E m)::σ',h,t,ob,ht=>by simp[leS]at h
 |[],some (.map es)::σ',h,t,ob,ht=>by simp[leS]at h
 |s::σ,s'::σ',h,t,ob,ht=>by
  have h':leO σ0 n τ s s'∧leS σ0 n τ σ σ':=by simpa [leS]using h
  cases t with
  |zero=>simp[St.at]at ht;subst ht;exact .inl ⟨by simp,s,rfl,h'.1⟩
  |succ t=>
   rcases leS.get h'.2 t ob (by simpa [St.at]using ht)with⟨h1,s0,h2,h3⟩|⟨h1,h2⟩
   ·exact .inl ⟨by simpa using h1,s0,by simpa using h2,h3⟩
   ·exact .inr ⟨by simpa using h1,h2⟩
theorem Aee {M0 M:Az}{σ0 σ σ':St}{fr fr':List AV}{a:Act}(h0:Al M0 σ0)(hE:Ext M0 σ0 M σ)(hM:Al M σ)(hF:Cx M a fr)(hw:Weak fr σ fr' σ')(h1:σ0.length≤σ.length)(h2:σ0.length≤σ'.length):
 ∃ M',M'.w=M.w∧Ext M0 σ0 M' σ'∧Al M' σ'∧Cx M' a fr':=by
 obtain⟨hl,hs⟩:=hw
 generalize hn:min σ.length σ'.length=n at*
 have hn1:n≤σ.length:=by omega
 have hn2:n≤σ'.length:=by omega
 have hn0:σ0.length≤n:=by omega
 have hA:=M.cut_alike σ n σ'
 have hfl:=M.froz_later σ σ'
 have hlow:∀ t b,M0.mu t=some b→t<n:=fun t b ht=>by
  rcases YW t σ0.length with h|h
  ·omega
  ·rw[(h0.fresh t h).1]at ht;simp at ht
 have hlow':∀ t m,M0.len t=some m→t<n:=fun t m ht=>by
  rcases YW t σ0.length with h|h
  ·omega
  ·rw[(h0.fresh t h).2]at ht;simp at ht
 have hmu:∀ t,n≤t→(M.cut σ n σ').mu t=none:=fun t ht=>by simp[Az.cut,Nat.not_lt.2 ht]
 have hat:∀ t ob,σ'.at t ob→(t<n∧∃ ob0,σ.at t ob0∧leO σ n σ' (some ob0) (some ob))∨(n≤t∧∃ E,ob= .nright E 0):=fun t ob ht=>by
  have htl:=(QC.1 ht).1
  rcases hs.get t ob ht with⟨h3,s,h4,h5⟩|⟨h3,h4⟩
  ·cases s with
   |none=>simp[leO]at h5
   |some ob0=>exact .inl ⟨by omega,ob0,h4,h5⟩
  ·exact .inr ⟨by omega,h4⟩
 have hdrop:∀ t ob0 b,σ.at t ob0→(∃ ob,σ'.at t ob)→M.mu t=some b→¬ Afy M σ σ' b:=fun t ob0 b ht ⟨ob,hob⟩ hb ⟨s,e,ls,g1,g2,g3⟩=>by
  have:=hM.inj t s _ _ b ht g1 hb g3
  subst this
  unfold St.at at hob
  rcases g2 with g2|g2<;>rw[g2]at hob<;>simp at hob
 have hE':Ext M0 σ0 (M.cut σ n σ') σ':=by
  refine⟨fun t b ht hl0=> ?_,fun t m ht=> ?_,fun b o h=>.inl (hE.imm b o h),hE.cell,fun b hb hno=>⟨(hE.keep b hb hno).1,fun o ho=> ?_⟩,fun t ob b ht hb=> ?_,hE.size,hE.os,hE.tape,hE.output⟩
  ·have:=hlow t b ht
   rw[hA.mu t this,hA.len t this,hA.cap t this];exact hE.mu t b ht hl0
  ·have:=hlow' t m ht
   rw[hA.mu t this,hA.len t this,hA.cap t this];exact hE.own t m ht
  ·rcases ho with ho|⟨t,e,ls,g1,_,g3⟩
   ·exact (hE.keep b hb hno).2 o ho
   ·rcases hE.new t _ b g1 g3 with h3|⟨t0,ob0,h3,h4⟩
    ·omega
    ·exact (hno t0 ob0 h3 h4).elim
  ·rcases hat t ob ht with⟨h3,ob0,h4,_⟩|⟨h3,_⟩
   ·rw[hA.mu t h3]at hb;exact hE.new t ob0 b h4 hb
   ·rw[hmu t h3]at hb;simp at hb
 refine⟨M.cut σ n σ',rfl,hE',?_,⟨hl.rep hM hF.tmps,hF.defers⟩⟩
 ·refine⟨fun t ob ht=> ?_,fun t t' ob ob' b ht ht' hb hb'=> ?_,fun t ht=> ?_,fun t b hb=> ?_,fun b o ho=> ?_,h0.glob.ext hE'⟩
  ·rcases hat t ob ht with⟨h3,ob0,h4,h5⟩|⟨h3,E,rfl⟩
   ·have hob:=hM.obj t ob0 h4
    have hown:∀ b E m,G8 M t b E m→G8 (M.cut σ n σ') t b E m:=fun b E m ⟨cur,g1,g2,g3,g4⟩=>
     ⟨cur,by rw[hA.mu t h3];exact g1,g2,by rw[hA.cap t h3];exact g3,fun o=>⟨fun ho=>ho.elim (g4 o).1 fun hd=>(hdrop t ob0 b h4 ⟨ob,ht⟩ g1 hd).elim,fun ho=>.inl ((g4 o).2 ho)⟩⟩
    cases ob0<;>cases ob<;>simp only[leO]at h5
    ·obtain⟨rfl,h5⟩:=h5
     obtain⟨g0,b,cur,T,g1,g2,g3,g4,g5⟩:=hob
     refine⟨by rw[hA.len t h3];exact g0,b,cur,T,by rw[hA.mu t h3];exact g1,g2,fun o ho=>ho.elim (g3 o) (hdrop t _ b h4 ⟨_,ht⟩ g1),?_,by rw[hA.cap t h3];exact g5⟩
     rcases h5 with⟨rfl,h5⟩|h5
     ·intro i c hc
      refine⟨(g4 i c hc).1,fun j x hx=> ?_⟩
      obtain⟨k1,u,k2,k3⟩:=(g4 i c hc).2 j x hx
      have k4:=ZA.1 h5 c (QG hc)
      have k5:A0 n x=true:=by
       have:∀ (l:List AV),Ci n l=true→∀ y∈l,A0 n y=true:=fun l=>by
        induction l with
        |nil=>simp
        |cons z l ih=>
         intro hz y hy
         simp only[Ci,QV]at hz
         rcases QP.1 hy with rfl|hy
         ·exact hz.1
         ·exact ih hz.2 y hy
       exact this c k4 x (QG hx)
      exact⟨k1,u,k2,Ag.alike hA _ _ k5 (Ag.later hfl _ _ k3)⟩
     ·intro i c hc
      obtain⟨c0,k1,k2⟩:=h5.get i c hc
      obtain⟨k3,k4⟩:=k2.get
      refine⟨by rw[← k3];exact (g4 i c0 k1).1,fun j x hx=> ?_⟩
      obtain⟨x0,k5,k6,k7⟩:=k4 j x hx
      obtain⟨_,u,k8,k9⟩:=(g4 i c0 k1).2 j x0 k5
      exact⟨k7,u,k8,k6.rep hM k9⟩
    ·obtain⟨rfl,rfl⟩:=h5
     obtain⟨g0,b,g1⟩:=hob
     exact⟨by rw[hA.len t h3];exact g0,b,hown _ _ _ g1⟩
    ·obtain⟨rfl,rfl⟩:=h5
     obtain⟨g0,g1⟩:=hob
     exact⟨by rw[hA.len t h3];exact g0,g1.imp (fun ⟨q1,q2⟩=>⟨q1,by rw[hA.mu t h3];exact q2⟩) fun ⟨q1,b,q2⟩=>⟨q1,b,hown _ _ _ q2⟩⟩
    ·obtain⟨rfl,h5⟩:=h5
     obtain⟨g0,b,cur,T,g1,g2,g3,g4⟩:=hob
     refine⟨by rw[hA.len t h3];exact g0,b,cur,T,by rw[hA.mu t h3];exact g1,g2,fun o ho=>ho.elim (g3 o) (hdrop t _ b h4 ⟨_,ht⟩ g1),g4.1,fun i q hq=> ?_⟩
     obtain⟨y,k1,k2,k3⟩:=g4.2 i q hq
     exact⟨y,k1,k2,Ag.alike hA _ _ (ZA.1 h5 q (QG hq)) (Ag.later hfl _ _ k3)⟩
   ·have ht':σ'[t]? =some (some (.nright E 0)):=ht
    exact⟨by simp[Az.cut,Nat.not_lt.2 h3,ht'],.inl ⟨rfl,hmu t h3⟩⟩
  ·rcases hat t ob ht with⟨h3,ob0,h4,_⟩|⟨h3,_⟩
   ·rcases hat t' ob' ht' with⟨h6,ob1,h7,_⟩|⟨h6,_⟩
    ·rw[hA.mu t h3]at hb;rw[hA.mu t' h6]at hb'
     exact hM.inj t t' ob0 ob1 b h4 h7 hb hb'
    ·rw[hmu t' h6]at hb';simp at hb'
   ·rw[hmu t h3]at hb;simp at hb
  ·have:σ'[t]? =none:=ZG ht
   exact⟨hmu t (by omega),by simp[Az.cut,Nat.not_lt.2 (show n≤t by omega),this]⟩
  ·rcases YW t n with h3|h3
   ·rw[hA.mu t h3]at hb;exact hM.lt t b hb
   ·rw[hmu t h3]at hb;simp at hb
  ·rcases ho with ho|⟨t,e,ls,g1,_,g3⟩
   ·exact hM.imm b o ho
   ·exact hM.lt t b g3
def L0 (fr:List AV)(σ:St)(fr':List AV)(σ':St):Prop:=(fr'=fr∧σ'=σ)∨Weak fr σ fr' σ'
theorem Gr {M0 M:Az}{σ0 σ σ':St}{fr fr':List AV}{a:Act}(h0:Al M0 σ0)(hE:Ext M0 σ0 M σ)(hM:Al M σ)(hF:Cx M a fr)(hw:L0 fr σ fr' σ')(h1:σ0.length≤σ.length)(h2:σ0.length≤σ'.length):
 ∃ M',M'.w=M.w∧Ext M0 σ0 M' σ'∧Al M' σ'∧Cx M' a fr':=by
 rcases hw with⟨rfl,rfl⟩|hw
 ·exact⟨M,rfl,hE,hM,hF⟩
 ·exact Aee h0 hE hM hF hw h1 h2
