/- That a world that bears the abstract machine's state does what the abstract machine does: comparisons and sums, indexes, lengths, slices of slices. -/
import Derived.Test.YtpoigihfeehehaaGreatDoorM03
import Derived.Stop.BytesEq
import Derived.WalkSpells
import Derived.Lib.ConvBytes
import Derived.Laws.AppendOwn
set_option linter.all false
set_option maxRecDepth 100000
set_option maxHeartbeats 32000000
namespace Go.Proofs.YtpoigihfeehehaaGreatDoor
open Go.RowKit
open List (tail_drop)
section
variable {P:Program} {C:Ctx} {o:Oper} {a:Act} {M:Az} {σ σ':St} {r:AV}
theorem Q8 {op:BinOp}{k:IntKind}{x y:Int}{v:Value}{T:TypeId}{w:World}(h:B2 op k x y=some v):plain v=true∧(binOp op T (.int k x) (.int k y)).run P w= .ok v w:=by
 cases op<;>simp only[B2]at h<;>try (simp at h;done)
 all_goals first
  |(split at h
    ·simp at h
    ·rename_i hy;simp only[QB]at h;subst h;exact⟨rfl,by simp[binOp,Op.intDiv,hy]⟩)
  |(simp only[QB]at h;subst h;exact⟨rfl,by simp[binOp,Op.intArith,Op.intBits,Op.intCmp]⟩)
theorem Q9 {op:BinOp}{x y:ByteArray}{v:Value}{T:TypeId}{w:World}(h:Oi op x y=some v):plain v=true∧(binOp op T (.string x) (.string y)).run P w= .ok v w:=by
 cases op<;>simp only[Oi]at h<;>try (simp at h;done)
 all_goals first
  |(split at h
    ·simp at h
    ·rename_i hy;simp only[QB]at h;subst h;exact⟨rfl,by simp only[binOp,Op.stringOp,if_neg hy];rfl⟩)
  |(simp only[QB]at h;subst h;exact⟨rfl,by simp[binOp,Op.stringOp]⟩)
theorem Ra {T:TypeId}{x y:Bool}{w:World}(hd:P.underlying T=some .bool):(Op.equal T (.bool x) (.bool y)).run P w= .ok (x==y) w:=by
 unfold Op.equal Op.maxDepth
 rw[Op.equalIn]
 simp only[Sem.run_bind,run_underlying hd,Result.andThen_ok]
 rfl
theorem Afn {T E:TypeId}{ad:Option Addr}{n c:Nat}{w:World}(hd:P.underlying T=some (.slice E)):(Op.equal T (.slice ad n c) (.slice none 0 0)).run P w= .ok ad.isNone w:=by
 unfold Op.equal Op.maxDepth
 rw[Op.equalIn]
 simp only[Sem.run_bind,run_underlying hd,Result.andThen_ok]
 cases ad<;>rfl
theorem Afo {T E:TypeId}{ad:Option Addr}{w:World}(hd:P.underlying T=some (.pointer E)):(Op.equal T (.pointer ad) (.pointer none)).run P w= .ok ad.isNone w:=by
 unfold Op.equal Op.maxDepth
 rw[Op.equalIn]
 simp only[Sem.run_bind,run_underlying hd,Result.andThen_ok]
 cases ad<;>rfl
theorem Ad4 {x:AV}{u:Value}{b:Bool}(h:Jp x=some b)(hx:Ag M x u):∃ ad,u= .pointer ad∧ad.isNone=b:=by
 unfold Jp at h
 split at h
 ·simp at h;subst h
  have:=(Cf hx).2;subst this
  exact⟨none,rfl,rfl⟩
 ·simp at h;subst h
  simp only[Ag]at hx
  obtain⟨b,_,_,rfl⟩:=hx
  exact⟨_,rfl,rfl⟩
 ·simp at h
theorem Afp {x:AV}{u:Value}{b:Bool}(h:Fx x=some b)(hx:Ag M x u):∃ ad n c,u= .slice ad n c∧ad.isNone=b:=by
 unfold Fx at h
 split at h
 ·simp at h;subst h
  have:=(Cf hx).2;subst this
  exact⟨none,0,0,rfl,rfl⟩
 ·simp at h;subst h
  have:=(Cf hx).2;subst this
  exact⟨_,_,_,rfl,rfl⟩
 ·split at h
  ·simp at h
  rename_i hne
  simp at h;subst h
  simp only[Ag,Ca]at hx
  obtain⟨rfl,_⟩|⟨b,off,cap,rfl,_⟩:=hx
  ·simp at hne
  ·exact⟨_,_,_,rfl,rfl⟩
 ·simp at h;subst h
  simp only[Ag]at hx
  obtain⟨b,cap,n,rfl,_⟩:=hx
  exact⟨_,_,_,rfl,rfl⟩
 ·simp at h;subst h
  simp only[Ag]at hx
  obtain⟨b,cap,_,_,rfl,_⟩:=hx
  exact⟨_,_,_,rfl,rfl⟩
 ·simp at h;subst h
  simp only[Ag]at hx
  obtain⟨n,_,_,⟨rfl,rfl⟩|⟨h0,b,cap,rfl,_⟩⟩:=hx
  ·exact⟨_,_,_,rfl,rfl⟩
  ·exact⟨_,_,_,rfl,by cases ‹List (List PV)› <;>simp_all⟩
 ·simp at h
theorem Lz {x:Value}{b:UInt8}(h:Gk x=some b):x= .int .u8 b.toNat:=by
 unfold Gk at h
 split at h
 ·rename_i n
  split at h
  ·rename_i hn
   simp at h;subst h
   have:(UInt8.ofNat n.toNat).toNat=n.toNat:=by
    rw[YQ];omega
   rw[this]
   congr 1;omega
  ·simp at h
 ·simp at h
theorem Ad5 {x:AV}{b:UInt8}(h:Ss x=some b):x= .p (.v (.int .u8 b.toNat)):=by
 unfold Ss at h
 split at h
 ·rw[Lz h]
 ·simp at h
theorem Fc:∀ {l:List AV} {bs:List UInt8} {us:List Value},E9 l=some bs→Af M l us→us=bs.map fun b=>.int .u8 b.toNat
 |[],bs,us,h,hr=>by
  simp[E9]at h;subst h
  simpa [Af]using hr
 |x::l,bs,us,h,hr=>by
  simp only[E9]at h
  split at h
  ·rename_i b bs' hb hbs
   simp at h;subst h
   simp only[Af]at hr
   obtain⟨u,us',rfl,h1,h2⟩:=hr
   rw[Ad5 hb]at h1
   rw[Bi h1,Fc hbs h2]
   rfl
  ·simp at h
theorem S6 {op:BinOp}{T e:TypeId}{n:Nat}{x y:Operand}{us vs:Array Value}{w:World}(hd:P.underlying T=some (.array n e))(he:P.underlying e=some (.int .u8))(hdep:2≤P.depth):(eqGuard op T x y (.agg us) (.agg vs)).run P w= .ok () w:=by
 have h1:P.eqGuardType P.depth T=false:=by
  obtain⟨d,hd'⟩:∃ d,P.depth=d+2:=⟨P.depth - 2,by omega⟩
  rw[hd',Program.eqGuardType,hd]
  simp only
  rw[Program.eqGuardType,he]
 cases op<;>simp[eqGuard,h1]
theorem Rb {d:Nat}{k:EK}{t:TypeId}{x y:AV}{u v:Value}{r:Bool}{w:World}(hk:match k with
 | .int=>∃ ik,P.underlying t=some (.int ik)
 | .str=>P.underlying t=some .string
 | .bool=>P.underlying t=some .bool) (h:Hj k x y=some r) (hx:Ag M x u) (hy:Ag M y v):(Op.equalIn (d+1) t u v).run P w= .ok r w:=by
 unfold Hj at h
 split at h
 ·split at h
  ·rename_i hkk;subst hkk
   simp at h;subst h
   rw[Bi hx,Bi hy]
   obtain⟨ik,hk⟩:=hk
   exact run_equalIn_int w d t _ ik _ _ hk
  ·simp at h
 ·simp at h;subst h
  rw[(Cf hx).2,(Cf hy).2]
  exact run_equalIn_string w d t _ _ hk
 ·simp at h;subst h
  rw[(Cf hx).2,(Cf hy).2]
  exact run_equalIn_bool w d t _ _ hk
 ·simp at h
theorem Afq {d:Nat}:∀ (ks:List EK) (n:Nat) (fs:List Field) (l m:List AV) (us vs:List Value) (b:Bool),EqF P ks n fs→Be ks l m=some b→Af M l (us.drop n)→Af M m (vs.drop n)→
 ∀ w:World,(Op.eqFields (d+1) us.toArray vs.toArray fs).run P w= .ok b w
 |[],n,[],[],[],us,vs,b,hF,he,hx,hy=>fun w=>by
  simp[Be]at he;subst he
  simp[Op.eqFields]
 |k::ks,n,f::fs,x::l,y::m,us,vs,b,hF,he,hx,hy=>fun w=>by
  obtain⟨hn,ho,hT,hk,hF⟩:=hF
  simp only[Af]at hx hy
  obtain⟨u,us',eu,hx,hxs⟩:=hx
  obtain⟨v,vs',ev,hy,hys⟩:=hy
  have gu:us[n]? =some u:=by
   have:=congrArg (fun l:List Value=>l[0]?) eu
   simpa using this
  have gv:vs[n]? =some v:=by
   have:=congrArg (fun l:List Value=>l[0]?) ev
   simpa using this
  have gu':us'=us.drop (n+1):=by rw[← tail_drop,eu];rfl
  have gv':vs'=vs.drop (n+1):=by rw[← tail_drop,ev];rfl
  subst gu' gv'
  simp only[Be]at he
  split at he
  ·rename_i r c hr hc
   simp at he;subst he
   have ih:=Afq (d:=d) ks (n+1) fs l m us vs c hF hc hxs hys w
   have h1:=Fb (P:=P) (w:=w) (us:=us) (off:=f.offset) hT (.inr ⟨rfl,by rw[ho];exact gu⟩)
   have h2:=Fb (P:=P) (w:=w) (us:=vs) (off:=f.offset) hT (.inr ⟨rfl,by rw[ho];exact gv⟩)
   have h3:=Rb (P:=P) (M:=M) (d:=d) (w:=w) hk hr hx hy
   simp only[Op.eqFields,if_pos hn,Sem.run_bind,h1,h2,h3,Result.andThen_ok]
   cases r
   ·simp
   ·simpa using ih
  ·simp at he
 |[],n,f::fs,l,m,us,vs,b,hF,he,hx,hy=>by simp[EqF]at hF
 |k::ks,n,[],l,m,us,vs,b,hF,he,hx,hy=>by simp[EqF]at hF
 |[],n,[],x::l,m,us,vs,b,hF,he,hx,hy=>by simp[Be]at he
 |[],n,[],[],y::m,us,vs,b,hF,he,hx,hy=>by simp[Be]at he
 |k::ks,n,f::fs,[],m,us,vs,b,hF,he,hx,hy=>by simp[Be]at he
 |k::ks,n,f::fs,x::l,[],us,vs,b,hF,he,hx,hy=>by simp[Be]at he
theorem I4:∀ {ks:List EK} {l m:List AV} {b:Bool},Be ks l m=some b→l.length=ks.length∧m.length=ks.length
 |[],[],[],_,_=>⟨rfl,rfl⟩
 |[],_::_,_,_,h=>by simp[Be]at h
 |[],[],_::_,_,h=>by simp[Be]at h
 |_::_,[],_,_,h=>by simp[Be]at h
 |_::_,_::_,[],_,h=>by simp[Be]at h
 |k::ks,x::l,y::m,b,h=>by
  simp only[Be]at h
  split at h
  ·rename_i hr hc
   have:=I4 hc
   simp[this.1,this.2]
  ·simp at h
theorem On:∀ {k1 k2:List EK} {l m:List AV} {b:Bool},Be (k1++k2) l m=some b→∃ b1 b2,Be k1 (l.take k1.length) (m.take k1.length)=some b1∧Be k2 (l.drop k1.length) (m.drop k1.length)=some b2∧b=(b1&&b2)
 |[],k2,l,m,b,h=>⟨true,b,by simp[Be],by simpa using h,by simp⟩
 |k::k1,k2,[],m,b,h=>by simp[Be]at h
 |k::k1,k2,x::l,[],b,h=>by simp[Be]at h
 |k::k1,k2,x::l,y::m,b,h=>by
  simp only[ZN,Be]at h
  split at h
  ·rename_i r c hr hc
   simp only[QB]at h;subst h
   obtain⟨b1,b2,h1,h2,rfl⟩:=On hc
   refine⟨r&&b1,b2,?_,by simpa using h2,by rw[Bool.and_assoc]⟩
   simp only[QF,XJ,Be,hr,h1]
  ·simp at h
theorem Y6 {d:Nat}:∀ (fs:List Field) (ks:List EK) (n:Nat) (l m:List AV) (us vs:List Value) (b:Bool),EqG P n ks fs→Be ks l m=some b→Af M l (us.drop n)→Af M m (vs.drop n)→
 ∀ w:World,(Op.eqFields (d+2) us.toArray vs.toArray fs).run P w= .ok b w
 |[],ks,n,l,m,us,vs,b,hF,he,hx,hy=>fun w=>by
  have hF:ks=[]:=hF
  subst hF
  have:=I4 he
  obtain rfl:=YX.1 this.1
  obtain rfl:=YX.1 this.2
  simp[Be]at he;subst he;simp[Op.eqFields]
 |f::fs,ks,n,l,m,us,vs,b,hF,he,hx,hy=>fun w=>by
  obtain⟨hn,ho,hF⟩:=hF
  rcases hF with⟨k,ks',rfl,hT,hk,hF2⟩|⟨sub,ks1,ks2,rfl,hpos,hd,hp,hT,hF1,hF2⟩
  ·cases l with
   |nil=>simp[Be]at he
   |cons x l=>
    cases m with
    |nil=>simp[Be]at he
    |cons y m=>
     simp only[Af]at hx hy
     obtain⟨u,us',eu,hx,hxs⟩:=hx
     obtain⟨v,vs',ev,hy,hys⟩:=hy
     have gu:us[n]? =some u:=by
      have:=congrArg (fun l:List Value=>l[0]?) eu
      simpa using this
     have gv:vs[n]? =some v:=by
      have:=congrArg (fun l:List Value=>l[0]?) ev
      simpa using this
     have gu':us'=us.drop (n+1):=by rw[← tail_drop,eu];rfl
     have gv':vs'=vs.drop (n+1):=by rw[← tail_drop,ev];rfl
     subst gu' gv'
     simp only[Be]at he
     split at he
     ·rename_i r c hr hc
      simp at he;subst he
      have ih:=Y6 (d:=d) fs ks' (n+1) l m us vs c hF2 hc hxs hys w
      have h1:=Fb (P:=P) (w:=w) (us:=us) (off:=f.offset) hT (.inr ⟨rfl,by rw[ho];exact gu⟩)
      have h2:=Fb (P:=P) (w:=w) (us:=vs) (off:=f.offset) hT (.inr ⟨rfl,by rw[ho];exact gv⟩)
      have h3:=Rb (P:=P) (M:=M) (d:=d+1) (w:=w) hk hr hx hy
      simp only[Op.eqFields,if_pos hn,Sem.run_bind,h1,h2,h3,Result.andThen_ok]
      cases r
      ·simp
      ·simpa using ih
     ·simp at he
  ·obtain⟨b1,b2,h1,h2,rfl⟩:=On he
   have ih:=Y6 (d:=d) fs ks2 (n+ks1.length) (l.drop ks1.length) (m.drop ks1.length) us vs b2 hF2 h2 (by have:=hx.drop ks1.length;rwa [VC]at this) (by have:=hy.drop ks1.length;rwa [VC]at this) w
   have hlen:=I4 h1
   have hxl:=hx.len
   have hyl:=hy.len
   simp only[QZ,WJ]at hlen hxl hyl
   have g1:=Fb (P:=P) (w:=w) (us:=us) (off:=f.offset) hT (.inl ⟨rfl,by omega,rfl⟩)
   have g2:=Fb (P:=P) (w:=w) (us:=vs) (off:=f.offset) hT (.inl ⟨rfl,by omega,rfl⟩)
   have hfo:P.fieldsOf f.type=sub:=by unfold Program.fieldsOf;rw[hd]
   have g3:(Op.equalIn (d+2) f.type (.agg ((us.drop f.offset).take ks1.length).toArray) (.agg ((vs.drop f.offset).take ks1.length).toArray)).run P w= .ok b1 w:=by
    rw[run_equalIn_struct w (d+1) f.type _ _ (by rw[hfo];exact hd) hp,hfo]
    refine Afq (P:=P) (M:=M) (d:=d) ks1 0 sub.toList (l.take ks1.length) (m.take ks1.length) _ _ b1 hF1 h1 ?_ ?_ w
    ·rw[XA,ho];exact hx.take _
    ·rw[XA,ho];exact hy.take _
   simp only[Op.eqFields,if_pos hn,Sem.run_bind,g1,g2,g3,Result.andThen_ok]
   cases b1
   ·simp
   ·simpa using ih
theorem Ad6 {op:BinOp}{T T':TypeId}{x y:Operand}{fr:List AV}(hop:o.op= .binOp op T x y T')(hF:Cx M a fr)(hC:C.ok P)(h:Fp C op T (evA fr x) (evA fr y)=some r):El P o a M r:=by
 have hx:=hF.ev x
 have hy:=hF.ev y
 have key:∀ (u v z:Value),a.eval x=u→a.eval y=v→(∀ op w,(eqGuard op T x y u v).run P w= .ok () w)→(∀ w,(binOp op T u v).run P w= .ok z w)→∀ w,(execOp a.eval o).run P w= .ok (.value z) w:=fun u v z h1 h2 h3 h4 w=>by
  unfold execOp
  simp[hop,h1,h2,h3,h4]
 unfold Fp at h
 split at h
 ·rename_i k n k' m he he'
  rw[he]at hx;rw[he']at hy
  have e1:=Bi hx;have e2:=Bi hy
  have hg:∀ op w,(eqGuard op T x y (.int k n) (.int k' m)).run P w= .ok () w:=fun op w=>by cases op<;>simp[eqGuard]
  split at h
  ·split at h
   ·simp at h
   ·rename_i hm;simp only[QB]at h;subst h
    exact Aj (key _ _ _ e1 e2 hg (fun w=>by simp[binOp,Op.shift,hm])) (Bb rfl)
  ·split at h
   ·simp at h
   ·rename_i hm;simp only[QB]at h;subst h
    exact Aj (key _ _ _ e1 e2 hg (fun w=>by simp[binOp,Op.shift,hm])) (Bb rfl)
  ·split at h
   ·rename_i hkk;subst hkk
    cases hb:B2 op k n m with
    |none=>simp[hb]at h
    |some v=>
     simp only[hb,XR,QB]at h;subst h
     have h1:=(Q8 (P:=P) (T:=T) (w:=M.w) hb).1
     have h2:=fun w=>(Q8 (P:=P) (T:=T) (w:=w) hb).2
     exact Aj (key _ _ _ e1 e2 hg h2) (Bb h1)
   ·simp at h
 ·rename_i s s' he he'
  rw[he]at hx;rw[he']at hy
  have e1:=(Cf hx).2;have e2:=(Cf hy).2
  have hg:∀ op w,(eqGuard op T x y (.string s) (.string s')).run P w= .ok () w:=fun op w=>by cases op<;>simp[eqGuard]
  cases hb:Oi op s s' with
  |none=>simp[hb]at h
  |some v=>
   simp only[hb,XR,QB]at h;subst h
   have h1:=(Q9 (P:=P) (T:=T) (w:=M.w) hb).1
   have h2:=fun w=>(Q9 (P:=P) (T:=T) (w:=w) hb).2
   exact Aj (key _ _ _ e1 e2 hg h2) (Bb h1)
 ·rename_i s s' he he'
  rw[he]at hx;rw[he']at hy
  have e1:=(Cf hx).2;have e2:=(Cf hy).2
  have hg:∀ op w,(eqGuard op T x y (.bool s) (.bool s')).run P w= .ok () w:=fun op w=>by cases op<;>simp[eqGuard]
  split at h
  ·rename_i hk;simp only[QB]at h;subst h
   obtain⟨d,hd,rfl⟩:=As hC hk
   exact Aj (key _ _ _ e1 e2 hg (fun w=>by simp[binOp,Ra hd])) (Bb rfl)
  ·rename_i hk;simp only[QB]at h;subst h
   obtain⟨d,hd,rfl⟩:=As hC hk
   exact Aj (key _ _ _ e1 e2 hg (fun w=>by simp[binOp,Ra hd])) (Bb rfl)
  ·simp at h
 ·rename_i l m he he'
  rw[he]at hx;rw[he']at hy
  split at h
  case h_2=>
   unfold Hz at h
   split at h
   case h_2=>simp at h
   rename_i ks hks
   split at h
   case h_2=>simp at h
   rename_i b hb
   obtain⟨fields,hd,hp,hg0,hF'⟩:=hC.2.1 T ks hks
   simp only[Ag]at hx hy
   obtain⟨_,us,e1,h1⟩:=hx
   obtain⟨_,vs,e2,h2⟩:=hy
   have hfo:P.fieldsOf T=fields:=by unfold Program.fieldsOf;rw[hd]
   have hrun:∀ w:World,(Op.equalIn 10000 T (.agg us.toArray) (.agg vs.toArray)).run P w= .ok b w:=fun w=>by
    rw[run_equalIn_struct w 9999 T us.toArray vs.toArray (by rw[hfo];exact hd) hp,hfo]
    exact Y6 (d:=9997) fields.toList ks 0 l m us vs b hF' hb (by simpa using h1) (by simpa using h2) w
   have hg:∀ op w,(eqGuard op T x y (.agg us.toArray) (.agg vs.toArray)).run P w= .ok () w:=fun op w=>run_eqGuard_agg w op T x y us.toArray vs.toArray hg0
   split at h
   ·simp only[QB]at h;subst h
    refine Aj (key _ _ _ e1 e2 hg fun w=> ?_) (Bb rfl)
    rw[run_eql_struct,hrun w];rfl
   ·simp only[QB]at h;subst h
    refine Aj (key _ _ _ e1 e2 hg fun w=> ?_) (Bb rfl)
    rw[run_neq_struct,hrun w];rfl
   ·simp at h
  rename_i n hk
  obtain⟨d,hd,e,ie,rfl,hu,hie,hs1,hdep⟩:=As hC hk
  unfold Lv at h
  split at h
  case h_2=>simp at h
  rename_i bs cs hbs hcs
  split at h
  case isFalse=>simp at h
  rename_i hlen
  simp only[Ag]at hx hy
  obtain⟨_,us,e1,h1⟩:=hx
  obtain⟨_,vs,e2,h2⟩:=hy
  rw[Fc hbs h1]at e1
  rw[Fc hcs h2]at e2
  have hg:∀ op w,(eqGuard op T x y (.agg (bs.map fun b=>Value.int .u8 b.toNat).toArray) (.agg (cs.map fun b=>Value.int .u8 b.toNat).toArray)).run P w= .ok () w:=fun op w=>S6 hd hu hdep
  have hsz:∀ w,(sizeOf e).run P w= .ok 1 w:=fun w=>by simp[sizeOf,typeInfo,hie,hs1]
  split at h
  ·simp only[QB]at h;subst h
   exact Aj (key _ _ _ e1 e2 hg fun w=>run_eql_bytes w T e n hd hu hsz bs cs hlen.1 hlen.2) (Bb rfl)
  ·simp only[QB]at h;subst h
   refine Aj (key _ _ _ e1 e2 hg fun w=> ?_) (Bb rfl)
   rw[run_neq_struct]
   have:=run_equalIn_bytes (P:=P) w 9998 T e n hd hu hsz bs cs hlen.1 hlen.2
   rw[show (Op.equalIn 10000 T (.agg (bs.map fun b=>Value.int .u8 b.toNat).toArray) (.agg (cs.map fun b=>Value.int .u8 b.toNat).toArray)).run P w= .ok (bs==cs) w from this]
   rfl
  ·simp at h
 ·rename_i he'
  rw[he']at hy
  have e2:=(Cf hy).2
  split at h
  all_goals try (simp at h;done)
  all_goals
   rename_i b hk hn
   simp only[QB]at h;subst h
   obtain⟨ad,n,c,e1,hb⟩:=Afp hn hx
   have hg:∀ op w,(eqGuard op T x y (.slice ad n c) (.slice none 0 0)).run P w= .ok () w:=fun op w=>by cases op<;>simp[eqGuard]
   obtain⟨d,hd,rfl,_⟩:=As hC hk
   subst hb
   refine Aj (key _ _ _ e1 e2 hg ?_) (Bb rfl)
   intro w
   simp[binOp,Afn hd]
 ·rename_i he'
  rw[he']at hy
  have e2:=(Cf hy).2
  split at h
  all_goals try (simp at h;done)
  all_goals
   rename_i b hk hn
   simp only[QB]at h;subst h
   obtain⟨ad,e1,hb⟩:=Ad4 hn hx
   have hg:∀ op w,(eqGuard op T x y (.pointer ad) (.pointer none)).run P w= .ok () w:=fun op w=>by cases op<;>simp[eqGuard]
   obtain⟨d,hd,E,rfl⟩:=As hC hk
   subst hb
   refine Aj (key _ _ _ e1 e2 hg ?_) (Bb rfl)
   intro w
   simp[binOp,Afo hd]
 ·simp at h
theorem Hl {x:AV}{u:Value}{e:Nat}{ls:List (List PV)}(h:Bp x=some (e,ls))(hx:Ag M x u):
 (ls=[]∧∃ ad cap,u= .slice ad 0 cap∧(ad=none→cap=0))∨∃ b off cap,u= .slice (some ⟨b,off,none⟩) ls.length cap∧ls.length≤cap∧Br M.w M.I b off e ls:=by
 unfold Bp at h
 split at h
 ·simp at h;obtain⟨rfl,rfl⟩:=h
  simp only[Ag,Ca]at hx
  exact hx
 ·simp at h;obtain⟨rfl,rfl⟩:=h
  simp only[Ag]at hx
  obtain⟨b,cap,n,h1,h2,_,h3,_⟩:=hx
  exact .inr ⟨b,0,cap,h1,h2,h3⟩
 ·simp at h;obtain⟨rfl,rfl⟩:=h
  simp only[Ag]at hx
  obtain⟨n,_,_,⟨rfl,h1⟩|⟨_,b,cap,h1,h2,_,h3,_⟩⟩:=hx
  ·exact .inl ⟨rfl,none,0,h1,fun _=>rfl⟩
  ·exact .inr ⟨b,0,cap,h1,h2,h3⟩
 ·simp at h
theorem Oo {T:TypeId}{x i:Operand}{fr:List AV}{E es eb e:Nat}{ez:List Value}{k:IntKind}{n:Int}{ls:List (List PV)}{c:List PV}(hop:o.op= .indexAddr T x i)(hF:Cx M a fr)(hC:C.ok P)(hk:C.kind T=some (.slice E es eb ez))
 (hi:Hi (evA fr i)=some (k,n)) (hx:Bp (evA fr x)=some (e,ls)) (he:e=es) (hn:0≤n) (hc:ls[n.toNat]? =some c):El P o a M (.ip c 0):=by
 subst he
 obtain⟨d,hd,rfl,ii,z,hii,hs,_⟩:=As hC hk
 have hv:=hF.ev i
 rw[Dp hi]at hv
 have e1:=Bi hv
 obtain⟨rfl,_⟩|⟨b,off,cap,e2,hcap,hr⟩:=Hl hx (hF.ev x)
 ·simp at hc
 have hlt:=(QC.1 hc).1
 obtain⟨hcl,hcr⟩:=hr.get hc
 refine Aj (v:=.pointer (some ⟨b,off+n.toNat*e,none⟩)) ?_ (by simp only[Ag];exact⟨b,_,by simp,hcr⟩)
 have hlt':n<ls.length:=by omega
 intro w
 unfold execOp
 simp[hop,e1,e2,Instr.indexAt,asIntOf,run_underlying hd,hn,hlt',sizeOf,typeInfo,hii,hs,Addr.add_mid]
theorem Vm {T:TypeId}{x i:Operand}{fr:List AV}{E es eb t e j m:Nat}{ez:List Value}{k:IntKind}{n:Int}(hop:o.op= .indexAddr T x i)(hF:Cx M a fr)(hC:C.ok P)(hk:C.kind T=some (.slice E es eb ez))
 (hi:Hi (evA fr i)=some (k,n)) (hx:evA fr x= .ms t e j m) (he:e=es) (hn:0≤n) (hm:n<m):El P o a M (.mp t e (j+n.toNat) 0):=by
 subst he
 obtain⟨d,hd,rfl,ii,z,hii,hs,_⟩:=As hC hk
 have hv:=hF.ev i
 rw[Dp hi]at hv
 have e1:=Bi hv
 have hx':=hF.ev x
 rw[hx]at hx'
 simp only[Ag]at hx'
 obtain⟨b,cap,hb,hbl,e2,hcap⟩:=hx'
 refine Aj (v:=.pointer (some ⟨b,j*e+n.toNat*e,none⟩)) ?_ (by simp only[Ag];exact⟨b,hb,hbl,by rw[YY];rfl⟩)
 intro w
 unfold execOp
 simp[hop,e1,e2,Instr.indexAt,asIntOf,run_underlying hd,hn,hm,sizeOf,typeInfo,hii,hs,Addr.add_mid]
theorem Vn {T:TypeId}{x i:Operand}{fr:List AV}{E es eb t e j q m:Nat}{ez:List Value}{k:IntKind}{n:Int}(hop:o.op= .indexAddr T x i)(hF:Cx M a fr)(hC:C.ok P)(hk:C.kind T=some (.slice E es eb ez))
 (hi:Hi (evA fr i)=some (k,n)) (hx:evA fr x= .bs t e j q m) (he:es=1) (hn:0≤n) (hm:n<m):El P o a M (.mp t e j (q+n.toNat)):=by
 subst he
 obtain⟨d,hd,rfl,ii,z,hii,hs,_⟩:=As hC hk
 have hv:=hF.ev i
 rw[Dp hi]at hv
 have e1:=Bi hv
 have hx':=hF.ev x
 rw[hx]at hx'
 simp only[Ag]at hx'
 obtain⟨b,cap,hb,hbl,e2,hcap⟩:=hx'
 refine Aj (v:=.pointer (some ⟨b,j*e+q+n.toNat,none⟩)) ?_ (by simp only[Ag];exact⟨b,hb,hbl,by rw[ZY]⟩)
 intro w
 unfold execOp
 simp[hop,e1,e2,Instr.indexAt,asIntOf,run_underlying hd,hn,hm,sizeOf,typeInfo,hii,hs,Addr.add_mid]
theorem Oq {T:TypeId}{x i:Operand}{fr:List AV}{m:Nat}{k:IntKind}{n:Int}(hop:o.op= .indexAddr T x i)(hF:Cx M a fr)(hC:C.ok P)(hk:C.kind T=some (.barr m))
 (hi:Hi (evA fr i)=some (k,n)) (hn:0≤n) (hm:n<m) (h:(∃ t e j o',evA fr x= .mp t e j o'∧r= .mp t e j (o'+n.toNat))∨(∃ c o',evA fr x= .ip c o'∧r= .ip c (o'+n.toNat))):El P o a M r:=by
 obtain⟨d,hd,E,ii,rfl,_,hii,hs,_⟩:=As hC hk
 have hv:=hF.ev i
 rw[Dp hi]at hv
 have e1:=Bi hv
 have hx:=hF.ev x
 have key:∀ b q,a.eval x= .pointer (some ⟨b,q,none⟩)→∀ w,(execOp a.eval o).run P w= .ok (.value (.pointer (some ⟨b,q+n.toNat,none⟩))) w:=fun b q hq w=>by
  unfold execOp
  simp[hop,hq,e1,Instr.indexAt,asIntOf,run_underlying hd,hn,hm,sizeOf,typeInfo,hii,hs,Addr.add_mid,Instr.sureAddr]
 rcases h with⟨t,e,i',o',he,rfl⟩|⟨c,o',he,rfl⟩
 ·rw[he]at hx
  simp only[Ag]at hx
  obtain⟨b,hb,hbl,hx⟩:=hx
  refine Aj (key b _ hx) ?_
  simp only[Ag]
  exact⟨b,hb,hbl,by rw[ZY]⟩
 ·rw[he]at hx
  simp only[Ag]at hx
  obtain⟨b,q,hx,hc⟩:=hx
  refine Aj (key b _ hx) ?_
  simp only[Ag]
  exact⟨b,q,by rw[ZY],hc⟩
theorem Mz:∀ {ls:List (List PV)} {bs:List UInt8},Fa ls=some bs→ls=bs.map fun b=>[.v (.int .u8 b.toNat)]
 |[],bs,h=>by simp[Fa]at h;subst h;rfl
 |c::ls,bs,h=>by
  unfold Fa at h
  split at h
  ·rename_i heq;simp at heq
  ·rename_i x l heq
   simp at heq
   obtain⟨rfl,rfl⟩:=heq
   split at h
   ·rename_i b bs' hb hbs
    simp at h;subst h
    rw[Lz hb,Mz hbs];rfl
   ·simp at h
  ·simp at h
theorem Ot:∀ (bs:List UInt8) (acc:ByteArray),(bs.map fun b=>(b.toNat:Int)).foldl (fun (r:ByteArray) n=>r.push (UInt8.ofNat n.toNat)) acc=⟨acc.data++bs.toArray⟩
 |[],acc=>by simp
 |b::bs,acc=>by
  rw[QK,List.foldl_cons,Ot bs]
  have:UInt8.ofNat (b.toNat:Int).toNat=b:=by simp
  rw[this]
  simp[ByteArray.push]
theorem Al.data (h:Al M σ)(w':World)(hs:w'.heap.size=M.w.heap.size+1)(hold:∀ b,b<M.w.heap.size→w'.heap[b]? =M.w.heap[b]?)(hos:w'.os=M.w.os)(htp:w'.tape=M.w.tape)(hout:w'.output=M.w.output):
 ∃ M':Az,M'.w=w'∧(∀ b o,M'.I b o↔M.I b o∨b=M.w.heap.size)∧Ext M σ M' σ∧Al M' σ:=by
 let M':Az:={ M with w:=w',I:=fun b o=>M.I b o∨b=M.w.heap.size }
 have hcell:∀ b o,M.I b o→M'.w.cell? ⟨b,o,none⟩=M.w.cell? ⟨b,o,none⟩:=fun b o ho=>World.cell?_of_block (hold b (h.imm b o ho))
 have hL:Later M M':=⟨fun _ _ h h'=>⟨h,h',rfl⟩,C5 (fun _=>rfl) (fun _=>rfl) (fun _=>rfl),fun _ _ h=>.inl h,hcell⟩
 have hsz:M'.w.heap.size=M.w.heap.size+1:=hs
 have hE:Ext M σ M' σ:=⟨hL.mu,hL.own,hL.imm,hcell,fun b hb _=>⟨hold b hb,fun o ho=>ho.elim id fun e=>by omega⟩,fun t ob b h1 h2=>.inr ⟨t,ob,h1,h2⟩,by omega,hos,htp,hout⟩
 exact⟨M',rfl,fun _ _=>Iff.rfl,hE,⟨fun t ob ht=>(h.obj t ob ht).later hL rfl rfl rfl fun b hb=>⟨hold b (h.lt t b hb),fun o ho=>ho.elim id fun e=>by have:=h.lt t b hb;omega⟩,h.inj,h.fresh,fun t b hb=>by have:=h.lt t b hb;omega,fun b o ho=>by rcases ho with ho|ho;(have:=h.imm b o ho;omega);omega,h.glob.ext hE⟩⟩
theorem Ad7 {S T:TypeId}{x:Operand}{fr:List AV}(hop:o.op= .convert S T x)(hM:Al M σ)(hF:Cx M a fr)(hC:C.ok P)(h:Adu C S T (evA fr x)=some r):Does P o a M σ r σ:=by
 have hx:=hF.ev x
 unfold Adu at h
 split at h
 case h_3=>simp at h
 case h_2=>
  rename_i E es eb ez hks hkt
  split at h
  case h_2=>simp at h
  rename_i hke
  obtain⟨d,hd,rfl⟩:=As hC hks
  obtain⟨d',hd',rfl,_⟩:=As hC hkt
  obtain⟨d'',hd'',rfl⟩:=As hC hke
  split at h
  case h_2=>simp at h
  rename_i s he
  simp only[QB]at h;subst h
  rw[he]at hx
  have e2:=(Cf hx).2
  have hrun:=Lib.run_convert_string_bytes (P:=P) M.w S T E s hd hd' hd''
  obtain⟨M',h1,h2,h3,h4⟩:=hM.data (Lib.bytesWorld M.w E s) (Lib.bytesWorld_size M.w E s) (Lib.bytesWorld_at_old M.w E s) (by simp[Lib.bytesWorld,World.freeze,World.alloc,World.drew,-World.alloc_eq,-World.drew_eq]) (by simp[Lib.bytesWorld,World.freeze,World.alloc,World.drew,-World.alloc_eq,-World.drew_eq]) (by simp[Lib.bytesWorld,World.freeze,World.alloc,World.drew,-World.alloc_eq,-World.drew_eq])
  refine⟨.slice (some ⟨M.w.heap.size,0,none⟩) s.size (grownCap M.w s.size 0 E),M',.inl ?_,h3,h4,?_⟩
  ·unfold execOp
   rw[h1]
   simp[hop,e2,hrun]
  ·simp only[Ag,Ca]
   have hl:(s.data.toList.map fun b=>[PV.v (.int .u8 b.toNat)]).length=s.size:=by rw[QL,YK];rfl
   refine .inr ⟨_,0,_,by rw[hl],by rw[hl];exact grownCap_ge _ _ _ _,Br.of_get fun j c hj=> ?_⟩
   rw[QR,QQ]at hj
   obtain⟨q,hq,rfl⟩:=hj
   have hjs:j<s.size:=by rw[← hl,QL];exact (QC.1 hq).1
   refine⟨rfl,Do.of_get fun k y hy=> ?_⟩
   cases k with
   |succ k=>simp at hy
   |zero=>
    simp only[YT,QB]at hy
    subst hy
    refine⟨.int .u8 q.toNat,?_,(h2 _ _).2 (.inr rfl),by simp[Ca,plain]⟩
    have hc:=Lib.bytesWorld_cell M.w E s j hjs
    have hgd:s.data.toList.getD j 0=q:=by rw[QM,hq];rfl
    rw[hgd]at hc
    rw[h1]
    simpa using hc
 rename_i E es eb ez hks hkt
 split at h
 case h_2=>simp at h
 rename_i hke
 obtain⟨d,hd,rfl,_⟩:=As hC hks
 obtain⟨d',hd',rfl⟩:=As hC hkt
 obtain⟨d'',hd'',rfl⟩:=As hC hke
 have conv:∀ v u,a.eval x=v→(convert S T v).run P M.w= .ok u M.w→(execOp a.eval o).run P M.w= .ok (.value u) M.w:=fun v u h1 h2=>by
  unfold execOp
  simp[hop,h1,h2]
 split at h
 ·rename_i he
  simp only[QB]at h;subst h
  rw[he]at hx
  exact Cl hM (conv _ _ (Cf hx).2 (run_convert_bytes_nil M.w S E hd hd'' _ _ T hd')) (Bb rfl)
 ·split at h
  case h_2=>simp at h
  rename_i ls hel
  simp only[QQ]at h
  obtain⟨bs,hbs,rfl⟩:=h
  obtain⟨rfl,ad,cap,e2,hnc⟩|⟨b,off,cap,e2,hcap,hr⟩:=Hl hel hx
  ·have hbs0:bs=[]:=by simpa [Fa]using hbs.symm
   subst hbs0
   cases ad with
   |none=>
    obtain rfl:=hnc rfl
    exact Cl hM (conv _ _ e2 (run_convert_bytes_nil M.w S E hd hd'' _ _ T hd')) (Bb rfl)
   |some ad=>
   refine Cl hM (conv _ (.string ⟨#[]⟩) e2 ?_) (Bb rfl)
   rw[run_convert_bytes_string M.w S T E _ _ cap hd hd'' hd']
   rw[run_bytesToString M.w ad _ cap [] (by simp[loadCells,loadCellsFrom])]
   rfl
  refine Cl hM (conv _ (.string ⟨bs.toArray⟩) e2 ?_) (Bb rfl)
  have hls:=Mz hbs
  subst hls
  rw[run_convert_bytes_string M.w S T E _ _ cap hd hd'' hd']
  have hcells:(loadCells ⟨b,off,none⟩ (bs.map fun b=>[PV.v (.int .u8 b.toNat)]).length).run P M.w= .ok (bs.map fun b=>Value.int .u8 b.toNat).toArray M.w:=by
   have:=run_loadCells_list (P:=P) M.w ⟨b,off,none⟩ (bs.map fun b=>Value.int .u8 b.toNat) (fun j v hj=>by
    rw[Addr.add_mid]
    have hj':=hj
    rw[QR]at hj'
    cases hb:bs[j]? with
    |none=>rw[hb]at hj';simp at hj'
    |some c=>
     rw[hb]at hj';simp at hj';subst hj'
     obtain⟨_,h2⟩:=hr.get (i:=j) (c:=[.v (.int .u8 c.toNat)]) (by simp[hb])
     obtain⟨u,h3,_,h4⟩:=h2.get (j:=0) rfl
     simp only[Ca]at h4
     rw[h4.2]at h3
     simpa using h3)
   simpa using this
  rw[run_bytesToString M.w ⟨b,off,none⟩ _ cap (bs.map fun b=>(b.toNat:Int)) (by rw[hcells];simp),Ot]
  simp
theorem Jy {T:TypeId}{x i:Operand}{fr:List AV}{m es:Nat}{er:Bool}{k:IntKind}{n:Int}(hop:o.op= .indexAddr T x i)(hF:Cx M a fr)(hC:C.ok P)(hk:C.kind T=some (.arr m es er))
 (hi:Hi (evA fr i)=some (k,n)) (hn:0≤n) (hm:n<m) (h:(∃ t e j o',evA fr x= .mp t e j o'∧r= .mp t e j (o'+n.toNat*es))∨(∃ c o',evA fr x= .ip c o'∧r= .ip c (o'+n.toNat*es))):El P o a M r:=by
 obtain⟨d,hd,E,rfl,⟨ii,d',hii,hs,_⟩,_⟩:=As hC hk
 have hv:=hF.ev i
 rw[Dp hi]at hv
 have e1:=Bi hv
 have hx:=hF.ev x
 have key:∀ b q,a.eval x= .pointer (some ⟨b,q,none⟩)→∀ w,(execOp a.eval o).run P w= .ok (.value (.pointer (some ⟨b,q+n.toNat*es,none⟩))) w:=fun b q hq w=>by
  unfold execOp
  simp[hop,hq,e1,Instr.indexAt,asIntOf,run_underlying hd,hn,hm,sizeOf,typeInfo,hii,hs,Addr.add_mid,Instr.sureAddr]
 rcases h with⟨t,e,i',o',he,rfl⟩|⟨c,o',he,rfl⟩
 ·rw[he]at hx
  simp only[Ag]at hx
  obtain⟨b,hb,hbl,hx⟩:=hx
  refine Aj (key b _ hx) ?_
  simp only[Ag]
  exact⟨b,hb,hbl,by rw[ZY]⟩
 ·rw[he]at hx
  simp only[Ag]at hx
  obtain⟨b,q,hx,hc⟩:=hx
  refine Aj (key b _ hx) ?_
  simp only[Ag]
  exact⟨b,q,by rw[ZY],hc⟩
theorem S7 {T:TypeId}{x i:Operand}{fr:List AV}{k:IntKind}{n:Int}{s:ByteArray}{c:UInt8}(hop:o.op= .index T x i)(hF:Cx M a fr)(hC:C.ok P)(hk:C.kind T=some .str)
 (hx:evA fr x= .p (.v (.string s))) (hi:Hi (evA fr i)=some (k,n)) (hn:0≤n) (hc:s[n.toNat]? =some c):El P o a M (Ad .u8 c.toNat):=by
 obtain⟨d,hd,rfl⟩:=As hC hk
 have hv:=hF.ev i
 rw[Dp hi]at hv
 have e1:=Bi hv
 have hv2:=hF.ev x
 rw[hx]at hv2
 have e2:=(Cf hv2).2
 refine Aj (v:=.int .u8 c.toNat) ?_ (Bb rfl)
 intro w
 unfold execOp
 simp[hop,e1,e2,Instr.index,asIntOf,run_underlying hd,hn,hc]
theorem S8 {T:TypeId}{x i:Operand}{fr l:List AV}{k:IntKind}{m es:Nat}{er:Bool}{n:Int}(hop:o.op= .index T x i)(hF:Cx M a fr)(hC:C.ok P)(hk:C.kind T=some (.arr m es er))
 (hx:evA fr x= .agg l) (hi:Hi (evA fr i)=some (k,n)) (hn:0≤n) (hm:n<m) (h:I1 er es (n.toNat*es) l=some r):El P o a M r:=by
 obtain⟨d,hd,e,rfl,hT,_,_⟩:=As hC hk
 have hv:=hF.ev i
 rw[Dp hi]at hv
 have e1:=Bi hv
 have hv2:=hF.ev x
 rw[hx]at hv2
 simp only[Ag]at hv2
 obtain⟨hl,us,e2,hus⟩:=hv2
 obtain⟨u,h1,h2⟩:=Sw hl hus h
 have hT':=hT
 obtain⟨ii,dd,hii,hss,_,_⟩:=hT'
 refine Aj (v:=u) ?_ h1
 intro w
 unfold execOp
 simp[hop,e1,e2,Instr.index,asIntOf,run_underlying hd,hn,hm,sizeOf,typeInfo,hii,hss,Fb hT h2]
theorem Jz {T:TypeId}{x:Operand}{fr:List AV}{n:Nat}(hop:o.op= .call { callee:=.builtin .len,args:= #[x],argTypes:= #[T] })(hF:Cx M a fr)(hC:C.ok P)
 (h:(C.kind T=some .str∧∃ s,evA fr x= .p (.v (.string s))∧n=s.size)∨((∃ E es eb ez,C.kind T=some (.slice E es eb ez))∧((∃ e ls,Bp (evA fr x)=some (e,ls)∧n=ls.length)∨(evA fr x=Sq∧n=0)∨(∃ t e i,evA fr x= .ms t e i n)∨∃ t e i q,evA fr x= .bs t e i q n))):El P o a M (Ad .i64 n):=by
 have hx:=hF.ev x
 refine Aj (v:=.int .i64 n) ?_ (Bb rfl)
 rcases h with⟨hk,s,he,rfl⟩|⟨⟨E,es,eb,ez,hk⟩,h⟩
 ·obtain⟨d,hd,rfl⟩:=As hC hk
  rw[he]at hx
  intro w
  unfold execOp
  simp[hop,resolve,invoke,builtin,Builtin.len_,run_underlying hd,(Cf hx).2,goInt]
 ·obtain⟨d,hd,rfl,_⟩:=As hC hk
  have:∃ ad c,a.eval x= .slice ad n c:=by
   rcases h with⟨e,ls,he,rfl⟩|⟨he,rfl⟩|⟨t,e,i,he⟩|⟨t,e,i,q,he⟩
   ·obtain⟨rfl,ad,cap,e2,_⟩|⟨b,off,cap,e2,_⟩:=Hl he hx
    ·exact⟨_,_,e2⟩
    ·exact⟨_,_,e2⟩
   ·rw[he]at hx;exact⟨_,_,(Cf hx).2⟩
   ·rw[he]at hx
    simp only[Ag]at hx
    obtain⟨b,cap,_,_,e2,_⟩:=hx
    exact⟨_,_,e2⟩
   ·rw[he]at hx
    simp only[Ag]at hx
    obtain⟨b,cap,_,_,e2,_⟩:=hx
    exact⟨_,_,e2⟩
  obtain⟨ad,c,e2⟩:=this
  intro w
  unfold execOp
  simp[hop,resolve,invoke,builtin,Builtin.len_,run_underlying hd,e2,goInt]
theorem Br.drop {w:World}{I:Nat→Nat→Prop}{b off e:Nat}{ls:List (List PV)}(h:Br w I b off e ls)(l:Nat):Br w I b (off+l*e) e (ls.drop l):=
 Br.of_get fun i c hc=>by
  rw[ZK]at hc
  have:=h.get hc
  rw[YY]at this
  rw[ZY];exact this
theorem Br.take {w:World}{I:Nat→Nat→Prop}{b off e:Nat}{ls:List (List PV)}(h:Br w I b off e ls)(n:Nat):Br w I b off e (ls.take n):=
 Br.of_get fun i c hc=>by
  rw[QT]at hc
  split at hc
  ·exact h.get hc
  ·simp at hc
theorem A5 {fr:List AV}(hF:Cx M a fr){x:Option Operand}{d i:Int}(h:Bh (x.map (evA fr)) d=some i):(x=none∧i=d)∨∃ y k,x=some y∧a.eval y= .int k i:=by
 unfold Bh at h
 cases x with
 |none=>simp at h;exact .inl ⟨rfl,h.symm⟩
 |some y=>
  simp at h
  split at h
  ·rename_i k j hi
   simp at h;subst h
   have hv:=hF.ev y
   rw[Dp hi]at hv
   exact .inr ⟨y,k,rfl,Bi hv⟩
  ·simp at h
theorem Ad8 {T:TypeId}{x:Operand}{lo hi:Option Operand}{fr:List AV}(hop:o.op= .slice T x lo hi none)(hF:Cx M a fr)(hC:C.ok P)(h:Bl C T (evA fr x) (lo.map (evA fr)) (hi.map (evA fr))=some r):El P o a M r:=by
 have hx:=hF.ev x
 unfold Bl at h
 split at h
 ·rename_i E es eb ez hk
  obtain⟨d,hd,rfl,ii,z,hii,hs,_⟩:=As hC hk
  split at h
  ·rename_i e ls hel
   split at h
   ·rename_i l hh hl hh'
    split at h
    ·rename_i hc
     obtain⟨rfl,h0,h1,h2⟩:=hc
     simp only[QB]at h;subst h
     obtain⟨rfl,ad,cap,e2,hnc⟩|⟨b,off,cap,e2,hcap,hr⟩:=Hl hel hx
     ·simp only[QI]at h2 hh'
      obtain rfl:l=0:=by omega
      obtain rfl:hh=0:=by omega
      refine Aj (v:=.slice ad 0 cap) ?_ (by simp only[Ag,Ca];exact .inl ⟨by simp,ad,cap,rfl,hnc⟩)
      have hbd:∀ w,(Instr.sliceBounds true 0 cap (lo.map a.eval) (hi.map a.eval) none).run P w= .ok (0,0,cap) w:=fun w=>by
       rcases A5 hF hh' with⟨rfl,_⟩|⟨y,k,rfl,h3⟩
       ·rcases A5 hF hl with⟨rfl,_⟩|⟨y',k',rfl,h4⟩
        ·simp[Instr.sliceBounds]
        ·simp[Instr.sliceBounds,Instr.sliceBound,asIntOf,h4]
       ·rcases A5 hF hl with⟨rfl,_⟩|⟨y',k',rfl,h4⟩
        ·simp[Instr.sliceBounds,Instr.sliceBound,asIntOf,h3]
        ·simp[Instr.sliceBounds,Instr.sliceBound,asIntOf,h3,h4]
      intro w
      cases ad with
      |none=>
       obtain rfl:=hnc rfl
       unfold execOp
       simp[hop,e2,Instr.sliceAt,Instr.slice,run_underlying hd,hbd,sizeOf,typeInfo,hii]
      |some ad=>
       unfold execOp
       simp[hop,e2,Instr.sliceAt,Instr.slice,run_underlying hd,hbd,sizeOf,typeInfo,hii,hs,Addr.add]
     obtain⟨l,rfl⟩:∃ n:Nat,l=n:=⟨l.toNat,by omega⟩
     obtain⟨hh,rfl⟩:∃ n:Nat,hh=n:=⟨hh.toNat,by omega⟩
     refine Aj (v:=.slice (if cap=l then some ⟨b,off,none⟩else some ⟨b,off+l*e,none⟩) (hh - l) (cap - l)) ?_ ?_
     ·have hbd:∀ w,(Instr.sliceBounds true ls.length cap (lo.map a.eval) (hi.map a.eval) none).run P w= .ok (l,hh,cap) w:=fun w=>by
       rcases A5 hF hh' with⟨rfl,h3⟩|⟨y,k,rfl,h3⟩
       ·have:hh=ls.length:=by omega
        subst this
        rcases A5 hF hl with⟨rfl,h4⟩|⟨y',k',rfl,h4⟩
        ·have:l=0:=by omega
         subst this
         simp[Instr.sliceBounds]
        ·simp[Instr.sliceBounds,Instr.sliceBound,asIntOf,h4,Int.ofNat_le.1 h1]
       ·rcases A5 hF hl with⟨rfl,h4⟩|⟨y',k',rfl,h4⟩
        ·have:l=0:=by omega
         subst this
         have:hh≤cap:=by omega
         simp[Instr.sliceBounds,Instr.sliceBound,asIntOf,h3,this]
        ·have:hh≤cap:=by omega
         have:l≤hh:=by omega
         simp[Instr.sliceBounds,Instr.sliceBound,asIntOf, *]
      intro w
      unfold execOp
      simp[hop,e2,Instr.sliceAt,Instr.slice,run_underlying hd,hbd,sizeOf,typeInfo,hii,hs,Addr.add_mid]
     ·simp only[Ag,Ca,ZZ]
      have hlen:((ls.take hh).drop l).length=hh - l:=by simp;omega
      rw[hlen]
      by_cases hcl:cap=l
      ·have:hh - l=0:=by omega
       have hnil:(ls.take hh).drop l=[]:=XF (by omega)
       exact .inr ⟨b,off,cap - l,by simp[hcl],by omega,by rw[hnil];simp[Br]⟩
      ·exact .inr ⟨b,off+l*e,cap - l,by simp[hcl],by omega,(hr.take hh).drop l⟩
    ·simp at h
   ·simp at h
  ·split at h
   ·rename_i hel hnil hl hh
    rw[hnil]at hx
    have e2:=(Cf hx).2
    simp only[QB]at h;subst h
    have hbd:∀ w,(Instr.sliceBounds true 0 0 (lo.map a.eval) (hi.map a.eval) none).run P w= .ok (0,0,0) w:=fun w=>by
     rcases A5 hF hh with⟨rfl,h3⟩|⟨y,k,rfl,h3⟩<;>rcases A5 hF hl with⟨rfl,h4⟩|⟨y',k',rfl,h4⟩<;>simp[Instr.sliceBounds,Instr.sliceBound,asIntOf, *]
    refine Aj (v:=.slice none 0 0) ?_ (Bb rfl)
    intro w
    unfold execOp
    simp[hop,e2,Instr.sliceAt,Instr.slice,run_underlying hd,hbd,sizeOf,typeInfo,hii]
   ·rename_i t e k hms hl
    rw[hms]at hx
    simp only[Ag]at hx
    obtain⟨b,cap,m,e2,hcap,hcm,g1,g2⟩:=hx
    split at h
    ·rename_i hh'
     split at h
     ·rename_i he
      subst he
      simp only[QB]at h;subst h
      have hbd:∀ w,(Instr.sliceBounds true k cap (lo.map a.eval) (hi.map a.eval) none).run P w= .ok (0,0,cap) w:=fun w=>by
       rcases A5 hF hh' with⟨rfl,h3⟩|⟨y,q,rfl,h3⟩
       ·obtain rfl:k=0:=by omega
        rcases A5 hF hl with⟨rfl,h4⟩|⟨y',q',rfl,h4⟩
        ·simp[Instr.sliceBounds]
        ·simp[Instr.sliceBounds,Instr.sliceBound,asIntOf,h4]
       ·rcases A5 hF hl with⟨rfl,h4⟩|⟨y',q',rfl,h4⟩
        ·simp[Instr.sliceBounds,Instr.sliceBound,asIntOf,h3]
        ·simp[Instr.sliceBounds,Instr.sliceBound,asIntOf,h3,h4]
      refine Aj (v:=.slice (some ⟨b,0,none⟩) 0 cap) ?_ (by simp only[Ag,QI,WB];exact⟨b,cap,m,rfl,YS _,hcm,by simp[Br],g1,YS _,fun e=>g2 e.symm⟩)
      intro w
      unfold execOp
      simp[hop,e2,Instr.sliceAt,Instr.slice,run_underlying hd,hbd,sizeOf,typeInfo,hii,hs,Addr.add]
     ·simp at h
    ·simp at h
   ·rename_i t e i n hms hl
    rw[hms]at hx
    simp only[Ag]at hx
    obtain⟨b,cap,g1,g2,e2,hcap,hfit⟩:=hx
    split at h
    ·rename_i hh hh'
     split at h
     ·rename_i hc
      obtain⟨rfl,h0,h1⟩:=hc
      simp only[QB]at h;subst h
      obtain⟨hh,rfl⟩:∃ m:Nat,hh=m:=⟨hh.toNat,by omega⟩
      have hbd:∀ w,(Instr.sliceBounds true n cap (lo.map a.eval) (hi.map a.eval) none).run P w= .ok (0,hh,cap) w:=fun w=>by
       have k1:hh≤cap:=by omega
       rcases A5 hF hh' with⟨rfl,h3⟩|⟨y,k,rfl,h3⟩
       ·obtain rfl:hh=n:=by omega
        rcases A5 hF hl with⟨rfl,h4⟩|⟨y',k',rfl,h4⟩
        ·simp[Instr.sliceBounds]
        ·simp[Instr.sliceBounds,Instr.sliceBound,asIntOf,h4]
       ·rcases A5 hF hl with⟨rfl,h4⟩|⟨y',k',rfl,h4⟩
        ·simp[Instr.sliceBounds,Instr.sliceBound,asIntOf,h3,k1]
        ·simp[Instr.sliceBounds,Instr.sliceBound,asIntOf,h3,h4,k1]
      refine Aj (v:=.slice (some ⟨b,i*e,none⟩) hh cap) ?_ (by simp only[Ag,ZZ];exact⟨b,cap,g1,g2,rfl,by omega,hfit⟩)
      intro w
      unfold execOp
      simp[hop,e2,Instr.sliceAt,Instr.slice,run_underlying hd,hbd,sizeOf,typeInfo,hii,hs,Addr.add]
     ·simp at h
    ·simp at h
   ·rename_i t e i n l _ hms hl
    rw[hms]at hx
    simp only[Ag]at hx
    obtain⟨b,cap,g1,g2,e2,hcap,hfit⟩:=hx
    split at h
    ·rename_i hh hh'
     split at h
     ·rename_i hc
      obtain⟨rfl,h0,h1,h2⟩:=hc
      simp only[QB]at h;subst h
      obtain⟨l,rfl⟩:∃ m:Nat,l=m:=⟨l.toNat,by omega⟩
      obtain⟨hh,rfl⟩:∃ m:Nat,hh=m:=⟨hh.toNat,by omega⟩
      have hbd:∀ w,(Instr.sliceBounds true n cap (lo.map a.eval) (hi.map a.eval) none).run P w= .ok (l,hh,cap) w:=fun w=>by
       have k1:hh≤cap:=by omega
       have k2:l≤hh:=by omega
       rcases A5 hF hh' with⟨rfl,h3⟩|⟨y,k,rfl,h3⟩
       ·obtain rfl:hh=n:=by omega
        rcases A5 hF hl with⟨rfl,h4⟩|⟨y',k',rfl,h4⟩
        ·obtain rfl:l=0:=by omega
         simp[Instr.sliceBounds]
        ·simp[Instr.sliceBounds,Instr.sliceBound,asIntOf,h4,k2]
       ·rcases A5 hF hl with⟨rfl,h4⟩|⟨y',k',rfl,h4⟩
        ·obtain rfl:l=0:=by omega
         simp[Instr.sliceBounds,Instr.sliceBound,asIntOf,h3,k1]
        ·simp[Instr.sliceBounds,Instr.sliceBound,asIntOf,h3,h4,k1,k2]
      refine Aj (v:=.slice (if cap=l then some ⟨b,i*e,none⟩else some ⟨b,i*e+l*e,none⟩) (hh - l) (cap - l)) ?_ ?_
      ·intro w
       unfold execOp
       simp[hop,e2,Instr.sliceAt,Instr.slice,run_underlying hd,hbd,sizeOf,typeInfo,hii,hs,Addr.add_mid]
      ·simp only[Ag,ZZ]
       refine⟨b,cap - l,g1,g2,by rw[if_neg (by omega),YY],by omega,?_⟩
       rw[← YY,show i+l+(cap - l)=i+cap by omega,YY]
       exact hfit
     ·split at h
      ·rename_i hc
       obtain⟨rfl,h0,h1,h2⟩:=hc
       simp only[QB]at h;subst h
       subst h1
       obtain⟨l,rfl⟩:∃ m:Nat,l=m:=⟨l.toNat,by omega⟩
       have hbd:∀ w,(Instr.sliceBounds true n cap (lo.map a.eval) (hi.map a.eval) none).run P w= .ok (l,l,cap) w:=fun w=>by
        have k1:l≤cap:=by omega
        rcases A5 hF hh' with⟨rfl,h3⟩|⟨y,k,rfl,h3⟩
        ·obtain rfl:l=n:=by omega
         rcases A5 hF hl with⟨rfl,h4⟩|⟨y',k',rfl,h4⟩
         ·obtain rfl:l=0:=by omega
          simp[Instr.sliceBounds]
         ·simp[Instr.sliceBounds,Instr.sliceBound,asIntOf,h4]
        ·rcases A5 hF hl with⟨rfl,h4⟩|⟨y',k',rfl,h4⟩
         ·obtain rfl:l=0:=by omega
          simp[Instr.sliceBounds,Instr.sliceBound,asIntOf,h3]
         ·simp[Instr.sliceBounds,Instr.sliceBound,asIntOf,h3,h4,k1]
       refine Aj (v:=.slice (if cap=l then some ⟨b,i*e,none⟩else some ⟨b,i*e+l*e,none⟩) 0 (cap - l)) ?_ ?_
       ·intro w
        unfold execOp
        simp[hop,e2,Instr.sliceAt,Instr.slice,run_underlying hd,hbd,sizeOf,typeInfo,hii,hs,Addr.add_mid]
       ·simp only[Ag,Ca]
        exact .inl ⟨trivial,_,_,rfl,fun e=>by split at e<;>cases e⟩
      ·simp at h
    ·simp at h
   ·simp at h
 ·rename_i hk
  obtain⟨d,hd,rfl⟩:=As hC hk
  split at h
  ·rename_i s he
   rw[he]at hx
   have e2:=(Cf hx).2
   split at h
   ·rename_i l hh hl hh'
    split at h
    ·rename_i hc
     obtain⟨h0,h1,h2⟩:=hc
     simp only[QB]at h;subst h
     obtain⟨l,rfl⟩:∃ n:Nat,l=n:=⟨l.toNat,by omega⟩
     obtain⟨hh,rfl⟩:∃ n:Nat,hh=n:=⟨hh.toNat,by omega⟩
     have h2':hh≤s.size:=by omega
     have h1':l≤hh:=by omega
     have hbd:∀ w,(Instr.sliceBounds false s.size s.size (lo.map a.eval) (hi.map a.eval) none).run P w= .ok (l,hh,s.size) w:=fun w=>by
      rcases A5 hF hh' with⟨rfl,h3⟩|⟨y,k,rfl,h3⟩
      ·have:hh=s.size:=by omega
       subst this
       rcases A5 hF hl with⟨rfl,h4⟩|⟨y',k',rfl,h4⟩
       ·have:l=0:=by omega
        subst this
        simp[Instr.sliceBounds]
       ·simp[Instr.sliceBounds,Instr.sliceBound,asIntOf,h4,h1']
      ·rcases A5 hF hl with⟨rfl,h4⟩|⟨y',k',rfl,h4⟩
       ·have:l=0:=by omega
        subst this
        simp[Instr.sliceBounds,Instr.sliceBound,asIntOf,h3,h2']
       ·simp[Instr.sliceBounds,Instr.sliceBound,asIntOf,h3,h4,h1',h2']
     refine Aj (v:=.string (s.extract l hh)) ?_ (Bb rfl)
     intro w
     unfold execOp
     simp[hop,e2,Instr.sliceAt,Instr.slice,run_underlying hd,hbd]
    ·simp at h
   ·simp at h
  ·simp at h
 ·rename_i m hk
  obtain⟨d,hd,E,ii,rfl,_,hii,hs,_⟩:=As hC hk
  split at h
  ·rename_i t e i q l hh he hl hh'
   rw[he]at hx
   simp only[Ag]at hx
   obtain⟨b,hb,hbl,e2⟩:=hx
   split at h
   ·rename_i hc
    obtain⟨h0,h1,h2⟩:=hc
    simp only[QB]at h;subst h
    obtain⟨l,rfl⟩:∃ n:Nat,l=n:=⟨l.toNat,by omega⟩
    obtain⟨hh,rfl⟩:∃ n:Nat,hh=n:=⟨hh.toNat,by omega⟩
    have h2':hh≤m:=by omega
    have h1':l≤hh:=by omega
    have hlm:¬ m=l:=by omega
    have hbd:∀ w,(Instr.sliceBounds false m m (lo.map a.eval) (hi.map a.eval) none).run P w= .ok (l,hh,m) w:=fun w=>by
     rcases A5 hF hh' with⟨rfl,h3⟩|⟨y,k,rfl,h3⟩
     ·have:hh=m:=by omega
      subst this
      rcases A5 hF hl with⟨rfl,h4⟩|⟨y',k',rfl,h4⟩
      ·have:l=0:=by omega
       subst this
       simp[Instr.sliceBounds]
      ·simp[Instr.sliceBounds,Instr.sliceBound,asIntOf,h4,h1']
     ·rcases A5 hF hl with⟨rfl,h4⟩|⟨y',k',rfl,h4⟩
      ·have:l=0:=by omega
       subst this
       simp[Instr.sliceBounds,Instr.sliceBound,asIntOf,h3,h2']
      ·simp[Instr.sliceBounds,Instr.sliceBound,asIntOf,h3,h4,h1',h2']
    refine Aj (v:=.slice (some ⟨b,i*e+q+l,none⟩) (hh - l) (m - l)) ?_ (by simp only[Ag,ZZ];exact⟨b,m - l,hb,hbl,by rw[ZY],by omega⟩)
    intro w
    unfold execOp
    simp[hop,e2,Instr.sliceAt,Instr.sureAddr,run_underlying hd,hbd,sizeOf,typeInfo,hii,hs,Addr.add_mid,hlm]
   ·simp at h
  ·simp at h
 ·simp at h
end
