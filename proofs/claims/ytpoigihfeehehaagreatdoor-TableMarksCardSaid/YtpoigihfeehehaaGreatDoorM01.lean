/- The abstract machine's values and what they stand for in a world. Variables of the package that the walks read: their numbers, and what they hold. The abstract machine's state: its objects, how a world bears them, and the moves that keep it. -/
import Derived.Below
import Derived.ProofKit
import Derived.Lib.ItoaMem
import Derived.Lib.ItoaWalk
import Derived.Deep.MidRow
import Derived.Maps.AppendAt
import Derived.Test.YtpoigihfeehehaaGreatDoorM00
set_option linter.all false
set_option maxRecDepth 100000
set_option maxHeartbeats 32000000
namespace Go.Proofs.YtpoigihfeehehaaGreatDoor
open Go.RowKit
inductive PV where
 |v (x:Value)
 |sl (e:Nat) (ls:List (List PV))
inductive AV where
 |any
 |p (x:PV)
 |own (t e:Nat) (ls:List (List PV))
 |nown (t e:Nat) (ls:List (List PV))
 |ip (c:List PV) (o:Nat)
 |mp (t e i o:Nat)
 |ms (t e i n:Nat)
 |mmap (t:Nat)
 |raw (t e k:Nat)
 |fn (f:FuncId) (first cap:List AV)
 |agg (l:List AV)
 |tup (l:List AV)
 |dyn (T:TypeId) (a:AV)
 |bs (t e i o n:Nat)
def plain:Value→Bool
 | .bool _| .int _ _| .float _ _| .complex _ _ _| .string _| .pointer none| .slice none 0 0| .map none| .chan none| .nilFunc| .nilIface=>true
 | .slice (some _) 0 _=>true
 |_=>false
mutual
def Ca (w:World) (I:Nat→Nat→Prop):PV→Value→Prop
 | .v x,u=>plain x=true∧u=x
 | .sl e ls,u=>(ls=[]∧∃ ad cap,u= .slice ad 0 cap∧(ad=none→cap=0))∨∃ b off cap,u= .slice (some ⟨b,off,none⟩) ls.length cap∧ls.length≤cap∧Br w I b off e ls
def Br (w:World) (I:Nat→Nat→Prop) (b off e:Nat):List (List PV)→Prop
 |[]=>True
 |c::ls=>c.length=e∧Do w I b off c∧Br w I b (off+e) e ls
def Do (w:World) (I:Nat→Nat→Prop) (b off:Nat):List PV→Prop
 |[]=>True
 |a::c=>(∃ u,w.cell? ⟨b,off,none⟩=some u∧I b off∧Ca w I a u)∧Do w I b (off+1) c
end
structure Az where
 w:World
 I:Nat→Nat→Prop
 mu:Nat→Option Nat
 len:Nat→Option Nat
 cap:Nat→Nat
def leaf:AV→Bool
 | .p _| .own .. | .nown .. | .ip .. | .mp .. | .ms .. | .mmap _| .raw .. | .fn .. | .dyn .. | .bs .. =>true
 |_=>false
mutual
def Ag (M:Az):AV→Value→Prop
 | .any,_=>True
 | .p x,u=>Ca M.w M.I x u
 | .own t e ls,u=>∃ b cap n,u= .slice (some ⟨b,0,none⟩) ls.length cap∧ls.length≤cap∧cap≤maxLen∧Br M.w M.I b 0 e ls∧M.len t=some n∧ls.length*e≤n∧(ls.length*e=n→M.mu t=some b∧M.cap t=cap*e)
 | .nown t e ls,u=>∃ n,M.len t=some n∧ls.length*e≤n∧((ls=[]∧u= .slice none 0 0)∨(ls≠[]∧∃ b cap,u= .slice (some ⟨b,0,none⟩) ls.length cap∧ls.length≤cap∧cap≤maxLen∧Br M.w M.I b 0 e ls∧(ls.length*e=n→M.mu t=some b∧M.cap t=cap*e)))
 | .ip c o,u=>∃ b off,u= .pointer (some ⟨b,off+o,none⟩)∧Do M.w M.I b off c
 | .mp t e i o,u=>∃ b,M.mu t=some b∧M.len t=none∧u= .pointer (some ⟨b,i*e+o,none⟩)
 | .ms t e i n,u=>∃ b cap,M.mu t=some b∧M.len t=none∧u= .slice (some ⟨b,i*e,none⟩) n cap∧n≤cap∧i*e+cap*e≤M.cap t
 | .mmap t,u=>∃ b,M.mu t=some b∧M.len t=none∧u= .map (some b)
 | .raw t e k,u=>∃ b cap n,u= .slice (some ⟨b,0,none⟩) k cap∧k≤cap∧cap≤maxLen∧M.len t=some n∧(n=0→M.mu t=some b∧M.cap t=cap*e)
 | .fn f first cap,u=>∃ us vs,u= .func (.func f) us.toArray vs.toArray∧Af M first us∧Af M cap vs
 | .agg l,u=>l.all leaf=true∧∃ us,u= .agg us.toArray∧Af M l us
 | .tup l,u=>∃ us,u= .tuple us.toArray∧Af M l us
 | .dyn T a,u=>∃ v,u= .iface T v∧Ag M a v
 | .bs t e i o n,u=>∃ b cap,M.mu t=some b∧M.len t=none∧u= .slice (some ⟨b,i*e+o,none⟩) n cap∧n≤cap
def Af (M:Az):List AV→List Value→Prop
 |[],us=>us=[]
 |a::l,us=>∃ u us',us=u::us'∧Ag M a u∧Af M l us'
end
structure Later (M M':Az):Prop where
 mu:∀ t b,M.mu t=some b→M.len t=none→M'.mu t=some b∧M'.len t=none∧M'.cap t=M.cap t
 own:∀ t n,M.len t=some n→∃ n',M'.len t=some n'∧n≤n'∧(n'=n→M'.mu t=M.mu t∧M'.cap t=M.cap t)
 imm:∀ b o,M.I b o→M'.I b o
 cell:∀ b o,M.I b o→M'.w.cell? ⟨b,o,none⟩=M.w.cell? ⟨b,o,none⟩
mutual
theorem Ca.later {w w':World} {I I':Nat→Nat→Prop} (hi:∀ b o,I b o→I' b o) (hc:∀ b o,I b o→w'.cell? ⟨b,o,none⟩=w.cell? ⟨b,o,none⟩):
 ∀ (x:PV) (u:Value),Ca w I x u→Ca w' I' x u
 | .v x,u,h=>by simpa [Ca]using h
 | .sl e ls,u,h=>by
   simp only[Ca]at h ⊢
   rcases h with h|⟨b,off,cap,h1,h2,h3⟩
   ·exact .inl h
   ·exact .inr ⟨b,off,cap,h1,h2,Br.later hi hc b e ls off h3⟩
theorem Br.later {w w':World} {I I':Nat→Nat→Prop} (hi:∀ b o,I b o→I' b o) (hc:∀ b o,I b o→w'.cell? ⟨b,o,none⟩=w.cell? ⟨b,o,none⟩) (b e:Nat):
 ∀ (ls:List (List PV)) (off:Nat),Br w I b off e ls→Br w' I' b off e ls
 |[],off,h=>by simp[Br]
 |c::ls,off,h=>by
  simp only[Br]at h ⊢
  exact⟨h.1,Do.later hi hc b c off h.2.1,Br.later hi hc b e ls (off+e) h.2.2⟩
theorem Do.later {w w':World} {I I':Nat→Nat→Prop} (hi:∀ b o,I b o→I' b o) (hc:∀ b o,I b o→w'.cell? ⟨b,o,none⟩=w.cell? ⟨b,o,none⟩) (b:Nat):
 ∀ (c:List PV) (off:Nat),Do w I b off c→Do w' I' b off c
 |[],off,h=>by simp[Do]
 |a::c,off,h=>by
  simp only[Do]at h ⊢
  obtain⟨⟨u,h1,h2,h3⟩,h4⟩:=h
  exact⟨⟨u,by rw[hc b off h2];exact h1,hi b off h2,Ca.later hi hc a u h3⟩,Do.later hi hc b c (off+1) h4⟩
end
mutual
theorem Ag.later {M M':Az} (hL:Later M M'):∀ (a:AV) (u:Value),Ag M a u→Ag M' a u
 | .any,u,h=>by simp[Ag]
 | .p x,u,h=>by
   simp only[Ag]at h ⊢
   exact Ca.later hL.imm hL.cell x u h
 | .own t e ls,u,h=>by
   simp only[Ag]at h ⊢
   obtain⟨b,cap,n,h1,h2,h3,h4,h5,h6,h7⟩:=h
   obtain⟨n',g1,g2,g3⟩:=hL.own t n h5
   refine⟨b,cap,n',h1,h2,h3,Br.later hL.imm hL.cell b e ls 0 h4,g1,by omega,fun he=> ?_⟩
   have:n'=n:=by omega
   rw[(g3 this).1,(g3 this).2];exact h7 (by omega)
 | .nown t e ls,u,h=>by
   simp only[Ag]at h ⊢
   obtain⟨n,h5,h6,h⟩:=h
   obtain⟨n',g1,g2,g3⟩:=hL.own t n h5
   refine⟨n',g1,by omega,h.imp id fun ⟨h0,b,cap,h1,h2,h3,h4,h7⟩=>⟨h0,b,cap,h1,h2,h3,Br.later hL.imm hL.cell b e ls 0 h4,fun he=> ?_⟩⟩
   have:n'=n:=by omega
   rw[(g3 this).1,(g3 this).2];exact h7 (by omega)
 | .ip c o,u,h=>by
   simp only[Ag]at h ⊢
   obtain⟨b,off,h1,h2⟩:=h
   exact⟨b,off,h1,Do.later hL.imm hL.cell b c off h2⟩
 | .mp t e i o,u,h=>by
   simp only[Ag]at h ⊢
   obtain⟨b,h1,h0,h2⟩:=h
   exact⟨b,(hL.mu t b h1 h0).1,(hL.mu t b h1 h0).2.1,h2⟩
 | .ms t e i n,u,h=>by
   simp only[Ag]at h ⊢
   obtain⟨b,cap,h1,h0,h2⟩:=h
   exact⟨b,cap,(hL.mu t b h1 h0).1,(hL.mu t b h1 h0).2.1,h2.1,h2.2.1,by rw[(hL.mu t b h1 h0).2.2];exact h2.2.2⟩
 | .mmap t,u,h=>by
   simp only[Ag]at h ⊢
   obtain⟨b,h1,h0,h2⟩:=h
   exact⟨b,(hL.mu t b h1 h0).1,(hL.mu t b h1 h0).2.1,h2⟩
 | .raw t e k,u,h=>by
   simp only[Ag]at h ⊢
   obtain⟨b,cap,n,h1,h2,h3,h5,h7⟩:=h
   obtain⟨n',g1,g2,g3⟩:=hL.own t n h5
   refine⟨b,cap,n',h1,h2,h3,g1,fun he=> ?_⟩
   have:n'=n:=by omega
   rw[(g3 this).1,(g3 this).2];exact h7 (by omega)
 | .fn f first cap,u,h=>by
   simp only[Ag]at h ⊢
   obtain⟨us,vs,h1,h2,h3⟩:=h
   exact⟨us,vs,h1,Af.later hL first us h2,Af.later hL cap vs h3⟩
 | .agg l,u,h=>by
   simp only[Ag]at h ⊢
   obtain⟨h0,us,h1,h2⟩:=h
   exact⟨h0,us,h1,Af.later hL l us h2⟩
 | .tup l,u,h=>by
   simp only[Ag]at h ⊢
   obtain⟨us,h1,h2⟩:=h
   exact⟨us,h1,Af.later hL l us h2⟩
 | .dyn T a,u,h=>by
   simp only[Ag]at h ⊢
   obtain⟨v,h1,h2⟩:=h
   exact⟨v,h1,Ag.later hL a v h2⟩
 | .bs t e i o n,u,h=>by
   simp only[Ag]at h ⊢
   obtain⟨b,cap,h1,h0,h2⟩:=h
   exact⟨b,cap,(hL.mu t b h1 h0).1,(hL.mu t b h1 h0).2.1,h2⟩
theorem Af.later {M M':Az} (hL:Later M M'):∀ (l:List AV) (us:List Value),Af M l us→Af M' l us
 |[],us,h=>by simpa [Af]using h
 |a::l,us,h=>by
  simp only[Af]at h ⊢
  obtain⟨u,us',h1,h2,h3⟩:=h
  exact⟨u,us',h1,Ag.later hL a u h2,Af.later hL l us' h3⟩
end
theorem Af.len {M:Az}:∀ {l:List AV} {us:List Value},Af M l us→us.length=l.length
 |[],us,h=>by simp only[Af]at h;simp[h]
 |a::l,us,h=>by
  simp only[Af]at h
  obtain⟨u,us',h1,h2,h3⟩:=h
  simp[h1,Af.len h3]
theorem Bc {M:Az}:∀ {l:List AV} {us:List Value},Af M l us↔us.length=l.length∧∀ (i:Nat) (a:AV) (u:Value),l[i]? =some a→us[i]? =some u→Ag M a u
 |[],us=>by simp[Af]
 |a::l,us=>by
  simp only[Af]
  constructor
  ·rintro⟨u,us',rfl,h2,h3⟩
   obtain⟨h4,h5⟩:=Bc.1 h3
   refine⟨by simp[h4],fun i b v hb hv=> ?_⟩
   cases i with
   |zero=>simp at hb hv;subst hb hv;exact h2
   |succ i=>simp at hb hv;exact h5 i b v hb hv
  ·rintro⟨h1,h2⟩
   cases us with
   |nil=>simp at h1
   |cons u us'=>exact⟨u,us',rfl,h2 0 a u rfl rfl,Bc.2 ⟨by simpa using h1,fun i b v hb hv=>h2 (i+1) b v (by simpa using hb) (by simpa using hv)⟩⟩
theorem Af.get {M:Az}{l:List AV}{us:List Value}(h:Af M l us){i:Nat}{a:AV}(ha:l[i]? =some a):∃ u,us[i]? =some u∧Ag M a u:=by
 obtain⟨h1,h2⟩:=Bc.1 h
 have hi:=(QC.1 ha).1
 obtain⟨u,hu⟩:∃ u,us[i]? =some u:=⟨us[i]'(by omega),QN _⟩
 exact⟨u,hu,h2 i a u ha hu⟩
theorem Af.append {M:Az}:∀ {l l':List AV} {us us':List Value},Af M l us→Af M l' us'→Af M (l++l') (us++us')
 |[],l',us,us',h,h'=>by simp only[Af]at h;subst h;simpa using h'
 |a::l,l',us,us',h,h'=>by
  simp only[Af]at h
  obtain⟨u,us1,rfl,h2,h3⟩:=h
  simp only[ZN,Af]
  exact⟨u,_,rfl,h2,Af.append h3 h'⟩
theorem Af.set {M:Az}{l:List AV}{us:List Value}(h:Af M l us){a:AV}{u:Value}(hu:Ag M a u)(i:Nat):Af M (l.set i a) (us.set i u):=by
 obtain⟨h1,h2⟩:=Bc.1 h
 refine Bc.2 ⟨by simp[h1],fun j b v hb hv=> ?_⟩
 rw[QW]at hb hv
 by_cases e:i=j
 ·subst e
  rw[if_pos rfl]at hb hv
  by_cases hi:i<l.length
  ·rw[if_pos hi]at hb;rw[if_pos (by omega)]at hv
   simp only[QB]at hb hv
   subst hb hv
   exact hu
  ·rw[if_neg hi]at hb;simp at hb
 ·rw[if_neg e]at hb hv
  exact h2 j b v hb hv
theorem Af.take {M:Az}{l:List AV}{us:List Value}(h:Af M l us)(n:Nat):Af M (l.take n) (us.take n):=by
 obtain⟨h1,h2⟩:=Bc.1 h
 refine Bc.2 ⟨by simp[h1],fun j b v hb hv=> ?_⟩
 rw[QT]at hb hv
 by_cases e:j<n
 ·rw[if_pos e]at hb hv;exact h2 j b v hb hv
 ·rw[if_neg e]at hb;simp at hb
theorem Af.drop {M:Az}{l:List AV}{us:List Value}(h:Af M l us)(n:Nat):Af M (l.drop n) (us.drop n):=by
 obtain⟨h1,h2⟩:=Bc.1 h
 refine Bc.2 ⟨by simp[h1],fun j b v hb hv=> ?_⟩
 rw[ZK]at hb hv
 exact h2 _ b v hb hv
theorem Br.get {w:World}{I:Nat→Nat→Prop}{b e:Nat}:∀ {ls:List (List PV)} {off:Nat},Br w I b off e ls→∀ {i:Nat} {c:List PV},ls[i]? =some c→c.length=e∧Do w I b (off+i*e) c
 |[],off,h,i,c,hc=>by simp at hc
 |d::ls,off,h,i,c,hc=>by
  simp only[Br]at h
  cases i with
  |zero=>simp at hc;subst hc;simpa using⟨h.1,h.2.1⟩
  |succ i=>
   simp at hc
   have:=Br.get h.2.2 hc
   rw[show off+(i+1)*e=off+e+i*e by rw[XS];omega]
   exact this
theorem Br.of_get {w:World}{I:Nat→Nat→Prop}{b e:Nat}:∀ {ls:List (List PV)} {off:Nat},(∀ (i:Nat) (c:List PV),ls[i]? =some c→c.length=e∧Do w I b (off+i*e) c)→Br w I b off e ls
 |[],off,h=>by simp[Br]
 |d::ls,off,h=>by
  simp only[Br]
  have h0:=h 0 d rfl
  simp only[WB,XD]at h0
  refine⟨h0.1,h0.2,Br.of_get fun i c hc=> ?_⟩
  have:=h (i+1) c (by simpa using hc)
  rw[show off+e+i*e=off+(i+1)*e by rw[XS];omega]
  exact this
theorem Do.get {w:World}{I:Nat→Nat→Prop}{b:Nat}:∀ {c:List PV} {off:Nat},Do w I b off c→∀ {j:Nat} {a:PV},c[j]? =some a→∃ u,w.cell? ⟨b,off+j,none⟩=some u∧I b (off+j)∧Ca w I a u
 |[],off,h,j,a,ha=>by simp at ha
 |d::c,off,h,j,a,ha=>by
  simp only[Do]at h
  cases j with
  |zero=>simp at ha;subst ha;simpa using h.1
  |succ j=>
   simp at ha
   have:=Do.get h.2 ha
   rw[show off+(j+1)=off+1+j by omega]
   exact this
theorem Do.of_get {w:World}{I:Nat→Nat→Prop}{b:Nat}:∀ {c:List PV} {off:Nat},(∀ (j:Nat) (a:PV),c[j]? =some a→∃ u,w.cell? ⟨b,off+j,none⟩=some u∧I b (off+j)∧Ca w I a u)→Do w I b off c
 |[],off,h=>by simp[Do]
 |d::c,off,h=>by
  simp only[Do]
  have h0:=h 0 d rfl
  simp only[XD]at h0
  refine⟨h0,Do.of_get fun j a ha=> ?_⟩
  have:=h (j+1) a (by simpa using ha)
  rw[show off+1+j=off+(j+1) by omega]
  exact this
theorem Afj {x:Value}(h:plain x=true):x.oneCell'=true:=by
 cases x<;>simp_all [plain,Value.oneCell']
theorem Ca.one {w:World}{I:Nat→Nat→Prop}:∀ {x:PV} {u:Value},Ca w I x u→u.oneCell'=true
 | .v x,u,h=>by simp only[Ca]at h;obtain⟨h1,rfl⟩:=h;exact Afj h1
 | .sl e ls,u,h=>by simp only[Ca]at h;obtain⟨_,ad,cap,rfl,_⟩|⟨b,off,cap,rfl,_⟩:=h<;>rfl
theorem Ag.one {M:Az}{a:AV}{u:Value}(hl:leaf a=true)(h:Ag M a u):u.oneCell'=true:=by
 cases a<;>simp only[leaf,XB]at hl<;>simp only[Ag]at h
 ·exact Ca.one h
 ·obtain⟨b,cap,n,rfl,_⟩:=h;rfl
 ·obtain⟨n,_,_,⟨_,rfl⟩|⟨_,b,cap,rfl,_⟩⟩:=h<;>rfl
 ·obtain⟨b,off,rfl,_⟩:=h;rfl
 ·obtain⟨b,_,_,rfl⟩:=h;rfl
 ·obtain⟨b,cap,_,_,rfl,_⟩:=h;rfl
 ·obtain⟨b,_,_,rfl⟩:=h;rfl
 ·obtain⟨b,cap,n,rfl,_⟩:=h;rfl
 ·obtain⟨us,vs,rfl,_⟩:=h;rfl
 ·obtain⟨v,rfl,_⟩:=h;rfl
 ·obtain⟨b,cap,_,_,rfl,_⟩:=h;rfl
def Y3:List (Nat×(Array Value→Prop)):=[]
 ++[(0,fun cs=>∃ m,cs= #[.int .i64 m])]
inductive Ob where
 |row (e:Nat) (ls:List (List AV))
 |right (E:TypeId) (n:Nat)
 |nright (E:TypeId) (n:Nat)
 |map (es:List (Value×AV))
abbrev St:=List (Option Ob)
def St.at (σ:St)(t:Nat)(ob:Ob):Prop:=σ[t]? =some (some ob)
def St.put (σ:St)(t:Nat)(ob:Ob):St:=if t<σ.length then σ.set t (some ob)else σ++[some ob]
def Cr (M:Az)(cur:Array Value)(e:Nat)(ls:List (List AV)):Prop:=
 ∀ (i:Nat) (c:List AV),ls[i]? =some c→c.length=e∧∀ (j:Nat) (a:AV),c[j]? =some a→leaf a=true∧∃ u,cur[i*e+j]? =some u∧Ag M a u
def Fw (M:Az)(cur:Array MapEntry)(es:List (Value×AV)):Prop:=cur.size=es.length∧∀ (i:Nat) (q:Value×AV),es[i]? =some q→∃ e,cur[i]? =some e∧e.key=q.1∧Ag M q.2 e.val
def G8 (M:Az)(t b:Nat)(E:TypeId)(n:Nat):Prop:=∃ cur,M.mu t=some b∧M.w.heap[b]? =some (.cells cur E (0,0))∧cur.size=M.cap t∧(∀ o,M.I b o↔o<n)
def Lu (M:Az)(t:Nat):Ob→Prop
 | .row e ls=>M.len t=none∧∃ b cur T,M.mu t=some b∧M.w.heap[b]? =some (.cells cur T (0,0))∧(∀ o,¬ M.I b o)∧Cr M cur e ls∧cur.size=M.cap t
 | .right E n=>M.len t=some n∧∃ b,G8 M t b E n
 | .map es=>M.len t=none∧∃ b cur clock,M.mu t=some b∧M.w.heap[b]? =some (.map cur clock)∧(∀ o,¬ M.I b o)∧Fw M cur es
 | .nright E n=>M.len t=some n∧((n=0∧M.mu t=none)∨(0<n∧∃ b,G8 M t b E n))
def Glob (M:Az)(σ:St):Prop:=∀ x∈Y3,∃ cs T,M.w.heap[x.1]? =some (.cells cs T (0,0))∧x.2 cs∧∀ t ob,σ.at t ob→M.mu t≠some x.1
structure Al (M:Az)(σ:St):Prop where
 obj:∀ t ob,σ.at t ob→Lu M t ob
 inj:∀ t t' ob ob' b,σ.at t ob→σ.at t' ob'→M.mu t=some b→M.mu t'=some b→t=t'
 fresh:∀ t,σ.length≤t→M.mu t=none∧M.len t=none
 lt:∀ t b,M.mu t=some b→b<M.w.heap.size
 imm:∀ b o,M.I b o→b<M.w.heap.size
 glob:Glob M σ
structure Ext (M:Az)(σ:St)(M':Az)(σ':St):Prop where
 mu:∀ t b,M.mu t=some b→M.len t=none→M'.mu t=some b∧M'.len t=none∧M'.cap t=M.cap t
 own:∀ t n,M.len t=some n→∃ n',M'.len t=some n'∧n≤n'∧(n'=n→M'.mu t=M.mu t∧M'.cap t=M.cap t)
 imm:∀ b o,M.I b o→M'.I b o
 cell:∀ b o,M.I b o→M'.w.cell? ⟨b,o,none⟩=M.w.cell? ⟨b,o,none⟩
 keep:∀ b,b<M.w.heap.size→(∀ t ob,σ.at t ob→M.mu t≠some b)→M'.w.heap[b]? =M.w.heap[b]? ∧∀ o,M'.I b o→M.I b o
 new:∀ t ob b,σ'.at t ob→M'.mu t=some b→M.w.heap.size≤b∨∃ t0 ob0,σ.at t0 ob0∧M.mu t0=some b
 size:M.w.heap.size≤M'.w.heap.size
 os:M'.w.os=M.w.os
 tape:M'.w.tape=M.w.tape
 output:M'.w.output=M.w.output
theorem Glob.ext {M M':Az}{σ σ':St}(h:Glob M σ)(hE:Ext M σ M' σ'):Glob M' σ':=fun x hx=>by
 obtain⟨cs,T,h1,h2,h3⟩:=h x hx
 have hlt:x.1<M.w.heap.size:=(QU.1 h1).1
 refine⟨cs,T,(hE.keep _ hlt h3).1.trans h1,h2,fun t ob ht hb=> ?_⟩
 rcases hE.new t ob _ ht hb with h|⟨t0,ob0,g1,g2⟩
 ·omega
 ·exact h3 _ _ g1 g2
theorem Ext.later {M M':Az}{σ σ':St}(h:Ext M σ M' σ'):Later M M':=⟨h.mu,h.own,h.imm,h.cell⟩
theorem C5 {M M':Az}(hm:∀ t,M'.mu t=M.mu t)(hl:∀ t,M'.len t=M.len t)(hc:∀ t,M'.cap t=M.cap t):∀ t n,M.len t=some n→∃ n',M'.len t=some n'∧n≤n'∧(n'=n→M'.mu t=M.mu t∧M'.cap t=M.cap t):=
 fun t n h=>⟨n,(hl t).trans h,QH _,fun _=>⟨hm t,hc t⟩⟩
theorem Ext.refl (M:Az)(σ:St):Ext M σ M σ:=
 ⟨fun _ _ h h'=>⟨h,h',rfl⟩,C5 (fun _=>rfl) (fun _=>rfl) (fun _=>rfl),fun _ _ h=>h,fun _ _ _=>rfl,fun _ _ _=>⟨rfl,fun _ h=>h⟩,fun t ob b h1 h2=>.inr ⟨t,ob,h1,h2⟩,QH _,rfl,rfl,rfl⟩
theorem Ext.trans {M M' M'':Az}{σ σ' σ'':St}(h:Ext M σ M' σ')(k:Ext M' σ' M'' σ''):Ext M σ M'' σ'' where
 mu:=fun t b e e'=>⟨(k.mu t b (h.mu t b e e').1 (h.mu t b e e').2.1).1,(k.mu t b (h.mu t b e e').1 (h.mu t b e e').2.1).2.1,(k.mu t b (h.mu t b e e').1 (h.mu t b e e').2.1).2.2.trans (h.mu t b e e').2.2⟩
 own:=fun t n e=>by
  obtain⟨n',h1,h2,h3⟩:=h.own t n e
  obtain⟨n'',k1,k2,k3⟩:=k.own t n' h1
  refine⟨n'',k1,by omega,fun he=> ?_⟩
  have e1:n'=n:=by omega
  have e2:n''=n':=by omega
  exact⟨(k3 e2).1.trans (h3 e1).1,(k3 e2).2.trans (h3 e1).2⟩
 imm:=fun b o e=>k.imm b o (h.imm b o e)
 cell:=fun b o e=>(k.cell b o (h.imm b o e)).trans (h.cell b o e)
 keep:=fun b hb hn=>by
  obtain⟨h1,h2⟩:=h.keep b hb hn
  obtain⟨k1,k2⟩:=k.keep b (ZE hb h.size) (fun t ob ht e=>by
   rcases h.new t ob b ht e with h3|⟨t0,ob0,h3,h4⟩
   ·omega
   ·exact hn t0 ob0 h3 h4)
  exact⟨k1.trans h1,fun o ho=>h2 o (k2 o ho)⟩
 new:=fun t ob b ht e=>by
  rcases k.new t ob b ht e with h3|⟨t0,ob0,h3,h4⟩
  ·exact .inl (ZO h.size h3)
  ·exact h.new t0 ob0 b h3 h4
 size:=ZO h.size k.size
 os:=k.os.trans h.os
 tape:=k.tape.trans h.tape
 output:=k.output.trans h.output
theorem Ext.below {M M':Az}{σ σ':St}(h:Ext M σ M' σ')(hn:∀ t ob,¬ σ.at t ob):Below M.w.heap.size M.w M'.w:=
 ⟨h.os,h.tape,h.output,h.size,fun b hb=>(h.keep b hb (fun t ob ht=>(hn t ob ht).elim)).1⟩
theorem Cr.later {M M':Az}{cur:Array Value}{e:Nat}{ls:List (List AV)}(h:Cr M cur e ls)(hL:Later M M'):Cr M' cur e ls:=fun i c hc=>
 ⟨(h i c hc).1,fun j a ha=>⟨((h i c hc).2 j a ha).1,by
   obtain⟨u,h1,h2⟩:=((h i c hc).2 j a ha).2
   exact⟨u,h1,Ag.later hL a u h2⟩⟩⟩
theorem Fw.later {M M':Az}{cur:Array MapEntry}{es:List (Value×AV)}(h:Fw M cur es)(hL:Later M M'):Fw M' cur es:=⟨h.1,fun i q hq=>by
 obtain⟨e,h1,h2,h3⟩:=h.2 i q hq
 exact⟨e,h1,h2,Ag.later hL _ _ h3⟩⟩
theorem Lu.later {M M':Az}{t:Nat}{ob:Ob}(h:Lu M t ob)(hL:Later M M')(hm:M'.mu t=M.mu t)(hl:M'.len t=M.len t)(hc:M'.cap t=M.cap t)(hb:∀ b,M.mu t=some b→M'.w.heap[b]? =M.w.heap[b]? ∧∀ o,M'.I b o→M.I b o):Lu M' t ob:=by
 have key:∀ b E n,G8 M t b E n→G8 M' t b E n:=fun b E n ⟨cur,h0,h1,h2,h3⟩=>
  ⟨cur,by rw[hm];exact h0,(hb b h0).1.trans h1,by rw[hc];exact h2,fun o=>⟨fun ho=>(h3 o).1 ((hb b h0).2 o ho),fun ho=>hL.imm _ _ ((h3 o).2 ho)⟩⟩
 cases ob with
 |row e ls=>
  obtain⟨h0,b,cur,T,h1,h2,h3,h4,h5⟩:=h
  exact⟨hl.trans h0,b,cur,T,hm.trans h1,(hb b h1).1.trans h2,fun o ho=>h3 o ((hb b h1).2 o ho),h4.later hL,h5.trans hc.symm⟩
 |right E n=>
  obtain⟨h0,b,h1⟩:=h
  exact⟨hl.trans h0,b,key b E n h1⟩
 |map es=>
  obtain⟨h0,b,cur,T,h1,h2,h3,h4⟩:=h
  exact⟨hl.trans h0,b,cur,T,hm.trans h1,(hb b h1).1.trans h2,fun o ho=>h3 o ((hb b h1).2 o ho),h4.later hL⟩
 |nright E n=>
  obtain⟨h0,h⟩:=h
  exact⟨hl.trans h0,h.imp (fun ⟨h1,h2⟩=>⟨h1,hm.trans h2⟩) fun ⟨h1,b,h2⟩=>⟨h1,b,key b E n h2⟩⟩
def Az.drew (M:Az):Az:={ M with w:=M.w.drew }
theorem Ext.drew (M:Az)(σ:St):Ext M σ M.drew σ:=
 ⟨fun _ _ h h'=>⟨h,h',rfl⟩,C5 (fun _=>rfl) (fun _=>rfl) (fun _=>rfl),fun _ _ h=>h,fun _ _ _=>rfl,fun _ _ _=>⟨rfl,fun _ h=>h⟩,fun t ob b h1 h2=>.inr ⟨t,ob,h1,h2⟩,QH _,rfl,rfl,rfl⟩
theorem Later.drew (M:Az):Later M M.drew:=(Ext.drew M []).later
theorem Al.drew {M:Az}{σ:St}(h:Al M σ):Al M.drew σ:=
 ⟨fun t ob ht=>(h.obj t ob ht).later (Later.drew M) rfl rfl rfl fun _ _=>⟨rfl,fun _ h=>h⟩,h.inj,h.fresh,h.lt,h.imm,h.glob⟩
theorem St.at_put {σ:St}{t t':Nat}{ob ob':Ob}(ht:t≤σ.length)(h:(σ.put t ob).at t' ob'):(t'=t∧ob'=ob)∨(t'≠t∧σ.at t' ob'):=by
 unfold St.put St.at at*
 split at h
 ·rw[QW]at h
  split at h
  ·rename_i e;subst e
   simp_all
  ·exact .inr ⟨fun e=>by simp_all,h⟩
 ·have hte:t=σ.length:=by omega
  rw[YR]at h
  split at h
  ·exact .inr ⟨by omega,h⟩
  ·rename_i hn
   rcases YW (t' - σ.length) 1 with h1|h1
   ·have h2:t' - σ.length=0:=by omega
    rw[h2]at h
    simp at h
    exact .inl ⟨by omega,h.symm⟩
   ·rw[ZG (by simpa using h1)]at h
    simp at h
theorem St.put_len {σ:St}{t:Nat}{ob:Ob}(ht:t≤σ.length):σ.length≤(σ.put t ob).length∧t<(σ.put t ob).length:=by
 unfold St.put
 split
 ·simp;assumption
 ·simp;omega
theorem Al.row {M:Az}{σ:St}(h:Al M σ){t:Nat}(ht:t=σ.length)(us:List Value)(T:TypeId)(e:Nat)(ls:List (List AV))(hr:Cr M us.toArray e ls):
 ∃ M',M'.w=M.w.alloc (.cells us.toArray T)∧M'.mu t=some M.w.heap.size∧M'.len t=none∧M'.cap t=us.length∧Ext M σ M' (σ.put t (.row e ls))∧Al M' (σ.put t (.row e ls)):=by
 obtain⟨hm,hl⟩:=h.fresh t (by omega)
 let M':Az:={ w:=M.w.alloc (.cells us.toArray T),I:=M.I,mu:=fun s=>if s=t then some M.w.heap.size else M.mu s,len:=M.len,cap:=fun s=>if s=t then us.length else M.cap s }
 have hcell:∀ b o,M.I b o→M'.w.cell? ⟨b,o,none⟩=M.w.cell? ⟨b,o,none⟩:=fun b o ho=>
  World.cell?_of_block (Below.heap_alloc _ _ _ (h.imm b o ho))
 have hmt:M'.mu t=some M.w.heap.size:=by simp[M']
 have hms:∀ s,s≠t→M'.mu s=M.mu s:=fun s hs=>by simp[M',hs]
 have hct:M'.cap t=us.length:=by simp[M']
 have hcs:∀ s,s≠t→M'.cap s=M.cap s:=fun s hs=>by simp[M',hs]
 have hL:Later M M':=⟨fun s c hs h0=>⟨by rw[hms s (fun e=>by subst e;rw[hm]at hs;simp at hs)];exact hs,h0,hcs s (fun e=>by subst e;rw[hm]at hs;simp at hs)⟩,fun s n hs=>⟨n,hs,QH _,fun _=>⟨hms s (fun e=>by subst e;rw[hl]at hs;simp at hs),hcs s (fun e=>by subst e;rw[hl]at hs;simp at hs)⟩⟩,fun _ _ h=>h,hcell⟩
 have hsz:M'.w.heap.size=M.w.heap.size+1:=by simp[M']
 have hne:∀ s c,M.mu s=some c→c≠M.w.heap.size:=fun s c hs=>by have:=h.lt s c hs;omega
 have hat:∀ s ob,(σ.put t (.row e ls)).at s ob→(s=t∧ob= .row e ls)∨(s≠t∧σ.at s ob):=fun s ob hs=>St.at_put (by omega) hs
 have hE:Ext M σ M' (σ.put t (.row e ls)):=by
  refine⟨hL.mu,hL.own,hL.imm,hcell,fun b hb _=>⟨Below.heap_alloc _ _ _ hb,fun _ h=>h⟩,fun s ob b hs hb=> ?_,by omega,rfl,rfl,rfl⟩
  rcases hat s ob hs with⟨rfl,rfl⟩|⟨h1,h2⟩
  ·rw[hmt]at hb;simp at hb;left;omega
  ·rw[hms s h1]at hb;exact .inr ⟨s,ob,h2,hb⟩
 refine⟨M',rfl,hmt,hl,hct,hE,?_⟩
 ·refine⟨fun s ob hs=> ?_,fun s s' ob ob' b hs hs' hb hb'=> ?_,fun s hs=> ?_,fun s c hs=> ?_,fun b o ho=>by have:=h.imm b o ho;omega,h.glob.ext hE⟩
  ·rcases hat s ob hs with⟨rfl,rfl⟩|⟨h1,h2⟩
   ·refine⟨hl,_,us.toArray,T,hmt,heap_alloc_new _ _,fun o ho=> ?_,hr.later hL,by rw[hct];simp⟩
    have:=h.imm _ o ho;omega
   ·exact (h.obj s ob h2).later hL (hms s h1) rfl (hcs s h1) fun b hb=>⟨Below.heap_alloc _ _ _ (h.lt s b hb),fun _ h=>h⟩
  ·rcases hat s ob hs with⟨rfl,rfl⟩|⟨h1,h2⟩<;>rcases hat s' ob' hs' with⟨rfl,rfl⟩|⟨h3,h4⟩
   ·rfl
   ·rw[hmt]at hb;rw[hms s' h3]at hb';simp at hb;exact (hne s' b hb' hb.symm).elim
   ·rw[hmt]at hb';rw[hms s h1]at hb;simp at hb';exact (hne s b hb hb'.symm).elim
   ·rw[hms s h1]at hb;rw[hms s' h3]at hb';exact h.inj s s' ob ob' b h2 h4 hb hb'
  ·have h1:=St.put_len (σ:=σ) (t:=t) (ob:=.row e ls) (by omega)
   rw[hms s (by omega)];exact h.fresh s (by omega)
  ·by_cases he:s=t
   ·subst he;rw[hmt]at hs;simp at hs;omega
   ·rw[hms s he]at hs;have:=h.lt s c hs;omega
theorem Al.mapNew {M:Az}{σ:St}(h:Al M σ){t:Nat}(ht:t=σ.length):
 ∃ M',M'.w=M.w.alloc (.map #[] 0)∧M'.mu t=some M.w.heap.size∧M'.len t=none∧Ext M σ M' (σ.put t (.map []))∧Al M' (σ.put t (.map [])):=by
 obtain⟨hm,hl⟩:=h.fresh t (by omega)
 let M':Az:={ w:=M.w.alloc (.map #[] 0),I:=M.I,mu:=fun s=>if s=t then some M.w.heap.size else M.mu s,len:=M.len,cap:=M.cap }
 have hcell:∀ b o,M.I b o→M'.w.cell? ⟨b,o,none⟩=M.w.cell? ⟨b,o,none⟩:=fun b o ho=>
  World.cell?_of_block (Below.heap_alloc _ _ _ (h.imm b o ho))
 have hmt:M'.mu t=some M.w.heap.size:=by simp[M']
 have hms:∀ s,s≠t→M'.mu s=M.mu s:=fun s hs=>by simp[M',hs]
 have hL:Later M M':=⟨fun s c hs h0=>⟨by rw[hms s (fun e=>by subst e;rw[hm]at hs;simp at hs)];exact hs,h0,rfl⟩,fun s n hs=>⟨n,hs,QH _,fun _=>⟨hms s (fun e=>by subst e;rw[hl]at hs;simp at hs),rfl⟩⟩,fun _ _ h=>h,hcell⟩
 have hsz:M'.w.heap.size=M.w.heap.size+1:=by simp[M']
 have hne:∀ s c,M.mu s=some c→c≠M.w.heap.size:=fun s c hs=>by have:=h.lt s c hs;omega
 have hat:∀ s ob,(σ.put t (.map [])).at s ob→(s=t∧ob= .map [])∨(s≠t∧σ.at s ob):=fun s ob hs=>St.at_put (by omega) hs
 have hE:Ext M σ M' (σ.put t (.map [])):=by
  refine⟨hL.mu,hL.own,hL.imm,hcell,fun b hb _=>⟨Below.heap_alloc _ _ _ hb,fun _ h=>h⟩,fun s ob b hs hb=> ?_,by omega,rfl,rfl,rfl⟩
  rcases hat s ob hs with⟨rfl,rfl⟩|⟨h1,h2⟩
  ·rw[hmt]at hb;simp at hb;left;omega
  ·rw[hms s h1]at hb;exact .inr ⟨s,ob,h2,hb⟩
 refine⟨M',rfl,hmt,hl,hE,?_⟩
 ·refine⟨fun s ob hs=> ?_,fun s s' ob ob' b hs hs' hb hb'=> ?_,fun s hs=> ?_,fun s c hs=> ?_,fun b o ho=>by have:=h.imm b o ho;omega,h.glob.ext hE⟩
  ·rcases hat s ob hs with⟨rfl,rfl⟩|⟨h1,h2⟩
   ·refine⟨hl,_,#[],0,hmt,heap_alloc_new _ _,fun o ho=> ?_,rfl,fun i q hq=>by simp at hq⟩
    have:=h.imm _ o ho;omega
   ·exact (h.obj s ob h2).later hL (hms s h1) rfl rfl fun b hb=>⟨Below.heap_alloc _ _ _ (h.lt s b hb),fun _ h=>h⟩
  ·rcases hat s ob hs with⟨rfl,rfl⟩|⟨h1,h2⟩<;>rcases hat s' ob' hs' with⟨rfl,rfl⟩|⟨h3,h4⟩
   ·rfl
   ·rw[hmt]at hb;rw[hms s' h3]at hb';simp at hb;exact (hne s' b hb' hb.symm).elim
   ·rw[hmt]at hb';rw[hms s h1]at hb;simp at hb';exact (hne s b hb hb'.symm).elim
   ·rw[hms s h1]at hb;rw[hms s' h3]at hb';exact h.inj s s' ob ob' b h2 h4 hb hb'
  ·have h1:=St.put_len (σ:=σ) (t:=t) (ob:=.map []) (by omega)
   rw[hms s (by omega)];exact h.fresh s (by omega)
  ·by_cases he:s=t
   ·subst he;rw[hmt]at hs;simp at hs;omega
   ·rw[hms s he]at hs;have:=h.lt s c hs;omega
theorem Al.mapSet {M:Az}{σ:St}(h:Al M σ){t b:Nat}{es es':List (Value×AV)}{w':World}{cur':Array MapEntry}{clock':Nat}(ht:σ.at t (.map es))(hb:M.mu t=some b)
 (hh:w'.heap[b]? =some (.map cur' clock')) (hoth:∀ k,k≠b→w'.heap[k]? =M.w.heap[k]?) (hsz:w'.heap.size=M.w.heap.size) (hos:w'.os=M.w.os) (hta:w'.tape=M.w.tape) (hou:w'.output=M.w.output) (hr:Fw M cur' es'):
 ∃ M',M'.w=w'∧Ext M σ M' (σ.set t (some (.map es')))∧Al M' (σ.set t (some (.map es'))):=by
 obtain⟨hl,b',cur,clock,hb',hh0,hI,_⟩:=h.obj t _ ht
 have:b'=b:=by rw[hb]at hb';simpa using hb'.symm
 subst this
 let M':Az:={ M with w:=w' }
 have hcell:∀ k q,M.I k q→M'.w.cell? ⟨k,q,none⟩=M.w.cell? ⟨k,q,none⟩:=fun k q hk=>
  World.cell?_of_block (hoth k fun e=>hI q (e▸hk))
 have hL:Later M M':=⟨fun s c hs h0=>⟨hs,h0,rfl⟩,fun s n hs=>⟨n,hs,QH _,fun _=>⟨rfl,rfl⟩⟩,fun _ _ h=>h,hcell⟩
 have hat:∀ s ob,St.at (σ.set t (some (.map es'))) s ob→(s=t∧ob= .map es')∨(s≠t∧σ.at s ob):=fun s ob hs=>by
  unfold St.at at*
  rw[QW]at hs
  split at hs
  ·rename_i e;subst e
   split at hs
   ·simp at hs;exact .inl ⟨rfl,hs.symm⟩
   ·simp at hs
  ·rename_i e;exact .inr ⟨fun x=>e x.symm,hs⟩
 have hE:Ext M σ M' (σ.set t (some (.map es'))):=by
  refine⟨hL.mu,hL.own,hL.imm,hcell,fun k hk hno=>⟨hoth k fun e=>hno t _ ht (e▸hb),fun _ h=>h⟩,fun s ob k hs hk=> ?_,by simp[M',hsz],hos,hta,hou⟩
  rcases hat s ob hs with⟨rfl,rfl⟩|⟨h1,h2⟩
  ·exact .inr ⟨_,_,ht,hk⟩
  ·exact .inr ⟨s,ob,h2,hk⟩
 refine⟨M',rfl,hE,?_⟩
 ·refine⟨fun s ob hs=> ?_,fun s s' ob ob' k hs hs' hk hk'=> ?_,fun s hs=> ?_,fun s c hs=> ?_,fun k q hq=> ?_,h.glob.ext hE⟩
  ·rcases hat s ob hs with⟨rfl,rfl⟩|⟨h1,h2⟩
   ·exact⟨hl,_,cur',clock',hb,hh,hI,hr.later hL⟩
   ·exact (h.obj s ob h2).later hL rfl rfl rfl fun k hk=>⟨hoth k fun e=>h1 (h.inj s t _ _ k h2 ht hk (e▸hb)),fun _ h=>h⟩
  ·rcases hat s ob hs with⟨rfl,rfl⟩|⟨h1,h2⟩<;>rcases hat s' ob' hs' with⟨rfl,rfl⟩|⟨h3,h4⟩
   ·rfl
   ·exact h.inj _ s' _ _ k ht h4 hk hk'
   ·exact h.inj s _ _ _ k h2 ht hk hk'
   ·exact h.inj s s' _ _ k h2 h4 hk hk'
  ·exact h.fresh s (by simpa using hs)
  ·show c<w'.heap.size
   rw[hsz];exact h.lt s c hs
  ·show k<w'.heap.size
   rw[hsz];exact h.imm k q hq
theorem Al.right {M:Az}{σ:St}(h:Al M σ){t:Nat}(cur:Array Value)(E:TypeId)(n:Nat)(ob:Ob)(hob:ob= .right E n∨(ob= .nright E n∧0<n))(σ':St)
 (hold:(t=σ.length∧σ'=σ.put t ob)∨(∃ m ob0,σ.at t ob0∧M.len t=some m∧m<n∧σ'=σ.set t (some ob))):
 ∃ M',M'.w=M.w.alloc (.cells cur E)∧M'.mu t=some M.w.heap.size∧M'.len t=some n∧M'.cap t=cur.size∧(∀ o,M'.I M.w.heap.size o↔o<n)∧Ext M σ M' σ'∧Al M' σ':=by
 let M':Az:={ w:=M.w.alloc (.cells cur E),I:=fun b o=>M.I b o∨(b=M.w.heap.size∧o<n),mu:=fun s=>if s=t then some M.w.heap.size else M.mu s,len:=fun s=>if s=t then some n else M.len s,cap:=fun s=>if s=t then cur.size else M.cap s }
 have hcell:∀ b o,M.I b o→M'.w.cell? ⟨b,o,none⟩=M.w.cell? ⟨b,o,none⟩:=fun b o ho=>
  World.cell?_of_block (Below.heap_alloc _ _ _ (h.imm b o ho))
 have hmt:M'.mu t=some M.w.heap.size:=by simp[M']
 have hlt:M'.len t=some n:=by simp[M']
 have hms:∀ s,s≠t→M'.mu s=M.mu s∧M'.len s=M.len s∧M'.cap s=M.cap s:=fun s hs=>by simp[M',hs]
 have htl:(M.mu t=none∧M.len t=none)∨∃ m,M.len t=some m∧m<n:=by
  rcases hold with⟨h1,_⟩|⟨m,_,_,h1,h2,_⟩
  ·exact .inl (h.fresh t (by omega))
  ·exact .inr ⟨m,h1,h2⟩
 have hL:Later M M':=⟨fun s c hs h0=>by
  have hst:s≠t:=fun e=>by
   subst e
   rcases htl with⟨h1,_⟩|⟨m,h1,_⟩
   ·rw[h1]at hs;simp at hs
   ·rw[h1]at h0;simp at h0
  rw[(hms s hst).1,(hms s hst).2.1];exact⟨hs,h0,(hms s hst).2.2⟩,fun s k hs=>by
  by_cases e:s=t
  ·subst e
   rcases htl with⟨_,h1⟩|⟨m,h1,h2⟩
   ·rw[h1]at hs;simp at hs
   ·rw[h1]at hs;simp at hs;subst hs
    exact⟨n,hlt,by omega,fun e=>by omega⟩
  ·rw[(hms s e).2.1];exact⟨k,hs,QH _,fun _=>⟨(hms s e).1,(hms s e).2.2⟩⟩,fun _ _ h=>.inl h,hcell⟩
 have hsz:M'.w.heap.size=M.w.heap.size+1:=by simp[M']
 have hne:∀ s c,M.mu s=some c→c≠M.w.heap.size:=fun s c hs=>by have:=h.lt s c hs;omega
 have hIn:∀ o,M'.I M.w.heap.size o↔o<n:=fun o=>by
  simp only[M',true_and]
  refine⟨fun h'=> ?_,.inr⟩
  rcases h' with h'|h'
  ·have:=h.imm _ o h';omega
  ·exact h'
 have hIo:∀ b o,b<M.w.heap.size→M'.I b o→M.I b o:=fun b o hb ho=>by
  rcases ho with ho|ho
  ·exact ho
  ·omega
 have hat:∀ s ob',σ'.at s ob'→(s=t∧ob'=ob)∨(s≠t∧σ.at s ob'):=fun s ob' hs=>by
  rcases hold with⟨h1,rfl⟩|⟨m,ob0,h0,h1,h2,rfl⟩
  ·exact St.at_put (by omega) hs
  ·unfold St.at at hs h0
   rw[QW]at hs
   split at hs
   ·rename_i e;subst e;simp[(QC.1 h0).1]at hs;exact .inl ⟨rfl,hs.symm⟩
   ·rename_i hne;exact .inr ⟨fun e=>hne e.symm,hs⟩
 have hown:G8 M' t M.w.heap.size E n:=⟨cur,hmt,heap_alloc_new _ _,by simp[M'],hIn⟩
 have hE:Ext M σ M' σ':=by
  refine⟨hL.mu,hL.own,hL.imm,hcell,fun b hb _=>⟨Below.heap_alloc _ _ _ hb,fun o=>hIo b o hb⟩,fun s ob' b hs hb=> ?_,by omega,rfl,rfl,rfl⟩
  rcases hat s ob' hs with⟨rfl,rfl⟩|⟨h1,h2⟩
  ·rw[hmt]at hb;simp at hb;left;omega
  ·rw[(hms s h1).1]at hb;exact .inr ⟨s,ob',h2,hb⟩
 refine⟨M',rfl,hmt,hlt,by simp[M'],hIn,hE,?_⟩
 ·refine⟨fun s ob' hs=> ?_,fun s s' ob1 ob2 b hs hs' hb hb'=> ?_,fun s hs=> ?_,fun s c hs=> ?_,fun b o ho=> ?_,h.glob.ext hE⟩
  ·rcases hat s ob' hs with⟨rfl,rfl⟩|⟨h1,h2⟩
   ·rcases hob with rfl|⟨rfl,hn⟩
    ·exact⟨hlt,_,hown⟩
    ·exact⟨hlt,.inr ⟨hn,_,hown⟩⟩
   ·exact (h.obj s ob' h2).later hL (hms s h1).1 (hms s h1).2.1 (hms s h1).2.2 fun b hb=>⟨Below.heap_alloc _ _ _ (h.lt s b hb),fun o=>hIo b o (h.lt s b hb)⟩
  ·rcases hat s ob1 hs with⟨rfl,rfl⟩|⟨h1,h2⟩<;>rcases hat s' ob2 hs' with⟨rfl,rfl⟩|⟨h3,h4⟩
   ·rfl
   ·rw[hmt]at hb;rw[(hms s' h3).1]at hb';simp at hb;exact (hne s' b hb' hb.symm).elim
   ·rw[hmt]at hb';rw[(hms s h1).1]at hb;simp at hb';exact (hne s b hb hb'.symm).elim
   ·rw[(hms s h1).1]at hb;rw[(hms s' h3).1]at hb';exact h.inj s s' _ _ b h2 h4 hb hb'
  ·have hst:s≠t∧σ.length≤s:=by
    rcases hold with⟨h1,rfl⟩|⟨m,ob0,h0,h1,h2,rfl⟩
    ·have:=St.put_len (σ:=σ) (t:=t) (ob:=ob) (by omega)
     omega
    ·have:=(QC.1 h0).1
     simp at hs;omega
   rw[(hms s hst.1).1,(hms s hst.1).2.1];exact h.fresh s hst.2
  ·by_cases he:s=t
   ·subst he;rw[hmt]at hs;simp at hs;omega
   ·rw[(hms s he).1]at hs;have:=h.lt s c hs;omega
  ·rcases ho with ho|ho
   ·have:=h.imm b o ho;omega
   ·omega
