/- Pools: new ones. Arguments opened as data of the abstract machine, by their types. A law's walk, as the call that its row asks for. Plain laws: pages that are taken, counted. -/
import Derived.Test.YtpoigihfeehehaaGreatDoorM30
import Derived.Test.YtpoigihfeehehaaGreatDoorM01
import Derived.ProofKit
import Derived.SizedLaws
import Derived.Deep.Slices
import Derived.Deep.MidRow
import Derived.Test.YtpoigihfeehehaaGreatDoorM11
set_option linter.all false
set_option maxRecDepth 100000
set_option maxHeartbeats 32000000
namespace Go.Proofs.YtpoigihfeehehaaGreatDoor
open Go.RowKit
theorem Acb (n:Nat):∀ k,secs [] n k=List.replicate (64*k) 0
 |0=>rfl
 |k+1=>by
  rw[Ge,Acb n k,show 64*(k+1)=64*k+64 by omega,←List.replicate_append_replicate]
  rfl
theorem Alv {P:Ak}(h:P.hm=[])(hd:P.data.now=[])(n:Nat):P.view n=Fg 0:=by
 unfold Ak.view
 rw[h,hd]
 show pgz (Bq [] n)=Fg 0
 unfold Bq
 rw[Acb]
 exact if_pos rfl
theorem Aac {ch:List (Nat×List UInt8)}{n:Nat}{pg:List UInt8}:∀ q∈Dq ch n pg,q=(n,pg)∨q∈ch:=by
 induction ch with
 |nil=>intro q hq;simp[Dq]at hq;exact .inl hq
 |cons r ch ih=>
  intro q hq
  simp only[Dq]at hq
  split at hq
  ·rcases QP.1 hq with h|h
   ·exact .inl h
   ·exact .inr (YG _ h)
  ·rcases QP.1 hq with h|h
   ·exact .inr (by rw[h];simp)
   ·exact (ih q h).imp id (YG _)
theorem Bv.kn {σ:St}{b p:Nat}{B:Nat→Prop}{ch:List (Nat×List UInt8)}(h:Bv σ b p B ch):(ch.map Prod.fst).Nodup∧∀ q∈ch,q.2.length=512:=by
 obtain⟨w,a,h,_⟩:=h
 exact⟨h.kn,h.len⟩
theorem Aix {σ:St}{dd dl:Nat}{Fd Fl:Nat→Prop}{nd nl:Nat}(hd:Bf σ dd Fd ⟨nd,[],[],fun _=>Fh⟩)(hl:Bf σ dl Fl ⟨nl,[],[],fun _=>Fh⟩)(hdj:∀ t,Fd t→Fl t→False)(hz:16≤nd)(hlz:3≤nl)(most:Nat)(hm:1≤most)(hmb:most≤100000):
 Aa Tryz.prog 8 [.mp dd 6 0 0,.mp dl 6 0 0,Ad .i64 (most:Nat)] σ fun r σ'=>∃ p l kh G P,r= .tup [.mp p 6 0 0,Ad .i64 0]∧Ap σ σ'∧Cj σ' p dd l kh G P∧P.pages=min (nd / 8) 3840∧P.most=most∧P.log.disk.size=nl∧P.log.d=dl∧P.ct=0∧P.log.wait=0∧P.dq=0∧(∀ n,P.view n=Fg 0)∧∀ t,G t→Fd t∨Fl t∨σ.length≤t:=
 (Avv hd hl hdj hz (fun _=>rfl) hlz 0 Aia (fun _=>rfl) rfl most hm hmb rfl).mono fun r s ⟨p,l,kh,G,P,h1,h2,h3,h4,h5,h6,h7,h8,h9⟩=>
  ⟨p,l,kh,G,P,h1,h2,h3,by unfold Ak.pages;rw[h7],h6,by rw[h8],by rw[h8],by unfold Ak.ct;rw[h8];rfl,by rw[h8],by simp[Ak.dq,Ak.dirt,h4,h7],Alv h5 (by rw[h7]),h9⟩
end Go.Proofs.YtpoigihfeehehaaGreatDoor
namespace Go.Proofs.YtpoigihfeehehaaGreatDoor
open Go.RowKit Go.Deep Go.ChangeShapes Go.WideShapes
inductive Sh where
 |int (k:IntKind)
 |bool
 |str
 |sl (eb:Nat) (l:List Sh)
 |pred (p:PV→Prop)
mutual
def Ui:Sh→PV→Prop
 | .int k,x=>∃ n,x= .v (.int k n)∧(Lit.int k n).wf=true
 | .bool,x=>∃ b,x= .v (.bool b)
 | .str,x=>∃ s,x= .v (.string s)∧s.size≤140737488351232
 | .sl eb l,x=>∃ ls,x= .sl l.length ls∧ls.length*eb≤140737488351232∧∀ c∈ls,Cd l c
 | .pred p,x=>p x
def Cd:List Sh→List PV→Prop
 |[],c=>c=[]
 |s::l,c=>∃ x c',c=x::c'∧Ui s x∧Cd l c'
end
theorem Cd.len:∀ {l:List Sh} {c:List PV},Cd l c→c.length=l.length
 |[],c,h=>by simp only[Cd]at h;rw[h];rfl
 |s::l,c,h=>by
  simp only[Cd]at h
  obtain⟨x,c',rfl,_,h⟩:=h
  simp[h.len]
theorem Cd.app:∀ {l l':List Sh} {c c':List PV},Cd l c→Cd l' c'→Cd (l++l') (c++c')
 |[],l',c,c',h,h'=>by simp only[Cd]at h;subst h;exact h'
 |s::l,l',c,c',h,h'=>by
  simp only[Cd]at h
  obtain⟨x,c1,rfl,h1,h⟩:=h
  simp only[ZN,Cd]
  exact⟨x,_,rfl,h1,h.app h'⟩
def shFs (P:Program)(sh:TypeId→Option (List Sh)):Nat→List Field→Option (List Sh)
 |_,[]=>some []
 |off,f::fs=>match sh f.type,shFs P sh (off+P.cellsOf f.type) fs with
  |some l,some l'=>if f.offset=off∧l.length=P.cellsOf f.type then some (l++l')else none
  |_,_=>none
def Ae8 (P:Program)(R:TypeId→Option (List Sh)):Nat→TypeId→Option (List Sh)
 |0,_=>none
 |n+1,t=>match R t with
  |some l=>some l
  |none=>match P.underlying t with
   |some .bool=>some [.bool]
   |some (.int k)=>some [.int k]
   |some .string=>some [.str]
   |some (.slice e)=>match Ae8 P R n e with
    |some l=>if l.length=P.cellsOf e∧0<P.bytesOf e∧0<P.cellsOf e then some [.sl (P.bytesOf e) l]else none
    |none=>none
   |some (.struct fs)=>match shFs P (fun t=>Ae8 P R n t) 0 fs.toList with
    |some l=>if l.length=P.cellsOf t then some l else none
    |none=>none
   |_=>none
def shOf (P:Program)(n:Nat)(t:TypeId):Option (List Sh):=Ae8 P (fun _=>none) n t
def K3 {H:Type}(P:Program)(t:TypeId)(d:DataW H):Prop:=∀ n∈d.weights P t,n≤140737488351232
theorem Alw {H:Type}{P:Program}{ts:List TypeId}{ds:List (DataW H)}(h:(DataW.weightsEach P ts ds).all (· ≤reachBytes)=true){j:Nat}{t:TypeId}{d:DataW H}(ht:ts[j]? =some t)(hd:ds[j]? =some d):K3 P t d:=fun n hn=>by
 have:=ZA.1 h n (DataW.weights_mem_each ht hd n hn)
 have h2:n≤reachBytes:=by simpa using this
 exact h2
theorem K3.elem {H:Type}{P:Program}{t e:TypeId}{elems spare:List (DataW H)}(h:K3 P t (.slice elems spare))(hu:P.underlying t=some (.slice e)){d:DataW H}(hd:d∈elems):K3 P e d:=fun n hn=>by
 refine h n ?_
 rw[DataW.weights]
 simp only[hu]
 refine YG _ (List.mem_append_left _ ?_)
 clear h hu
 induction elems with
 |nil=>cases hd
 |cons x r ih=>
  rw[DataW.weightsAll]
  rcases QP.1 hd with rfl|hd
  ·exact List.mem_append_left _ hn
  ·exact List.mem_append_right _ (ih hd)
theorem K3.len {H:Type}{P:Program}{t e:TypeId}{elems spare:List (DataW H)}(h:K3 P t (.slice elems spare))(hu:P.underlying t=some (.slice e)):(elems.length+spare.length)*P.bytesOf e≤140737488351232:=by
 refine h _ ?_
 rw[DataW.weights]
 simp[hu]
theorem K3.field {H:Type}{P:Program}{t:TypeId}{fs:Array Field}{parts:List (DataW H)}(h:K3 P t (.agg parts))(hu:P.underlying t=some (.struct fs)){i:Nat}{f:Field}{d:DataW H}(hf:fs[i]? =some f)(hd:parts[i]? =some d):K3 P f.type d:=fun n hn=>by
 refine h n ?_
 rw[DataW.weights]
 simp only[hu]
 exact DataW.weights_mem_each (j:=i) (by simp[hf]) hd n hn
theorem K3.str {H:Type}{P:Program}{t:TypeId}{bs:List UInt8}(h:K3 P t (.lit (.string bs):DataW H)):bs.length≤140737488351232:=h _ (by simp[DataW.weights])
def inH (w:World)(b o:Nat):Prop:=b<w.heap.size
def Nw (w:World)(ps:List PV)(cs:List Value):Prop:=ps.length=cs.length∧∀ (i:Nat) (x:PV) (u:Value),ps[i]? =some x→cs[i]? =some u→Ca w (inH w) x u
theorem Nw.one {w:World}{x:PV}{u:Value}(h:Ca w (inH w) x u):Nw w [x] [u]:=⟨rfl,fun i x' u' hx hu=>by
 cases i with
 |zero=>simp at hx hu;subst hx hu;exact h
 |succ i=>simp at hx⟩
theorem Nw.app {w:World}{ps ps':List PV}{cs cs':List Value}(h:Nw w ps cs)(h':Nw w ps' cs'):Nw w (ps++ps') (cs++cs'):=by
 refine⟨by simp[h.1,h'.1],fun i x u hx hu=> ?_⟩
 rw[YR]at hx hu
 by_cases hi:i<ps.length
 ·rw[if_pos hi]at hx;rw[if_pos (by rw[← h.1];exact hi)]at hu
  exact h.2 i x u hx hu
 ·rw[if_neg hi]at hx;rw[if_neg (by rw[← h.1];exact hi)]at hu
  rw[h.1]at hx
  exact h'.2 _ x u hx hu
theorem Alx {w:World}{a:Addr}{v:Value}(h:w.cell? a=some v):a=⟨a.block,a.off,none⟩:=by
 obtain⟨b,o,s⟩:=a
 cases s with
 |none=>rfl
 |some q=>simp[World.cell?]at h;split at h<;>simp at h
section
variable {H:Type} {enc:TypeId×Value→H} {P:Program} {w:World} {held:Bool}
theorem Xq {sh:TypeId→Option (List Sh)}{cs:List Value}:∀ (fl:List Field) (off:Nat) (shs:List Sh),shFs P sh off fl=some shs→
 (∀ f∈fl,∀ l,sh f.type=some l→∃ ps,Cd l ps∧Nw w ps ((cs.drop f.offset).take (P.cellsOf f.type)))→∃ ps,Cd shs ps∧Nw w ps ((cs.drop off).take shs.length)
 |[],off,shs,h,_=>by
  simp only[shFs,QB]at h;subst h
  exact⟨[],by simp[Cd],by simp[Nw]⟩
 |f::fl,off,shs,h,hf=>by
  simp only[shFs]at h
  split at h
  ·rename_i l l' h1 h2
   split at h
   ·rename_i hc
    simp only[QB]at h;subst h
    obtain⟨ps1,g1,g2⟩:=hf f (by simp) l h1
    obtain⟨ps2,g3,g4⟩:=Xq fl _ l' h2 fun f' hf'=>hf f' (by simp[hf'])
    refine⟨ps1++ps2,g1.app g3,?_⟩
    rw[hc.1,←hc.2]at g2
    rw[← hc.2]at g4
    rw[QE,List.take_add,VC]
    exact g2.app g4
   ·simp at h
  ·simp at h
theorem Uj {R:TypeId→Option (List Sh)}{N:Nat}(hR:∀ t l,R t=some l→∀ {fuel:Nat} {cs:List Value} {d:DataW H} {p:List MemPlace},SizeOf.sizeOf d<N→DataW.trod enc P w 0 (fun _=>true) held fuel t cs=some (d,p)→K3 P t d→∃ ps,Cd l ps∧Nw w ps cs):
 ∀ (n:Nat) {fuel:Nat} {t:TypeId} {cs:List Value} {d:DataW H} {p:List MemPlace} {shs:List Sh},(SizeOf.sizeOf d<N∨(SizeOf.sizeOf d≤N∧R t=none))→Ae8 P R n t=some shs→DataW.trod enc P w 0 (fun _=>true) held fuel t cs=some (d,p)→K3 P t d→
 ∃ ps,Cd shs ps∧Nw w ps cs
 |0,fuel,t,cs,d,p,shs,_,hs,_,_=>by simp[Ae8]at hs
 |n+1,fuel,t,cs,d,p,shs,hN,hs,h,hf=>by
  simp only[Ae8]at hs
  have hNle:SizeOf.sizeOf d≤N:=hN.elim Nat.le_of_lt (·.1)
  split at hs
  ·rename_i l hl
   simp only[QB]at hs;subst hs
   exact hR t l hl (hN.resolve_right fun h=>by rw[h.2]at hl;simp at hl) h hf
  split at hs
  ·rename_i hu
   simp only[QB]at hs;subst hs
   obtain⟨b,rfl,_⟩:=DataW.trod_bool hu h
   exact⟨[.v (.bool b)],by simp only[Cd,Ui];exact⟨_,_,rfl,⟨b,rfl⟩,rfl⟩,Nw.one (by simp only[Ca];exact⟨rfl,trivial⟩)⟩
  ·rename_i k hu
   simp only[QB]at hs;subst hs
   obtain⟨m,rfl,_,hw⟩:=DataW.trod_int hu h
   exact⟨[.v (.int k m)],by simp only[Cd,Ui];exact⟨_,_,rfl,⟨m,rfl,hw⟩,rfl⟩,Nw.one (by simp only[Ca];exact⟨rfl,trivial⟩)⟩
  ·rename_i hu
   simp only[QB]at hs;subst hs
   obtain⟨s,rfl,hx,_⟩:=DataW.trod_string hu h
   simp only[QJ]at hx
   obtain⟨rfl,rfl⟩:=hx
   have hl:=hf.str
   rw[YK]at hl
   exact⟨[.v (.string s)],by simp only[Cd,Ui];exact⟨_,_,rfl,⟨s,rfl,hl⟩,rfl⟩,Nw.one (by simp only[Ca];exact⟨rfl,trivial⟩)⟩
  ·rename_i e hu
   split at hs
   case h_2=>simp at hs
   rename_i l hl
   split at hs
   case isFalse=>simp at hs
   rename_i hc
   simp only[QB]at hs;subst hs
   rcases open_slice hu h with⟨rfl,_⟩|⟨a,len,cap,m,q,D,Pl,rfl,_,hlc,hcm,hm,hx,hel⟩
   ·exact⟨[.sl l.length []],by simp only[Cd,Ui];exact⟨_,_,rfl,⟨[],rfl,by simp,by simp⟩,rfl⟩,Nw.one (by simp only[Ca];exact .inl ⟨trivial,none,0,rfl,fun _=>rfl⟩)⟩
   ·simp only[if_true]at hm
    subst hm
    simp only[QJ]at hx
    obtain⟨rfl,rfl⟩:=hx
    have hle:=hf.len hu
    simp only[QL,List.length_range]at hle
    have hlen:len*P.bytesOf e≤140737488351232:=ZO (ZL _ (Nat.le_add_right _ _)) hle
    have each:∀ i,∃ ps:List PV,i<len→Cd l ps∧∀ (j:Nat) (x:PV),ps[j]? =some x→∃ u,w.cell? (a.add (i*P.cellsOf e+j))=some u∧Ca w (inH w) x u:=fun i=>by
     by_cases hi:i<len
     ·obtain⟨cs',h1,h2⟩:=hel i (by omega)
      have hmem:D i∈(List.range len).map D:=ZP.2 ⟨i,List.mem_range.2 hi,rfl⟩
      have hsz:SizeOf.sizeOf (D i)<N:=by
       have h1:=List.sizeOf_lt_of_mem hmem
       simp only[DataW.slice.sizeOf_spec]at hNle
       omega
      obtain⟨ps,h3,h4⟩:=Uj hR n (.inl hsz) hl h2 (hf.elem hu hmem)
      obtain⟨_,h5,h6⟩:=World.cells?_some h1
      refine⟨ps,fun _=>⟨h3,fun j x hx=> ?_⟩⟩
      have hj:j<ps.length:=(QC.1 hx).1
      have hj':j<cs'.length:=by rw[← h4.1];exact hj
      refine⟨cs'[j],?_,h4.2 j x _ hx (QN hj')⟩
      have:=h6 j (by omega)
      rw[add_add]at this
      rw[this];exact QN hj'
     ·exact⟨[],fun h=>absurd h hi⟩
    obtain⟨R,hR⟩:=Classical.axiomOfChoice each
    refine⟨[.sl l.length ((List.range len).map R)],?_,Nw.one ?_⟩
    ·simp only[Cd,Ui]
     refine⟨_,_,rfl,⟨_,rfl,by simpa using hlen,fun c hc'=> ?_⟩,rfl⟩
     obtain⟨i,hi,rfl⟩:=ZP.1 hc'
     exact (hR i (List.mem_range.1 hi)).1
    ·simp only[Ca,QL,List.length_range]
     by_cases h0:len=0
     ·subst h0;exact .inl ⟨rfl,some a,m,rfl,by simp⟩
     ·right
      have hl0:=(hR 0 (by omega)).1.len
      have hR0:(R 0)[0]? =some ((R 0)[0]'(by rw[hl0];omega)):=QN _
      obtain⟨u0,hu0,_⟩:=(hR 0 (by omega)).2 0 _ hR0
      rw[show a.add (0*P.cellsOf e+0)=a by simp[Addr.add]]at hu0
      have ha:=Alx hu0
      refine⟨a.block,a.off,m,by rw[← ha],hlc,Br.of_get fun i c hc'=> ?_⟩
      have hi:i<len:=by have:=(QC.1 hc').1;simpa using this
      have hcR:c=R i:=by simpa [hi]using hc'.symm
      subst hcR
      refine⟨(hR i hi).1.len,Do.of_get fun j x hx=> ?_⟩
      obtain⟨u,g1,g2⟩:=(hR i hi).2 j x hx
      rw[ha,Addr.add_mid,←hc.1,←ZY]at g1
      have hb:a.block<w.heap.size:=World.block_lt_of_cell? w ⟨a.block,_,none⟩ g1
      exact⟨u,g1,hb,g2⟩
  ·rename_i fs hu
   split at hs
   case h_2=>simp at hs
   rename_i l hl
   split at hs
   case isFalse=>simp at hs
   rename_i hc
   simp only[QB]at hs;subst hs
   obtain⟨xs,q,rfl,hx,hcl,hxl,hg⟩:=DataW.trod_struct hu h
   simp only[QJ]at hx
   obtain⟨rfl,rfl⟩:=hx
   obtain⟨ps,h1,h2⟩:=Xq (w:=w) (cs:=cs) _ _ _ hl fun f hfm l' hl'=>by
    obtain⟨i,hi⟩:=YP.1 hfm
    have hi':fs[i]? =some f:=by simpa using hi
    have hil:i<xs.length:=by rw[hxl];exact (QU.1 hi').1
    have hgi:=hg i f hi'
    rw[QN hil]at hgi
    have hsz:SizeOf.sizeOf (xs[i]).1<N:=by
     have h1:=List.sizeOf_lt_of_mem (ZP.2 ⟨xs[i],XU hil,rfl⟩:(xs[i]).1∈xs.map (·.1))
     simp only[DataW.agg.sizeOf_spec]at hNle
     omega
    exact Uj hR n (.inl hsz) hl' hgi (hf.field hu hi' (by simp[hil]))
   refine⟨ps,h1,?_⟩
   rw[XA,hc,←hcl,ZS]at h2
   exact h2
  ·simp at hs
theorem Aqp (n:Nat){fuel:Nat}{t:TypeId}{cs:List Value}{d:DataW H}{p:List MemPlace}{shs:List Sh}(hs:shOf P n t=some shs)(h:DataW.trod enc P w 0 (fun _=>true) held fuel t cs=some (d,p))(hf:K3 P t d):∃ ps,Cd shs ps∧Nw w ps cs:=
 Uj (R:=fun _=>none) (N:=SizeOf.sizeOf d) (fun t l h=>by simp at h) n (.inr ⟨QH _,rfl⟩) hs h hf
end
end Go.Proofs.YtpoigihfeehehaaGreatDoor
namespace Go.Proofs.YtpoigihfeehehaaGreatDoor
open Go.RowKit
def Sd (w:World):Az:=⟨w,inH w,fun _=>none,fun _=>none,fun _=>0⟩
def Aiy (w:World):Prop:=∀ x∈Y3,∃ cs T,w.heap[x.1]? =some (.cells cs T (0,0))∧x.2 cs
theorem Xr (w:World)(hG:Aiy w):Al (Sd w) []:=
 ⟨fun t ob h=>by simp[St.at]at h,fun t t' ob ob' b h=>by simp[St.at]at h,fun t _=>⟨rfl,rfl⟩,fun t b h=>by simp[Sd]at h,fun b o h=>h,fun x hx=>by
  obtain⟨cs,T,h1,h2⟩:=hG x hx
  exact⟨cs,T,h1,h2,fun t ob h=>by simp[St.at]at h⟩⟩
theorem Nw.args {w:World}:∀ {ps:List PV} {us:List Value},Nw w ps us→Af (Sd w) (ps.map .p) us
 |[],[],_=>by simp[Af]
 |x::ps,u::us,h=>by
  simp only[QK,Af]
  exact⟨u,us,rfl,by simp only[Ag];exact h.2 0 x u rfl rfl,Nw.args ⟨by simpa using h.1,fun i y v hy hv=>h.2 (i+1) y v (by simpa using hy) (by simpa using hv)⟩⟩
 |[],_::_,h=>by have:=h.1;simp at this
 |_::_,[],h=>by have:=h.1;simp at this
theorem Aiz:∀ m:List PV,(m.map AV.p).all leaf=true
 |[]=>rfl
 |x::m=>by simp[leaf]
theorem Nw.agg {w:World}{ps:List PV}{us:Array Value}(h:Nw w ps us.toList):Ag (Sd w) (.agg (ps.map .p)) (.agg us):=by
 simp only[Ag]
 exact⟨Aiz ps,us.toList,rfl,h.args⟩
theorem Fj:∀ (n:Nat) (L:List Nat),L.Nodup→(∀ x∈L,x<n)→L.length≤n
 |0,L,_,h=>by
  cases L with
  |nil=>exact QH _
  |cons a L=>exact absurd (h a (by simp)) (VF _)
 |n+1,L,hd,h=>by
  have h1:=Fj n (L.erase n) (hd.erase n) fun x hx=>by
   have:=hd.mem_erase_iff.1 hx
   have:=h x this.2
   omega
  have:=List.le_length_erase (a:=n) (l:=L)
  omega
def cnt (T:Nat→Bool):Nat→Nat
 |0=>0
 |n+1=>cnt T n+if T n then 1 else 0
def D3 (T:Nat→Bool)(k:Nat)(v:Bool)(m:Nat):Bool:=if m=k then v else T m
theorem Xs {T T':Nat→Bool}:∀ n,(∀ m,m<n→T m=T' m)→cnt T n=cnt T' n
 |0,_=>rfl
 |n+1,h=>by simp only[cnt];rw[Xs n fun m hm=>h m (by omega),h n (by omega)]
theorem Qc {T:Nat→Bool}:∀ n,(∀ m,m<n→T m=true)→cnt T n=n
 |0,_=>rfl
 |n+1,h=>by simp only[cnt];rw[Qc n fun m hm=>h m (by omega),h n (by omega)];rfl
theorem Gf (v:Nat→List UInt8)(ch:List (Nat×List UInt8))(n:Nat)(pg:List UInt8)(m:Nat):K2 v (Dq ch n pg) m=if m=n then pg else K2 v ch m:=by
 unfold K2
 rw[I9]
 split<;>rfl
theorem Jd {v v':Nat→List UInt8}(h:∀ n,v n=v' n)(ch:List (Nat×List UInt8))(n:Nat):K2 v ch n=K2 v' ch n:=by unfold K2;rw[h]
theorem Ae9 {P:Program}{f:FuncId}{args:List AV}(h:Aa P f args [] fun u _=>u=Av true){W:World}{vs:List Value}(hv:Af (Sd W) args vs)(hG:Aiy W:=by intro x hx;simp[Y3]at hx):
 Calls P f vs.toArray W fun e W'=>e= .returned (.bool true)∧Below W.heap.size W W':=
 (h.2 (Sd W) vs (Xr W hG) hv).mono fun e w' ⟨v,r,σ',M',h1,h2,h3,h4,h5,_,h6⟩=>by
  subst h1 h2 h6
  rw[(Cf h5).2]
  exact⟨rfl,h3.below fun t ob h=>by simp[St.at]at h⟩
