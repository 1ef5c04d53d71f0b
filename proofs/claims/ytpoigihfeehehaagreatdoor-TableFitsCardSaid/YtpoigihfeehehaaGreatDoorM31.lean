/- Pools: new ones. Arguments opened as data of the abstract machine, by their types. A law's walk, as the call that its row asks for. Plain laws: pages that are taken, counted. -/
import Derived.Test.YtpoigihfeehehaaGreatDoorM30
import Derived.Test.YtpoigihfeehehaaGreatDoorM01
import Derived.ProofKit
import Derived.SizedLaws
import Derived.Deep.Slices
import Derived.Deep.MidRow
import Derived.Test.YtpoigihfeehehaaGreatDoorM11
set_option linter.all false
set_option maxRecDepth 100000
set_option maxHeartbeats 32000000
namespace Go.Proofs.YtpoigihfeehehaaGreatDoor
open Go.RowKit
theorem Ab4 (n:Nat):∀ k,secs [] n k=List.replicate (64*k) 0
 |0=>rfl
 |k+1=>by
  rw[Gh,Ab4 n k,show 64*(k+1)=64*k+64 by omega,←List.replicate_append_replicate]
  rfl
theorem All {P:Al}(h:P.hm=[])(hd:P.data.now=[])(n:Nat):P.view n=Fo 0:=by
 unfold Al.view
 rw[h,hd]
 show pgz (Bw [] n)=Fo 0
 unfold Bw
 rw[Ab4]
 exact if_pos rfl
theorem Z3 {ch:List (Nat×List UInt8)}{n:Nat}{pg:List UInt8}:∀ q∈Dt ch n pg,q=(n,pg)∨q∈ch:=by
 induction ch with
 |nil=>intro q hq;simp[Dt]at hq;exact .inl hq
 |cons r ch ih=>
  intro q hq
  simp only[Dt]at hq
  split at hq
  ·rcases List.mem_cons.1 hq with h|h
   ·exact .inl h
   ·exact .inr (List.mem_cons_of_mem _ h)
  ·rcases List.mem_cons.1 hq with h|h
   ·exact .inr (by rw[h];simp)
   ·exact (ih q h).imp id (List.mem_cons_of_mem _)
theorem B1.kn {σ:St}{b p:Nat}{B:Nat→Prop}{ch:List (Nat×List UInt8)}(h:B1 σ b p B ch):(ch.map Prod.fst).Nodup∧∀ q∈ch,q.2.length=512:=by
 obtain⟨w,a,h,_⟩:=h
 exact⟨h.kn,h.len⟩
theorem Aik {σ:St}{dd dl:Nat}{Fd Fl:Nat→Prop}{nd nl:Nat}(hd:Bi σ dd Fd ⟨nd,[],[],fun _=>Fp⟩)(hl:Bi σ dl Fl ⟨nl,[],[],fun _=>Fp⟩)(hdj:∀ t,Fd t→Fl t→False)(hz:16≤nd)(hlz:3≤nl)(most:Nat)(hm:1≤most)(hmb:most≤100000):
 Aa Tryz.prog 8 [.mp dd 6 0 0,.mp dl 6 0 0,Ad .i64 (most:Nat)] σ fun r σ'=>∃ p l kh G P,r= .tup [.mp p 6 0 0,Ad .i64 0]∧Ap σ σ'∧Ck σ' p dd l kh G P∧P.pages=min (nd / 8) 3840∧P.most=most∧P.log.disk.size=nl∧P.log.d=dl∧P.ct=0∧P.log.wait=0∧P.dq=0∧(∀ n,P.view n=Fo 0)∧∀ t,G t→Fd t∨Fl t∨σ.length≤t:=
 (Avo hd hl hdj hz (fun _=>rfl) hlz 0 Ahx (fun _=>rfl) rfl most hm hmb rfl).mono fun r s ⟨p,l,kh,G,P,h1,h2,h3,h4,h5,h6,h7,h8,h9⟩=>
  ⟨p,l,kh,G,P,h1,h2,h3,by unfold Al.pages;rw[h7],h6,by rw[h8],by rw[h8],by unfold Al.ct;rw[h8];rfl,by rw[h8],by simp[Al.dq,Al.dirt,h4,h7],All h5 (by rw[h7]),h9⟩
end Go.Proofs.YtpoigihfeehehaaGreatDoor
namespace Go.Proofs.YtpoigihfeehehaaGreatDoor
open Go.RowKit Go.Deep Go.ChangeShapes Go.WideShapes
inductive Sh where
 |int (k:IntKind)
 |bool
 |str
 |sl (eb:Nat) (l:List Sh)
 |pred (p:PV→Prop)
mutual
def Nu:Sh→PV→Prop
 | .int k,x=>∃ n,x= .v (.int k n)∧(Lit.int k n).wf=true
 | .bool,x=>∃ b,x= .v (.bool b)
 | .str,x=>∃ s,x= .v (.string s)∧s.size≤140737488351232
 | .sl eb l,x=>∃ ls,x= .sl l.length ls∧ls.length*eb≤140737488351232∧∀ c∈ls,Cz l c
 | .pred p,x=>p x
def Cz:List Sh→List PV→Prop
 |[],c=>c=[]
 |s::l,c=>∃ x c',c=x::c'∧Nu s x∧Cz l c'
end
theorem Cz.len:∀ {l:List Sh} {c:List PV},Cz l c→c.length=l.length
 |[],c,h=>by simp only[Cz]at h;rw[h];rfl
 |s::l,c,h=>by
  simp only[Cz]at h
  obtain⟨x,c',rfl,_,h⟩:=h
  simp[h.len]
theorem Cz.app:∀ {l l':List Sh} {c c':List PV},Cz l c→Cz l' c'→Cz (l++l') (c++c')
 |[],l',c,c',h,h'=>by simp only[Cz]at h;subst h;exact h'
 |s::l,l',c,c',h,h'=>by
  simp only[Cz]at h
  obtain⟨x,c1,rfl,h1,h⟩:=h
  simp only[List.cons_append,Cz]
  exact⟨x,_,rfl,h1,h.app h'⟩
def shFs (P:Program)(sh:TypeId→Option (List Sh)):Nat→List Field→Option (List Sh)
 |_,[]=>some []
 |off,f::fs=>match sh f.type,shFs P sh (off+P.cellsOf f.type) fs with
  |some l,some l'=>if f.offset=off∧l.length=P.cellsOf f.type then some (l++l')else none
  |_,_=>none
def Aev (P:Program)(R:TypeId→Option (List Sh)):Nat→TypeId→Option (List Sh)
 |0,_=>none
 |n+1,t=>match R t with
  |some l=>some l
  |none=>match P.underlying t with
   |some .bool=>some [.bool]
   |some (.int k)=>some [.int k]
   |some .string=>some [.str]
   |some (.slice e)=>match Aev P R n e with
    |some l=>if l.length=P.cellsOf e∧0<P.bytesOf e∧0<P.cellsOf e then some [.sl (P.bytesOf e) l]else none
    |none=>none
   |some (.struct fs)=>match shFs P (fun t=>Aev P R n t) 0 fs.toList with
    |some l=>if l.length=P.cellsOf t then some l else none
    |none=>none
   |_=>none
def shOf (P:Program)(n:Nat)(t:TypeId):Option (List Sh):=Aev P (fun _=>none) n t
def Ji {H:Type}(P:Program)(t:TypeId)(d:DataW H):Prop:=∀ n∈d.weights P t,n≤140737488351232
theorem Alm {H:Type}{P:Program}{ts:List TypeId}{ds:List (DataW H)}(h:(DataW.weightsEach P ts ds).all (· ≤reachBytes)=true){j:Nat}{t:TypeId}{d:DataW H}(ht:ts[j]? =some t)(hd:ds[j]? =some d):Ji P t d:=fun n hn=>by
 have:=List.all_eq_true.1 h n (DataW.weights_mem_each ht hd n hn)
 have h2:n≤reachBytes:=by simpa using this
 exact h2
theorem Ji.elem {H:Type}{P:Program}{t e:TypeId}{elems spare:List (DataW H)}(h:Ji P t (.slice elems spare))(hu:P.underlying t=some (.slice e)){d:DataW H}(hd:d∈elems):Ji P e d:=fun n hn=>by
 refine h n ?_
 rw[DataW.weights]
 simp only[hu]
 refine List.mem_cons_of_mem _ (List.mem_append_left _ ?_)
 clear h hu
 induction elems with
 |nil=>cases hd
 |cons x r ih=>
  rw[DataW.weightsAll]
  rcases List.mem_cons.1 hd with rfl|hd
  ·exact List.mem_append_left _ hn
  ·exact List.mem_append_right _ (ih hd)
theorem Ji.len {H:Type}{P:Program}{t e:TypeId}{elems spare:List (DataW H)}(h:Ji P t (.slice elems spare))(hu:P.underlying t=some (.slice e)):(elems.length+spare.length)*P.bytesOf e≤140737488351232:=by
 refine h _ ?_
 rw[DataW.weights]
 simp[hu]
theorem Ji.field {H:Type}{P:Program}{t:TypeId}{fs:Array Field}{parts:List (DataW H)}(h:Ji P t (.agg parts))(hu:P.underlying t=some (.struct fs)){i:Nat}{f:Field}{d:DataW H}(hf:fs[i]? =some f)(hd:parts[i]? =some d):Ji P f.type d:=fun n hn=>by
 refine h n ?_
 rw[DataW.weights]
 simp only[hu]
 exact DataW.weights_mem_each (j:=i) (by simp[hf]) hd n hn
theorem Ji.str {H:Type}{P:Program}{t:TypeId}{bs:List UInt8}(h:Ji P t (.lit (.string bs):DataW H)):bs.length≤140737488351232:=h _ (by simp[DataW.weights])
def inH (w:World)(b o:Nat):Prop:=b<w.heap.size
def Qu (w:World)(ps:List PV)(cs:List Value):Prop:=ps.length=cs.length∧∀ (i:Nat) (x:PV) (u:Value),ps[i]? =some x→cs[i]? =some u→Ce w (inH w) x u
theorem Qu.one {w:World}{x:PV}{u:Value}(h:Ce w (inH w) x u):Qu w [x] [u]:=⟨rfl,fun i x' u' hx hu=>by
 cases i with
 |zero=>simp at hx hu;subst hx hu;exact h
 |succ i=>simp at hx⟩
theorem Qu.app {w:World}{ps ps':List PV}{cs cs':List Value}(h:Qu w ps cs)(h':Qu w ps' cs'):Qu w (ps++ps') (cs++cs'):=by
 refine⟨by simp[h.1,h'.1],fun i x u hx hu=> ?_⟩
 rw[List.getElem?_append]at hx hu
 by_cases hi:i<ps.length
 ·rw[if_pos hi]at hx;rw[if_pos (by rw[← h.1];exact hi)]at hu
  exact h.2 i x u hx hu
 ·rw[if_neg hi]at hx;rw[if_neg (by rw[← h.1];exact hi)]at hu
  rw[h.1]at hx
  exact h'.2 _ x u hx hu
theorem Aln {w:World}{a:Addr}{v:Value}(h:w.cell? a=some v):a=⟨a.block,a.off,none⟩:=by
 obtain⟨b,o,s⟩:=a
 cases s with
 |none=>rfl
 |some q=>simp[World.cell?]at h;split at h<;>simp at h
section
variable {H:Type} {enc:TypeId×Value→H} {P:Program} {w:World} {held:Bool}
theorem Xo {sh:TypeId→Option (List Sh)}{cs:List Value}:∀ (fl:List Field) (off:Nat) (shs:List Sh),shFs P sh off fl=some shs→
 (∀ f∈fl,∀ l,sh f.type=some l→∃ ps,Cz l ps∧Qu w ps ((cs.drop f.offset).take (P.cellsOf f.type)))→∃ ps,Cz shs ps∧Qu w ps ((cs.drop off).take shs.length)
 |[],off,shs,h,_=>by
  simp only[shFs,Option.some.injEq]at h;subst h
  exact⟨[],by simp[Cz],by simp[Qu]⟩
 |f::fl,off,shs,h,hf=>by
  simp only[shFs]at h
  split at h
  ·rename_i l l' h1 h2
   split at h
   ·rename_i hc
    simp only[Option.some.injEq]at h;subst h
    obtain⟨ps1,g1,g2⟩:=hf f (by simp) l h1
    obtain⟨ps2,g3,g4⟩:=Xo fl _ l' h2 fun f' hf'=>hf f' (by simp[hf'])
    refine⟨ps1++ps2,g1.app g3,?_⟩
    rw[hc.1,←hc.2]at g2
    rw[← hc.2]at g4
    rw[List.length_append,List.take_add,List.drop_drop]
    exact g2.app g4
   ·simp at h
  ·simp at h
theorem Um {R:TypeId→Option (List Sh)}{N:Nat}(hR:∀ t l,R t=some l→∀ {fuel:Nat} {cs:List Value} {d:DataW H} {p:List MemPlace},SizeOf.sizeOf d<N→DataW.trod enc P w 0 (fun _=>true) held fuel t cs=some (d,p)→Ji P t d→∃ ps,Cz l ps∧Qu w ps cs):
 ∀ (n:Nat) {fuel:Nat} {t:TypeId} {cs:List Value} {d:DataW H} {p:List MemPlace} {shs:List Sh},(SizeOf.sizeOf d<N∨(SizeOf.sizeOf d≤N∧R t=none))→Aev P R n t=some shs→DataW.trod enc P w 0 (fun _=>true) held fuel t cs=some (d,p)→Ji P t d→
 ∃ ps,Cz shs ps∧Qu w ps cs
 |0,fuel,t,cs,d,p,shs,_,hs,_,_=>by simp[Aev]at hs
 |n+1,fuel,t,cs,d,p,shs,hN,hs,h,hf=>by
  simp only[Aev]at hs
  have hNle:SizeOf.sizeOf d≤N:=hN.elim Nat.le_of_lt (·.1)
  split at hs
  ·rename_i l hl
   simp only[Option.some.injEq]at hs;subst hs
   exact hR t l hl (hN.resolve_right fun h=>by rw[h.2]at hl;simp at hl) h hf
  split at hs
  ·rename_i hu
   simp only[Option.some.injEq]at hs;subst hs
   obtain⟨b,rfl,_⟩:=DataW.trod_bool hu h
   exact⟨[.v (.bool b)],by simp only[Cz,Nu];exact⟨_,_,rfl,⟨b,rfl⟩,rfl⟩,Qu.one (by simp only[Ce];exact⟨rfl,trivial⟩)⟩
  ·rename_i k hu
   simp only[Option.some.injEq]at hs;subst hs
   obtain⟨m,rfl,_,hw⟩:=DataW.trod_int hu h
   exact⟨[.v (.int k m)],by simp only[Cz,Nu];exact⟨_,_,rfl,⟨m,rfl,hw⟩,rfl⟩,Qu.one (by simp only[Ce];exact⟨rfl,trivial⟩)⟩
  ·rename_i hu
   simp only[Option.some.injEq]at hs;subst hs
   obtain⟨s,rfl,hx,_⟩:=DataW.trod_string hu h
   simp only[Prod.mk.injEq]at hx
   obtain⟨rfl,rfl⟩:=hx
   have hl:=hf.str
   rw[Array.length_toList]at hl
   exact⟨[.v (.string s)],by simp only[Cz,Nu];exact⟨_,_,rfl,⟨s,rfl,hl⟩,rfl⟩,Qu.one (by simp only[Ce];exact⟨rfl,trivial⟩)⟩
  ·rename_i e hu
   split at hs
   case h_2=>simp at hs
   rename_i l hl
   split at hs
   case isFalse=>simp at hs
   rename_i hc
   simp only[Option.some.injEq]at hs;subst hs
   rcases open_slice hu h with⟨rfl,_⟩|⟨a,len,cap,m,q,D,Pl,rfl,_,hlc,hcm,hm,hx,hel⟩
   ·exact⟨[.sl l.length []],by simp only[Cz,Nu];exact⟨_,_,rfl,⟨[],rfl,by simp,by simp⟩,rfl⟩,Qu.one (by simp only[Ce];exact .inl ⟨trivial,none,0,rfl,fun _=>rfl⟩)⟩
   ·simp only[if_true]at hm
    subst hm
    simp only[Prod.mk.injEq]at hx
    obtain⟨rfl,rfl⟩:=hx
    have hle:=hf.len hu
    simp only[List.length_map,List.length_range]at hle
    have hlen:len*P.bytesOf e≤140737488351232:=Nat.le_trans (Nat.mul_le_mul_right _ (Nat.le_add_right _ _)) hle
    have each:∀ i,∃ ps:List PV,i<len→Cz l ps∧∀ (j:Nat) (x:PV),ps[j]? =some x→∃ u,w.cell? (a.add (i*P.cellsOf e+j))=some u∧Ce w (inH w) x u:=fun i=>by
     by_cases hi:i<len
     ·obtain⟨cs',h1,h2⟩:=hel i (by omega)
      have hmem:D i∈(List.range len).map D:=List.mem_map.2 ⟨i,List.mem_range.2 hi,rfl⟩
      have hsz:SizeOf.sizeOf (D i)<N:=by
       have h1:=List.sizeOf_lt_of_mem hmem
       simp only[DataW.slice.sizeOf_spec]at hNle
       omega
      obtain⟨ps,h3,h4⟩:=Um hR n (.inl hsz) hl h2 (hf.elem hu hmem)
      obtain⟨_,h5,h6⟩:=World.cells?_some h1
      refine⟨ps,fun _=>⟨h3,fun j x hx=> ?_⟩⟩
      have hj:j<ps.length:=(List.getElem?_eq_some_iff.1 hx).1
      have hj':j<cs'.length:=by rw[← h4.1];exact hj
      refine⟨cs'[j],?_,h4.2 j x _ hx (List.getElem?_eq_getElem hj')⟩
      have:=h6 j (by omega)
      rw[add_add]at this
      rw[this];exact List.getElem?_eq_getElem hj'
     ·exact⟨[],fun h=>absurd h hi⟩
    obtain⟨R,hR⟩:=Classical.axiomOfChoice each
    refine⟨[.sl l.length ((List.range len).map R)],?_,Qu.one ?_⟩
    ·simp only[Cz,Nu]
     refine⟨_,_,rfl,⟨_,rfl,by simpa using hlen,fun c hc'=> ?_⟩,rfl⟩
     obtain⟨i,hi,rfl⟩:=List.mem_map.1 hc'
     exact (hR i (List.mem_range.1 hi)).1
    ·simp only[Ce,List.length_map,List.length_range]
     by_cases h0:len=0
     ·subst h0;exact .inl ⟨rfl,some a,m,rfl,by simp⟩
     ·right
      have hl0:=(hR 0 (by omega)).1.len
      have hR0:(R 0)[0]? =some ((R 0)[0]'(by rw[hl0];omega)):=List.getElem?_eq_getElem _
      obtain⟨u0,hu0,_⟩:=(hR 0 (by omega)).2 0 _ hR0
      rw[show a.add (0*P.cellsOf e+0)=a by simp[Addr.add]]at hu0
      have ha:=Aln hu0
      refine⟨a.block,a.off,m,by rw[← ha],hlc,By.of_get fun i c hc'=> ?_⟩
      have hi:i<len:=by have:=(List.getElem?_eq_some_iff.1 hc').1;simpa using this
      have hcR:c=R i:=by simpa [hi]using hc'.symm
      subst hcR
      refine⟨(hR i hi).1.len,Dr.of_get fun j x hx=> ?_⟩
      obtain⟨u,g1,g2⟩:=(hR i hi).2 j x hx
      rw[ha,Addr.add_mid,←hc.1,←Nat.add_assoc]at g1
      have hb:a.block<w.heap.size:=World.block_lt_of_cell? w ⟨a.block,_,none⟩ g1
      exact⟨u,g1,hb,g2⟩
  ·rename_i fs hu
   split at hs
   case h_2=>simp at hs
   rename_i l hl
   split at hs
   case isFalse=>simp at hs
   rename_i hc
   simp only[Option.some.injEq]at hs;subst hs
   obtain⟨xs,q,rfl,hx,hcl,hxl,hg⟩:=DataW.trod_struct hu h
   simp only[Prod.mk.injEq]at hx
   obtain⟨rfl,rfl⟩:=hx
   obtain⟨ps,h1,h2⟩:=Xo (w:=w) (cs:=cs) _ _ _ hl fun f hfm l' hl'=>by
    obtain⟨i,hi⟩:=List.mem_iff_getElem?.1 hfm
    have hi':fs[i]? =some f:=by simpa using hi
    have hil:i<xs.length:=by rw[hxl];exact (Array.getElem?_eq_some_iff.1 hi').1
    have hgi:=hg i f hi'
    rw[List.getElem?_eq_getElem hil]at hgi
    have hsz:SizeOf.sizeOf (xs[i]).1<N:=by
     have h1:=List.sizeOf_lt_of_mem (List.mem_map.2 ⟨xs[i],List.getElem_mem hil,rfl⟩:(xs[i]).1∈xs.map (·.1))
     simp only[DataW.agg.sizeOf_spec]at hNle
     omega
    exact Um hR n (.inl hsz) hl' hgi (hf.field hu hi' (by simp[hil]))
   refine⟨ps,h1,?_⟩
   rw[List.drop_zero,hc,←hcl,List.take_length]at h2
   exact h2
  ·simp at hs
theorem Aqe (n:Nat){fuel:Nat}{t:TypeId}{cs:List Value}{d:DataW H}{p:List MemPlace}{shs:List Sh}(hs:shOf P n t=some shs)(h:DataW.trod enc P w 0 (fun _=>true) held fuel t cs=some (d,p))(hf:Ji P t d):∃ ps,Cz shs ps∧Qu w ps cs:=
 Um (R:=fun _=>none) (N:=SizeOf.sizeOf d) (fun t l h=>by simp at h) n (.inr ⟨Nat.le_refl _,rfl⟩) hs h hf
theorem Alo {n fuel:Nat}{t:TypeId}{v:Value}{d:DataW H}{p:List MemPlace}{s:Sh}(hs:shOf P n t=some [s])(h:DataW.trod enc P w 0 (fun _=>true) held fuel t [v]=some (d,p))(hf:Ji P t d):∃ x,Nu s x∧Ce w (inH w) x v:=by
 obtain⟨ps,h1,h2⟩:=Aqe n hs h hf
 simp only[Cz]at h1
 obtain⟨x,_,rfl,h3,rfl⟩:=h1
 exact⟨x,h3,h2.2 0 x v rfl rfl⟩
end
end Go.Proofs.YtpoigihfeehehaaGreatDoor
namespace Go.Proofs.YtpoigihfeehehaaGreatDoor
open Go.RowKit
def Sl (w:World):A2:=⟨w,inH w,fun _=>none,fun _=>none,fun _=>0⟩
def Ail (w:World):Prop:=∀ x∈Yv,∃ cs T,w.heap[x.1]? =some (.cells cs T (0,0))∧x.2 cs
theorem Xp (w:World)(hG:Ail w):An (Sl w) []:=
 ⟨fun t ob h=>by simp[St.at]at h,fun t t' ob ob' b h=>by simp[St.at]at h,fun t _=>⟨rfl,rfl⟩,fun t b h=>by simp[Sl]at h,fun b o h=>h,fun x hx=>by
  obtain⟨cs,T,h1,h2⟩:=hG x hx
  exact⟨cs,T,h1,h2,fun t ob h=>by simp[St.at]at h⟩⟩
theorem Qu.args {w:World}:∀ {ps:List PV} {us:List Value},Qu w ps us→Af (Sl w) (ps.map .p) us
 |[],[],_=>by simp[Af]
 |x::ps,u::us,h=>by
  simp only[List.map_cons,Af]
  exact⟨u,us,rfl,by simp only[Ag];exact h.2 0 x u rfl rfl,Qu.args ⟨by simpa using h.1,fun i y v hy hv=>h.2 (i+1) y v (by simpa using hy) (by simpa using hv)⟩⟩
 |[],_::_,h=>by have:=h.1;simp at this
 |_::_,[],h=>by have:=h.1;simp at this
theorem Aim:∀ m:List PV,(m.map AV.p).all leaf=true
 |[]=>rfl
 |x::m=>by simp[leaf]
theorem Qu.agg {w:World}{ps:List PV}{us:Array Value}(h:Qu w ps us.toList):Ag (Sl w) (.agg (ps.map .p)) (.agg us):=by
 simp only[Ag]
 exact⟨Aim ps,us.toList,rfl,h.args⟩
theorem Fs:∀ (n:Nat) (L:List Nat),L.Nodup→(∀ x∈L,x<n)→L.length≤n
 |0,L,_,h=>by
  cases L with
  |nil=>exact Nat.le_refl _
  |cons a L=>exact absurd (h a (by simp)) (Nat.not_lt_zero _)
 |n+1,L,hd,h=>by
  have h1:=Fs n (L.erase n) (hd.erase n) fun x hx=>by
   have:=hd.mem_erase_iff.1 hx
   have:=h x this.2
   omega
  have:=List.le_length_erase (a:=n) (l:=L)
  omega
def cnt (T:Nat→Bool):Nat→Nat
 |0=>0
 |n+1=>cnt T n+if T n then 1 else 0
def D3 (T:Nat→Bool)(k:Nat)(v:Bool)(m:Nat):Bool:=if m=k then v else T m
theorem Xq {T T':Nat→Bool}:∀ n,(∀ m,m<n→T m=T' m)→cnt T n=cnt T' n
 |0,_=>rfl
 |n+1,h=>by simp only[cnt];rw[Xq n fun m hm=>h m (by omega),h n (by omega)]
theorem Qa {T:Nat→Bool}:∀ n,(∀ m,m<n→T m=true)→cnt T n=n
 |0,_=>rfl
 |n+1,h=>by simp only[cnt];rw[Qa n fun m hm=>h m (by omega),h n (by omega)];rfl
theorem Gi (v:Nat→List UInt8)(ch:List (Nat×List UInt8))(n:Nat)(pg:List UInt8)(m:Nat):K7 v (Dt ch n pg) m=if m=n then pg else K7 v ch m:=by
 unfold K7
 rw[Je]
 split<;>rfl
theorem Jj {v v':Nat→List UInt8}(h:∀ n,v n=v' n)(ch:List (Nat×List UInt8))(n:Nat):K7 v ch n=K7 v' ch n:=by unfold K7;rw[h]
theorem Aew {P:Program}{f:FuncId}{args:List AV}(h:Aa P f args [] fun u _=>u=Az true){W:World}{vs:List Value}(hv:Af (Sl W) args vs)(hG:Ail W:=by intro x hx;simp[Yv]at hx):
 Calls P f vs.toArray W fun e W'=>e= .returned (.bool true)∧Below W.heap.size W W':=
 (h.2 (Sl W) vs (Xp W hG) hv).mono fun e w' ⟨v,r,σ',M',h1,h2,h3,h4,h5,_,h6⟩=>by
  subst h1 h2 h6
  rw[(Cg h5).2]
  exact⟨rfl,h3.below fun t ob h=>by simp[St.at]at h⟩
theorem Ain {y:PV}(h:Nu (.sl 1 [.int .u8]) y):∃ r:List UInt8,y= .sl 1 (Ay r)∧r.length≤140737488351232:=by
 simp only[Nu]at h
 obtain⟨ls,rfl,hl,hc⟩:=h
 let g:List PV→UInt8:=fun c=>match c with
  | .v (.int _ n)::_=>UInt8.ofNat n.toNat
  |_=>0
 refine⟨ls.map g,?_,by simpa using hl⟩
 have:Ay (ls.map g)=ls:=by
  unfold Ay
  rw[List.map_map]
  conv=>rhs;rw[← List.map_id ls]
  refine List.map_congr_left fun c hm=> ?_
  have:=hc c hm
  simp only[Cz,Nu]at this
  obtain⟨x,c',rfl,⟨n,rfl,hw⟩,rfl⟩:=this
  have hb:0≤n∧n≤255:=by
   simp[Lit.wf,IntKind.min,IntKind.max,IntKind.signed,IntKind.bits]at hw
   omega
  simp only[Function.comp,g,Bq,id]
  rw[UInt8.toNat_ofNat']
  congr 4
  omega
 rw[this]
 rfl
end Go.Proofs.YtpoigihfeehehaaGreatDoor
