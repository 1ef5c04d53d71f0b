/- Steps over pages in variables; what a page is, as a kind and slots. -/
import Derived.Test.YtpoigihfeehehaaGreatDoorM17
import Derived.Deep.WholeRow
set_option linter.all false
set_option maxRecDepth 100000
set_option maxHeartbeats 32000000
namespace Go.Proofs.YtpoigihfeehehaaGreatDoor
open Go.RowKit
section
variable {ops:Array Oper} {rest:List Oper} {o:Oper} {a:Act} {w:World} {Q:Exit→Act→World→Prop}
end
theorem G0 {w:World}{g:Nat}{b:Obj}(o:Obj)(h:w.heap[g]? =some b):(w.alloc o).heap[g]? =some b:=
 (Below.heap_alloc w o g (Array.getElem?_eq_some_iff.1 h).1).trans h
theorem D2.new (w:World)(r:List UInt8)(c:Nat)(t:TypeId)(fr:Nat×Nat):D2 (w.alloc (.cells (Ae r) t fr)) (.slice (some ⟨w.heap.size,0,none⟩) r.length c) r:=
 Src.at fun j u hj=>by rw[cell_of_row _ w.heap.size (0+j) _ _ _ (heap_alloc_new w _)];simpa using hj
theorem D2.cells {w:World}{b off n c:Nat}{r:List UInt8}(h:D2 w (.slice (some ⟨b,off,none⟩) n c) r)(j:Nat)(hj:j<r.length):w.cell? ⟨b,off+j,none⟩=some (.int .u8 (r.getD j 0).toNat):=by
 obtain⟨ao,c',he,hc⟩:=h
 simp only[Value.slice.injEq]at he
 obtain⟨rfl,_,rfl⟩:=he
 rcases hc with⟨h1,_⟩|⟨ad,h1,h2⟩
 ·cases h1
 ·obtain rfl:ad=⟨b,off,none⟩:=by simpa using h1.symm
  have:=h2 j _ (Dj r j hj)
  rwa [Addr.add_lit]at this
theorem Rec.bytes {w:World}{base:Nat}{v:Value}{r:List UInt8}(h:Rec w base v (some r)):D2 w v r:=by
 obtain⟨⟨h1,h2⟩,g,cap,rfl⟩:=h
 rcases h2 with⟨h3,_⟩|⟨g',cap',cur,h3,_,hh,_,_,_,ht⟩
 ·simp at h3
 ·simp only[Value.slice.injEq,Option.some.injEq,Addr.mk.injEq,and_true,true_and]at h3
  obtain⟨rfl,rfl⟩:=h3
  refine Src.at fun j u hj=> ?_
  rw[← ht,List.getElem?_take]at hj
  split at hj
  ·rw[cell_of_row _ g (0+j) _ _ _ hh];simpa using hj
  ·cases hj
theorem D2.nil (w:World):D2 w (.slice none 0 0) []:=Src.nil w
theorem Aek {ss:List (Option (List UInt8))}(h:ss.getD (ss.length - 1) none≠none):A8 ss=ss:=by
 have:=Ib ss ss.length (Nat.le_refl _) (fun i hi=>by simp[List.getElem?_eq_none hi]) (.inr h)
 rwa [List.take_length]at this
theorem G3:∀ {ss:List (Option (List UInt8))},A8 ss=ss→ss=[]∨ss.getD (ss.length - 1) none≠none
 |[],_=>.inl rfl
 |none::r,h=>by
  unfold A8 at h
  split at h
  ·cases h
  ·rename_i hne
   have hr:A8 r=r:=by simpa using h
   rcases G3 hr with e|e
   ·subst e;exact absurd rfl hne
   ·right
    have hl:r.length≠0:=by intro e0;rw[List.eq_nil_of_length_eq_zero e0]at e;simp at e
    rw[show (none::r).length - 1=(r.length - 1)+1 by simp;omega]
    simpa using e
 |some x::r,h=>by
  right
  have hr:A8 r=r:=by simpa [A8]using h
  rcases G3 hr with e|e
  ·subst e;simp
  ·have hl:r.length≠0:=by intro e0;rw[List.eq_nil_of_length_eq_zero e0]at e;simp at e
   rw[show (some x::r).length - 1=(r.length - 1)+1 by simp;omega]
   simpa using e
theorem Ael (ss:List (Option (List UInt8))):A8 (A8 ss)=A8 ss:=by
 induction ss with
 |nil=>rfl
 |cons o r ih=>
  cases o with
  |none=>
   rw[show A8 (none::r)=if A8 r=[]then []else none::A8 r from rfl]
   by_cases h:A8 r=[]
   ·rw[if_pos h];rfl
   ·rw[if_neg h,show A8 (none::A8 r)=if A8 (A8 r)=[]then []else none::A8 (A8 r) from rfl,ih,if_neg h]
  |some x=>simp[A8,ih]
theorem Aem {ss:List (Option (List UInt8))}(h:A8 ss=ss)(k:Nat)(hk:k≤ss.length)(r:List UInt8):A8 (Gj ss k r)=Gj ss k r:=by
 apply Aek
 unfold Gj
 by_cases e:k=ss.length
 ·subst e
  simp
 ·rw[if_neg e]
  have hk':k<ss.length:=by omega
  by_cases e2:k=ss.length - 1
  ·subst e2;simp[hk']
  ·rcases G3 h with e3|e3
   ·subst e3;simp at hk'
   ·simpa [List.getElem?_set,e2]using e3
structure Pg (l:List UInt8)(kd:Int)(ss:List (Option (List UInt8))):Prop where
 len:l.length=512
 kind:Er l=kd
 slots:Av l=ss
 right:Ag0 l=true
 trim:A8 ss=ss
 cost:Cd ss≤496
 k0:0≤kd
 k1:kd<256
theorem Pg.made (kd:Int)(h0:0≤kd)(h1:kd<256)(ss:List (Option (List UInt8)))(hc:Cd ss≤496):Pg (Em kd ss) kd (A8 ss):=
 ⟨Fj _ _ (by have:=Ga ss;unfold Cd at *;omega),Aej kd h0 h1 ss hc,Zi kd ss hc,Zj kd ss hc,Ael ss,by have:=Ga ss;omega,h0,h1⟩
theorem Pg.new (k:Int):Pg (Fo k) (k % 256) []:=Pg.made (k % 256) (by omega) (by omega) [] (by simp[Cd,lens])
theorem Pg.put {l:List UInt8}{kd:Int}{ss:List (Option (List UInt8))}(h:Pg l kd ss)(k:Nat)(hk:k≤ss.length)(r:List UInt8)(h1:r.length≤400)(h2:Cd (Gj ss k r)≤496):
 (Dk (Er l) (Av l) k r).2=true∧Pg (Dk (Er l) (Av l) k r).1 kd (Gj ss k r):=by
 rw[h.kind,h.slots]
 unfold Dk
 rw[if_neg (by omega)]
 refine⟨rfl,?_⟩
 have:=Pg.made kd h.k0 h.k1 (Gj ss k r) h2
 rwa [Aem h.trim k hk r]at this
theorem Pg.put_not {l:List UInt8}{kd:Int}{ss:List (Option (List UInt8))}(h:Pg l kd ss)(k:Nat)(r:List UInt8)(h1:400<r.length∨496<Cd (Gj ss k r)):
 Dk (Er l) (Av l) k r=(Ah,false):=by
 rw[h.kind,h.slots]
 unfold Dk
 rw[if_pos h1]
theorem Pg.add {l:List UInt8}{kd:Int}{ss:List (Option (List UInt8))}(h:Pg l kd ss)(r:List UInt8)(h1:r.length≤400)(h2:Cd (Gj ss (Db ss) r)≤496):
 (Hg l r).2.1=Db ss∧(Hg l r).2.2=true∧Pg (Hg l r).1 kd (Gj ss (Db ss) r):=by
 have:=h.put (Db ss) (N2 ss) r h1 h2
 rw[h.slots]at this
 unfold Hg
 simp only[h.slots,this.1,if_true,true_and]
 exact this.2
theorem Pg.add_not {l:List UInt8}{kd:Int}{ss:List (Option (List UInt8))}(h:Pg l kd ss)(r:List UInt8)(h1:400<r.length∨496<Cd (Gj ss (Db ss) r)):Hg l r=(Ah,0,false):=by
 have:=h.put_not (Db ss) r h1
 rw[h.slots]at this
 unfold Hg
 simp[h.slots,this]
theorem Pg.get {l:List UInt8}{kd:Int}{ss:List (Option (List UInt8))}(h:Pg l kd ss)(k:Int):I3 l k=if k<0 then none else ss.getD k.toNat none:=by
 unfold I3;rw[h.slots]
end Go.Proofs.YtpoigihfeehehaaGreatDoor
