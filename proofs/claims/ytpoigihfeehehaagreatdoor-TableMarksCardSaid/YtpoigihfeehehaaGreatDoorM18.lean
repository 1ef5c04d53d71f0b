/- Steps over pages in variables; what a page is, as a kind and slots. -/
import Derived.Test.YtpoigihfeehehaaGreatDoorM17
import Derived.Deep.WholeRow
set_option linter.all false
set_option maxRecDepth 100000
set_option maxHeartbeats 32000000
namespace Go.Proofs.YtpoigihfeehehaaGreatDoor
open Go.RowKit
section
variable {ops:Array Oper} {rest:List Oper} {o:Oper} {a:Act} {w:World} {Q:Exit→Act→World→Prop}
end
theorem Gy {w:World}{g:Nat}{b:Obj}(o:Obj)(h:w.heap[g]? =some b):(w.alloc o).heap[g]? =some b:=
 (Below.heap_alloc w o g (QU.1 h).1).trans h
theorem D2.new (w:World)(r:List UInt8)(c:Nat)(t:TypeId)(fr:Nat×Nat):D2 (w.alloc (.cells (Ae r) t fr)) (.slice (some ⟨w.heap.size,0,none⟩) r.length c) r:=
 Src.at fun j u hj=>by rw[cell_of_row _ w.heap.size (0+j) _ _ _ (heap_alloc_new w _)];simpa using hj
theorem D2.cells {w:World}{b off n c:Nat}{r:List UInt8}(h:D2 w (.slice (some ⟨b,off,none⟩) n c) r)(j:Nat)(hj:j<r.length):w.cell? ⟨b,off+j,none⟩=some (.int .u8 (r.getD j 0).toNat):=by
 obtain⟨ao,c',he,hc⟩:=h
 simp only[Value.slice.injEq]at he
 obtain⟨rfl,_,rfl⟩:=he
 rcases hc with⟨h1,_⟩|⟨ad,h1,h2⟩
 ·cases h1
 ·obtain rfl:ad=⟨b,off,none⟩:=by simpa using h1.symm
  have:=h2 j _ (Dg r j hj)
  rwa [Addr.add_lit]at this
theorem Rec.bytes {w:World}{base:Nat}{v:Value}{r:List UInt8}(h:Rec w base v (some r)):D2 w v r:=by
 obtain⟨⟨h1,h2⟩,g,cap,rfl⟩:=h
 rcases h2 with⟨h3,_⟩|⟨g',cap',cur,h3,_,hh,_,_,_,ht⟩
 ·simp at h3
 ·simp only[Value.slice.injEq,QB,Addr.mk.injEq,and_true,true_and]at h3
  obtain⟨rfl,rfl⟩:=h3
  refine Src.at fun j u hj=> ?_
  rw[← ht,QT]at hj
  split at hj
  ·rw[cell_of_row _ g (0+j) _ _ _ hh];simpa using hj
  ·cases hj
theorem D2.nil (w:World):D2 w (.slice none 0 0) []:=Src.nil w
theorem Aex {ss:List (Option (List UInt8))}(h:ss.getD (ss.length - 1) none≠none):A4 ss=ss:=by
 have:=H8 ss ss.length (QH _) (fun i hi=>by simp[ZG hi]) (.inr h)
 rwa [ZS]at this
theorem Gz:∀ {ss:List (Option (List UInt8))},A4 ss=ss→ss=[]∨ss.getD (ss.length - 1) none≠none
 |[],_=>.inl rfl
 |none::r,h=>by
  unfold A4 at h
  split at h
  ·cases h
  ·rename_i hne
   have hr:A4 r=r:=by simpa using h
   rcases Gz hr with e|e
   ·subst e;exact absurd rfl hne
   ·right
    have hl:r.length≠0:=by intro e0;rw[XF e0]at e;simp at e
    rw[show (none::r).length - 1=(r.length - 1)+1 by simp;omega]
    simpa using e
 |some x::r,h=>by
  right
  have hr:A4 r=r:=by simpa [A4]using h
  rcases Gz hr with e|e
  ·subst e;simp
  ·have hl:r.length≠0:=by intro e0;rw[XF e0]at e;simp at e
   rw[show (some x::r).length - 1=(r.length - 1)+1 by simp;omega]
   simpa using e
theorem Aey (ss:List (Option (List UInt8))):A4 (A4 ss)=A4 ss:=by
 induction ss with
 |nil=>rfl
 |cons o r ih=>
  cases o with
  |none=>
   rw[show A4 (none::r)=if A4 r=[]then []else none::A4 r from rfl]
   by_cases h:A4 r=[]
   ·rw[if_pos h];rfl
   ·rw[if_neg h,show A4 (none::A4 r)=if A4 (A4 r)=[]then []else none::A4 (A4 r) from rfl,ih,if_neg h]
  |some x=>simp[A4,ih]
theorem Aez {ss:List (Option (List UInt8))}(h:A4 ss=ss)(k:Nat)(hk:k≤ss.length)(r:List UInt8):A4 (Gi ss k r)=Gi ss k r:=by
 apply Aex
 unfold Gi
 by_cases e:k=ss.length
 ·subst e
  simp
 ·rw[if_neg e]
  have hk':k<ss.length:=by omega
  by_cases e2:k=ss.length - 1
  ·subst e2;simp[hk']
  ·rcases Gz h with e3|e3
   ·subst e3;simp at hk'
   ·simpa [QW,e2]using e3
structure Pg (l:List UInt8)(kd:Int)(ss:List (Option (List UInt8))):Prop where
 len:l.length=512
 kind:Eo l=kd
 slots:Au l=ss
 right:Ahd l=true
 trim:A4 ss=ss
 cost:B9 ss≤496
 k0:0≤kd
 k1:kd<256
theorem Pg.made (kd:Int)(h0:0≤kd)(h1:kd<256)(ss:List (Option (List UInt8)))(hc:B9 ss≤496):Pg (Ek kd ss) kd (A4 ss):=
 ⟨Ff _ _ (by have:=F7 ss;unfold B9 at *;omega),Aew kd h0 h1 ss hc,Zp kd ss hc,Zq kd ss hc,Aey ss,by have:=F7 ss;omega,h0,h1⟩
theorem Pg.new (k:Int):Pg (Fg k) (k % 256) []:=Pg.made (k % 256) (by omega) (by omega) [] (by simp[B9,lens])
theorem Pg.put {l:List UInt8}{kd:Int}{ss:List (Option (List UInt8))}(h:Pg l kd ss)(k:Nat)(hk:k≤ss.length)(r:List UInt8)(h1:r.length≤400)(h2:B9 (Gi ss k r)≤496):
 (Di (Eo l) (Au l) k r).2=true∧Pg (Di (Eo l) (Au l) k r).1 kd (Gi ss k r):=by
 rw[h.kind,h.slots]
 unfold Di
 rw[if_neg (by omega)]
 refine⟨rfl,?_⟩
 have:=Pg.made kd h.k0 h.k1 (Gi ss k r) h2
 rwa [Aez h.trim k hk r]at this
theorem Pg.put_not {l:List UInt8}{kd:Int}{ss:List (Option (List UInt8))}(h:Pg l kd ss)(k:Nat)(r:List UInt8)(h1:400<r.length∨496<B9 (Gi ss k r)):
 Di (Eo l) (Au l) k r=(Ah,false):=by
 rw[h.kind,h.slots]
 unfold Di
 rw[if_pos h1]
theorem Pg.add {l:List UInt8}{kd:Int}{ss:List (Option (List UInt8))}(h:Pg l kd ss)(r:List UInt8)(h1:r.length≤400)(h2:B9 (Gi ss (C8 ss) r)≤496):
 (He l r).2.1=C8 ss∧(He l r).2.2=true∧Pg (He l r).1 kd (Gi ss (C8 ss) r):=by
 have:=h.put (C8 ss) (N3 ss) r h1 h2
 rw[h.slots]at this
 unfold He
 simp only[h.slots,this.1,if_true,true_and]
 exact this.2
theorem Pg.add_not {l:List UInt8}{kd:Int}{ss:List (Option (List UInt8))}(h:Pg l kd ss)(r:List UInt8)(h1:400<r.length∨496<B9 (Gi ss (C8 ss) r)):He l r=(Ah,0,false):=by
 have:=h.put_not (C8 ss) r h1
 rw[h.slots]at this
 unfold He
 simp[h.slots,this]
theorem Pg.get {l:List UInt8}{kd:Int}{ss:List (Option (List UInt8))}(h:Pg l kd ss)(k:Int):Ip l k=if k<0 then none else ss.getD k.toNat none:=by
 unfold Ip;rw[h.slots]
