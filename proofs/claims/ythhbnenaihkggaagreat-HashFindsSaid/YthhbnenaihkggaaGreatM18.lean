/- The plain law of pages: what was put in a page is read out of it again. Steps over pages in variables; what a page is, as a kind and slots. -/
import Derived.Test.YthhbnenaihkggaaGreatM17
import Derived.Deep.WholeRow
set_option linter.unusedSimpArgs false
set_option linter.unusedVariables false
set_option linter.defProp false
set_option maxRecDepth 100000
set_option maxHeartbeats 32000000
namespace Go.Proofs.YthhbnenaihkggaaGreat
theorem getD_set (l:List UInt8)(i j:Nat)(x:UInt8):(l.set i x).getD j 0=if i=j∧j<l.length then x else l.getD j 0:=by
 simp only[List.getD_eq_getElem?_getD,List.getElem?_set]
 by_cases h:i=j
 ·subst h
  by_cases h2:i<l.length
  ·simp[h2]
  ·simp[h2]
 ·simp[h]
theorem getD_splice (p r:List UInt8)(e j:Nat)(h:e+r.length≤p.length):(splice p e r).getD j 0=if e≤j∧j<e+r.length then r.getD (j - e) 0 else p.getD j 0:=by
 simp only[splice,List.getD_eq_getElem?_getD]
 by_cases h1:j<e
 ·rw[List.getElem?_append_left (by simp;omega),if_neg (by omega),List.getElem?_take,if_pos h1]
 ·rw[List.getElem?_append_right (by simp;omega)]
  have e1:(p.take e).length=e:=by simp;omega
  rw[e1]
  by_cases h2:j<e+r.length
  ·rw[List.getElem?_append_left (by omega),if_pos ⟨by omega,h2⟩]
  ·rw[List.getElem?_append_right (by omega),if_neg (by omega),List.getElem?_drop]
   congr 2
   omega
theorem getD_writeRec (p r:List UInt8)(i e j:Nat)(h:e+r.length≤p.length)(hi:6+4*i+3<p.length):(writeRec p i e r).getD j 0=
 if j=6+4*i+3 then toB (((r.length:Int)+1) / 256)else if j=6+4*i+2 then toB (r.length+1)else if j=6+4*i+1 then toB ((e:Int) / 256)else if j=6+4*i then toB e
 else if e≤j∧j<e+r.length then r.getD (j - e) 0 else p.getD j 0:=by
 unfold writeRec
 have hl:=length_splice p e r h
 rw[getD_set,getD_set,getD_set,getD_set,getD_splice _ _ _ _ h]
 simp only[List.length_set,hl]
 by_cases h3:j=6+4*i+3
 ·rw[if_pos ⟨h3.symm,by omega⟩,if_pos h3]
 ·rw[if_neg (by omega),if_neg h3]
  by_cases h2:j=6+4*i+2
  ·rw[if_pos ⟨h2.symm,by omega⟩,if_pos h2]
  ·rw[if_neg (by omega),if_neg h2]
   by_cases h1:j=6+4*i+1
   ·rw[if_pos ⟨h1.symm,by omega⟩,if_pos h1]
   ·rw[if_neg (by omega),if_neg h1]
    by_cases h0:j=6+4*i
    ·rw[if_pos ⟨h0.symm,by omega⟩,if_pos h0]
    ·rw[if_neg (by omega),if_neg h0]
theorem toNat_toB (x:Int)(_h:0≤x):(toB x).toNat=(x % 256).toNat:=by
 unfold toB
 rw[UInt8.toNat_ofNat']
 omega
theorem two_toB (e:Nat)(h:e≤65535):(toB (e:Int)).toNat+256*(toB ((e:Int) / 256)).toNat=e:=by
 rw[toNat_toB _ (by omega),toNat_toB _ (by omega)]
 omega
structure Filled (ts:List (Option (List UInt8)))(n:Nat)(kd:Int)(k:Nat)(p:List UInt8)(E:Nat):Prop where
 len:p.length=512
 kind:p.getD 4 0=toB kd
 count:p.getD 5 0=toB n
 zero:∀ j,6+4*k≤j→j<6+4*n→p.getD j 0=0
 none:∀ i,i<k→ts.getD i none=none→two p (6+4*i+2)=0
 some:∀ i r,i<k→ts.getD i Option.none=Option.some r→∃ e,E≤e∧e+r.length≤512∧two p (6+4*i)=e∧two p (6+4*i+2)=r.length+1∧∀ j,j<r.length→p.getD (e+j) 0=r.getD j 0
theorem getD_zeroPage (j:Nat):zeroPage.getD j 0=0:=by
 unfold zeroPage
 simp only[List.getD_eq_getElem?_getD,List.getElem?_replicate]
 split<;>simp
theorem filled (kd:Int)(ts:List (Option (List UInt8)))(hc:costL ts≤496)(k:Nat)(hk:k≤ts.length):
 Filled ts ts.length kd k (fillTo ts ((zeroPage.set 4 (toB kd)).set 5 (toB ts.length)) k).1 (512 - lens (ts.take k)):=by
 have hc':4*ts.length+lens ts≤496:=hc
 induction k with
 |zero=>
  refine⟨by simp[fillTo,length_zeroPage],?_,?_,?_,fun i hi=>absurd hi (by omega),fun i r hi=>absurd hi (by omega)⟩
  ·simp only[fillTo];rw[getD_set,getD_set];simp[length_zeroPage]
  ·simp only[fillTo];rw[getD_set];simp[length_zeroPage]
  ·intro j h1 h2
   simp only[fillTo]
   rw[getD_set,if_neg (by omega),getD_set,if_neg (by omega),getD_zeroPage]
 |succ k ih=>
  have F:=ih (by omega)
  have h1:=lens_take_succ ts k (by omega)
  have h2:=lens_take_le ts (k+1)
  have hE:=fillTo_end ts ((zeroPage.set 4 (toB kd)).set 5 (toB ts.length)) k (by omega) (by omega)
  unfold fillTo
  cases ho:ts.getD k none with
  |none=>
   rw[ho]at h1
   simp only[recLen,Nat.add_zero]at h1
   simp only
   rw[h1]
   refine⟨F.len,F.kind,F.count,fun j a b=>F.zero j (by omega) b,fun i hi hn=> ?_,fun i r hi hn=> ?_⟩
   ·by_cases e:i=k
    ·subst e
     unfold two
     rw[F.zero _ (by omega) (by omega),F.zero _ (by omega) (by omega)]
     rfl
    ·exact F.none i (by omega) hn
   ·by_cases e:i=k
    ·subst e;rw[ho]at hn;cases hn
    ·exact F.some i r (by omega) hn
  |some r=>
   rw[ho]at h1
   simp only[recLen]at h1
   simp only
   rw[hE]
   have hE':512 - lens (ts.take k) - r.length=512 - lens (ts.take (k+1)):=by omega
   rw[hE']
   generalize hp:(fillTo ts ((zeroPage.set 4 (toB kd)).set 5 (toB ts.length)) k).1=p at*
   obtain⟨E,hEE⟩:∃ E,E=512 - lens (ts.take (k+1)):=⟨_,rfl⟩
   rw[← hEE]
   have hfit:E+r.length≤p.length:=by rw[F.len];omega
   have hrow:6+4*k+3<p.length:=by rw[F.len];omega
   have hEn:6+4*ts.length≤E:=by omega
   have hEk:E+r.length=512 - lens (ts.take k):=by omega
   have G:=fun j=>getD_writeRec p r k E j hfit hrow
   have same:∀ j,(j<6+4*k∨(6+4*k+4≤j∧j<E)∨E+r.length≤j)→(writeRec p k E r).getD j 0=p.getD j 0:=fun j hj=>by
    rw[G j,if_neg (by omega),if_neg (by omega),if_neg (by omega),if_neg (by omega),if_neg (by omega)]
   refine⟨by rw[length_writeRec _ _ _ _ hfit,F.len],by rw[same 4 (by omega),F.kind],by rw[same 5 (by omega),F.count],fun j a b=>by rw[same j (by omega),F.zero j (by omega) b],fun i hi hn=> ?_,fun i r' hi hn=> ?_⟩
   ·have e:i≠k:=fun e=>by subst e;rw[ho]at hn;cases hn
    unfold two
    rw[same _ (by omega),same _ (by omega)]
    exact F.none i (by omega) hn
   ·by_cases e:i=k
    ·subst e
     rw[ho]at hn
     obtain rfl:r=r':=by simpa using hn
     refine⟨E,Nat.le_refl _,by omega,?_,?_,?_⟩
     ·unfold two
      rw[G,G,if_neg (by omega),if_neg (by omega),if_neg (by omega),if_pos rfl,if_neg (by omega),if_neg (by omega),if_pos rfl]
      exact two_toB E (by omega)
     ·unfold two
      rw[G,G,if_neg (by omega),if_pos rfl,if_pos rfl]
      have:=two_toB (r.length+1) (by omega)
      simpa using this
     ·intro j hj
      rw[G,if_neg (by omega),if_neg (by omega),if_neg (by omega),if_neg (by omega),if_pos (by omega)]
      congr 1
      omega
    ·obtain⟨e',g1,g2,g3,g4,g5⟩:=F.some i r' (by omega) hn
     refine⟨e',by omega,g2,?_,?_,fun j hj=>by rw[same _ (by omega)];exact g5 j hj⟩
     ·unfold two at*
      rw[same _ (by omega),same _ (by omega)];exact g3
     ·unfold two at*
      rw[same _ (by omega),same _ (by omega)];exact g4
theorem slotL_of_filled {ts:List (Option (List UInt8))}{n k E:Nat}{kd:Int}{p:List UInt8}(F:Filled ts n kd k p E)(hE:6≤E)(i:Nat)(hi:i<k):slotL p i=ts.getD i none:=by
 unfold slotL
 cases ho:ts.getD i none with
 |none=>rw[F.none i hi ho];simp[slotAt]
 |some r=>
  obtain⟨e,g1,g2,g3,g4,g5⟩:=F.some i r hi ho
  rw[g3,g4]
  unfold slotAt
  rw[if_neg (by omega)]
  congr 1
  apply List.ext_getElem?
  intro j
  rw[List.getElem?_take]
  by_cases hj:j<r.length
  ·rw[if_pos (by omega),List.getElem?_drop]
   have:=g5 j hj
   have hlt:e+j<p.length:=by rw[F.len];omega
   simp only[List.getD_eq_getElem?_getD,List.getElem?_eq_getElem hlt,List.getElem?_eq_getElem hj,Option.getD_some]at this
   rw[List.getElem?_eq_getElem hlt,List.getElem?_eq_getElem hj,this]
  ·rw[if_neg (by omega),List.getElem?_eq_none (by omega)]
theorem slotL_sealL (p:List UInt8)(i:Nat):slotL (sealL p) i=slotL p i:=by
 have e:∀ j,4≤j→two (sealL p) j=two p j:=fun j hj=>by unfold two;rw[get_sealL p j hj,get_sealL p (j+1) (by omega)]
 unfold slotL
 rw[e _ (by omega),e _ (by omega)]
 unfold slotAt
 split
 ·rfl
 ·rename_i h
  have hd:∀ F,4≤F→(sealL p).drop F=p.drop F:=fun F hF=>by
   have:=congrArg (List.drop (F - 4)) (drop_sealL p)
   rw[List.drop_drop,List.drop_drop]at this
   rw[show 4+(F - 4)=F by omega]at this
   exact this
  rw[hd _ (by omega)]
theorem costL_trim (ss:List (Option (List UInt8))):costL (trimL ss)≤costL ss:=by
 have h1:=lens_trim_le ss
 have h2:(trimL ss).length≤ss.length:=by
  clear h1
  induction ss with
  |nil=>simp[trimL]
  |cons o r ih=>
   cases o with
   |none=>unfold trimL;split<;>simp<;>omega
   |some x=>simp[trimL];omega
 unfold costL
 omega
theorem slotsL_made (kd:Int)(ss:List (Option (List UInt8)))(hc:costL ss≤496):slotsL (madeL kd ss)=trimL ss:=by
 have hc':=costL_trim ss
 have F:=filled kd (trimL ss) (by omega) (trimL ss).length (Nat.le_refl _)
 have hlen:(trimL ss).length≤124:=by unfold costL at *;omega
 rw[List.take_length]at F
 have hn:((madeL kd ss).getD 5 0).toNat=(trimL ss).length:=by
  unfold madeL
  rw[get_sealL _ 5 (by omega)]
  rw[show fillL kd (trimL ss)=(fillTo (trimL ss) ((zeroPage.set 4 (toB kd)).set 5 (toB (trimL ss).length)) (trimL ss).length).1 from rfl,F.count,toNat_toB _ (by omega)]
  omega
 unfold slotsL
 rw[hn,show min (trimL ss).length 124=(trimL ss).length by omega]
 apply List.ext_getElem?
 intro i
 rw[List.getElem?_map]
 by_cases hi:i<(trimL ss).length
 ·rw[List.getElem?_range hi,List.getElem?_eq_getElem hi,Option.map_some]
  congr 1
  unfold madeL
  rw[slotL_sealL,show fillL kd (trimL ss)=(fillTo (trimL ss) ((zeroPage.set 4 (toB kd)).set 5 (toB (trimL ss).length)) (trimL ss).length).1 from rfl,
   slotL_of_filled F (by have:=lens_trim_le ss;unfold costL at *;omega) i hi]
  simp[hi]
 ·rw[List.getElem?_eq_none (by simpa using hi),List.getElem?_eq_none (by omega)]
  rfl
theorem kindL_made (kd:Int)(h0:0≤kd)(h1:kd<256)(ss:List (Option (List UInt8)))(hc:costL ss≤496):kindL (madeL kd ss)=kd:=by
 have hc':=costL_trim ss
 have F:=filled kd (trimL ss) (by omega) (trimL ss).length (Nat.le_refl _)
 unfold kindL madeL
 rw[get_sealL _ 4 (by omega),show fillL kd (trimL ss)=(fillTo (trimL ss) ((zeroPage.set 4 (toB kd)).set 5 (toB (trimL ss).length)) (trimL ss).length).1 from rfl,F.kind,toNat_toB _ h0]
 omega
theorem rightL_made (kd:Int)(ss:List (Option (List UInt8)))(hc:costL ss≤496):rightL (madeL kd ss)=true:=by
 have hc':=costL_trim ss
 have F:=filled kd (trimL ss) (by omega) (trimL ss).length (Nat.le_refl _)
 unfold rightL madeL
 rw[sealL_sealL _ (by exact F.len)]
 simp
end Go.Proofs.YthhbnenaihkggaaGreat
namespace Go.Proofs.YthhbnenaihkggaaGreat
open Go.RowKit
section
variable {ops:Array Oper} {rest:List Oper} {o:Oper} {a:Act} {w:World} {Q:Exit→Act→World→Prop}
end
theorem heap_alloc_lt {w:World}{g:Nat}{b:Obj}(o:Obj)(h:w.heap[g]? =some b):(w.alloc o).heap[g]? =some b:=
 (Below.heap_alloc w o g (Array.getElem?_eq_some_iff.1 h).1).trans h
theorem ByteS.new (w:World)(r:List UInt8)(c:Nat)(t:TypeId)(fr:Nat×Nat):ByteS (w.alloc (.cells (bytesA r) t fr)) (.slice (some ⟨w.heap.size,0,none⟩) r.length c) r:=
 Src.at fun j u hj=>by rw[cell_of_row _ w.heap.size (0+j) _ _ _ (heap_alloc_new w _)];simpa using hj
theorem ByteS.cells {w:World}{b off n c:Nat}{r:List UInt8}(h:ByteS w (.slice (some ⟨b,off,none⟩) n c) r)(j:Nat)(hj:j<r.length):w.cell? ⟨b,off+j,none⟩=some (.int .u8 (r.getD j 0).toNat):=by
 obtain⟨ao,c',he,hc⟩:=h
 simp only[Value.slice.injEq]at he
 obtain⟨rfl,_,rfl⟩:=he
 rcases hc with⟨h1,_⟩|⟨ad,h1,h2⟩
 ·cases h1
 ·obtain rfl:ad=⟨b,off,none⟩:=by simpa using h1.symm
  have:=h2 j _ (get_bytesL r j hj)
  rwa [Addr.add_lit]at this
theorem Rec.bytes {w:World}{base:Nat}{v:Value}{r:List UInt8}(h:Rec w base v (some r)):ByteS w v r:=by
 obtain⟨⟨h1,h2⟩,g,cap,rfl⟩:=h
 rcases h2 with⟨h3,_⟩|⟨g',cap',cur,h3,_,hh,_,_,_,ht⟩
 ·simp at h3
 ·simp only[Value.slice.injEq,Option.some.injEq,Addr.mk.injEq,and_true,true_and]at h3
  obtain⟨rfl,rfl⟩:=h3
  refine Src.at fun j u hj=> ?_
  rw[← ht,List.getElem?_take]at hj
  split at hj
  ·rw[cell_of_row _ g (0+j) _ _ _ hh];simpa using hj
  ·cases hj
theorem ByteS.nil (w:World):ByteS w (.slice none 0 0) []:=Src.nil w
theorem trimL_last {ss:List (Option (List UInt8))}(h:ss.getD (ss.length - 1) none≠none):trimL ss=ss:=by
 have:=trimL_eq ss ss.length (Nat.le_refl _) (fun i hi=>by simp[List.getElem?_eq_none hi]) (.inr h)
 rwa [List.take_length]at this
theorem last_of_trimL:∀ {ss:List (Option (List UInt8))},trimL ss=ss→ss=[]∨ss.getD (ss.length - 1) none≠none
 |[],_=>.inl rfl
 |none::r,h=>by
  unfold trimL at h
  split at h
  ·cases h
  ·rename_i hne
   have hr:trimL r=r:=by simpa using h
   rcases last_of_trimL hr with e|e
   ·subst e;exact absurd rfl hne
   ·right
    have hl:r.length≠0:=by intro e0;rw[List.eq_nil_of_length_eq_zero e0]at e;simp at e
    rw[show (none::r).length - 1=(r.length - 1)+1 by simp;omega]
    simpa using e
 |some x::r,h=>by
  right
  have hr:trimL r=r:=by simpa [trimL]using h
  rcases last_of_trimL hr with e|e
  ·subst e;simp
  ·have hl:r.length≠0:=by intro e0;rw[List.eq_nil_of_length_eq_zero e0]at e;simp at e
   rw[show (some x::r).length - 1=(r.length - 1)+1 by simp;omega]
   simpa using e
theorem trimL_idem (ss:List (Option (List UInt8))):trimL (trimL ss)=trimL ss:=by
 induction ss with
 |nil=>rfl
 |cons o r ih=>
  cases o with
  |none=>
   rw[show trimL (none::r)=if trimL r=[]then []else none::trimL r from rfl]
   by_cases h:trimL r=[]
   ·rw[if_pos h];rfl
   ·rw[if_neg h,show trimL (none::trimL r)=if trimL (trimL r)=[]then []else none::trimL (trimL r) from rfl,ih,if_neg h]
  |some x=>simp[trimL,ih]
theorem trimL_putL {ss:List (Option (List UInt8))}(h:trimL ss=ss)(k:Nat)(hk:k≤ss.length)(r:List UInt8):trimL (putL ss k r)=putL ss k r:=by
 apply trimL_last
 unfold putL
 by_cases e:k=ss.length
 ·subst e
  simp
 ·rw[if_neg e]
  have hk':k<ss.length:=by omega
  by_cases e2:k=ss.length - 1
  ·subst e2;simp[List.getElem?_set,hk']
  ·rcases last_of_trimL h with e3|e3
   ·subst e3;simp at hk'
   ·simpa [List.getElem?_set,e2]using e3
structure Pg (l:List UInt8)(kd:Int)(ss:List (Option (List UInt8))):Prop where
 len:l.length=512
 kind:kindL l=kd
 slots:slotsL l=ss
 right:rightL l=true
 trim:trimL ss=ss
 cost:costL ss≤496
 k0:0≤kd
 k1:kd<256
theorem Pg.made (kd:Int)(h0:0≤kd)(h1:kd<256)(ss:List (Option (List UInt8)))(hc:costL ss≤496):Pg (madeL kd ss) kd (trimL ss):=
 ⟨length_madeL _ _ (by have:=costL_trim ss;unfold costL at *;omega),kindL_made kd h0 h1 ss hc,slotsL_made kd ss hc,rightL_made kd ss hc,trimL_idem ss,by have:=costL_trim ss;omega,h0,h1⟩
theorem Pg.new (k:Int):Pg (newL k) (k % 256) []:=Pg.made (k % 256) (by omega) (by omega) [] (by simp[costL,lens])
theorem Pg.put {l:List UInt8}{kd:Int}{ss:List (Option (List UInt8))}(h:Pg l kd ss)(k:Nat)(hk:k≤ss.length)(r:List UInt8)(h1:r.length≤400)(h2:costL (putL ss k r)≤496):
 (putPage (kindL l) (slotsL l) k r).2=true∧Pg (putPage (kindL l) (slotsL l) k r).1 kd (putL ss k r):=by
 rw[h.kind,h.slots]
 unfold putPage
 rw[if_neg (by omega)]
 refine⟨rfl,?_⟩
 have:=Pg.made kd h.k0 h.k1 (putL ss k r) h2
 rwa [trimL_putL h.trim k hk r]at this
theorem Pg.put_not {l:List UInt8}{kd:Int}{ss:List (Option (List UInt8))}(h:Pg l kd ss)(k:Nat)(r:List UInt8)(h1:400<r.length∨496<costL (putL ss k r)):
 putPage (kindL l) (slotsL l) k r=(zeroPage,false):=by
 rw[h.kind,h.slots]
 unfold putPage
 rw[if_pos h1]
theorem Pg.add {l:List UInt8}{kd:Int}{ss:List (Option (List UInt8))}(h:Pg l kd ss)(r:List UInt8)(h1:r.length≤400)(h2:costL (putL ss (freeL ss) r)≤496):
 (addL l r).2.1=freeL ss∧(addL l r).2.2=true∧Pg (addL l r).1 kd (putL ss (freeL ss) r):=by
 have:=h.put (freeL ss) (freeL_le ss) r h1 h2
 rw[h.slots]at this
 unfold addL
 simp only[h.slots,this.1,if_true,true_and]
 exact this.2
theorem Pg.add_not {l:List UInt8}{kd:Int}{ss:List (Option (List UInt8))}(h:Pg l kd ss)(r:List UInt8)(h1:400<r.length∨496<costL (putL ss (freeL ss) r)):addL l r=(zeroPage,0,false):=by
 have:=h.put_not (freeL ss) r h1
 rw[h.slots]at this
 unfold addL
 simp[h.slots,this]
theorem Pg.get {l:List UInt8}{kd:Int}{ss:List (Option (List UInt8))}(h:Pg l kd ss)(k:Int):getL l k=if k<0 then none else ss.getD k.toNat none:=by
 unfold getL;rw[h.slots]
end Go.Proofs.YthhbnenaihkggaaGreat
