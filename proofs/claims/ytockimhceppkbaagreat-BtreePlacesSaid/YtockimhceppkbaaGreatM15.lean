/- The walk of page.made. Steps through a region that draws its order, under a condition on the world that every operation keeps. The walk of page.Right, Kind. The walks of page.New, Slots, Get, Room. The walk of page.put. -/
import Derived.Test.YtockimhceppkbaaGreatM14
import Derived.Laws.CopyOwn
import Derived.Deep.RegionHeld3
import Derived.Deep.MidRow
import Derived.Stop.BytesEq
import Derived.Deep.Cut
set_option linter.unusedSimpArgs false
set_option linter.unusedVariables false
set_option linter.defProp false
set_option maxRecDepth 100000
set_option maxHeartbeats 32000000
namespace Go.Proofs.YtockimhceppkbaaGreat
open Go.RowKit
open List (map_cons sum_cons)
def trimL {α:Type}:List (Option α)→List (Option α)
 |[]=>[]
 |none::r=>if trimL r=[]then []else none::trimL r
 |some x::r=>some x::trimL r
theorem trimL_eq {α:Type}:∀ (ss:List (Option α)) (j:Nat),j≤ss.length→(∀ i,j≤i→ss.getD i none=none)→(j=0∨ss.getD (j - 1) none≠none)→trimL ss=ss.take j
 |[],j,hj,_,_=>by simp[trimL]
 |o::r,0,_,h,_=>by
  have h0:o=none:=by simpa using h 0 (by omega)
  subst h0
  have:=trimL_eq r 0 (by omega) (fun i _=>by simpa using h (i+1) (by omega)) (.inl rfl)
  simp[trimL,this]
 |o::r,j+1,hj,h,hl=>by
  have hj':j≤r.length:=by simpa using hj
  have hr:∀ i,j≤i→r.getD i none=none:=fun i hi=>by simpa using h (i+1) (by omega)
  by_cases h0:j=0
  ·subst h0
   have ho:o≠none:=by simpa using hl
   have:=trimL_eq r 0 (by omega) hr (.inl rfl)
   cases o with
   |none=>exact absurd rfl ho
   |some x=>simp[trimL,this]
  ·have hl':r.getD (j - 1) none≠none:=by
    rcases hl with hl|hl
    ·omega
    ·have e:j+1 - 1=(j - 1)+1:=by omega
     rw[e]at hl
     simpa using hl
   have:=trimL_eq r j hj' hr (.inr hl')
   cases o with
   |none=>
    have hne:r.take j≠[]:=by
     intro e
     have:(r.take j).length=0:=by rw[e];rfl
     rw[List.length_take]at this
     omega
    simp[trimL,this,hne]
   |some x=>simp[trimL,this]
def writeRec (p:List UInt8)(i e:Nat)(r:List UInt8):List UInt8:=
 ((((splice p e r).set (6+4*i) (toB e)).set (6+4*i+1) (toB ((e:Int) / 256))).set (6+4*i+2) (toB (r.length+1))).set (6+4*i+3) (toB (((r.length:Int)+1) / 256))
def fillTo (ts:List (Option (List UInt8)))(p:List UInt8):Nat→List UInt8×Nat
 |0=>(p,512)
 |k+1=>match ts.getD k none with
  |none=>fillTo ts p k
  |some r=>(writeRec (fillTo ts p k).1 k ((fillTo ts p k).2 - r.length) r,(fillTo ts p k).2 - r.length)
def fillL (kd:Int)(ts:List (Option (List UInt8))):List UInt8:=(fillTo ts ((zeroPage.set 4 (toB kd)).set 5 (toB ts.length)) ts.length).1
def madeL (kd:Int)(ss:List (Option (List UInt8))):List UInt8:=sealL (fillL kd (trimL ss))
theorem fillTo_end (ts:List (Option (List UInt8)))(p:List UInt8)(k:Nat)(hk:k≤ts.length)(h:lens ts≤512):(fillTo ts p k).2=512 - lens (ts.take k):=by
 induction k with
 |zero=>simp[fillTo,lens]
 |succ k ih=>
  have h1:=lens_take_succ ts k (by omega)
  have h2:=lens_take_le ts (k+1)
  have h3:=ih (by omega)
  unfold fillTo
  cases ho:ts.getD k none with
  |none=>rw[ho]at h1;simp[recLen]at h1;simp only;rw[h3];omega
  |some r=>rw[ho]at h1;simp[recLen]at h1;simp only;rw[h3];omega
theorem length_writeRec (p:List UInt8)(i e:Nat)(r:List UInt8)(h:e+r.length≤p.length):(writeRec p i e r).length=p.length:=by
 simp[writeRec,length_splice _ _ _ h]
theorem length_fillTo (ts:List (Option (List UInt8)))(p:List UInt8)(hp:p.length=512)(k:Nat)(hk:k≤ts.length)(h:lens ts≤512):(fillTo ts p k).1.length=512:=by
 induction k with
 |zero=>exact hp
 |succ k ih=>
  have h3:=ih (by omega)
  have h1:=lens_take_succ ts k (by omega)
  have h2:=lens_take_le ts (k+1)
  have h4:=fillTo_end ts p k (by omega) h
  unfold fillTo
  cases ho:ts.getD k none with
  |none=>exact h3
  |some r=>
   rw[ho]at h1
   simp[recLen]at h1
   simp only
   rw[length_writeRec _ _ _ _ (by omega),h3]
theorem bytesL_splice (p r:List UInt8)(e:Nat):splice (bytesL p) e (bytesL r)=bytesL (splice p e r):=by
 simp[splice,bytesL]
theorem page_cell {w:World}{g:Nat}{l:List UInt8}(h:w.heap[g]? =some (.cells (bytesA l) 106 (0,0)))(hl:l.length=512)(k:Nat)(hk:k<512):
 w.cell? ⟨g,k,none⟩=some (.int .u8 (l.getD k 0).toNat):=by
 rw[cell_of_row w g k _ _ _ h];simpa using get_bytesL l k (by omega)
theorem page_free {w:World}{g:Nat}{l:List UInt8}(h:w.heap[g]? =some (.cells (bytesA l) 106 (0,0)))(k:Nat):w.frozen? ⟨g,k,none⟩=false:=frozen_of_row w g k _ _ h
theorem page_set {w:World}{g:Nat}{l:List UInt8}(h:w.heap[g]? =some (.cells (bytesA l) 106 (0,0)))(k:Nat)(x:Int)(h0:0≤x)(h1:x<256):
 (w.setCell ⟨g,k,none⟩ (.int .u8 x)).heap[g]? =some (.cells (bytesA (l.set k (toB x))) 106 (0,0)):=by
 rw[heap_setCell_same w g k _ _ _ h]
 unfold bytesA
 rw[← bytesL_set l k x h0 h1];simp
theorem toB_eq {x y:Int}(h:x % 256=y % 256):toB x=toB y:=by unfold toB;rw[h]
theorem slice_page_lo (g:Nat)(lo:Int)(lo':Nat)(h1:lo=lo')(h2:lo'≤512)(w:World):
 (Instr.sliceAt 106 (.pointer (some ⟨g,0,none⟩)) (some (.int .i64 lo)) none none).run Tryz.prog w= .ok (.slice (some ⟨g,if lo'=512 then 0 else lo',none⟩) (512 - lo') (512 - lo')) w:=by
 have ht:Tryz.prog.underlying 106=some (.array (Tryz.prog.arrayLen 106) (Tryz.prog.elem 106)):=by kernel_rfl
 have hn:Tryz.prog.arrayLen 106=512:=by kernel_rfl
 have hs:(sizeOf (Tryz.prog.elem 106)).run Tryz.prog w= .ok 1 w:=by kernel_rfl
 rw[run_sliceAt_array_l w 106 _ ht .i64 lo (by omega) (by rw[hn];omega),hs]
 subst h1
 simp only[Result.andThen_ok,slicedAt,hn]
 rw[Int.toNat_natCast]
 by_cases h:lo'=512
 ·subst h;simp
 ·rw[if_neg (by omega),if_neg h]
  simp[Addr.add]
  intro e;exact e.symm
def slLen:Value→Nat
 | .slice _ n _=>n
 |_=>0
theorem made_some (kd:Int)(h0:0≤kd)(h1:kd<256)(ss:List (Option (List UInt8)))(g cap base:Nat)(w:World)(hm:costL ss≤496)(hcap:ss.length≤cap)
 (hc:∀ k,k<ss.length→∃ x,w.cell? ⟨g,k,none⟩=some x∧w.frozen? ⟨g,k,none⟩=false∧Rec w base x (ss.getD k none)):
 Calls Tryz.prog 80 #[.int .u8 kd,.slice (some ⟨g,0,none⟩) ss.length cap] w fun e w'=>e= .returned (.agg (bytesA (madeL kd ss)))∧Below w.heap.size w w':=by
 have hz:=zero_page
 have hn:=eql_nil
 have hlen:ss.length≤124:=by unfold costL at hm;omega
 have HC:=Lib.hid hc;clear hc
 have HM:=Lib.hid hm;clear hm
 go_enter Tryz.func80,Tryz.ntmps80
 go_wp2_with fail
 have hW0:(((w.alloc (.cells (bytesA zeroPage) 106)).alloc (.cells (bytesA zeroPage) 106))).heap[w.heap.size]? =some (.cells (bytesA zeroPage) 106 (0,0)):=heap_alloc2_old _ _ _
 have hW1:(((w.alloc (.cells (bytesA zeroPage) 106)).alloc (.cells (bytesA zeroPage) 106))).heap[w.heap.size+1]? =some (.cells (bytesA zeroPage) 106 (0,0)):=heap_alloc2_new _ _ _
 have hWB:Below w.heap.size w (((w.alloc (.cells (bytesA zeroPage) 106)).alloc (.cells (bytesA zeroPage) 106))):=((Below.refl _ _).alloc (Nat.le_refl _) _).alloc (by simp) _
 have hWS:(((w.alloc (.cells (bytesA zeroPage) 106)).alloc (.cells (bytesA zeroPage) 106))).heap.size=w.heap.size+2:=by simp
 generalize ((w.alloc (.cells (bytesA zeroPage) 106)).alloc (.cells (bytesA zeroPage) 106))=w1 at*
 have HW0:=Lib.hid hW0;have HW1:=Lib.hid hW1;have HWB:=Lib.hid hWB;have HWS:=Lib.hid hWS
 clear hW0 hW1 hWB hWS
 go_loop [1] (fun v=>∃ j:Nat,j≤ss.length∧v= .slice (some ⟨g,0,none⟩) j cap∧∀ i,j≤i→ss.getD i none=none) (fun v=>slLen v)
 case atStart=>exact⟨ss.length,Nat.le_refl _,rfl,fun i hi=>by simp[List.getElem?_eq_none hi]⟩
 case round=>
  obtain⟨j,hj,rfl,hnone⟩:=hrel
  have HNO:=Lib.hid hnone;clear hnone
  have key:(∃ x,w1.cell? ⟨g,j - 1,none⟩=some x∧1≤j∧ss.getD (j - 1) none=none∧x= .slice none 0 0)∨(j≤0∧trimL ss=ss.take j)∨(∃ x r g' cap',w1.cell? ⟨g,j - 1,none⟩=some x∧1≤j∧x= .slice (some ⟨g',0,none⟩) r cap'∧trimL ss=ss.take j):=by
   by_cases hj0:j=0
   ·exact .inr (.inl ⟨by omega,trimL_eq ss j hj HNO.out (.inl hj0)⟩)
   ·obtain⟨x,hx,_,hrec⟩:=HC.out (j - 1) (by omega)
    have hx1:w1.cell? ⟨g,j - 1,none⟩=some x:=cell_later HWB.out hx
    rcases hrec.form with⟨ho,rfl⟩|⟨r,g',cap',ho,rfl⟩
    ·exact .inl ⟨_,hx1,by omega,ho,rfl⟩
    ·exact .inr (.inr ⟨_,_,_,_,hx1,by omega,rfl,trimL_eq ss j hj HNO.out (.inr (by rw[ho];simp))⟩)
  rcases key with⟨x,hx1,hj1,ho,rfl⟩|⟨hj0,ht⟩|⟨x,r,g',cap',hx1,hj1,rfl,ht⟩
  ·have HO:=Lib.hid ho;clear ho
   go_wp2_with fail
   go_round
   case rel=>exact⟨j - 1,by omega,by go_num,fun i hi=>by
    by_cases e:i=j - 1
    ·rw[e];exact HO.out
    ·exact HNO.out i (by omega)⟩
   case measure=>simp[slLen];omega
  all_goals
   have HT:=Lib.hid ht;clear ht
   have hc4:=page_cell HW1.out length_zeroPage 4 (by omega)
   have hc5:=page_cell HW1.out length_zeroPage 5 (by omega)
   have hf4:=page_free HW1.out 4
   have hf5:=page_free HW1.out 5
   generalize (zeroPage.getD 4 0).toNat=z4 at*
   generalize (zeroPage.getD 5 0).toNat=z5 at*
   go_wp2_with fail
   have hP0:=page_set (page_set HW1.out 4 kd h0 h1) 5 (j:Int) (by omega) (by omega)
   have hPB:Below (w.heap.size+1) w1 ((w1.setCell ⟨w.heap.size+1,4,none⟩ (.int .u8 kd)).setCell ⟨w.heap.size+1,5,none⟩ (.int .u8 (j:Int))):=((Below.refl _ _).setCell (by simp) _).setCell (by simp) _
   generalize (w1.setCell ⟨w.heap.size+1,4,none⟩ (.int .u8 kd)).setCell ⟨w.heap.size+1,5,none⟩ (.int .u8 (j:Int))=w2 at*
   have HP0:=Lib.hid hP0;have HPB:=Lib.hid hPB
   have HLP:=Lib.hid (show ((zeroPage.set 4 (toB kd)).set 5 (toB (j:Int))).length=512 by simp[length_zeroPage])
   have HLT:=Lib.hid (show (ss.take j).length=j by simp;omega)
   have HLN:=Lib.hid (show lens (ss.take j)≤496 by have:=lens_take_le ss j;have:=HM.out;unfold costL at this;omega)
   have HFL:=Lib.hid (show fillL kd (trimL ss)=(fillTo (ss.take j) ((zeroPage.set 4 (toB kd)).set 5 (toB (j:Int))) j).1 by unfold fillL;rw[HT.out,HLT.out])
   have HTG:=Lib.hid (show ∀ k,k<j→(ss.take j).getD k none=ss.getD k none from fun k hk=>by simp[hk])
   clear hP0 hPB hc4 hc5 hf4 hf5
   generalize ss.take j=ts at*
   generalize (zeroPage.set 4 (toB kd)).set 5 (toB (j:Int))=p0 at*
   go_loopw [6,36] (fun e i wr=>∃ k:Nat,k≤j∧i= .int .i64 k∧e= .int .i64 ((fillTo ts p0 k).2:Nat)∧Hid (wr.heap[w.heap.size+1]? =some (.cells (bytesA (fillTo ts p0 k).1) 106 (0,0)))∧Hid (Below (w.heap.size+1) w2 wr)) (fun _ i _=>j - (intOf i).toNat)
   case atStart=>exact⟨0,Nat.zero_le _,rfl,rfl,HP0.out,Below.refl _ _⟩
   case round=>
    obtain⟨k,hk,rfl,rfl,hpg,hbw⟩:=hrel
    have HLF:=Lib.hid (length_fillTo ts p0 HLP.out k (by rw[HLT.out];exact hk) (by have:=HLN.out;omega))
    by_cases hlt:k<j
    case neg=>
     obtain rfl:k=j:=by omega
     have HPG:=hpg;clear hpg
     rw[← HFL.out]at HPG HLF
     have HMD:=Lib.hid (show madeL kd ss=sealL (fillL kd (trimL ss)) from rfl)
     clear HFL
     generalize fillL kd (trimL ss)=q at*
     have HR0:=Lib.hid (show wr.heap[w.heap.size]? =some (.cells (bytesA zeroPage) 106 (0,0)) from ((hbw.out.block _ (by omega)).trans (HPB.out.block _ (by omega))).trans HW0.out)
     have HBA:=Lib.hid (show Below w.heap.size w wr from (HWB.out.trans (HPB.out.mono (by omega))).trans (hbw.out.mono (by omega)))
     go_wp2_with (refine wpList_load_row (P:=Tryz.prog) rfl 106 _ rfl _ rfl _ _ _ _ HPG.out Tryz.underlying106 rfl (info_page' _ HLF.out) ?_)
     refine (seal_any q _ HLF.out).mono ?_
     rintro e w4 ⟨rfl,hb4⟩
     have HLS:=Lib.hid ((length_sealL q).trans HLF.out)
     have HR4:=Lib.hid ((hb4.block _ (by have:=hbw.out.size;have:=HPB.out.size;have:=HWS.out;omega)).trans HR0.out)
     have HB4:=Lib.hid (HBA.out.trans (hb4.mono HBA.out.size))
     clear hb4
     rw[← HMD.out]at*
     generalize hmm:madeL kd ss=m at*
     have HMM:=Lib.hid hmm;clear hmm
     go_wp2_with (refine wpList_store_row (P:=Tryz.prog) rfl 106 _ _ rfl _ _ rfl rfl _ _ HR4.out (info_page' _ HLS.out) (by rw[size_bytesA,size_bytesA,HLS.out];exact length_zeroPage) (oneCell_bytesA _) ?_)
     refine bodyPost_ret (v:=.agg (bytesA m)) (results_cell_row rfl _ _ _ _ _ _ _ rfl (setRow_heap _ _ _ _ _ _ HR4.out) Tryz.underlying106 rfl (info_page' _ HLS.out)) rfl ⟨by rw[HMM.out],?_⟩
     exact HB4.out.trans (Below.setRow _ _ _ _ (Nat.le_refl _))
    all_goals (try (exfalso;omega))
    all_goals
     obtain⟨x,hx,_,hrec⟩:=HC.out k (by omega)
     have hx1:wr.cell? ⟨g,k,none⟩=some x:=by
      have h1:=cell_later HWB.out hx
      have hgb:=World.block_lt_of_cell? w _ hx
      rw[hbw.out.cell (p:=⟨g,k,none⟩) (by simp at hgb;simp;omega),HPB.out.cell (p:=⟨g,k,none⟩) (by simp at hgb;simp;omega)]
      exact h1
     clear hx
     rcases hrec.form with⟨ho,rfl⟩|⟨r,g',cap',ho,rfl⟩
     ·have HFS:=Lib.hid (show fillTo ts p0 (k+1)=fillTo ts p0 k by simp only[fillTo,HTG.out k hlt,ho])
      clear ho hrec
      go_wp2_with fail
      go_roundw
      case rel=>exact⟨k+1,by omega,by go_num,by rw[HFS.out],by rw[HFS.out];exact hpg,hbw⟩
      case measure=>simp[intOf];omega
     ·have HFS:=Lib.hid (show fillTo ts p0 (k+1)=(writeRec (fillTo ts p0 k).1 k ((fillTo ts p0 k).2 - r.length) r,(fillTo ts p0 k).2 - r.length) by simp only[fillTo,HTG.out k hlt,ho])
      have hE1:r.length≤(fillTo ts p0 k).2:=by
       have a1:=fillTo_end ts p0 k (by rw[HLT.out];omega) (by have:=HLN.out;omega)
       have a2:=lens_take_succ ts k (by rw[HLT.out];exact hlt)
       have a3:=lens_take_le ts (k+1)
       have a4:=HLN.out
       rw[HTG.out k hlt,ho]at a2
       simp only[recLen]at a2
       omega
      have hE2:(fillTo ts p0 k).2≤512:=by
       have a1:=fillTo_end ts p0 k (by rw[HLT.out];omega) (by have:=HLN.out;omega)
       omega
      have HSRC:=Lib.hid (show ∀ j v,(bytesL r)[j]? =some v→wr.cell? ((⟨g',0,none⟩:Addr).add j)=some v from fun j v hj=>by
       rw[ho]at hrec
       have h1:=hrec.1.cells (g:=g') rfl j v hj
       have hgb:=World.block_lt_of_cell? w _ h1
       rw[Addr.add_lit]at h1 hgb ⊢
       have h2:=cell_later HWB.out h1
       rw[hbw.out.cell (by simp at hgb;simp;omega),HPB.out.cell (by simp at hgb;simp;omega)]
       exact h2)
      generalize (fillTo ts p0 k).1=p at*
      generalize (fillTo ts p0 k).2=E at*
      clear ho hrec
      have hsl:=slice_page_lo (w.heap.size+1) ((E:Int) - r.length) (E - r.length) (by omega) (by omega)
      obtain⟨F',hF'⟩:∃ F',F'=if E - r.length=512 then 0 else E - r.length:=⟨_,rfl⟩
      rw[← hF']at hsl
      have HF':=Lib.hid hF';clear hF'
      have hrl:r.length≤512:=by omega
      obtain⟨q,hq⟩:∃ q,q=splice p (E - r.length) r:=⟨_,rfl⟩
      have HQ:=Lib.hid hq
      have HQL:=Lib.hid (show q.length=512 by rw[hq,length_splice _ _ _ (by rw[HLF.out];omega),HLF.out])
      have HQB:=Lib.hid (show splice (bytesL p) (E - r.length) (bytesL r)=bytesL q by rw[hq,bytesL_splice])
      clear hq
      go_wp2_with (refine wpList_copy_splice rfl (.tmp 48) (.tmp 49) 35 35 rfl 5 Tryz.underlying35 (by kernel_rfl) _ _ _ _ _ _ rfl rfl (w.heap.size+1) (E - r.length) (bytesL p) 106 hpg.out (bytesL r) (by rw[length_bytesL];show r.length=min _ _;omega) (fun hpos=>⟨by rw[length_bytesL]at hpos;rw[HF'.out,if_neg (by omega)],_,rfl,HSRC.out⟩) (by rw[length_bytesL,length_bytesL,HLF.out];omega) (oneCell_bytesL r) (w.heap.size+1) w2 hbw.out (Nat.le_refl _) ?_;intro w3 h3 hb3;rw[HQB.out]at h3;have c0:=page_cell h3.out HQL.out (6+4*k) (by omega);have c1:=page_cell h3.out HQL.out (6+4*k+1) (by omega);have c2:=page_cell h3.out HQL.out (6+4*k+2) (by omega);have c3:=page_cell h3.out HQL.out (6+4*k+3) (by omega);have f0:=page_free h3.out (6+4*k);have f1:=page_free h3.out (6+4*k+1);have f2:=page_free h3.out (6+4*k+2);have f3:=page_free h3.out (6+4*k+3))
      go_roundw
      case rel=>
       refine⟨k+1,by omega,by go_num,?_,?_,?_⟩
       ·rw[HFS.out]
        show Value.int .i64 ((E:Int) - r.length)=Value.int .i64 ((E - r.length:Nat):Int)
        rw[Int.ofNat_sub hE1]
       ·rw[HFS.out]
        have hs:=page_set (page_set (page_set (page_set h3.out (6+4*k) (((E:Int) - r.length) % 256) (by omega) (by omega)) (6+4*k+1) (((E:Int) - r.length) / 256) (by omega) (by omega)) (6+4*k+2) (((r.length:Int)+1) % 256) (by omega) (by omega)) (6+4*k+3) (((r.length:Int)+1) / 256) (by omega) (by omega)
        rw[toB_eq (show ((E:Int) - r.length) % 256 % 256=((E - r.length:Nat):Int) % 256 by omega),toB_eq (show ((E:Int) - r.length) / 256 % 256=(((E - r.length:Nat):Int) / 256) % 256 by omega),toB_eq (show ((r.length:Int)+1) % 256 % 256=((r.length:Int)+1) % 256 by omega),HQ.out]at hs
        exact hs
       ·exact (((hb3.setCell (by simp) _).setCell (by simp) _).setCell (by simp) _).setCell (by simp) _
      case measure=>simp[intOf];omega
theorem made_nil (kd:Int)(h0:0≤kd)(h1:kd<256)(w:World):
 Calls Tryz.prog 80 #[.int .u8 kd,.slice none 0 0] w fun e w'=>e= .returned (.agg (bytesA (madeL kd [])))∧Below w.heap.size w w':=by
 have hz:=zero_page
 have hc4:=get_bytesL zeroPage 4 (by rw[length_zeroPage];omega)
 have hc5:=get_bytesL zeroPage 5 (by rw[length_zeroPage];omega)
 generalize (zeroPage.getD 4 0).toNat=z4 at*
 generalize (zeroPage.getD 5 0).toNat=z5 at*
 have hg5:((bytesL zeroPage).set 4 (.int .u8 kd))[5]? =some (.int .u8 z5):=by rw[List.getElem?_set_ne (by omega)];exact hc5
 have HQ:=Lib.hid (show ((bytesL zeroPage).set 4 (.int .u8 kd)).set 5 (.int .u8 0)=bytesL (fillL kd []) by
  rw[bytesL_set _ _ _ h0 h1,bytesL_set _ _ _ (by omega) (by omega)];rfl)
 have HLF:=Lib.hid (show (fillL kd []).length=512 by simp[fillL,fillTo,length_zeroPage])
 have HMD:=Lib.hid (show madeL kd []=sealL (fillL kd []) from rfl)
 generalize fillL kd []=q at*
 go_enter Tryz.func80,Tryz.ntmps80
 go_wp2_with fail
 refine wp_loop_rounds 1 ?_
 rw[rounds_succ]
 go_wp2_with fail
 refine wp_loop_rounds 1 ?_
 rw[rounds_succ]
 rw[HQ.out]
 have HP1:=Lib.hid (heap_alloc2_new w (.cells (bytesA zeroPage) 106) (.cells (bytesA q) 106))
 have HR1:=Lib.hid (heap_alloc2_old w (.cells (bytesA zeroPage) 106) (.cells (bytesA q) 106))
 have HB1:=Lib.hid (show Below w.heap.size w ((w.alloc (.cells (bytesA zeroPage) 106)).alloc (.cells (bytesA q) 106)) from ((Below.refl _ _).alloc (Nat.le_refl _) _).alloc (by simp) _)
 have HS1:=Lib.hid (show ((w.alloc (.cells (bytesA zeroPage) 106)).alloc (.cells (bytesA q) 106)).heap.size=w.heap.size+2 from by simp)
 generalize ((w.alloc (.cells (bytesA zeroPage) 106)).alloc (.cells (bytesA q) 106))=wr at*
 go_wp2_with (refine wpList_load_row (P:=Tryz.prog) rfl 106 _ rfl _ rfl _ _ _ _ HP1.out Tryz.underlying106 rfl (info_page' _ HLF.out) ?_)
 refine (seal_any q _ HLF.out).mono ?_
 rintro e w4 ⟨rfl,hb4⟩
 have HLS:=Lib.hid ((length_sealL q).trans HLF.out)
 have HR4:=Lib.hid ((hb4.block _ (by have:=HS1.out;omega)).trans HR1.out)
 have HB4:=Lib.hid (HB1.out.trans (hb4.mono HB1.out.size))
 clear hb4
 rw[← HMD.out]at*
 generalize hmm:madeL kd []=m at*
 have HMM:=Lib.hid hmm;clear hmm
 go_wp2_with (refine wpList_store_row (P:=Tryz.prog) rfl 106 _ _ rfl _ _ rfl rfl _ _ HR4.out (info_page' _ HLS.out) (by rw[size_bytesA,size_bytesA,HLS.out];exact length_zeroPage) (oneCell_bytesA _) ?_)
 refine bodyPost_ret (v:=.agg (bytesA m)) (results_cell_row rfl _ _ _ _ _ _ _ rfl (setRow_heap _ _ _ _ _ _ HR4.out) Tryz.underlying106 rfl (info_page' _ HLS.out)) rfl ⟨by rw[HMM.out],?_⟩
 exact HB4.out.trans (Below.setRow _ _ _ _ (Nat.le_refl _))
theorem made_any (kd:Int)(h0:0≤kd)(h1:kd<256)(ss:List (Option (List UInt8)))(v:Value)(base:Nat)(w:World)(h:SlotsR w base v ss)(hm:costL ss≤496):
 Calls Tryz.prog 80 #[.int .u8 kd,v] w fun e w'=>e= .returned (.agg (bytesA (madeL kd ss)))∧Below w.heap.size w w':=by
 rcases h.cells with⟨rfl,rfl⟩|⟨g,cap,rfl,hg,hcap,hc⟩
 ·exact made_nil kd h0 h1 w
 ·exact made_some kd h0 h1 ss g cap base w hm hcap hc
theorem length_madeL (kd:Int)(ss:List (Option (List UInt8)))(hm:lens (trimL ss)≤512):(madeL kd ss).length=512:=by
 unfold madeL fillL
 rw[length_sealL,length_fillTo _ _ (by simp[length_zeroPage]) _ (Nat.le_refl _) hm]
section
variable {ops:Array Oper} {Q:Exit→Act→World→Prop} {S:World→Prop} {fuel:Nat} {listed:Array Bool} {a:Act} {w:World}
end
def rightL (l:List UInt8):Bool:=sealL l==l
def kindL (l:List UInt8):Int:=(l.getD 4 0).toNat
theorem kind_any (l:List UInt8)(w:World)(hl:l.length=512):
 Calls Tryz.prog 71 #[.agg (bytesA l)] w fun e w'=>e= .returned (.int .i64 (kindL l))∧Below w.heap.size w w':=by
 have HL:=Lib.hid hl;clear hl
 have hc:=get_bytesL l 4 (by rw[HL.out];omega)
 go_enter Tryz.func71,Tryz.ntmps71
 go_wp2_with fail
 go_ret
 exact⟨by rw[IntWalk.wrap64_in _ ⟨by omega,by have:=UInt8.toNat_lt (l.getD 4 0);simp only[List.getD_eq_getElem?_getD]at this;omega⟩];simp[kindL],(Below.refl _ _).alloc (Nat.le_refl _) _⟩
def newL (k:Int):List UInt8:=madeL (k % 256) []
theorem length_newL (k:Int):(newL k).length=512:=length_madeL _ _ (by simp[trimL,lens])
theorem new_any (k:Int)(w:World):Calls Tryz.prog 42 #[.int .i64 k] w fun e w'=>e= .returned (.agg (bytesA (newL k)))∧Below w.heap.size w w':=by
 have hz:=zero_page
 go_enter Tryz.func42,Tryz.ntmps42
 go_wp2_with fail
 refine (made_nil (k % 256) (by omega) (by omega) _).mono ?_
 rintro e w4 ⟨rfl,hb4⟩
 have HR4:=Lib.hid ((hb4.block _ (by simp)).trans (heap_alloc_new w _))
 have HLS:=Lib.hid (length_newL k)
 have HB4:=Lib.hid (((Below.refl w.heap.size w).alloc (Nat.le_refl _) _).trans (hb4.mono (by simp)))
 clear hb4
 rw[show madeL (k % 256) []=newL k from rfl]
 generalize hmm:newL k=m at*
 have HMM:=Lib.hid hmm;clear hmm
 go_wp2_with (refine wpList_store_row (P:=Tryz.prog) rfl 106 _ _ rfl _ _ rfl rfl _ _ HR4.out (info_page' _ HLS.out) (by rw[size_bytesA,size_bytesA,HLS.out];exact length_zeroPage) (oneCell_bytesA _) ?_)
 refine bodyPost_ret (v:=.agg (bytesA m)) (results_cell_row rfl _ _ _ _ _ _ _ rfl (setRow_heap _ _ _ _ _ _ HR4.out) Tryz.underlying106 rfl (info_page' _ HLS.out)) rfl ⟨by rw[HMM.out],?_⟩
 exact HB4.out.trans (Below.setRow _ _ _ _ (Nat.le_refl _))
theorem slotsL_le (l:List UInt8):(slotsL l).length≤124:=by simp[slotsL];omega
theorem SlotsR.form {w:World}{base:Nat}{v:Value}{ss:List (Option (List UInt8))}(h:SlotsR w base v ss):∃ a c,v= .slice a ss.length c:=by
 rcases h.cells with⟨rfl,rfl⟩|⟨g,cap,rfl,_⟩
 ·exact⟨_,_,rfl⟩
 ·exact⟨_,_,rfl⟩
theorem slotsLens (l:List UInt8)(h:l.length=512):lens (slotsL l)≤63488:=by
 have hm:∀ o∈(slotsL l).map recLen,o≤512:=by
  intro o ho
  simp only[slotsL,List.map_map,List.mem_map]at ho
  obtain⟨i,_,rfl⟩:=ho
  simp only[Function.comp_def,slotL,slotAt]
  split
  ·simp[recLen]
  ·simp[recLen];omega
 have hl:((slotsL l).map recLen).length≤124:=by simpa using slotsL_le l
 have gen:∀ (xs:List Nat),(∀ o∈xs,o≤512)→xs.sum≤xs.length*512:=by
  intro xs
  induction xs with
  |nil=>simp
  |cons a xs ih=>
   intro h
   have h1:=h a (by simp)
   have h2:=ih (fun o ho=>h o (by simp[ho]))
   simp only[sum_cons,List.length_cons]
   omega
 have:=gen _ hm
 unfold lens
 generalize ((slotsL l).map recLen).sum=a at*
 generalize ((slotsL l).map recLen).length=b at*
 omega
theorem nslots_any (l:List UInt8)(w:World)(hl:l.length=512):
 Calls Tryz.prog 72 #[.agg (bytesA l)] w fun e w'=>e= .returned (.int .i64 (slotsL l).length)∧Below w.heap.size w w':=by
 have HL:=Lib.hid hl;clear hl
 go_enter Tryz.func72,Tryz.ntmps72
 go_wp2_with (refine wpList_load_row (P:=Tryz.prog) rfl 106 _ rfl _ rfl _ _ _ _ (heap_alloc_new _ _) Tryz.underlying106 rfl (info_page' _ HL.out) ?_)
 refine (slots_any l _ HL.out).mono ?_
 rintro e w4 ⟨v,rfl,hs,hb⟩
 obtain⟨a,c,rfl⟩:=hs.form
 have HB:=Lib.hid (((Below.refl w.heap.size w).alloc (Nat.le_refl _) _).trans (hb.mono (by simp)))
 clear hb hs
 go_wp2_with fail
 go_ret
 exact⟨rfl,HB.out⟩
def getL (l:List UInt8)(k:Int):Option (List UInt8):=if k<0 then none else (slotsL l).getD k.toNat none
theorem get_any (l:List UInt8)(k:Int)(w:World)(hl:l.length=512):
 Calls Tryz.prog 73 #[.agg (bytesA l),.int .i64 k] w fun e w'=>∃ v,e= .returned (.tuple #[v,.bool (getL l k).isSome])∧Rec w' w.heap.size v (getL l k)∧Below w.heap.size w w':=by
 have hn:=eql_nil
 have hsl:=slotsL_le l
 have HL:=Lib.hid hl;clear hl
 go_enter Tryz.func73,Tryz.ntmps73
 go_wp2_with (refine wpList_load_row (P:=Tryz.prog) rfl 106 _ rfl _ rfl _ _ _ _ (heap_alloc_new _ _) Tryz.underlying106 rfl (info_page' _ HL.out) ?_)
 refine (slots_any l _ HL.out).mono ?_
 rintro e w4 ⟨v,rfl,hs,hb⟩
 have HG:=Lib.hid (show getL l k=if k<0 then none else (slotsL l).getD k.toNat none from rfl)
 generalize slotsL l=ss at*
 have HB:=Lib.hid (((Below.refl w.heap.size w).alloc (Nat.le_refl _) _).trans (hb.mono (by simp)))
 have HS:=Lib.hid (hs.mono (base':=w.heap.size) (by simp))
 obtain⟨a,c,rfl⟩:=hs.form
 clear hb hs
 by_cases hk0:k<0
 ·have HG2:=Lib.hid (show getL l k=none by rw[HG.out,if_pos hk0])
  go_wp2_with fail
  go_ret2
  exact⟨_,by rw[HG2.out];rfl,by rw[HG2.out];rfl,HB.out⟩
 ·obtain⟨j,rfl⟩:=Int.eq_ofNat_of_zero_le (show 0≤k by omega)
  rw[if_neg hk0,Int.toNat_natCast]at HG
  clear hk0
  by_cases hj:j<ss.length
  ·rcases HS.out.cells with⟨h1,h2⟩|⟨g,cap,h1,hg,hcap,hc⟩
   ·subst h2;simp at hj
   ·simp only[Value.slice.injEq,true_and]at h1
    obtain⟨rfl,rfl⟩:=h1
    obtain⟨x,hx,_,hrec⟩:=hc j hj
    clear hc
    rw[← HG.out]at hrec
    have HRC:=Lib.hid hrec
    rcases hrec.form with⟨ho,rfl⟩|⟨r,g',cap',ho,rfl⟩
    ·have HO:=Lib.hid ho
     clear ho hrec
     go_wp2_with fail
     go_ret2
     exact⟨_,by rw[HO.out];rfl,by rw[HO.out];rfl,HB.out⟩
    ·have HO:=Lib.hid ho
     clear ho hrec
     go_wp2_with fail
     go_ret2
     exact⟨_,by rw[HO.out];rfl,HRC.out,HB.out⟩
  ·have HG2:=Lib.hid (show getL l (j:Int)=none by rw[HG.out];simp[List.getElem?_eq_none (show ss.length≤j by omega)])
   go_wp2_with fail
   go_ret2
   exact⟨_,by rw[HG2.out];rfl,by rw[HG2.out];rfl,HB.out⟩
def ByteS (w:World)(v:Value)(r:List UInt8):Prop:=Src w v r.length (bytesL r)
theorem ByteS.form {w:World}{v:Value}{r:List UInt8}(h:ByteS w v r):∃ ao c,v= .slice ao r.length c:=by
 obtain⟨ao,c,rfl,_⟩:=h;exact⟨ao,c,rfl⟩
theorem Src.later {w w':World}{v:Value}{m:Nat}{news:List Value}(h:Src w v m news)(hb:Below w.heap.size w w'):Src w' v m news:=by
 obtain⟨ao,c,rfl,hc⟩:=h
 refine⟨ao,c,rfl,?_⟩
 rcases hc with h1|⟨ad,h1,h2⟩
 ·exact .inl h1
 ·refine .inr ⟨ad,h1,fun j u hj=> ?_⟩
  have:=h2 j u hj
  rw[hb.cell (World.block_lt_of_cell? w _ this)];exact this
theorem ByteS.later {w w':World}{v:Value}{r:List UInt8}(h:ByteS w v r)(hb:Below w.heap.size w w'):ByteS w' v r:=Src.later h hb
theorem SlotsR.store {w:World}{base g n cap:Nat}{ss:List (Option (List UInt8))}(k:Nat){x:Value}{o:Option (List UInt8)}(h:SlotsR w base (.slice (some ⟨g,0,none⟩) n cap) ss)(hx:Rec w base x o)(hk:k<ss.length):
 SlotsR (w.setCell ⟨g,k,none⟩ x) base (.slice (some ⟨g,0,none⟩) n cap) (ss.set k o):=by
 obtain⟨xs,hown,hl,hr⟩:=h
 have hn:n=ss.length:=by
  rcases hown.2 with⟨h',_⟩|⟨g',cap',cur,h',_⟩
  ·simp at h'
  ·simp only[Value.slice.injEq]at h';exact h'.2.1
 subst hn
 obtain⟨h1,h2⟩:=hown.stored k x
 have hk5:∀ (q:Nat) (cur:Array Value),w.heap[q]? =some (Obj.cells cur 5 (0,0))→(w.setCell ⟨g,k,none⟩ x).heap[q]? =w.heap[q]? :=by
  intro q cur hq
  refine h2.block q (Array.getElem?_eq_some_iff.1 hq).1 fun e=> ?_
  simp only[Option.some.injEq]at e
  subst e
  rcases hown.2 with⟨h',_⟩|⟨g',cap',cur',h',_,hh,_⟩
  ·simp at h'
  ·simp only[Value.slice.injEq,Option.some.injEq,Addr.mk.injEq,and_true,true_and]at h'
   rw[← h'.1,hq]at hh
   simp at hh
 refine⟨xs.set k x,by simpa using h1,by simpa using hl,fun j hj=> ?_⟩
 simp only[List.length_set]at hj
 by_cases e:k=j
 ·subst e
  have:=hx.kept hk5
  simpa [List.getElem?_set,hl,hk]using this
 ·have:=(hr j hj).kept hk5
  simpa [List.getElem?_set,e]using this
theorem grown_new {w w':World}{o:Obj}{a b:Nat}(hg:(w.alloc o).grownBy w' (Value.ownBlock (.slice (some ⟨w.heap.size,0,none⟩) a b))):∀ q,q<w.heap.size→w'.heap[q]? =w.heap[q]? :=fun q hq=>by
 rw[hg.block q (by simp;omega) (by simp[Value.ownBlock];omega),Below.heap_alloc _ _ _ hq]
theorem SlotsR.cellAt {w:World}{base g n cap:Nat}{ss:List (Option (List UInt8))}(h:SlotsR w base (.slice (some ⟨g,0,none⟩) n cap) ss)(k:Nat)(hk:k<ss.length):
 ∃ x,w.cell? ⟨g,k,none⟩=some x∧w.frozen? ⟨g,k,none⟩=false∧Rec w base x (ss.getD k none):=by
 rcases h.cells with⟨h1,_⟩|⟨g',cap',h1,_,_,hc⟩
 ·simp at h1
 ·simp only[Value.slice.injEq,Option.some.injEq,Addr.mk.injEq,and_true]at h1
  obtain⟨rfl,_,rfl⟩:=h1
  exact hc k hk
theorem lens_set_le (ss:List (Option (List UInt8)))(k:Nat)(o:Option (List UInt8)):lens (ss.set k o)≤lens ss+recLen o:=by
 induction ss generalizing k with
 |nil=>simp[lens]
 |cons a ss ih=>
  cases k with
  |zero=>simp[lens];omega
  |succ k=>
   have:=ih k
   simp only[lens,List.set_cons_succ,map_cons,sum_cons]at*
   omega
theorem slots_apart {w:World}{base g n cap q:Nat}{ss:List (Option (List UInt8))}{cs:Array Value}(h:SlotsR w base (.slice (some ⟨g,0,none⟩) n cap) ss)(hq:w.heap[q]? =some (.cells cs 106 (0,0))):q≠g:=by
 intro e
 subst e
 obtain⟨xs,hown,_⟩:=h
 rcases hown.2 with⟨h',_⟩|⟨g',cap',cur',h',_,hh,_⟩
 ·simp at h'
 ·simp only[Value.slice.injEq,Option.some.injEq,Addr.mk.injEq,and_true,true_and]at h'
  rw[← h'.1,hq]at hh
  simp at hh
theorem lens_trim_le:∀ (ss:List (Option (List UInt8))),lens (trimL ss)≤lens ss
 |[]=>by simp[trimL]
 |none::r=>by
  have:=lens_trim_le r
  unfold trimL
  split
  ·simp[lens]
  ·simp only[lens,map_cons,sum_cons]at *;omega
 |some x::r=>by
  have:=lens_trim_le r
  simp only[trimL,lens,map_cons,sum_cons]at *;omega
theorem results_page2 {fn:Func}{p u:Tmp}(h:fn.results= #[.cell p 106,.tmp u])(tmps:Array Value)(w:World)(g:Nat)(l:List UInt8)
 (hp:tmps.getD p undef= .pointer (some ⟨g,0,none⟩)) (hg:w.heap[g]? =some (.cells (bytesA l) 106 (0,0))) (hl:l.length=512) (b:Value) (hb:tmps.getD u undef=b):
 (results fn tmps).run Tryz.prog w= .ok (.tuple #[.agg (bytesA l),b]) w:=by
 subst hb
 rw[results_cell_tmp h,hp]
 simp[asAddr,run_loadVar_row w g _ _ _ _ _ hg Tryz.underlying106 rfl (info_page' _ hl),Result.andThen]
theorem results_page3 {fn:Func}{p u t:Tmp}(h:fn.results= #[.cell p 106,.tmp u,.tmp t])(tmps:Array Value)(w:World)(g:Nat)(l:List UInt8)
 (hp:tmps.getD p undef= .pointer (some ⟨g,0,none⟩)) (hg:w.heap[g]? =some (.cells (bytesA l) 106 (0,0))) (hl:l.length=512) (a b:Value) (ha:tmps.getD u undef=a) (hb:tmps.getD t undef=b):
 (results fn tmps).run Tryz.prog w= .ok (.tuple #[.agg (bytesA l),a,b]) w:=by
 subst ha hb
 have hp':tmps[p]?.getD undef= .pointer (some ⟨g,0,none⟩):=by simpa using hp
 simp[results,h,hp',asAddr,run_loadVar_row w g _ _ _ _ _ hg Tryz.underlying106 rfl (info_page' _ hl),Result.andThen]
def putL (ss:List (Option (List UInt8)))(k:Nat)(r:List UInt8):List (Option (List UInt8)):=(if k=ss.length then ss++[none]else ss).set k (some r)
def putPage (kd:Int)(ss:List (Option (List UInt8)))(k:Nat)(r:List UInt8):List UInt8×Bool:=
 if 400<r.length∨496<costL (putL ss k r)then (zeroPage,false)else (madeL kd (putL ss k r),true)
theorem put_core (pp:List UInt8×Bool)(l:List UInt8)(ss:List (Option (List UInt8)))(k:Nat)(r:List UInt8)(v rv:Value)(base:Nat)(w:World)(hl:l.length=512)(h:SlotsR w base v ss)(hr:∀ w',Below base w w'→ByteS w' rv r)
 (hk:k≤ss.length) (hss:ss.length≤124) (hls:lens ss≤63488) (hrl:r.length≤140737488351232) (hbase:base≤w.heap.size) (hpp:pp=putPage (kindL l) ss k r):
 Calls Tryz.prog 107 #[.agg (bytesA l),v,.int .i64 k,rv] w fun e w'=>e= .returned (.tuple #[.agg (bytesA pp.1),.bool pp.2])∧Below base w w':=by
 have HPP:=Lib.hid (show pp=if 400<r.length∨496<costL (putL ss k r)then (zeroPage,false)else (madeL (kindL l) (putL ss k r),true) from hpp)
 clear hpp
 have hz:=zero_page
 obtain⟨ao,rc,rfl⟩:=(hr w (Below.refl _ _)).form
 have HL:=Lib.hid hl;clear hl
 have HR:=Lib.hid hr;clear hr
 have HS:=Lib.hid h
 go_enter Tryz.func107,Tryz.ntmps107
 have HB0:=Lib.hid (show Below w.heap.size w ((w.alloc (.cells (bytesA l) 106)).alloc (.cells (bytesA zeroPage) 106)) from ((Below.refl _ _).alloc (Nat.le_refl _) _).alloc (by simp) _)
 have HP0:=Lib.hid (heap_alloc2_old w (.cells (bytesA l) 106) (.cells (bytesA zeroPage) 106))
 have HZ0:=Lib.hid (heap_alloc2_new w (.cells (bytesA l) 106) (.cells (bytesA zeroPage) 106))
 have HW0:=Lib.hid (show ((w.alloc (.cells (bytesA l) 106)).alloc (.cells (bytesA zeroPage) 106)).heap.size=w.heap.size+2 from by simp)
 have HS0:=Lib.hid (h.kept (fun g hg _=>HB0.out.block g hg))
 go_upto_region 1 with fail
 generalize (w.alloc (.cells (bytesA l) 106)).alloc (.cells (bytesA zeroPage) 106)=W at*
 have hWs:w.heap.size≤W.heap.size:=HB0.out.size
 by_cases hkl:k=ss.length
 case' pos=>
  obtain⟨xs,hown,hxl,hxr⟩:=HS0.out
  have HXL:=Lib.hid hxl;have HXR:=Lib.hid hxr
  clear hxl hxr
  subst hkl
  have HPL:=Lib.hid (show putL ss ss.length r=(ss++[none]).set ss.length (some r) by simp[putL])
  rw[HPL.out]at HPP
  clear HPL
  obtain⟨av,cv,rfl⟩:=h.form
  clear h
  go_upto_region 3 with (at_builtin;refine append_some 22 35 (.slice none 0 0) 1 24 Tryz.underlying22 info_bytes rfl (by decide) rfl (.tmp 14) (.tmp 15) rfl base (.slice av ss.length cv) _ xs rfl (hown.alloc _) 1 [.slice none 0 0] (Src.one _ _ _) rfl (by simp[Value.oneCell']) (by unfold maxLen;omega) (by omega) (by simp;omega) (.inr (by omega)) ?_;intro g cap w1 hown1 hgrow1)
  have hs1:SlotsR w1 base (.slice (some ⟨g,0,none⟩) (ss.length+1) cap) (ss++[none]):=SlotsR.snoc (hown.alloc _) HXL.out rfl (fun j hj=>(HXR.out j hj).kept (fun g cur hg=>Below.heap_alloc _ _ g (Array.getElem?_eq_some_iff.1 hg).1)) rfl hown1 hgrow1
  have HB1:=Lib.hid (show Below base W w1 from ((Below.refl base W).alloc (by omega) _).grown hgrow1 (by simp;omega) (fun q hq=>(hown.lt q hq).1))
  have HS1:=Lib.hid hs1
  have hss1:(ss++[none]).length≤125:=by simp;omega
  have hls1:lens (ss++[none])≤63488:=by simpa [lens,recLen]using hls
  have hkk:ss.length<(ss++[none]).length:=by simp
  have hsz1:W.heap.size≤w1.heap.size:=by have:=hgrow1.size;simp at this;omega
  have HBB:=Lib.hid ((HB0.out.mono hbase).trans HB1.out)
  have HR1:=Lib.hid (HR.out w1 HBB.out)
  have hne:∀ q,w.heap.size≤q→q<W.heap.size→w1.heap[q]? =W.heap[q]? :=fun q hq hq2=>by
   rw[hgrow1.block q (by simp;omega) (fun e=>by
    obtain⟨ys,hy,_⟩:=HS.out
    have:=(hy.lt q e.symm).2
    omega),Below.heap_alloc _ _ _ hq2]
  have HP1:=Lib.hid ((hne w.heap.size (Nat.le_refl _) (by have:=HW0.out;omega)).trans HP0.out)
  have HZ1:=Lib.hid ((hne (w.heap.size+1) (by omega) (by have:=HW0.out;omega)).trans HZ0.out)
  have hsz2:w.heap.size+2≤w1.heap.size:=by have:=HW0.out;omega
  clear hne HB1 HW0 HP0 HZ0 HS0 HS hown hown1 hgrow1 HXL HXR hs1 hsz1
  rw[show ss.length+1=(ss++[none]).length by simp]at*
  generalize ss.length=k at*
  generalize ss++[none]=ss1 at*
 case' neg=>
  have HPL:=Lib.hid (show putL ss k r=ss.set k (some r) by simp[putL,hkl])
  rw[HPL.out]at HPP
  clear HPL
  have hk2:((k:Int)==(ss.length:Int))=false:=by simp;omega
  have hkk:k<ss.length:=by omega
  have hss1:ss.length≤125:=by omega
  rcases HS0.out.cells with⟨h1,h2⟩|⟨g,cap,h1,hg,hcap,hc⟩
  case' inl=>(subst h2;simp at hkk)
  case' inr=>
   subst h1
   clear h hc hkl
   have HS1:=HS0
   have HBB:=Lib.hid (HB0.out.mono hbase)
   have HR1:=Lib.hid (HR.out W HBB.out)
   have HP1:=HP0
   have HZ1:=HZ0
   have hsz2:w.heap.size+2≤W.heap.size:=by have:=HW0.out;omega
   have hls1:=hls
   go_upto_region 3 with fail
   clear HW0 HP0 HZ0 HS0 HS hk2
   generalize W=w1 at*
   generalize ss=ss1 at*
 all_goals
  have HNE:=Lib.hid (show Value.ownBlock (.slice (some ⟨g,0,none⟩) ss1.length cap)=none∨Value.ownBlock (.slice (some ⟨g,0,none⟩) ss1.length cap)≠Value.ownBlock (.slice (some ⟨w1.heap.size,0,none⟩) 0 0) from by
   obtain⟨ys,hy,_⟩:=HS1.out
   have:=(hy.lt g rfl).2
   right;simp[Value.ownBlock];omega)
  have hown3:(w1.alloc (.cells #[] 5)).ownsRow base 5 1 (.slice (some ⟨w1.heap.size,0,none⟩) 0 0) 0 []:=World.ownsRow_made w1 #[] 0 (by omega) (by unfold maxLen;omega) rfl
  have HR2:=Lib.hid (show ByteS (w1.alloc (.cells #[] 5)) (.slice ao r.length rc) r from HR.out _ (HBB.out.alloc (by omega) _))
  go_upto_region 4 with (at_builtin;refine append_some 35 5 (.int .u8 0) 1 1 Tryz.underlying35 info_byte rfl (by decide) rfl (.tmp 19) (.tmp 20) rfl base (.slice (some ⟨w1.heap.size,0,none⟩) 0 0) 0 [] rfl hown3 r.length (bytesL r) HR2.out (by rw[length_bytesL];omega) (oneCell_bytesL r) (by unfold maxLen;omega) (by omega) (by simp;omega) (.inl (by simp)) ?_;intro g5 cap5 w5 hown5 hgrow5;simp only[Nat.zero_add,List.nil_append]at hown5;have HK5:=Lib.hid (grown_new hgrow5);have hsl:=HS1.out.kept (w':=w5) (fun q hq _=>HK5.out q hq);obtain⟨x,hx,hxf,_⟩:=hsl.cellAt k hkk;have HS5:=Lib.hid hsl;clear hsl)
  have HS6:=Lib.hid (HS5.out.store k (x:=.slice (some ⟨g5,0,none⟩) r.length cap5) (o:=some r) ⟨hown5,g5,cap5,rfl⟩ hkk)
  have HB5:=Lib.hid (show Below base w w5 from (HBB.out.alloc (by omega) _).grown hgrow5 (by simp;omega) (fun q hq=>by simp[Value.ownBlock]at hq;omega))
  have hgb:base≤g∧g<w1.heap.size:=by
   obtain⟨ys,hy,_⟩:=HS1.out
   exact hy.lt g rfl
  have HB6:=Lib.hid (HB5.out.setCell (p:=⟨g,k,none⟩) hgb.1 (.slice (some ⟨g5,0,none⟩) r.length cap5))
  have hz5:=hgrow5.size
  have hsz6:w.heap.size+2≤(w5.setCell ⟨g,k,none⟩ (.slice (some ⟨g5,0,none⟩) r.length cap5)).heap.size:=by simp at hz5 ⊢;omega
  have HP6:=Lib.hid ((Below.heap_setCell w5 ⟨g,k,none⟩ (.slice (some ⟨g5,0,none⟩) r.length cap5) w.heap.size (slots_apart HS1.out HP1.out)).trans ((HK5.out w.heap.size (by omega)).trans HP1.out))
  have HZ6:=Lib.hid ((Below.heap_setCell w5 ⟨g,k,none⟩ (.slice (some ⟨g5,0,none⟩) r.length cap5) (w.heap.size+1) (slots_apart HS1.out HZ1.out)).trans ((HK5.out (w.heap.size+1) (by omega)).trans HZ1.out))
  clear hz5 hgrow5 hown5 hx hxf HS5 HK5 hown3 HR2 HNE HB5 HP1 HZ1 HS1 HR1
  generalize w5.setCell ⟨g,k,none⟩ (.slice (some ⟨g5,0,none⟩) r.length cap5)=w6 at*
  have HLS:=Lib.hid (lens_set_le ss1 k (some r))
  have HLT:=Lib.hid (show (ss1.set k (some r)).length=ss1.length by simp)
  generalize ss1.set k (some r)=sp at*
  have hcp:costL sp≤63988+r.length:=by
   have a1:=HLS.out;have a2:=HLT.out
   simp only[recLen]at a1
   unfold costL
   omega
  have hc4:=page_cell HP6.out HL.out 4 (by omega)
  have HKD:=Lib.hid (show kindL l=((l.getD 4 0).toNat:Int) from rfl)
  have hkd:=UInt8.toNat_lt (l.getD 4 0)
  generalize l.getD 4 0=kb at*
  have bad:400<r.length∨496<costL sp→pp=(zeroPage,false):=fun h=>by rw[HPP.out,if_pos h]
  have HBAD:=Lib.hid bad;clear bad
  by_cases hr400:400<r.length
  ·have HE:=Lib.hid (HBAD.out (.inl hr400))
   go_wp2_with (refine wpList_store_row (P:=Tryz.prog) rfl 106 _ _ rfl _ _ rfl rfl _ _ HZ6.out (info_page' _ length_zeroPage) rfl (oneCell_bytesA _) ?_)
   refine bodyPost_ret (v:=.tuple #[.agg (bytesA zeroPage),.bool false]) (results_page2 rfl _ _ _ _ rfl (setRow_heap _ _ _ _ _ _ HZ6.out) length_zeroPage _ rfl) rfl ⟨?_,?_⟩
   ·rw[HE.out]
   ·exact HB6.out.trans (Below.setRow _ _ _ _ (by omega))
  ·go_wp2_with fail
   refine (cost_any sp _ _ _ HS6.out (by omega)).mono ?_
   rintro e w7 ⟨rfl,rfl⟩
   by_cases hc496:496<costL sp
   ·have HE:=Lib.hid (HBAD.out (.inr hc496))
    generalize costL sp=cc at*
    go_wp2_with (refine wpList_store_row (P:=Tryz.prog) rfl 106 _ _ rfl _ _ rfl rfl _ _ HZ6.out (info_page' _ length_zeroPage) rfl (oneCell_bytesA _) ?_)
    refine bodyPost_ret (v:=.tuple #[.agg (bytesA zeroPage),.bool false]) (results_page2 rfl _ _ _ _ rfl (setRow_heap _ _ _ _ _ _ HZ6.out) length_zeroPage _ rfl) rfl ⟨?_,?_⟩
    ·rw[HE.out]
    ·exact HB6.out.trans (Below.setRow _ _ _ _ (by omega))
   ·rw[if_neg (by omega)]at HPP
    have hc2:costL sp≤496:=by omega
    have HCC:=Lib.hid hc2
    generalize hcc:costL sp=cc at*
    have HCE:=Lib.hid hcc;clear hcc
    go_wp2_with fail
    refine (made_any (kb.toNat:Int) (by omega) (by omega) sp _ _ _ HS6.out (by rw[HCE.out];exact hc2)).mono ?_
    rintro e w7 ⟨rfl,hb7⟩
    have HZ7:=Lib.hid ((hb7.block (w.heap.size+1) (by omega)).trans HZ6.out)
    have HB7:=Lib.hid (HB6.out.trans (hb7.mono (by omega)))
    rw[HKD.out]at HPP
    have HLM:=Lib.hid (length_madeL (kb.toNat:Int) sp (by have a1:=lens_trim_le sp;have a2:=HCE.out;unfold costL at a2;omega))
    generalize madeL (kb.toNat:Int) sp=m at*
    clear hb7
    go_wp2_with (refine wpList_store_row (P:=Tryz.prog) rfl 106 _ _ rfl _ _ rfl rfl _ _ HZ7.out (info_page' _ HLM.out) (by rw[size_bytesA,size_bytesA,HLM.out];exact length_zeroPage) (oneCell_bytesA _) ?_)
    refine bodyPost_ret (v:=.tuple #[.agg (bytesA m),.bool true]) (results_page2 rfl _ _ _ _ rfl (setRow_heap _ _ _ _ _ _ HZ7.out) HLM.out _ rfl) rfl ⟨?_,?_⟩
    ·rw[HPP.out]
    ·exact HB7.out.trans (Below.setRow _ _ _ _ (by omega))
theorem put_any (l:List UInt8)(ss:List (Option (List UInt8)))(k:Nat)(r:List UInt8)(v rv:Value)(base:Nat)(w:World)(hl:l.length=512)(h:SlotsR w base v ss)(hr:∀ w',Below base w w'→ByteS w' rv r)
 (hk:k≤ss.length) (hss:ss.length≤124) (hls:lens ss≤63488) (hrl:r.length≤140737488351232) (hbase:base≤w.heap.size):
 Calls Tryz.prog 107 #[.agg (bytesA l),v,.int .i64 k,rv] w fun e w'=>
  e= .returned (.tuple #[.agg (bytesA (putPage (kindL l) ss k r).1),.bool (putPage (kindL l) ss k r).2])∧Below base w w':=
 put_core _ l ss k r v rv base w hl h hr hk hss hls hrl hbase rfl
theorem length_putPage (kd:Int)(ss:List (Option (List UInt8)))(k:Nat)(r:List UInt8):(putPage kd ss k r).1.length=512:=by
 unfold putPage
 split
 ·exact length_zeroPage
 ·refine length_madeL _ _ ?_
  have:=lens_trim_le (putL ss k r)
  unfold costL at*
  omega
end Go.Proofs.YtockimhceppkbaaGreat
