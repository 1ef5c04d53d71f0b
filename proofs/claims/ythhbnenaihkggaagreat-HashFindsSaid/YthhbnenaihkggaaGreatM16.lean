/- The walk of page.made. Steps through a region that draws its order, under a condition on the world that every operation keeps. The walk of page.Right, Kind. The walks of page.New, Slots, Get, Room. -/
import Derived.Test.YthhbnenaihkggaaGreatM15
import Derived.Laws.CopyOwn
import Derived.Deep.RegionHeld3
import Derived.Deep.MidRow
import Derived.Stop.BytesEq
set_option linter.unusedSimpArgs false
set_option linter.unusedVariables false
set_option linter.defProp false
set_option maxRecDepth 100000
set_option maxHeartbeats 32000000
namespace Go.Proofs.YthhbnenaihkggaaGreat
open Go.RowKit
def trimL {α:Type}:List (Option α)→List (Option α)
 |[]=>[]
 |none::r=>if trimL r=[]then []else none::trimL r
 |some x::r=>some x::trimL r
theorem trimL_eq {α:Type}:∀ (ss:List (Option α)) (j:Nat),j≤ss.length→(∀ i,j≤i→ss.getD i none=none)→(j=0∨ss.getD (j - 1) none≠none)→trimL ss=ss.take j
 |[],j,hj,_,_=>by simp[trimL]
 |o::r,0,_,h,_=>by
  have h0:o=none:=by simpa using h 0 (by omega)
  subst h0
  have:=trimL_eq r 0 (by omega) (fun i _=>by simpa using h (i+1) (by omega)) (.inl rfl)
  simp[trimL,this]
 |o::r,j+1,hj,h,hl=>by
  have hj':j≤r.length:=by simpa using hj
  have hr:∀ i,j≤i→r.getD i none=none:=fun i hi=>by simpa using h (i+1) (by omega)
  by_cases h0:j=0
  ·subst h0
   have ho:o≠none:=by simpa using hl
   have:=trimL_eq r 0 (by omega) hr (.inl rfl)
   cases o with
   |none=>exact absurd rfl ho
   |some x=>simp[trimL,this]
  ·have hl':r.getD (j - 1) none≠none:=by
    rcases hl with hl|hl
    ·omega
    ·have e:j+1 - 1=(j - 1)+1:=by omega
     rw[e]at hl
     simpa using hl
   have:=trimL_eq r j hj' hr (.inr hl')
   cases o with
   |none=>
    have hne:r.take j≠[]:=by
     intro e
     have:(r.take j).length=0:=by rw[e];rfl
     rw[List.length_take]at this
     omega
    simp[trimL,this,hne]
   |some x=>simp[trimL,this]
def writeRec (p:List UInt8)(i e:Nat)(r:List UInt8):List UInt8:=
 ((((splice p e r).set (6+4*i) (toB e)).set (6+4*i+1) (toB ((e:Int) / 256))).set (6+4*i+2) (toB (r.length+1))).set (6+4*i+3) (toB (((r.length:Int)+1) / 256))
def fillTo (ts:List (Option (List UInt8)))(p:List UInt8):Nat→List UInt8×Nat
 |0=>(p,512)
 |k+1=>match ts.getD k none with
  |none=>fillTo ts p k
  |some r=>(writeRec (fillTo ts p k).1 k ((fillTo ts p k).2 - r.length) r,(fillTo ts p k).2 - r.length)
def fillL (kd:Int)(ts:List (Option (List UInt8))):List UInt8:=(fillTo ts ((zeroPage.set 4 (toB kd)).set 5 (toB ts.length)) ts.length).1
def madeL (kd:Int)(ss:List (Option (List UInt8))):List UInt8:=sealL (fillL kd (trimL ss))
theorem fillTo_end (ts:List (Option (List UInt8)))(p:List UInt8)(k:Nat)(hk:k≤ts.length)(h:lens ts≤512):(fillTo ts p k).2=512 - lens (ts.take k):=by
 induction k with
 |zero=>simp[fillTo,lens]
 |succ k ih=>
  have h1:=lens_take_succ ts k (by omega)
  have h2:=lens_take_le ts (k+1)
  have h3:=ih (by omega)
  unfold fillTo
  cases ho:ts.getD k none with
  |none=>rw[ho]at h1;simp[recLen]at h1;simp only;rw[h3];omega
  |some r=>rw[ho]at h1;simp[recLen]at h1;simp only;rw[h3];omega
theorem length_writeRec (p:List UInt8)(i e:Nat)(r:List UInt8)(h:e+r.length≤p.length):(writeRec p i e r).length=p.length:=by
 simp[writeRec,length_splice _ _ _ h]
theorem length_fillTo (ts:List (Option (List UInt8)))(p:List UInt8)(hp:p.length=512)(k:Nat)(hk:k≤ts.length)(h:lens ts≤512):(fillTo ts p k).1.length=512:=by
 induction k with
 |zero=>exact hp
 |succ k ih=>
  have h3:=ih (by omega)
  have h1:=lens_take_succ ts k (by omega)
  have h2:=lens_take_le ts (k+1)
  have h4:=fillTo_end ts p k (by omega) h
  unfold fillTo
  cases ho:ts.getD k none with
  |none=>exact h3
  |some r=>
   rw[ho]at h1
   simp[recLen]at h1
   simp only
   rw[length_writeRec _ _ _ _ (by omega),h3]
theorem bytesL_splice (p r:List UInt8)(e:Nat):splice (bytesL p) e (bytesL r)=bytesL (splice p e r):=by
 simp[splice,bytesL]
theorem page_cell {w:World}{g:Nat}{l:List UInt8}(h:w.heap[g]? =some (.cells (bytesA l) 111 (0,0)))(hl:l.length=512)(k:Nat)(hk:k<512):
 w.cell? ⟨g,k,none⟩=some (.int .u8 (l.getD k 0).toNat):=by
 rw[cell_of_row w g k _ _ _ h];simpa using get_bytesL l k (by omega)
theorem page_free {w:World}{g:Nat}{l:List UInt8}(h:w.heap[g]? =some (.cells (bytesA l) 111 (0,0)))(k:Nat):w.frozen? ⟨g,k,none⟩=false:=frozen_of_row w g k _ _ h
theorem page_set {w:World}{g:Nat}{l:List UInt8}(h:w.heap[g]? =some (.cells (bytesA l) 111 (0,0)))(k:Nat)(x:Int)(h0:0≤x)(h1:x<256):
 (w.setCell ⟨g,k,none⟩ (.int .u8 x)).heap[g]? =some (.cells (bytesA (l.set k (toB x))) 111 (0,0)):=by
 rw[heap_setCell_same w g k _ _ _ h]
 unfold bytesA
 rw[← bytesL_set l k x h0 h1];simp
theorem toB_eq {x y:Int}(h:x % 256=y % 256):toB x=toB y:=by unfold toB;rw[h]
theorem slice_page_lo (g:Nat)(lo:Int)(lo':Nat)(h1:lo=lo')(h2:lo'≤512)(w:World):
 (Instr.sliceAt 111 (.pointer (some ⟨g,0,none⟩)) (some (.int .i64 lo)) none none).run Tryz.prog w= .ok (.slice (some ⟨g,if lo'=512 then 0 else lo',none⟩) (512 - lo') (512 - lo')) w:=by
 have ht:Tryz.prog.underlying 111=some (.array (Tryz.prog.arrayLen 111) (Tryz.prog.elem 111)):=by kernel_rfl
 have hn:Tryz.prog.arrayLen 111=512:=by kernel_rfl
 have hs:(sizeOf (Tryz.prog.elem 111)).run Tryz.prog w= .ok 1 w:=by kernel_rfl
 rw[run_sliceAt_array_l w 111 _ ht .i64 lo (by omega) (by rw[hn];omega),hs]
 subst h1
 simp only[Result.andThen_ok,slicedAt,hn]
 rw[Int.toNat_natCast]
 by_cases h:lo'=512
 ·subst h;simp
 ·rw[if_neg (by omega),if_neg h]
  simp[Addr.add]
  intro e;exact e.symm
def slLen:Value→Nat
 | .slice _ n _=>n
 |_=>0
theorem made_some (kd:Int)(h0:0≤kd)(h1:kd<256)(ss:List (Option (List UInt8)))(g cap base:Nat)(w:World)(hm:costL ss≤496)(hcap:ss.length≤cap)
 (hc:∀ k,k<ss.length→∃ x,w.cell? ⟨g,k,none⟩=some x∧w.frozen? ⟨g,k,none⟩=false∧Rec w base x (ss.getD k none)):
 Calls Tryz.prog 87 #[.int .u8 kd,.slice (some ⟨g,0,none⟩) ss.length cap] w fun e w'=>e= .returned (.agg (bytesA (madeL kd ss)))∧Below w.heap.size w w':=by
 have hz:=zero_page
 have hn:=eql_nil
 have hlen:ss.length≤124:=by unfold costL at hm;omega
 have HC:=Lib.hid hc;clear hc
 have HM:=Lib.hid hm;clear hm
 go_enter Tryz.func87,Tryz.ntmps87
 go_wp2_with fail
 have hW0:(((w.alloc (.cells (bytesA zeroPage) 111)).alloc (.cells (bytesA zeroPage) 111))).heap[w.heap.size]? =some (.cells (bytesA zeroPage) 111 (0,0)):=heap_alloc2_old _ _ _
 have hW1:(((w.alloc (.cells (bytesA zeroPage) 111)).alloc (.cells (bytesA zeroPage) 111))).heap[w.heap.size+1]? =some (.cells (bytesA zeroPage) 111 (0,0)):=heap_alloc2_new _ _ _
 have hWB:Below w.heap.size w (((w.alloc (.cells (bytesA zeroPage) 111)).alloc (.cells (bytesA zeroPage) 111))):=((Below.refl _ _).alloc (Nat.le_refl _) _).alloc (by simp) _
 have hWS:(((w.alloc (.cells (bytesA zeroPage) 111)).alloc (.cells (bytesA zeroPage) 111))).heap.size=w.heap.size+2:=by simp
 generalize ((w.alloc (.cells (bytesA zeroPage) 111)).alloc (.cells (bytesA zeroPage) 111))=w1 at*
 have HW0:=Lib.hid hW0;have HW1:=Lib.hid hW1;have HWB:=Lib.hid hWB;have HWS:=Lib.hid hWS
 clear hW0 hW1 hWB hWS
 go_loop [1] (fun v=>∃ j:Nat,j≤ss.length∧v= .slice (some ⟨g,0,none⟩) j cap∧∀ i,j≤i→ss.getD i none=none) (fun v=>slLen v)
 case atStart=>exact⟨ss.length,Nat.le_refl _,rfl,fun i hi=>by simp[List.getElem?_eq_none hi]⟩
 case round=>
  obtain⟨j,hj,rfl,hnone⟩:=hrel
  have HNO:=Lib.hid hnone;clear hnone
  have key:(∃ x,w1.cell? ⟨g,j - 1,none⟩=some x∧1≤j∧ss.getD (j - 1) none=none∧x= .slice none 0 0)∨(j≤0∧trimL ss=ss.take j)∨(∃ x r g' cap',w1.cell? ⟨g,j - 1,none⟩=some x∧1≤j∧x= .slice (some ⟨g',0,none⟩) r cap'∧trimL ss=ss.take j):=by
   by_cases hj0:j=0
   ·exact .inr (.inl ⟨by omega,trimL_eq ss j hj HNO.out (.inl hj0)⟩)
   ·obtain⟨x,hx,_,hrec⟩:=HC.out (j - 1) (by omega)
    have hx1:w1.cell? ⟨g,j - 1,none⟩=some x:=cell_later HWB.out hx
    rcases hrec.form with⟨ho,rfl⟩|⟨r,g',cap',ho,rfl⟩
    ·exact .inl ⟨_,hx1,by omega,ho,rfl⟩
    ·exact .inr (.inr ⟨_,_,_,_,hx1,by omega,rfl,trimL_eq ss j hj HNO.out (.inr (by rw[ho];simp))⟩)
  rcases key with⟨x,hx1,hj1,ho,rfl⟩|⟨hj0,ht⟩|⟨x,r,g',cap',hx1,hj1,rfl,ht⟩
  ·have HO:=Lib.hid ho;clear ho
   go_wp2_with fail
   go_round
   case rel=>exact⟨j - 1,by omega,by go_num,fun i hi=>by
    by_cases e:i=j - 1
    ·rw[e];exact HO.out
    ·exact HNO.out i (by omega)⟩
   case measure=>simp[slLen];omega
  all_goals
   have HT:=Lib.hid ht;clear ht
   have hc4:=page_cell HW1.out length_zeroPage 4 (by omega)
   have hc5:=page_cell HW1.out length_zeroPage 5 (by omega)
   have hf4:=page_free HW1.out 4
   have hf5:=page_free HW1.out 5
   generalize (zeroPage.getD 4 0).toNat=z4 at*
   generalize (zeroPage.getD 5 0).toNat=z5 at*
   go_wp2_with fail
   have hP0:=page_set (page_set HW1.out 4 kd h0 h1) 5 (j:Int) (by omega) (by omega)
   have hPB:Below (w.heap.size+1) w1 ((w1.setCell ⟨w.heap.size+1,4,none⟩ (.int .u8 kd)).setCell ⟨w.heap.size+1,5,none⟩ (.int .u8 (j:Int))):=((Below.refl _ _).setCell (by simp) _).setCell (by simp) _
   generalize (w1.setCell ⟨w.heap.size+1,4,none⟩ (.int .u8 kd)).setCell ⟨w.heap.size+1,5,none⟩ (.int .u8 (j:Int))=w2 at*
   have HP0:=Lib.hid hP0;have HPB:=Lib.hid hPB
   have HLP:=Lib.hid (show ((zeroPage.set 4 (toB kd)).set 5 (toB (j:Int))).length=512 by simp[length_zeroPage])
   have HLT:=Lib.hid (show (ss.take j).length=j by simp;omega)
   have HLN:=Lib.hid (show lens (ss.take j)≤496 by have:=lens_take_le ss j;have:=HM.out;unfold costL at this;omega)
   have HFL:=Lib.hid (show fillL kd (trimL ss)=(fillTo (ss.take j) ((zeroPage.set 4 (toB kd)).set 5 (toB (j:Int))) j).1 by unfold fillL;rw[HT.out,HLT.out])
   have HTG:=Lib.hid (show ∀ k,k<j→(ss.take j).getD k none=ss.getD k none from fun k hk=>by simp[hk])
   clear hP0 hPB hc4 hc5 hf4 hf5
   generalize ss.take j=ts at*
   generalize (zeroPage.set 4 (toB kd)).set 5 (toB (j:Int))=p0 at*
   go_loopw [6,36] (fun e i wr=>∃ k:Nat,k≤j∧i= .int .i64 k∧e= .int .i64 ((fillTo ts p0 k).2:Nat)∧Hid (wr.heap[w.heap.size+1]? =some (.cells (bytesA (fillTo ts p0 k).1) 111 (0,0)))∧Hid (Below (w.heap.size+1) w2 wr)) (fun _ i _=>j - (intOf i).toNat)
   case atStart=>exact⟨0,Nat.zero_le _,rfl,rfl,HP0.out,Below.refl _ _⟩
   case round=>
    obtain⟨k,hk,rfl,rfl,hpg,hbw⟩:=hrel
    have HLF:=Lib.hid (length_fillTo ts p0 HLP.out k (by rw[HLT.out];exact hk) (by have:=HLN.out;omega))
    by_cases hlt:k<j
    case neg=>
     obtain rfl:k=j:=by omega
     have HPG:=hpg;clear hpg
     rw[← HFL.out]at HPG HLF
     have HMD:=Lib.hid (show madeL kd ss=sealL (fillL kd (trimL ss)) from rfl)
     clear HFL
     generalize fillL kd (trimL ss)=q at*
     have HR0:=Lib.hid (show wr.heap[w.heap.size]? =some (.cells (bytesA zeroPage) 111 (0,0)) from ((hbw.out.block _ (by omega)).trans (HPB.out.block _ (by omega))).trans HW0.out)
     have HBA:=Lib.hid (show Below w.heap.size w wr from (HWB.out.trans (HPB.out.mono (by omega))).trans (hbw.out.mono (by omega)))
     go_wp2_with (refine wpList_load_row (P:=Tryz.prog) rfl 111 _ rfl _ rfl _ _ _ _ HPG.out Tryz.underlying111 rfl (info_page' _ HLF.out) ?_)
     refine (seal_any q _ HLF.out).mono ?_
     rintro e w4 ⟨rfl,hb4⟩
     have HLS:=Lib.hid ((length_sealL q).trans HLF.out)
     have HR4:=Lib.hid ((hb4.block _ (by have:=hbw.out.size;have:=HPB.out.size;have:=HWS.out;omega)).trans HR0.out)
     have HB4:=Lib.hid (HBA.out.trans (hb4.mono HBA.out.size))
     clear hb4
     rw[← HMD.out]at*
     generalize hmm:madeL kd ss=m at*
     have HMM:=Lib.hid hmm;clear hmm
     go_wp2_with (refine wpList_store_row (P:=Tryz.prog) rfl 111 _ _ rfl _ _ rfl rfl _ _ HR4.out (info_page' _ HLS.out) (by rw[size_bytesA,size_bytesA,HLS.out];exact length_zeroPage) (oneCell_bytesA _) ?_)
     refine bodyPost_ret (v:=.agg (bytesA m)) (results_cell_row rfl _ _ _ _ _ _ _ rfl (setRow_heap _ _ _ _ _ _ HR4.out) Tryz.underlying111 rfl (info_page' _ HLS.out)) rfl ⟨by rw[HMM.out],?_⟩
     exact HB4.out.trans (Below.setRow _ _ _ _ (Nat.le_refl _))
    all_goals (try (exfalso;omega))
    all_goals
     obtain⟨x,hx,_,hrec⟩:=HC.out k (by omega)
     have hx1:wr.cell? ⟨g,k,none⟩=some x:=by
      have h1:=cell_later HWB.out hx
      have hgb:=World.block_lt_of_cell? w _ hx
      rw[hbw.out.cell (p:=⟨g,k,none⟩) (by simp at hgb;simp;omega),HPB.out.cell (p:=⟨g,k,none⟩) (by simp at hgb;simp;omega)]
      exact h1
     clear hx
     rcases hrec.form with⟨ho,rfl⟩|⟨r,g',cap',ho,rfl⟩
     ·have HFS:=Lib.hid (show fillTo ts p0 (k+1)=fillTo ts p0 k by simp only[fillTo,HTG.out k hlt,ho])
      clear ho hrec
      go_wp2_with fail
      go_roundw
      case rel=>exact⟨k+1,by omega,by go_num,by rw[HFS.out],by rw[HFS.out];exact hpg,hbw⟩
      case measure=>simp[intOf];omega
     ·have HFS:=Lib.hid (show fillTo ts p0 (k+1)=(writeRec (fillTo ts p0 k).1 k ((fillTo ts p0 k).2 - r.length) r,(fillTo ts p0 k).2 - r.length) by simp only[fillTo,HTG.out k hlt,ho])
      have hE1:r.length≤(fillTo ts p0 k).2:=by
       have a1:=fillTo_end ts p0 k (by rw[HLT.out];omega) (by have:=HLN.out;omega)
       have a2:=lens_take_succ ts k (by rw[HLT.out];exact hlt)
       have a3:=lens_take_le ts (k+1)
       have a4:=HLN.out
       rw[HTG.out k hlt,ho]at a2
       simp only[recLen]at a2
       omega
      have hE2:(fillTo ts p0 k).2≤512:=by
       have a1:=fillTo_end ts p0 k (by rw[HLT.out];omega) (by have:=HLN.out;omega)
       omega
      have HSRC:=Lib.hid (show ∀ j v,(bytesL r)[j]? =some v→wr.cell? ((⟨g',0,none⟩:Addr).add j)=some v from fun j v hj=>by
       rw[ho]at hrec
       have h1:=hrec.1.cells (g:=g') rfl j v hj
       have hgb:=World.block_lt_of_cell? w _ h1
       rw[Addr.add_lit]at h1 hgb ⊢
       have h2:=cell_later HWB.out h1
       rw[hbw.out.cell (by simp at hgb;simp;omega),HPB.out.cell (by simp at hgb;simp;omega)]
       exact h2)
      generalize (fillTo ts p0 k).1=p at*
      generalize (fillTo ts p0 k).2=E at*
      clear ho hrec
      have hsl:=slice_page_lo (w.heap.size+1) ((E:Int) - r.length) (E - r.length) (by omega) (by omega)
      obtain⟨F',hF'⟩:∃ F',F'=if E - r.length=512 then 0 else E - r.length:=⟨_,rfl⟩
      rw[← hF']at hsl
      have HF':=Lib.hid hF';clear hF'
      have hrl:r.length≤512:=by omega
      obtain⟨q,hq⟩:∃ q,q=splice p (E - r.length) r:=⟨_,rfl⟩
      have HQ:=Lib.hid hq
      have HQL:=Lib.hid (show q.length=512 by rw[hq,length_splice _ _ _ (by rw[HLF.out];omega),HLF.out])
      have HQB:=Lib.hid (show splice (bytesL p) (E - r.length) (bytesL r)=bytesL q by rw[hq,bytesL_splice])
      clear hq
      go_wp2_with (refine wpList_copy_splice rfl (.tmp 48) (.tmp 49) 23 23 rfl 5 Tryz.underlying23 (by kernel_rfl) _ _ _ _ _ _ rfl rfl (w.heap.size+1) (E - r.length) (bytesL p) 111 hpg.out (bytesL r) (by rw[length_bytesL];show r.length=min _ _;omega) (fun hpos=>⟨by rw[length_bytesL]at hpos;rw[HF'.out,if_neg (by omega)],_,rfl,HSRC.out⟩) (by rw[length_bytesL,length_bytesL,HLF.out];omega) (oneCell_bytesL r) (w.heap.size+1) w2 hbw.out (Nat.le_refl _) ?_;intro w3 h3 hb3;rw[HQB.out]at h3;have c0:=page_cell h3.out HQL.out (6+4*k) (by omega);have c1:=page_cell h3.out HQL.out (6+4*k+1) (by omega);have c2:=page_cell h3.out HQL.out (6+4*k+2) (by omega);have c3:=page_cell h3.out HQL.out (6+4*k+3) (by omega);have f0:=page_free h3.out (6+4*k);have f1:=page_free h3.out (6+4*k+1);have f2:=page_free h3.out (6+4*k+2);have f3:=page_free h3.out (6+4*k+3))
      go_roundw
      case rel=>
       refine⟨k+1,by omega,by go_num,?_,?_,?_⟩
       ·rw[HFS.out]
        show Value.int .i64 ((E:Int) - r.length)=Value.int .i64 ((E - r.length:Nat):Int)
        rw[Int.ofNat_sub hE1]
       ·rw[HFS.out]
        have hs:=page_set (page_set (page_set (page_set h3.out (6+4*k) (((E:Int) - r.length) % 256) (by omega) (by omega)) (6+4*k+1) (((E:Int) - r.length) / 256) (by omega) (by omega)) (6+4*k+2) (((r.length:Int)+1) % 256) (by omega) (by omega)) (6+4*k+3) (((r.length:Int)+1) / 256) (by omega) (by omega)
        rw[toB_eq (show ((E:Int) - r.length) % 256 % 256=((E - r.length:Nat):Int) % 256 by omega),toB_eq (show ((E:Int) - r.length) / 256 % 256=(((E - r.length:Nat):Int) / 256) % 256 by omega),toB_eq (show ((r.length:Int)+1) % 256 % 256=((r.length:Int)+1) % 256 by omega),HQ.out]at hs
        exact hs
       ·exact (((hb3.setCell (by simp) _).setCell (by simp) _).setCell (by simp) _).setCell (by simp) _
      case measure=>simp[intOf];omega
theorem made_nil (kd:Int)(h0:0≤kd)(h1:kd<256)(w:World):
 Calls Tryz.prog 87 #[.int .u8 kd,.slice none 0 0] w fun e w'=>e= .returned (.agg (bytesA (madeL kd [])))∧Below w.heap.size w w':=by
 have hz:=zero_page
 have hc4:=get_bytesL zeroPage 4 (by rw[length_zeroPage];omega)
 have hc5:=get_bytesL zeroPage 5 (by rw[length_zeroPage];omega)
 generalize (zeroPage.getD 4 0).toNat=z4 at*
 generalize (zeroPage.getD 5 0).toNat=z5 at*
 have hg5:((bytesL zeroPage).set 4 (.int .u8 kd))[5]? =some (.int .u8 z5):=by rw[List.getElem?_set_ne (by omega)];exact hc5
 have HQ:=Lib.hid (show ((bytesL zeroPage).set 4 (.int .u8 kd)).set 5 (.int .u8 0)=bytesL (fillL kd []) by
  rw[bytesL_set _ _ _ h0 h1,bytesL_set _ _ _ (by omega) (by omega)];rfl)
 have HLF:=Lib.hid (show (fillL kd []).length=512 by simp[fillL,fillTo,length_zeroPage])
 have HMD:=Lib.hid (show madeL kd []=sealL (fillL kd []) from rfl)
 generalize fillL kd []=q at*
 go_enter Tryz.func87,Tryz.ntmps87
 go_wp2_with fail
 refine wp_loop_rounds 1 ?_
 rw[rounds_succ]
 go_wp2_with fail
 refine wp_loop_rounds 1 ?_
 rw[rounds_succ]
 rw[HQ.out]
 have HP1:=Lib.hid (heap_alloc2_new w (.cells (bytesA zeroPage) 111) (.cells (bytesA q) 111))
 have HR1:=Lib.hid (heap_alloc2_old w (.cells (bytesA zeroPage) 111) (.cells (bytesA q) 111))
 have HB1:=Lib.hid (show Below w.heap.size w ((w.alloc (.cells (bytesA zeroPage) 111)).alloc (.cells (bytesA q) 111)) from ((Below.refl _ _).alloc (Nat.le_refl _) _).alloc (by simp) _)
 have HS1:=Lib.hid (show ((w.alloc (.cells (bytesA zeroPage) 111)).alloc (.cells (bytesA q) 111)).heap.size=w.heap.size+2 from by simp)
 generalize ((w.alloc (.cells (bytesA zeroPage) 111)).alloc (.cells (bytesA q) 111))=wr at*
 go_wp2_with (refine wpList_load_row (P:=Tryz.prog) rfl 111 _ rfl _ rfl _ _ _ _ HP1.out Tryz.underlying111 rfl (info_page' _ HLF.out) ?_)
 refine (seal_any q _ HLF.out).mono ?_
 rintro e w4 ⟨rfl,hb4⟩
 have HLS:=Lib.hid ((length_sealL q).trans HLF.out)
 have HR4:=Lib.hid ((hb4.block _ (by have:=HS1.out;omega)).trans HR1.out)
 have HB4:=Lib.hid (HB1.out.trans (hb4.mono HB1.out.size))
 clear hb4
 rw[← HMD.out]at*
 generalize hmm:madeL kd []=m at*
 have HMM:=Lib.hid hmm;clear hmm
 go_wp2_with (refine wpList_store_row (P:=Tryz.prog) rfl 111 _ _ rfl _ _ rfl rfl _ _ HR4.out (info_page' _ HLS.out) (by rw[size_bytesA,size_bytesA,HLS.out];exact length_zeroPage) (oneCell_bytesA _) ?_)
 refine bodyPost_ret (v:=.agg (bytesA m)) (results_cell_row rfl _ _ _ _ _ _ _ rfl (setRow_heap _ _ _ _ _ _ HR4.out) Tryz.underlying111 rfl (info_page' _ HLS.out)) rfl ⟨by rw[HMM.out],?_⟩
 exact HB4.out.trans (Below.setRow _ _ _ _ (Nat.le_refl _))
theorem made_any (kd:Int)(h0:0≤kd)(h1:kd<256)(ss:List (Option (List UInt8)))(v:Value)(base:Nat)(w:World)(h:SlotsR w base v ss)(hm:costL ss≤496):
 Calls Tryz.prog 87 #[.int .u8 kd,v] w fun e w'=>e= .returned (.agg (bytesA (madeL kd ss)))∧Below w.heap.size w w':=by
 rcases h.cells with⟨rfl,rfl⟩|⟨g,cap,rfl,hg,hcap,hc⟩
 ·exact made_nil kd h0 h1 w
 ·exact made_some kd h0 h1 ss g cap base w hm hcap hc
theorem length_madeL (kd:Int)(ss:List (Option (List UInt8)))(hm:lens (trimL ss)≤512):(madeL kd ss).length=512:=by
 unfold madeL fillL
 rw[length_sealL,length_fillTo _ _ (by simp[length_zeroPage]) _ (Nat.le_refl _) hm]
section
variable {ops:Array Oper} {Q:Exit→Act→World→Prop} {S:World→Prop} {fuel:Nat} {listed:Array Bool} {a:Act} {w:World}
theorem takeH (i d:Nat)(oi:Oper)(v:Value)(hi:ops[i]? =some oi)(hd:oi.dst=some d)(hg:Region.wanted oi (yielded ops a.tmps)=true)
 (hs:Region.noSelect ops=true) (hf:Region.free .any ops listed i=true) (hr:(Region.ready .any ops listed).contains i=true)
 (hS:S w) (hy:∀ w,S w→(execOp a.eval oi).run Tryz.prog w= .ok (.value v) w)
 (h:wpAnyH Tryz.prog .any ops (NoPanic Q) S fuel (listed.setIfInBounds i true) { a with tmps:=a.tmps.setIfInBounds d v } w):
 wpAnyH Tryz.prog .any ops (NoPanic Q) S (fuel+1) listed a w:=by
 refine wpAnyH_take hi hs hf hr (fun _ _ _ h=>h) (v:=v) (Or.inl ⟨hg,hy⟩) hS ?_
 simpa [Act.put,hd]using h
theorem takeH_load (i d b o:Nat)(oi:Oper)(ty:TypeId)(x:Operand)(cs:List Value)(t:TypeDesc)(hi:ops[i]? =some oi)(hd:oi.dst=some d)(hg:Region.wanted oi (yielded ops a.tmps)=true)
 (hs:Region.noSelect ops=true) (hf:Region.free .any ops listed i=true) (hr:(Region.ready .any ops listed).contains i=true)
 (hop:oi.op= .load ty x) (hx:a.eval x= .pointer (some ⟨b,o,none⟩)) (hu:Tryz.prog.underlying ty=some t) (ht:t.isRow=true) (hsz:(Tryz.prog.info? ty).map (·.size)=some cs.length)
 (hS:S w) (hc:∀ w,S w→w.rangeAt b o cs)
 (h:wpAnyH Tryz.prog .any ops (NoPanic Q) S fuel (listed.setIfInBounds i true) { a with tmps:=a.tmps.setIfInBounds d (.agg cs.toArray) } w):
 wpAnyH Tryz.prog .any ops (NoPanic Q) S (fuel+1) listed a w:=
 takeH i d oi _ hi hd hg hs hf hr hS (fun w hw=>by
  unfold execOp
  simp only[hop,hx,Instr.loadAt,Instr.sureAddr,Sem.run_bind,Sem.run_pure,Result.andThen_ok,run_loadVar_mid w b o ty cs t (hc w hw) hu ht hsz]) h
end
def rightL (l:List UInt8):Bool:=sealL l==l
def kindL (l:List UInt8):Int:=(l.getD 4 0).toNat
theorem kind_any (l:List UInt8)(w:World)(hl:l.length=512):
 Calls Tryz.prog 112 #[.agg (bytesA l)] w fun e w'=>e= .returned (.int .i64 (kindL l))∧Below w.heap.size w w':=by
 have HL:=Lib.hid hl;clear hl
 have hc:=get_bytesL l 4 (by rw[HL.out];omega)
 go_enter Tryz.func112,Tryz.ntmps112
 go_wp2_with fail
 go_ret
 exact⟨by rw[IntWalk.wrap64_in _ ⟨by omega,by have:=UInt8.toNat_lt (l.getD 4 0);simp only[List.getD_eq_getElem?_getD]at this;omega⟩];simp[kindL],(Below.refl _ _).alloc (Nat.le_refl _) _⟩
def newL (k:Int):List UInt8:=madeL (k % 256) []
theorem length_newL (k:Int):(newL k).length=512:=length_madeL _ _ (by simp[trimL,lens])
theorem new_any (k:Int)(w:World):Calls Tryz.prog 51 #[.int .i64 k] w fun e w'=>e= .returned (.agg (bytesA (newL k)))∧Below w.heap.size w w':=by
 have hz:=zero_page
 go_enter Tryz.func51,Tryz.ntmps51
 go_wp2_with fail
 refine (made_nil (k % 256) (by omega) (by omega) _).mono ?_
 rintro e w4 ⟨rfl,hb4⟩
 have HR4:=Lib.hid ((hb4.block _ (by simp)).trans (heap_alloc_new w _))
 have HLS:=Lib.hid (length_newL k)
 have HB4:=Lib.hid (((Below.refl w.heap.size w).alloc (Nat.le_refl _) _).trans (hb4.mono (by simp)))
 clear hb4
 rw[show madeL (k % 256) []=newL k from rfl]
 generalize hmm:newL k=m at*
 have HMM:=Lib.hid hmm;clear hmm
 go_wp2_with (refine wpList_store_row (P:=Tryz.prog) rfl 111 _ _ rfl _ _ rfl rfl _ _ HR4.out (info_page' _ HLS.out) (by rw[size_bytesA,size_bytesA,HLS.out];exact length_zeroPage) (oneCell_bytesA _) ?_)
 refine bodyPost_ret (v:=.agg (bytesA m)) (results_cell_row rfl _ _ _ _ _ _ _ rfl (setRow_heap _ _ _ _ _ _ HR4.out) Tryz.underlying111 rfl (info_page' _ HLS.out)) rfl ⟨by rw[HMM.out],?_⟩
 exact HB4.out.trans (Below.setRow _ _ _ _ (Nat.le_refl _))
theorem slotsL_le (l:List UInt8):(slotsL l).length≤124:=by simp[slotsL];omega
theorem SlotsR.form {w:World}{base:Nat}{v:Value}{ss:List (Option (List UInt8))}(h:SlotsR w base v ss):∃ a c,v= .slice a ss.length c:=by
 rcases h.cells with⟨rfl,rfl⟩|⟨g,cap,rfl,_⟩
 ·exact⟨_,_,rfl⟩
 ·exact⟨_,_,rfl⟩
theorem slotsLens (l:List UInt8)(h:l.length=512):lens (slotsL l)≤63488:=by
 have hm:∀ o∈(slotsL l).map recLen,o≤512:=by
  intro o ho
  simp only[slotsL,List.map_map,List.mem_map]at ho
  obtain⟨i,_,rfl⟩:=ho
  simp only[Function.comp_def,slotL,slotAt]
  split
  ·simp[recLen]
  ·simp[recLen];omega
 have hl:((slotsL l).map recLen).length≤124:=by simpa using slotsL_le l
 have gen:∀ (xs:List Nat),(∀ o∈xs,o≤512)→xs.sum≤xs.length*512:=by
  intro xs
  induction xs with
  |nil=>simp
  |cons a xs ih=>
   intro h
   have h1:=h a (by simp)
   have h2:=ih (fun o ho=>h o (by simp[ho]))
   simp only[List.sum_cons,List.length_cons]
   omega
 have:=gen _ hm
 unfold lens
 generalize ((slotsL l).map recLen).sum=a at*
 generalize ((slotsL l).map recLen).length=b at*
 omega
theorem nslots_any (l:List UInt8)(w:World)(hl:l.length=512):
 Calls Tryz.prog 57 #[.agg (bytesA l)] w fun e w'=>e= .returned (.int .i64 (slotsL l).length)∧Below w.heap.size w w':=by
 have HL:=Lib.hid hl;clear hl
 go_enter Tryz.func57,Tryz.ntmps57
 go_wp2_with (refine wpList_load_row (P:=Tryz.prog) rfl 111 _ rfl _ rfl _ _ _ _ (heap_alloc_new _ _) Tryz.underlying111 rfl (info_page' _ HL.out) ?_)
 refine (slots_any l _ HL.out).mono ?_
 rintro e w4 ⟨v,rfl,hs,hb⟩
 obtain⟨a,c,rfl⟩:=hs.form
 have HB:=Lib.hid (((Below.refl w.heap.size w).alloc (Nat.le_refl _) _).trans (hb.mono (by simp)))
 clear hb hs
 go_wp2_with fail
 go_ret
 exact⟨rfl,HB.out⟩
def getL (l:List UInt8)(k:Int):Option (List UInt8):=if k<0 then none else (slotsL l).getD k.toNat none
theorem get_any (l:List UInt8)(k:Int)(w:World)(hl:l.length=512):
 Calls Tryz.prog 58 #[.agg (bytesA l),.int .i64 k] w fun e w'=>∃ v,e= .returned (.tuple #[v,.bool (getL l k).isSome])∧Rec w' w.heap.size v (getL l k)∧Below w.heap.size w w':=by
 have hn:=eql_nil
 have hsl:=slotsL_le l
 have HL:=Lib.hid hl;clear hl
 go_enter Tryz.func58,Tryz.ntmps58
 go_wp2_with (refine wpList_load_row (P:=Tryz.prog) rfl 111 _ rfl _ rfl _ _ _ _ (heap_alloc_new _ _) Tryz.underlying111 rfl (info_page' _ HL.out) ?_)
 refine (slots_any l _ HL.out).mono ?_
 rintro e w4 ⟨v,rfl,hs,hb⟩
 have HG:=Lib.hid (show getL l k=if k<0 then none else (slotsL l).getD k.toNat none from rfl)
 generalize slotsL l=ss at*
 have HB:=Lib.hid (((Below.refl w.heap.size w).alloc (Nat.le_refl _) _).trans (hb.mono (by simp)))
 have HS:=Lib.hid (hs.mono (base':=w.heap.size) (by simp))
 obtain⟨a,c,rfl⟩:=hs.form
 clear hb hs
 by_cases hk0:k<0
 ·have HG2:=Lib.hid (show getL l k=none by rw[HG.out,if_pos hk0])
  go_wp2_with fail
  go_ret2
  exact⟨_,by rw[HG2.out];rfl,by rw[HG2.out];rfl,HB.out⟩
 ·obtain⟨j,rfl⟩:=Int.eq_ofNat_of_zero_le (show 0≤k by omega)
  rw[if_neg hk0,Int.toNat_natCast]at HG
  clear hk0
  by_cases hj:j<ss.length
  ·rcases HS.out.cells with⟨h1,h2⟩|⟨g,cap,h1,hg,hcap,hc⟩
   ·subst h2;simp at hj
   ·simp only[Value.slice.injEq,true_and]at h1
    obtain⟨rfl,rfl⟩:=h1
    obtain⟨x,hx,_,hrec⟩:=hc j hj
    clear hc
    rw[← HG.out]at hrec
    have HRC:=Lib.hid hrec
    rcases hrec.form with⟨ho,rfl⟩|⟨r,g',cap',ho,rfl⟩
    ·have HO:=Lib.hid ho
     clear ho hrec
     go_wp2_with fail
     go_ret2
     exact⟨_,by rw[HO.out];rfl,by rw[HO.out];rfl,HB.out⟩
    ·have HO:=Lib.hid ho
     clear ho hrec
     go_wp2_with fail
     go_ret2
     exact⟨_,by rw[HO.out];rfl,HRC.out,HB.out⟩
  ·have HG2:=Lib.hid (show getL l (j:Int)=none by rw[HG.out];simp[List.getElem?_eq_none (show ss.length≤j by omega)])
   go_wp2_with fail
   go_ret2
   exact⟨_,by rw[HG2.out];rfl,by rw[HG2.out];rfl,HB.out⟩
end Go.Proofs.YthhbnenaihkggaaGreat
