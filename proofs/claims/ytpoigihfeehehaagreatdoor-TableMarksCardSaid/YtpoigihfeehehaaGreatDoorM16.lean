/- The walk of page.made. Steps through a region that draws its order, under a condition on the world that every operation keeps. The walk of page.Right, Kind. The walks of page.New, Slots, Get, Room. -/
import Derived.Test.YtpoigihfeehehaaGreatDoorM15
import Derived.Laws.CopyOwn
import Derived.Deep.RegionHeld3
import Derived.Deep.MidRow
import Derived.Stop.BytesEq
set_option linter.all false
set_option maxRecDepth 100000
set_option maxHeartbeats 32000000
namespace Go.Proofs.YtpoigihfeehehaaGreatDoor
open Go.RowKit
def A4 {α:Type}:List (Option α)→List (Option α)
 |[]=>[]
 |none::r=>if A4 r=[]then []else none::A4 r
 |some x::r=>some x::A4 r
theorem H8 {α:Type}:∀ (ss:List (Option α)) (j:Nat),j≤ss.length→(∀ i,j≤i→ss.getD i none=none)→(j=0∨ss.getD (j - 1) none≠none)→A4 ss=ss.take j
 |[],j,hj,_,_=>by simp[A4]
 |o::r,0,_,h,_=>by
  have h0:o=none:=by simpa using h 0 (by omega)
  subst h0
  have:=H8 r 0 (by omega) (fun i _=>by simpa using h (i+1) (by omega)) (.inl rfl)
  simp[A4,this]
 |o::r,j+1,hj,h,hl=>by
  have hj':j≤r.length:=by simpa using hj
  have hr:∀ i,j≤i→r.getD i none=none:=fun i hi=>by simpa using h (i+1) (by omega)
  by_cases h0:j=0
  ·subst h0
   have ho:o≠none:=by simpa using hl
   have:=H8 r 0 (by omega) hr (.inl rfl)
   cases o with
   |none=>exact absurd rfl ho
   |some x=>simp[A4,this]
  ·have hl':r.getD (j - 1) none≠none:=by
    rcases hl with hl|hl
    ·omega
    ·have e:j+1 - 1=(j - 1)+1:=by omega
     rw[e]at hl
     simpa using hl
   have:=H8 r j hj' hr (.inr hl')
   cases o with
   |none=>
    have hne:r.take j≠[]:=by
     intro e
     have:(r.take j).length=0:=by rw[e];rfl
     rw[QZ]at this
     omega
    simp[A4,this,hne]
   |some x=>simp[A4,this]
def Gx (p:List UInt8)(i e:Nat)(r:List UInt8):List UInt8:=
 ((((splice p e r).set (6+4*i) (toB e)).set (6+4*i+1) (toB ((e:Int) / 256))).set (6+4*i+2) (toB (r.length+1))).set (6+4*i+3) (toB (((r.length:Int)+1) / 256))
def Bw (ts:List (Option (List UInt8)))(p:List UInt8):Nat→List UInt8×Nat
 |0=>(p,512)
 |k+1=>match ts.getD k none with
  |none=>Bw ts p k
  |some r=>(Gx (Bw ts p k).1 k ((Bw ts p k).2 - r.length) r,(Bw ts p k).2 - r.length)
def Ke (kd:Int)(ts:List (Option (List UInt8))):List UInt8:=(Bw ts ((Ah.set 4 (toB kd)).set 5 (toB ts.length)) ts.length).1
def Ek (kd:Int)(ss:List (Option (List UInt8))):List UInt8:=Hd (Ke kd (A4 ss))
theorem H9 (ts:List (Option (List UInt8)))(p:List UInt8)(k:Nat)(hk:k≤ts.length)(h:lens ts≤512):(Bw ts p k).2=512 - lens (ts.take k):=by
 induction k with
 |zero=>simp[Bw,lens]
 |succ k ih=>
  have h1:=lens_take_succ ts k (by omega)
  have h2:=lens_take_le ts (k+1)
  have h3:=ih (by omega)
  unfold Bw
  cases ho:ts.getD k none with
  |none=>rw[ho]at h1;simp[Cs]at h1;simp only;rw[h3];omega
  |some r=>rw[ho]at h1;simp[Cs]at h1;simp only;rw[h3];omega
theorem Ht (p:List UInt8)(i e:Nat)(r:List UInt8)(h:e+r.length≤p.length):(Gx p i e r).length=p.length:=by
 simp[Gx,length_splice _ _ _ h]
theorem Kf (ts:List (Option (List UInt8)))(p:List UInt8)(hp:p.length=512)(k:Nat)(hk:k≤ts.length)(h:lens ts≤512):(Bw ts p k).1.length=512:=by
 induction k with
 |zero=>exact hp
 |succ k ih=>
  have h3:=ih (by omega)
  have h1:=lens_take_succ ts k (by omega)
  have h2:=lens_take_le ts (k+1)
  have h4:=H9 ts p k (by omega) h
  unfold Bw
  cases ho:ts.getD k none with
  |none=>exact h3
  |some r=>
   rw[ho]at h1
   simp[Cs]at h1
   simp only
   rw[Ht _ _ _ _ (by omega),h3]
theorem Tt (p r:List UInt8)(e:Nat):splice (A8 p) e (A8 r)=A8 (splice p e r):=by
 simp[splice,A8]
theorem E1 {w:World}{g:Nat}{l:List UInt8}(h:w.heap[g]? =some (.cells (Ae l) 151 (0,0)))(hl:l.length=512)(k:Nat)(hk:k<512):
 w.cell? ⟨g,k,none⟩=some (.int .u8 (l.getD k 0).toNat):=by
 rw[cell_of_row w g k _ _ _ h];simpa using Dg l k (by omega)
theorem F6 {w:World}{g:Nat}{l:List UInt8}(h:w.heap[g]? =some (.cells (Ae l) 151 (0,0)))(k:Nat):w.frozen? ⟨g,k,none⟩=false:=frozen_of_row w g k _ _ h
theorem Ia {w:World}{g:Nat}{l:List UInt8}(h:w.heap[g]? =some (.cells (Ae l) 151 (0,0)))(k:Nat)(x:Int)(h0:0≤x)(h1:x<256):
 (w.setCell ⟨g,k,none⟩ (.int .u8 x)).heap[g]? =some (.cells (Ae (l.set k (toB x))) 151 (0,0)):=by
 rw[heap_setCell_same w g k _ _ _ h]
 unfold Ae
 rw[← H7 l k x h0 h1];simp
theorem Ahb {x y:Int}(h:x % 256=y % 256):toB x=toB y:=by unfold toB;rw[h]
theorem Tu (g:Nat)(lo:Int)(lo':Nat)(h1:lo=lo')(h2:lo'≤512)(w:World):
 (Instr.sliceAt 151 (.pointer (some ⟨g,0,none⟩)) (some (.int .i64 lo)) none none).run Tryz.prog w= .ok (.slice (some ⟨g,if lo'=512 then 0 else lo',none⟩) (512 - lo') (512 - lo')) w:=by
 have ht:Tryz.prog.underlying 151=some (.array (Tryz.prog.arrayLen 151) (Tryz.prog.elem 151)):=by kernel_rfl
 have hn:Tryz.prog.arrayLen 151=512:=by kernel_rfl
 have hs:(sizeOf (Tryz.prog.elem 151)).run Tryz.prog w= .ok 1 w:=by kernel_rfl
 rw[run_sliceAt_array_l w 151 _ ht .i64 lo (by omega) (by rw[hn];omega),hs]
 subst h1
 simp only[Result.andThen_ok,slicedAt,hn]
 rw[ZZ]
 by_cases h:lo'=512
 ·subst h;simp
 ·rw[if_neg (by omega),if_neg h]
  simp[Addr.add]
  intro e;exact e.symm
def Asg:Value→Nat
 | .slice _ n _=>n
 |_=>0
theorem Ahc (kd:Int)(h0:0≤kd)(h1:kd<256)(ss:List (Option (List UInt8)))(g cap base:Nat)(w:World)(hm:B9 ss≤496)(hcap:ss.length≤cap)
 (hc:∀ k,k<ss.length→∃ x,w.cell? ⟨g,k,none⟩=some x∧w.frozen? ⟨g,k,none⟩=false∧Rec w base x (ss.getD k none)):
 Calls Tryz.prog 119 #[.int .u8 kd,.slice (some ⟨g,0,none⟩) ss.length cap] w fun e w'=>e= .returned (.agg (Ae (Ek kd ss)))∧Below w.heap.size w w':=by
 have hz:=Eg
 have hn:=Zk
 have hlen:ss.length≤124:=by unfold B9 at hm;omega
 have HC:=Lib.hid hc;clear hc
 have HM:=Lib.hid hm;clear hm
 go_enter Tryz.func119,Tryz.ntmps119
 go_wp2_with fail
 have hW0:(((w.alloc (.cells (Ae Ah) 151)).alloc (.cells (Ae Ah) 151))).heap[w.heap.size]? =some (.cells (Ae Ah) 151 (0,0)):=heap_alloc2_old _ _ _
 have hW1:(((w.alloc (.cells (Ae Ah) 151)).alloc (.cells (Ae Ah) 151))).heap[w.heap.size+1]? =some (.cells (Ae Ah) 151 (0,0)):=heap_alloc2_new _ _ _
 have hWB:Below w.heap.size w (((w.alloc (.cells (Ae Ah) 151)).alloc (.cells (Ae Ah) 151))):=((Below.refl _ _).alloc (QH _) _).alloc (by simp) _
 have hWS:(((w.alloc (.cells (Ae Ah) 151)).alloc (.cells (Ae Ah) 151))).heap.size=w.heap.size+2:=by simp
 generalize ((w.alloc (.cells (Ae Ah) 151)).alloc (.cells (Ae Ah) 151))=w1 at*
 have HW0:=Lib.hid hW0;have HW1:=Lib.hid hW1;have HWB:=Lib.hid hWB;have HWS:=Lib.hid hWS
 clear hW0 hW1 hWB hWS
 go_loop [1] (fun v=>∃ j:Nat,j≤ss.length∧v= .slice (some ⟨g,0,none⟩) j cap∧∀ i,j≤i→ss.getD i none=none) (fun v=>Asg v)
 case atStart=>exact⟨ss.length,QH _,rfl,fun i hi=>by simp[ZG hi]⟩
 case round=>
  obtain⟨j,hj,rfl,hnone⟩:=hrel
  have HNO:=Lib.hid hnone;clear hnone
  have key:(∃ x,w1.cell? ⟨g,j - 1,none⟩=some x∧1≤j∧ss.getD (j - 1) none=none∧x= .slice none 0 0)∨(j≤0∧A4 ss=ss.take j)∨(∃ x r g' cap',w1.cell? ⟨g,j - 1,none⟩=some x∧1≤j∧x= .slice (some ⟨g',0,none⟩) r cap'∧A4 ss=ss.take j):=by
   by_cases hj0:j=0
   ·exact .inr (.inl ⟨by omega,H8 ss j hj HNO.out (.inl hj0)⟩)
   ·obtain⟨x,hx,_,hrec⟩:=HC.out (j - 1) (by omega)
    have hx1:w1.cell? ⟨g,j - 1,none⟩=some x:=cell_later HWB.out hx
    rcases hrec.form with⟨ho,rfl⟩|⟨r,g',cap',ho,rfl⟩
    ·exact .inl ⟨_,hx1,by omega,ho,rfl⟩
    ·exact .inr (.inr ⟨_,_,_,_,hx1,by omega,rfl,H8 ss j hj HNO.out (.inr (by rw[ho];simp))⟩)
  rcases key with⟨x,hx1,hj1,ho,rfl⟩|⟨hj0,ht⟩|⟨x,r,g',cap',hx1,hj1,rfl,ht⟩
  ·have HO:=Lib.hid ho;clear ho
   go_wp2_with fail
   go_round
   case rel=>exact⟨j - 1,by omega,by go_num,fun i hi=>by
    by_cases e:i=j - 1
    ·rw[e];exact HO.out
    ·exact HNO.out i (by omega)⟩
   case measure=>simp[Asg];omega
  all_goals
   have HT:=Lib.hid ht;clear ht
   have hc4:=E1 HW1.out Ai 4 (by omega)
   have hc5:=E1 HW1.out Ai 5 (by omega)
   have hf4:=F6 HW1.out 4
   have hf5:=F6 HW1.out 5
   generalize (Ah.getD 4 0).toNat=z4 at*
   generalize (Ah.getD 5 0).toNat=z5 at*
   go_wp2_with fail
   have hP0:=Ia (Ia HW1.out 4 kd h0 h1) 5 (j:Int) (by omega) (by omega)
   have hPB:Below (w.heap.size+1) w1 ((w1.setCell ⟨w.heap.size+1,4,none⟩ (.int .u8 kd)).setCell ⟨w.heap.size+1,5,none⟩ (.int .u8 (j:Int))):=((Below.refl _ _).setCell (by simp) _).setCell (by simp) _
   generalize (w1.setCell ⟨w.heap.size+1,4,none⟩ (.int .u8 kd)).setCell ⟨w.heap.size+1,5,none⟩ (.int .u8 (j:Int))=w2 at*
   have HP0:=Lib.hid hP0;have HPB:=Lib.hid hPB
   have HLP:=Lib.hid (show ((Ah.set 4 (toB kd)).set 5 (toB (j:Int))).length=512 by simp[Ai])
   have HLT:=Lib.hid (show (ss.take j).length=j by simp;omega)
   have HLN:=Lib.hid (show lens (ss.take j)≤496 by have:=lens_take_le ss j;have:=HM.out;unfold B9 at this;omega)
   have HFL:=Lib.hid (show Ke kd (A4 ss)=(Bw (ss.take j) ((Ah.set 4 (toB kd)).set 5 (toB (j:Int))) j).1 by unfold Ke;rw[HT.out,HLT.out])
   have HTG:=Lib.hid (show ∀ k,k<j→(ss.take j).getD k none=ss.getD k none from fun k hk=>by simp[hk])
   clear hP0 hPB hc4 hc5 hf4 hf5
   generalize ss.take j=ts at*
   generalize (Ah.set 4 (toB kd)).set 5 (toB (j:Int))=p0 at*
   go_loopw [6,36] (fun e i wr=>∃ k:Nat,k≤j∧i= .int .i64 k∧e= .int .i64 ((Bw ts p0 k).2:Nat)∧Hid (wr.heap[w.heap.size+1]? =some (.cells (Ae (Bw ts p0 k).1) 151 (0,0)))∧Hid (Below (w.heap.size+1) w2 wr)) (fun _ i _=>j - (intOf i).toNat)
   case atStart=>exact⟨0,YS _,rfl,rfl,HP0.out,Below.refl _ _⟩
   case round=>
    obtain⟨k,hk,rfl,rfl,hpg,hbw⟩:=hrel
    have HLF:=Lib.hid (Kf ts p0 HLP.out k (by rw[HLT.out];exact hk) (by have:=HLN.out;omega))
    by_cases hlt:k<j
    case neg=>
     obtain rfl:k=j:=by omega
     have HPG:=hpg;clear hpg
     rw[← HFL.out]at HPG HLF
     have HMD:=Lib.hid (show Ek kd ss=Hd (Ke kd (A4 ss)) from rfl)
     clear HFL
     generalize Ke kd (A4 ss)=q at*
     have HR0:=Lib.hid (show wr.heap[w.heap.size]? =some (.cells (Ae Ah) 151 (0,0)) from ((hbw.out.block _ (by omega)).trans (HPB.out.block _ (by omega))).trans HW0.out)
     have HBA:=Lib.hid (show Below w.heap.size w wr from (HWB.out.trans (HPB.out.mono (by omega))).trans (hbw.out.mono (by omega)))
     go_wp2_with (refine wpList_load_row (P:=Tryz.prog) rfl 151 _ rfl _ rfl _ _ _ _ HPG.out Tryz.underlying151 rfl (Aw _ HLF.out) ?_)
     refine (Abr q _ HLF.out).mono ?_
     rintro e w4 ⟨rfl,hb4⟩
     have HLS:=Lib.hid ((Fe q).trans HLF.out)
     have HR4:=Lib.hid ((hb4.block _ (by have:=hbw.out.size;have:=HPB.out.size;have:=HWS.out;omega)).trans HR0.out)
     have HB4:=Lib.hid (HBA.out.trans (hb4.mono HBA.out.size))
     clear hb4
     rw[← HMD.out]at*
     generalize hmm:Ek kd ss=m at*
     have HMM:=Lib.hid hmm;clear hmm
     go_wp2_with (refine wpList_store_row (P:=Tryz.prog) rfl 151 _ _ rfl _ _ rfl rfl _ _ HR4.out (Aw _ HLS.out) (by rw[A1,A1,HLS.out];exact Ai) (Bd _) ?_)
     refine bodyPost_ret (v:=.agg (Ae m)) (results_cell_row rfl _ _ _ _ _ _ _ rfl (setRow_heap _ _ _ _ _ _ HR4.out) Tryz.underlying151 rfl (Aw _ HLS.out)) rfl ⟨by rw[HMM.out],?_⟩
     exact HB4.out.trans (Below.setRow _ _ _ _ (QH _))
    all_goals (try (exfalso;omega))
    all_goals
     obtain⟨x,hx,_,hrec⟩:=HC.out k (by omega)
     have hx1:wr.cell? ⟨g,k,none⟩=some x:=by
      have h1:=cell_later HWB.out hx
      have hgb:=World.block_lt_of_cell? w _ hx
      rw[hbw.out.cell (p:=⟨g,k,none⟩) (by simp at hgb;simp;omega),HPB.out.cell (p:=⟨g,k,none⟩) (by simp at hgb;simp;omega)]
      exact h1
     clear hx
     rcases hrec.form with⟨ho,rfl⟩|⟨r,g',cap',ho,rfl⟩
     ·have HFS:=Lib.hid (show Bw ts p0 (k+1)=Bw ts p0 k by simp only[Bw,HTG.out k hlt,ho])
      clear ho hrec
      go_wp2_with fail
      go_roundw
      case rel=>exact⟨k+1,by omega,by go_num,by rw[HFS.out],by rw[HFS.out];exact hpg,hbw⟩
      case measure=>simp[intOf];omega
     ·have HFS:=Lib.hid (show Bw ts p0 (k+1)=(Gx (Bw ts p0 k).1 k ((Bw ts p0 k).2 - r.length) r,(Bw ts p0 k).2 - r.length) by simp only[Bw,HTG.out k hlt,ho])
      have hE1:r.length≤(Bw ts p0 k).2:=by
       have a1:=H9 ts p0 k (by rw[HLT.out];omega) (by have:=HLN.out;omega)
       have a2:=lens_take_succ ts k (by rw[HLT.out];exact hlt)
       have a3:=lens_take_le ts (k+1)
       have a4:=HLN.out
       rw[HTG.out k hlt,ho]at a2
       simp only[Cs]at a2
       omega
      have hE2:(Bw ts p0 k).2≤512:=by
       have a1:=H9 ts p0 k (by rw[HLT.out];omega) (by have:=HLN.out;omega)
       omega
      have HSRC:=Lib.hid (show ∀ j v,(A8 r)[j]? =some v→wr.cell? ((⟨g',0,none⟩:Addr).add j)=some v from fun j v hj=>by
       rw[ho]at hrec
       have h1:=hrec.1.cells (g:=g') rfl j v hj
       have hgb:=World.block_lt_of_cell? w _ h1
       rw[Addr.add_lit]at h1 hgb ⊢
       have h2:=cell_later HWB.out h1
       rw[hbw.out.cell (by simp at hgb;simp;omega),HPB.out.cell (by simp at hgb;simp;omega)]
       exact h2)
      generalize (Bw ts p0 k).1=p at*
      generalize (Bw ts p0 k).2=E at*
      clear ho hrec
      have hsl:=Tu (w.heap.size+1) ((E:Int) - r.length) (E - r.length) (by omega) (by omega)
      obtain⟨F',hF'⟩:∃ F',F'=if E - r.length=512 then 0 else E - r.length:=⟨_,rfl⟩
      rw[← hF']at hsl
      have HF':=Lib.hid hF';clear hF'
      have hrl:r.length≤512:=by omega
      obtain⟨q,hq⟩:∃ q,q=splice p (E - r.length) r:=⟨_,rfl⟩
      have HQ:=Lib.hid hq
      have HQL:=Lib.hid (show q.length=512 by rw[hq,length_splice _ _ _ (by rw[HLF.out];omega),HLF.out])
      have HQB:=Lib.hid (show splice (A8 p) (E - r.length) (A8 r)=A8 q by rw[hq,Tt])
      clear hq
      go_wp2_with (refine wpList_copy_splice rfl (.tmp 48) (.tmp 49) 70 70 rfl 5 Tryz.underlying70 (by kernel_rfl) _ _ _ _ _ _ rfl rfl (w.heap.size+1) (E - r.length) (A8 p) 151 hpg.out (A8 r) (by rw[C1];show r.length=min _ _;omega) (fun hpos=>⟨by rw[C1]at hpos;rw[HF'.out,if_neg (by omega)],_,rfl,HSRC.out⟩) (by rw[C1,C1,HLF.out];omega) (Fs r) (w.heap.size+1) w2 hbw.out (QH _) ?_;intro w3 h3 hb3;rw[HQB.out]at h3;have c0:=E1 h3.out HQL.out (6+4*k) (by omega);have c1:=E1 h3.out HQL.out (6+4*k+1) (by omega);have c2:=E1 h3.out HQL.out (6+4*k+2) (by omega);have c3:=E1 h3.out HQL.out (6+4*k+3) (by omega);have f0:=F6 h3.out (6+4*k);have f1:=F6 h3.out (6+4*k+1);have f2:=F6 h3.out (6+4*k+2);have f3:=F6 h3.out (6+4*k+3))
      go_roundw
      case rel=>
       refine⟨k+1,by omega,by go_num,?_,?_,?_⟩
       ·rw[HFS.out]
        show Value.int .i64 ((E:Int) - r.length)=Value.int .i64 ((E - r.length:Nat):Int)
        rw[Int.ofNat_sub hE1]
       ·rw[HFS.out]
        have hs:=Ia (Ia (Ia (Ia h3.out (6+4*k) (((E:Int) - r.length) % 256) (by omega) (by omega)) (6+4*k+1) (((E:Int) - r.length) / 256) (by omega) (by omega)) (6+4*k+2) (((r.length:Int)+1) % 256) (by omega) (by omega)) (6+4*k+3) (((r.length:Int)+1) / 256) (by omega) (by omega)
        rw[Ahb (show ((E:Int) - r.length) % 256 % 256=((E - r.length:Nat):Int) % 256 by omega),Ahb (show ((E:Int) - r.length) / 256 % 256=(((E - r.length:Nat):Int) / 256) % 256 by omega),Ahb (show ((r.length:Int)+1) % 256 % 256=((r.length:Int)+1) % 256 by omega),HQ.out]at hs
        exact hs
       ·exact (((hb3.setCell (by simp) _).setCell (by simp) _).setCell (by simp) _).setCell (by simp) _
      case measure=>simp[intOf];omega
theorem Abs (kd:Int)(h0:0≤kd)(h1:kd<256)(w:World):
 Calls Tryz.prog 119 #[.int .u8 kd,.slice none 0 0] w fun e w'=>e= .returned (.agg (Ae (Ek kd [])))∧Below w.heap.size w w':=by
 have hz:=Eg
 have hc4:=Dg Ah 4 (by rw[Ai];omega)
 have hc5:=Dg Ah 5 (by rw[Ai];omega)
 generalize (Ah.getD 4 0).toNat=z4 at*
 generalize (Ah.getD 5 0).toNat=z5 at*
 have hg5:((A8 Ah).set 4 (.int .u8 kd))[5]? =some (.int .u8 z5):=by rw[QO (by omega)];exact hc5
 have HQ:=Lib.hid (show ((A8 Ah).set 4 (.int .u8 kd)).set 5 (.int .u8 0)=A8 (Ke kd []) by
  rw[H7 _ _ _ h0 h1,H7 _ _ _ (by omega) (by omega)];rfl)
 have HLF:=Lib.hid (show (Ke kd []).length=512 by simp[Ke,Bw,Ai])
 have HMD:=Lib.hid (show Ek kd []=Hd (Ke kd []) from rfl)
 generalize Ke kd []=q at*
 go_enter Tryz.func119,Tryz.ntmps119
 go_wp2_with fail
 refine wp_loop_rounds 1 ?_
 rw[rounds_succ]
 go_wp2_with fail
 refine wp_loop_rounds 1 ?_
 rw[rounds_succ]
 rw[HQ.out]
 have HP1:=Lib.hid (heap_alloc2_new w (.cells (Ae Ah) 151) (.cells (Ae q) 151))
 have HR1:=Lib.hid (heap_alloc2_old w (.cells (Ae Ah) 151) (.cells (Ae q) 151))
 have HB1:=Lib.hid (show Below w.heap.size w ((w.alloc (.cells (Ae Ah) 151)).alloc (.cells (Ae q) 151)) from ((Below.refl _ _).alloc (QH _) _).alloc (by simp) _)
 have HS1:=Lib.hid (show ((w.alloc (.cells (Ae Ah) 151)).alloc (.cells (Ae q) 151)).heap.size=w.heap.size+2 from by simp)
 generalize ((w.alloc (.cells (Ae Ah) 151)).alloc (.cells (Ae q) 151))=wr at*
 go_wp2_with (refine wpList_load_row (P:=Tryz.prog) rfl 151 _ rfl _ rfl _ _ _ _ HP1.out Tryz.underlying151 rfl (Aw _ HLF.out) ?_)
 refine (Abr q _ HLF.out).mono ?_
 rintro e w4 ⟨rfl,hb4⟩
 have HLS:=Lib.hid ((Fe q).trans HLF.out)
 have HR4:=Lib.hid ((hb4.block _ (by have:=HS1.out;omega)).trans HR1.out)
 have HB4:=Lib.hid (HB1.out.trans (hb4.mono HB1.out.size))
 clear hb4
 rw[← HMD.out]at*
 generalize hmm:Ek kd []=m at*
 have HMM:=Lib.hid hmm;clear hmm
 go_wp2_with (refine wpList_store_row (P:=Tryz.prog) rfl 151 _ _ rfl _ _ rfl rfl _ _ HR4.out (Aw _ HLS.out) (by rw[A1,A1,HLS.out];exact Ai) (Bd _) ?_)
 refine bodyPost_ret (v:=.agg (Ae m)) (results_cell_row rfl _ _ _ _ _ _ _ rfl (setRow_heap _ _ _ _ _ _ HR4.out) Tryz.underlying151 rfl (Aw _ HLS.out)) rfl ⟨by rw[HMM.out],?_⟩
 exact HB4.out.trans (Below.setRow _ _ _ _ (QH _))
theorem Ak4 (kd:Int)(h0:0≤kd)(h1:kd<256)(ss:List (Option (List UInt8)))(v:Value)(base:Nat)(w:World)(h:Cm w base v ss)(hm:B9 ss≤496):
 Calls Tryz.prog 119 #[.int .u8 kd,v] w fun e w'=>e= .returned (.agg (Ae (Ek kd ss)))∧Below w.heap.size w w':=by
 rcases h.cells with⟨rfl,rfl⟩|⟨g,cap,rfl,hg,hcap,hc⟩
 ·exact Abs kd h0 h1 w
 ·exact Ahc kd h0 h1 ss g cap base w hm hcap hc
theorem Ff (kd:Int)(ss:List (Option (List UInt8)))(hm:lens (A4 ss)≤512):(Ek kd ss).length=512:=by
 unfold Ek Ke
 rw[Fe,Kf _ _ (by simp[Ai]) _ (QH _) hm]
section
variable {ops:Array Oper} {Q:Exit→Act→World→Prop} {S:World→Prop} {fuel:Nat} {listed:Array Bool} {a:Act} {w:World}
theorem Aeu (i d:Nat)(oi:Oper)(v:Value)(hi:ops[i]? =some oi)(hd:oi.dst=some d)(hg:Region.wanted oi (yielded ops a.tmps)=true)
 (hs:Region.noSelect ops=true) (hf:Region.free .any ops listed i=true) (hr:(Region.ready .any ops listed).contains i=true)
 (hS:S w) (hy:∀ w,S w→(execOp a.eval oi).run Tryz.prog w= .ok (.value v) w)
 (h:wpAnyH Tryz.prog .any ops (NoPanic Q) S fuel (listed.setIfInBounds i true) { a with tmps:=a.tmps.setIfInBounds d v } w):
 wpAnyH Tryz.prog .any ops (NoPanic Q) S (fuel+1) listed a w:=by
 refine wpAnyH_take hi hs hf hr (fun _ _ _ h=>h) (v:=v) (Or.inl ⟨hg,hy⟩) hS ?_
 simpa [Act.put,hd]using h
theorem R4 (i d b o:Nat)(oi:Oper)(ty:TypeId)(x:Operand)(cs:List Value)(t:TypeDesc)(hi:ops[i]? =some oi)(hd:oi.dst=some d)(hg:Region.wanted oi (yielded ops a.tmps)=true)
 (hs:Region.noSelect ops=true) (hf:Region.free .any ops listed i=true) (hr:(Region.ready .any ops listed).contains i=true)
 (hop:oi.op= .load ty x) (hx:a.eval x= .pointer (some ⟨b,o,none⟩)) (hu:Tryz.prog.underlying ty=some t) (ht:t.isRow=true) (hsz:(Tryz.prog.info? ty).map (·.size)=some cs.length)
 (hS:S w) (hc:∀ w,S w→w.rangeAt b o cs)
 (h:wpAnyH Tryz.prog .any ops (NoPanic Q) S fuel (listed.setIfInBounds i true) { a with tmps:=a.tmps.setIfInBounds d (.agg cs.toArray) } w):
 wpAnyH Tryz.prog .any ops (NoPanic Q) S (fuel+1) listed a w:=
 Aeu i d oi _ hi hd hg hs hf hr hS (fun w hw=>by
  unfold execOp
  simp only[hop,hx,Instr.loadAt,Instr.sureAddr,Sem.run_bind,Sem.run_pure,Result.andThen_ok,run_loadVar_mid w b o ty cs t (hc w hw) hu ht hsz]) h
end
def Ahd (l:List UInt8):Bool:=Hd l==l
def Eo (l:List UInt8):Int:=(l.getD 4 0).toNat
theorem Ak5 (l:List UInt8)(w:World)(hl:l.length=512):
 Calls Tryz.prog 121 #[.agg (Ae l)] w fun e w'=>e= .returned (.int .i64 (Eo l))∧Below w.heap.size w w':=by
 have HL:=Lib.hid hl;clear hl
 have hc:=Dg l 4 (by rw[HL.out];omega)
 go_enter Tryz.func121,Tryz.ntmps121
 go_wp2_with fail
 go_ret
 exact⟨by rw[IntWalk.wrap64_in _ ⟨by omega,by have:=WN (l.getD 4 0);simp only[QM]at this;omega⟩];simp[Eo],(Below.refl _ _).alloc (QH _) _⟩
def Fg (k:Int):List UInt8:=Ek (k % 256) []
theorem Dc (k:Int):(Fg k).length=512:=Ff _ _ (by simp[A4,lens])
theorem Ahe (k:Int)(w:World):Calls Tryz.prog 71 #[.int .i64 k] w fun e w'=>e= .returned (.agg (Ae (Fg k)))∧Below w.heap.size w w':=by
 have hz:=Eg
 go_enter Tryz.func71,Tryz.ntmps71
 go_wp2_with fail
 refine (Abs (k % 256) (by omega) (by omega) _).mono ?_
 rintro e w4 ⟨rfl,hb4⟩
 have HR4:=Lib.hid ((hb4.block _ (by simp)).trans (heap_alloc_new w _))
 have HLS:=Lib.hid (Dc k)
 have HB4:=Lib.hid (((Below.refl w.heap.size w).alloc (QH _) _).trans (hb4.mono (by simp)))
 clear hb4
 rw[show Ek (k % 256) []=Fg k from rfl]
 generalize hmm:Fg k=m at*
 have HMM:=Lib.hid hmm;clear hmm
 go_wp2_with (refine wpList_store_row (P:=Tryz.prog) rfl 151 _ _ rfl _ _ rfl rfl _ _ HR4.out (Aw _ HLS.out) (by rw[A1,A1,HLS.out];exact Ai) (Bd _) ?_)
 refine bodyPost_ret (v:=.agg (Ae m)) (results_cell_row rfl _ _ _ _ _ _ _ rfl (setRow_heap _ _ _ _ _ _ HR4.out) Tryz.underlying151 rfl (Aw _ HLS.out)) rfl ⟨by rw[HMM.out],?_⟩
 exact HB4.out.trans (Below.setRow _ _ _ _ (QH _))
theorem E2 (l:List UInt8):(Au l).length≤124:=by simp[Au];omega
theorem Cm.form {w:World}{base:Nat}{v:Value}{ss:List (Option (List UInt8))}(h:Cm w base v ss):∃ a c,v= .slice a ss.length c:=by
 rcases h.cells with⟨rfl,rfl⟩|⟨g,cap,rfl,_⟩
 ·exact⟨_,_,rfl⟩
 ·exact⟨_,_,rfl⟩
theorem W7 (l:List UInt8)(h:l.length=512):lens (Au l)≤63488:=by
 have hm:∀ o∈(Au l).map Cs,o≤512:=by
  intro o ho
  simp only[Au,XV,ZP]at ho
  obtain⟨i,_,rfl⟩:=ho
  simp only[Function.comp_def,slotL,Iy]
  split
  ·simp[Cs]
  ·simp[Cs];omega
 have hl:((Au l).map Cs).length≤124:=by simpa using E2 l
 have gen:∀ (xs:List Nat),(∀ o∈xs,o≤512)→xs.sum≤xs.length*512:=by
  intro xs
  induction xs with
  |nil=>simp
  |cons a xs ih=>
   intro h
   have h1:=h a (by simp)
   have h2:=ih (fun o ho=>h o (by simp[ho]))
   simp only[XI,QF]
   omega
 have:=gen _ hm
 unfold lens
 generalize ((Au l).map Cs).sum=a at*
 generalize ((Au l).map Cs).length=b at*
 omega
theorem Aev (l:List UInt8)(w:World)(hl:l.length=512):
 Calls Tryz.prog 88 #[.agg (Ae l)] w fun e w'=>e= .returned (.int .i64 (Au l).length)∧Below w.heap.size w w':=by
 have HL:=Lib.hid hl;clear hl
 go_enter Tryz.func88,Tryz.ntmps88
 go_wp2_with (refine wpList_load_row (P:=Tryz.prog) rfl 151 _ rfl _ rfl _ _ _ _ (heap_alloc_new _ _) Tryz.underlying151 rfl (Aw _ HL.out) ?_)
 refine (Kc l _ HL.out).mono ?_
 rintro e w4 ⟨v,rfl,hs,hb⟩
 obtain⟨a,c,rfl⟩:=hs.form
 have HB:=Lib.hid (((Below.refl w.heap.size w).alloc (QH _) _).trans (hb.mono (by simp)))
 clear hb hs
 go_wp2_with fail
 go_ret
 exact⟨rfl,HB.out⟩
def Ip (l:List UInt8)(k:Int):Option (List UInt8):=if k<0 then none else (Au l).getD k.toNat none
theorem Ahf (l:List UInt8)(k:Int)(w:World)(hl:l.length=512):
 Calls Tryz.prog 89 #[.agg (Ae l),.int .i64 k] w fun e w'=>∃ v,e= .returned (.tuple #[v,.bool (Ip l k).isSome])∧Rec w' w.heap.size v (Ip l k)∧Below w.heap.size w w':=by
 have hn:=Zk
 have hsl:=E2 l
 have HL:=Lib.hid hl;clear hl
 go_enter Tryz.func89,Tryz.ntmps89
 go_wp2_with (refine wpList_load_row (P:=Tryz.prog) rfl 151 _ rfl _ rfl _ _ _ _ (heap_alloc_new _ _) Tryz.underlying151 rfl (Aw _ HL.out) ?_)
 refine (Kc l _ HL.out).mono ?_
 rintro e w4 ⟨v,rfl,hs,hb⟩
 have HG:=Lib.hid (show Ip l k=if k<0 then none else (Au l).getD k.toNat none from rfl)
 generalize Au l=ss at*
 have HB:=Lib.hid (((Below.refl w.heap.size w).alloc (QH _) _).trans (hb.mono (by simp)))
 have HS:=Lib.hid (hs.mono (base':=w.heap.size) (by simp))
 obtain⟨a,c,rfl⟩:=hs.form
 clear hb hs
 by_cases hk0:k<0
 ·have HG2:=Lib.hid (show Ip l k=none by rw[HG.out,if_pos hk0])
  go_wp2_with fail
  go_ret2
  exact⟨_,by rw[HG2.out];rfl,by rw[HG2.out];rfl,HB.out⟩
 ·obtain⟨j,rfl⟩:=Int.eq_ofNat_of_zero_le (show 0≤k by omega)
  rw[if_neg hk0,ZZ]at HG
  clear hk0
  by_cases hj:j<ss.length
  ·rcases HS.out.cells with⟨h1,h2⟩|⟨g,cap,h1,hg,hcap,hc⟩
   ·subst h2;simp at hj
   ·simp only[Value.slice.injEq,true_and]at h1
    obtain⟨rfl,rfl⟩:=h1
    obtain⟨x,hx,_,hrec⟩:=hc j hj
    clear hc
    rw[← HG.out]at hrec
    have HRC:=Lib.hid hrec
    rcases hrec.form with⟨ho,rfl⟩|⟨r,g',cap',ho,rfl⟩
    ·have HO:=Lib.hid ho
     clear ho hrec
     go_wp2_with fail
     go_ret2
     exact⟨_,by rw[HO.out];rfl,by rw[HO.out];rfl,HB.out⟩
    ·have HO:=Lib.hid ho
     clear ho hrec
     go_wp2_with fail
     go_ret2
     exact⟨_,by rw[HO.out];rfl,HRC.out,HB.out⟩
  ·have HG2:=Lib.hid (show Ip l (j:Int)=none by rw[HG.out];simp[ZG (show ss.length≤j by omega)])
   go_wp2_with fail
   go_ret2
   exact⟨_,by rw[HG2.out];rfl,by rw[HG2.out];rfl,HB.out⟩
