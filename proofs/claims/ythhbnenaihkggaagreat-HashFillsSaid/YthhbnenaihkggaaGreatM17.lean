/- The walk of page.put. The walks of page.Add, Drop, Set. The walk of page.Set. -/
import Derived.Test.YthhbnenaihkggaaGreatM16
import Derived.Deep.Cut
set_option linter.unusedSimpArgs false
set_option linter.unusedVariables false
set_option linter.defProp false
set_option maxRecDepth 100000
set_option maxHeartbeats 32000000
namespace Go.Proofs.YthhbnenaihkggaaGreat
open Go.RowKit
open List (map_cons sum_cons)
def ByteS (w:World)(v:Value)(r:List UInt8):Prop:=Src w v r.length (bytesL r)
theorem ByteS.form {w:World}{v:Value}{r:List UInt8}(h:ByteS w v r):∃ ao c,v= .slice ao r.length c:=by
 obtain⟨ao,c,rfl,_⟩:=h;exact⟨ao,c,rfl⟩
theorem Src.later {w w':World}{v:Value}{m:Nat}{news:List Value}(h:Src w v m news)(hb:Below w.heap.size w w'):Src w' v m news:=by
 obtain⟨ao,c,rfl,hc⟩:=h
 refine⟨ao,c,rfl,?_⟩
 rcases hc with h1|⟨ad,h1,h2⟩
 ·exact .inl h1
 ·refine .inr ⟨ad,h1,fun j u hj=> ?_⟩
  have:=h2 j u hj
  rw[hb.cell (World.block_lt_of_cell? w _ this)];exact this
theorem ByteS.later {w w':World}{v:Value}{r:List UInt8}(h:ByteS w v r)(hb:Below w.heap.size w w'):ByteS w' v r:=Src.later h hb
theorem SlotsR.store {w:World}{base g n cap:Nat}{ss:List (Option (List UInt8))}(k:Nat){x:Value}{o:Option (List UInt8)}(h:SlotsR w base (.slice (some ⟨g,0,none⟩) n cap) ss)(hx:Rec w base x o)(hk:k<ss.length):
 SlotsR (w.setCell ⟨g,k,none⟩ x) base (.slice (some ⟨g,0,none⟩) n cap) (ss.set k o):=by
 obtain⟨xs,hown,hl,hr⟩:=h
 have hn:n=ss.length:=by
  rcases hown.2 with⟨h',_⟩|⟨g',cap',cur,h',_⟩
  ·simp at h'
  ·simp only[Value.slice.injEq]at h';exact h'.2.1
 subst hn
 obtain⟨h1,h2⟩:=hown.stored k x
 have hk5:∀ (q:Nat) (cur:Array Value),w.heap[q]? =some (Obj.cells cur 5 (0,0))→(w.setCell ⟨g,k,none⟩ x).heap[q]? =w.heap[q]? :=by
  intro q cur hq
  refine h2.block q (Array.getElem?_eq_some_iff.1 hq).1 fun e=> ?_
  simp only[Option.some.injEq]at e
  subst e
  rcases hown.2 with⟨h',_⟩|⟨g',cap',cur',h',_,hh,_⟩
  ·simp at h'
  ·simp only[Value.slice.injEq,Option.some.injEq,Addr.mk.injEq,and_true,true_and]at h'
   rw[← h'.1,hq]at hh
   simp at hh
 refine⟨xs.set k x,by simpa using h1,by simpa using hl,fun j hj=> ?_⟩
 simp only[List.length_set]at hj
 by_cases e:k=j
 ·subst e
  have:=hx.kept hk5
  simpa [List.getElem?_set,hl,hk]using this
 ·have:=(hr j hj).kept hk5
  simpa [List.getElem?_set,e]using this
theorem grown_new {w w':World}{o:Obj}{a b:Nat}(hg:(w.alloc o).grownBy w' (Value.ownBlock (.slice (some ⟨w.heap.size,0,none⟩) a b))):∀ q,q<w.heap.size→w'.heap[q]? =w.heap[q]? :=fun q hq=>by
 rw[hg.block q (by simp;omega) (by simp[Value.ownBlock];omega),Below.heap_alloc _ _ _ hq]
theorem SlotsR.cellAt {w:World}{base g n cap:Nat}{ss:List (Option (List UInt8))}(h:SlotsR w base (.slice (some ⟨g,0,none⟩) n cap) ss)(k:Nat)(hk:k<ss.length):
 ∃ x,w.cell? ⟨g,k,none⟩=some x∧w.frozen? ⟨g,k,none⟩=false∧Rec w base x (ss.getD k none):=by
 rcases h.cells with⟨h1,_⟩|⟨g',cap',h1,_,_,hc⟩
 ·simp at h1
 ·simp only[Value.slice.injEq,Option.some.injEq,Addr.mk.injEq,and_true]at h1
  obtain⟨rfl,_,rfl⟩:=h1
  exact hc k hk
theorem lens_set_le (ss:List (Option (List UInt8)))(k:Nat)(o:Option (List UInt8)):lens (ss.set k o)≤lens ss+recLen o:=by
 induction ss generalizing k with
 |nil=>simp[lens]
 |cons a ss ih=>
  cases k with
  |zero=>simp[lens];omega
  |succ k=>
   have:=ih k
   simp only[lens,List.set_cons_succ,map_cons,sum_cons]at*
   omega
theorem slots_apart {w:World}{base g n cap q:Nat}{ss:List (Option (List UInt8))}{cs:Array Value}(h:SlotsR w base (.slice (some ⟨g,0,none⟩) n cap) ss)(hq:w.heap[q]? =some (.cells cs 111 (0,0))):q≠g:=by
 intro e
 subst e
 obtain⟨xs,hown,_⟩:=h
 rcases hown.2 with⟨h',_⟩|⟨g',cap',cur',h',_,hh,_⟩
 ·simp at h'
 ·simp only[Value.slice.injEq,Option.some.injEq,Addr.mk.injEq,and_true,true_and]at h'
  rw[← h'.1,hq]at hh
  simp at hh
theorem lens_trim_le:∀ (ss:List (Option (List UInt8))),lens (trimL ss)≤lens ss
 |[]=>by simp[trimL]
 |none::r=>by
  have:=lens_trim_le r
  unfold trimL
  split
  ·simp[lens]
  ·simp only[lens,map_cons,sum_cons]at *;omega
 |some x::r=>by
  have:=lens_trim_le r
  simp only[trimL,lens,map_cons,sum_cons]at *;omega
theorem results_page2 {fn:Func}{p u:Tmp}(h:fn.results= #[.cell p 111,.tmp u])(tmps:Array Value)(w:World)(g:Nat)(l:List UInt8)
 (hp:tmps.getD p undef= .pointer (some ⟨g,0,none⟩)) (hg:w.heap[g]? =some (.cells (bytesA l) 111 (0,0))) (hl:l.length=512) (b:Value) (hb:tmps.getD u undef=b):
 (results fn tmps).run Tryz.prog w= .ok (.tuple #[.agg (bytesA l),b]) w:=by
 subst hb
 rw[results_cell_tmp h,hp]
 simp[asAddr,run_loadVar_row w g _ _ _ _ _ hg Tryz.underlying111 rfl (info_page' _ hl),Result.andThen]
theorem results_page3 {fn:Func}{p u t:Tmp}(h:fn.results= #[.cell p 111,.tmp u,.tmp t])(tmps:Array Value)(w:World)(g:Nat)(l:List UInt8)
 (hp:tmps.getD p undef= .pointer (some ⟨g,0,none⟩)) (hg:w.heap[g]? =some (.cells (bytesA l) 111 (0,0))) (hl:l.length=512) (a b:Value) (ha:tmps.getD u undef=a) (hb:tmps.getD t undef=b):
 (results fn tmps).run Tryz.prog w= .ok (.tuple #[.agg (bytesA l),a,b]) w:=by
 subst ha hb
 have hp':tmps[p]?.getD undef= .pointer (some ⟨g,0,none⟩):=by simpa using hp
 simp[results,h,hp',asAddr,run_loadVar_row w g _ _ _ _ _ hg Tryz.underlying111 rfl (info_page' _ hl),Result.andThen]
def putL (ss:List (Option (List UInt8)))(k:Nat)(r:List UInt8):List (Option (List UInt8)):=(if k=ss.length then ss++[none]else ss).set k (some r)
def putPage (kd:Int)(ss:List (Option (List UInt8)))(k:Nat)(r:List UInt8):List UInt8×Bool:=
 if 400<r.length∨496<costL (putL ss k r)then (zeroPage,false)else (madeL kd (putL ss k r),true)
theorem put_core (pp:List UInt8×Bool)(l:List UInt8)(ss:List (Option (List UInt8)))(k:Nat)(r:List UInt8)(v rv:Value)(base:Nat)(w:World)(hl:l.length=512)(h:SlotsR w base v ss)(hr:∀ w',Below base w w'→ByteS w' rv r)
 (hk:k≤ss.length) (hss:ss.length≤124) (hls:lens ss≤63488) (hrl:r.length≤140737488351232) (hbase:base≤w.heap.size) (hpp:pp=putPage (kindL l) ss k r):
 Calls Tryz.prog 111 #[.agg (bytesA l),v,.int .i64 k,rv] w fun e w'=>e= .returned (.tuple #[.agg (bytesA pp.1),.bool pp.2])∧Below base w w':=by
 have HPP:=Lib.hid (show pp=if 400<r.length∨496<costL (putL ss k r)then (zeroPage,false)else (madeL (kindL l) (putL ss k r),true) from hpp)
 clear hpp
 have hz:=zero_page
 obtain⟨ao,rc,rfl⟩:=(hr w (Below.refl _ _)).form
 have HL:=Lib.hid hl;clear hl
 have HR:=Lib.hid hr;clear hr
 have HS:=Lib.hid h
 go_enter Tryz.func111,Tryz.ntmps111
 have HB0:=Lib.hid (show Below w.heap.size w ((w.alloc (.cells (bytesA l) 111)).alloc (.cells (bytesA zeroPage) 111)) from ((Below.refl _ _).alloc (Nat.le_refl _) _).alloc (by simp) _)
 have HP0:=Lib.hid (heap_alloc2_old w (.cells (bytesA l) 111) (.cells (bytesA zeroPage) 111))
 have HZ0:=Lib.hid (heap_alloc2_new w (.cells (bytesA l) 111) (.cells (bytesA zeroPage) 111))
 have HW0:=Lib.hid (show ((w.alloc (.cells (bytesA l) 111)).alloc (.cells (bytesA zeroPage) 111)).heap.size=w.heap.size+2 from by simp)
 have HS0:=Lib.hid (h.kept (fun g hg _=>HB0.out.block g hg))
 go_upto_region 1 with fail
 generalize (w.alloc (.cells (bytesA l) 111)).alloc (.cells (bytesA zeroPage) 111)=W at*
 have hWs:w.heap.size≤W.heap.size:=HB0.out.size
 by_cases hkl:k=ss.length
 case' pos=>
  obtain⟨xs,hown,hxl,hxr⟩:=HS0.out
  have HXL:=Lib.hid hxl;have HXR:=Lib.hid hxr
  clear hxl hxr
  subst hkl
  have HPL:=Lib.hid (show putL ss ss.length r=(ss++[none]).set ss.length (some r) by simp[putL])
  rw[HPL.out]at HPP
  clear HPL
  obtain⟨av,cv,rfl⟩:=h.form
  clear h
  go_upto_region 3 with (at_builtin;refine append_some 22 23 (.slice none 0 0) 1 24 Tryz.underlying22 info_bytes rfl (by decide) rfl (.tmp 14) (.tmp 15) rfl base (.slice av ss.length cv) _ xs rfl (hown.alloc _) 1 [.slice none 0 0] (Src.one _ _ _) rfl (by simp[Value.oneCell']) (by unfold maxLen;omega) (by omega) (by simp;omega) (.inr (by omega)) ?_;intro g cap w1 hown1 hgrow1)
  have hs1:SlotsR w1 base (.slice (some ⟨g,0,none⟩) (ss.length+1) cap) (ss++[none]):=SlotsR.snoc (hown.alloc _) HXL.out rfl (fun j hj=>(HXR.out j hj).kept (fun g cur hg=>Below.heap_alloc _ _ g (Array.getElem?_eq_some_iff.1 hg).1)) rfl hown1 hgrow1
  have HB1:=Lib.hid (show Below base W w1 from ((Below.refl base W).alloc (by omega) _).grown hgrow1 (by simp;omega) (fun q hq=>(hown.lt q hq).1))
  have HS1:=Lib.hid hs1
  have hss1:(ss++[none]).length≤125:=by simp;omega
  have hls1:lens (ss++[none])≤63488:=by simpa [lens,recLen]using hls
  have hkk:ss.length<(ss++[none]).length:=by simp
  have hsz1:W.heap.size≤w1.heap.size:=by have:=hgrow1.size;simp at this;omega
  have HBB:=Lib.hid ((HB0.out.mono hbase).trans HB1.out)
  have HR1:=Lib.hid (HR.out w1 HBB.out)
  have hne:∀ q,w.heap.size≤q→q<W.heap.size→w1.heap[q]? =W.heap[q]? :=fun q hq hq2=>by
   rw[hgrow1.block q (by simp;omega) (fun e=>by
    obtain⟨ys,hy,_⟩:=HS.out
    have:=(hy.lt q e.symm).2
    omega),Below.heap_alloc _ _ _ hq2]
  have HP1:=Lib.hid ((hne w.heap.size (Nat.le_refl _) (by have:=HW0.out;omega)).trans HP0.out)
  have HZ1:=Lib.hid ((hne (w.heap.size+1) (by omega) (by have:=HW0.out;omega)).trans HZ0.out)
  have hsz2:w.heap.size+2≤w1.heap.size:=by have:=HW0.out;omega
  clear hne HB1 HW0 HP0 HZ0 HS0 HS hown hown1 hgrow1 HXL HXR hs1 hsz1
  rw[show ss.length+1=(ss++[none]).length by simp]at*
  generalize ss.length=k at*
  generalize ss++[none]=ss1 at*
 case' neg=>
  have HPL:=Lib.hid (show putL ss k r=ss.set k (some r) by simp[putL,hkl])
  rw[HPL.out]at HPP
  clear HPL
  have hk2:((k:Int)==(ss.length:Int))=false:=by simp;omega
  have hkk:k<ss.length:=by omega
  have hss1:ss.length≤125:=by omega
  rcases HS0.out.cells with⟨h1,h2⟩|⟨g,cap,h1,hg,hcap,hc⟩
  case' inl=>(subst h2;simp at hkk)
  case' inr=>
   subst h1
   clear h hc hkl
   have HS1:=HS0
   have HBB:=Lib.hid (HB0.out.mono hbase)
   have HR1:=Lib.hid (HR.out W HBB.out)
   have HP1:=HP0
   have HZ1:=HZ0
   have hsz2:w.heap.size+2≤W.heap.size:=by have:=HW0.out;omega
   have hls1:=hls
   go_upto_region 3 with fail
   clear HW0 HP0 HZ0 HS0 HS hk2
   generalize W=w1 at*
   generalize ss=ss1 at*
 all_goals
  have HNE:=Lib.hid (show Value.ownBlock (.slice (some ⟨g,0,none⟩) ss1.length cap)=none∨Value.ownBlock (.slice (some ⟨g,0,none⟩) ss1.length cap)≠Value.ownBlock (.slice (some ⟨w1.heap.size,0,none⟩) 0 0) from by
   obtain⟨ys,hy,_⟩:=HS1.out
   have:=(hy.lt g rfl).2
   right;simp[Value.ownBlock];omega)
  have hown3:(w1.alloc (.cells #[] 5)).ownsRow base 5 1 (.slice (some ⟨w1.heap.size,0,none⟩) 0 0) 0 []:=World.ownsRow_made w1 #[] 0 (by omega) (by unfold maxLen;omega) rfl
  have HR2:=Lib.hid (show ByteS (w1.alloc (.cells #[] 5)) (.slice ao r.length rc) r from HR.out _ (HBB.out.alloc (by omega) _))
  go_upto_region 4 with (at_builtin;refine append_some 23 5 (.int .u8 0) 1 1 Tryz.underlying23 info_byte rfl (by decide) rfl (.tmp 19) (.tmp 20) rfl base (.slice (some ⟨w1.heap.size,0,none⟩) 0 0) 0 [] rfl hown3 r.length (bytesL r) HR2.out (by rw[length_bytesL];omega) (oneCell_bytesL r) (by unfold maxLen;omega) (by omega) (by simp;omega) (.inl (by simp)) ?_;intro g5 cap5 w5 hown5 hgrow5;simp only[Nat.zero_add,List.nil_append]at hown5;have HK5:=Lib.hid (grown_new hgrow5);have hsl:=HS1.out.kept (w':=w5) (fun q hq _=>HK5.out q hq);obtain⟨x,hx,hxf,_⟩:=hsl.cellAt k hkk;have HS5:=Lib.hid hsl;clear hsl)
  have HS6:=Lib.hid (HS5.out.store k (x:=.slice (some ⟨g5,0,none⟩) r.length cap5) (o:=some r) ⟨hown5,g5,cap5,rfl⟩ hkk)
  have HB5:=Lib.hid (show Below base w w5 from (HBB.out.alloc (by omega) _).grown hgrow5 (by simp;omega) (fun q hq=>by simp[Value.ownBlock]at hq;omega))
  have hgb:base≤g∧g<w1.heap.size:=by
   obtain⟨ys,hy,_⟩:=HS1.out
   exact hy.lt g rfl
  have HB6:=Lib.hid (HB5.out.setCell (p:=⟨g,k,none⟩) hgb.1 (.slice (some ⟨g5,0,none⟩) r.length cap5))
  have hz5:=hgrow5.size
  have hsz6:w.heap.size+2≤(w5.setCell ⟨g,k,none⟩ (.slice (some ⟨g5,0,none⟩) r.length cap5)).heap.size:=by simp at hz5 ⊢;omega
  have HP6:=Lib.hid ((Below.heap_setCell w5 ⟨g,k,none⟩ (.slice (some ⟨g5,0,none⟩) r.length cap5) w.heap.size (slots_apart HS1.out HP1.out)).trans ((HK5.out w.heap.size (by omega)).trans HP1.out))
  have HZ6:=Lib.hid ((Below.heap_setCell w5 ⟨g,k,none⟩ (.slice (some ⟨g5,0,none⟩) r.length cap5) (w.heap.size+1) (slots_apart HS1.out HZ1.out)).trans ((HK5.out (w.heap.size+1) (by omega)).trans HZ1.out))
  clear hz5 hgrow5 hown5 hx hxf HS5 HK5 hown3 HR2 HNE HB5 HP1 HZ1 HS1 HR1
  generalize w5.setCell ⟨g,k,none⟩ (.slice (some ⟨g5,0,none⟩) r.length cap5)=w6 at*
  have HLS:=Lib.hid (lens_set_le ss1 k (some r))
  have HLT:=Lib.hid (show (ss1.set k (some r)).length=ss1.length by simp)
  generalize ss1.set k (some r)=sp at*
  have hcp:costL sp≤63988+r.length:=by
   have a1:=HLS.out;have a2:=HLT.out
   simp only[recLen]at a1
   unfold costL
   omega
  have hc4:=page_cell HP6.out HL.out 4 (by omega)
  have HKD:=Lib.hid (show kindL l=((l.getD 4 0).toNat:Int) from rfl)
  have hkd:=UInt8.toNat_lt (l.getD 4 0)
  generalize l.getD 4 0=kb at*
  have bad:400<r.length∨496<costL sp→pp=(zeroPage,false):=fun h=>by rw[HPP.out,if_pos h]
  have HBAD:=Lib.hid bad;clear bad
  by_cases hr400:400<r.length
  ·have HE:=Lib.hid (HBAD.out (.inl hr400))
   go_wp2_with (refine wpList_store_row (P:=Tryz.prog) rfl 111 _ _ rfl _ _ rfl rfl _ _ HZ6.out (info_page' _ length_zeroPage) rfl (oneCell_bytesA _) ?_)
   refine bodyPost_ret (v:=.tuple #[.agg (bytesA zeroPage),.bool false]) (results_page2 rfl _ _ _ _ rfl (setRow_heap _ _ _ _ _ _ HZ6.out) length_zeroPage _ rfl) rfl ⟨?_,?_⟩
   ·rw[HE.out]
   ·exact HB6.out.trans (Below.setRow _ _ _ _ (by omega))
  ·go_wp2_with fail
   refine (cost_any sp _ _ _ HS6.out (by omega)).mono ?_
   rintro e w7 ⟨rfl,rfl⟩
   by_cases hc496:496<costL sp
   ·have HE:=Lib.hid (HBAD.out (.inr hc496))
    generalize costL sp=cc at*
    go_wp2_with (refine wpList_store_row (P:=Tryz.prog) rfl 111 _ _ rfl _ _ rfl rfl _ _ HZ6.out (info_page' _ length_zeroPage) rfl (oneCell_bytesA _) ?_)
    refine bodyPost_ret (v:=.tuple #[.agg (bytesA zeroPage),.bool false]) (results_page2 rfl _ _ _ _ rfl (setRow_heap _ _ _ _ _ _ HZ6.out) length_zeroPage _ rfl) rfl ⟨?_,?_⟩
    ·rw[HE.out]
    ·exact HB6.out.trans (Below.setRow _ _ _ _ (by omega))
   ·rw[if_neg (by omega)]at HPP
    have hc2:costL sp≤496:=by omega
    have HCC:=Lib.hid hc2
    generalize hcc:costL sp=cc at*
    have HCE:=Lib.hid hcc;clear hcc
    go_wp2_with fail
    refine (made_any (kb.toNat:Int) (by omega) (by omega) sp _ _ _ HS6.out (by rw[HCE.out];exact hc2)).mono ?_
    rintro e w7 ⟨rfl,hb7⟩
    have HZ7:=Lib.hid ((hb7.block (w.heap.size+1) (by omega)).trans HZ6.out)
    have HB7:=Lib.hid (HB6.out.trans (hb7.mono (by omega)))
    rw[HKD.out]at HPP
    have HLM:=Lib.hid (length_madeL (kb.toNat:Int) sp (by have a1:=lens_trim_le sp;have a2:=HCE.out;unfold costL at a2;omega))
    generalize madeL (kb.toNat:Int) sp=m at*
    clear hb7
    go_wp2_with (refine wpList_store_row (P:=Tryz.prog) rfl 111 _ _ rfl _ _ rfl rfl _ _ HZ7.out (info_page' _ HLM.out) (by rw[size_bytesA,size_bytesA,HLM.out];exact length_zeroPage) (oneCell_bytesA _) ?_)
    refine bodyPost_ret (v:=.tuple #[.agg (bytesA m),.bool true]) (results_page2 rfl _ _ _ _ rfl (setRow_heap _ _ _ _ _ _ HZ7.out) HLM.out _ rfl) rfl ⟨?_,?_⟩
    ·rw[HPP.out]
    ·exact HB7.out.trans (Below.setRow _ _ _ _ (by omega))
theorem put_any (l:List UInt8)(ss:List (Option (List UInt8)))(k:Nat)(r:List UInt8)(v rv:Value)(base:Nat)(w:World)(hl:l.length=512)(h:SlotsR w base v ss)(hr:∀ w',Below base w w'→ByteS w' rv r)
 (hk:k≤ss.length) (hss:ss.length≤124) (hls:lens ss≤63488) (hrl:r.length≤140737488351232) (hbase:base≤w.heap.size):
 Calls Tryz.prog 111 #[.agg (bytesA l),v,.int .i64 k,rv] w fun e w'=>
  e= .returned (.tuple #[.agg (bytesA (putPage (kindL l) ss k r).1),.bool (putPage (kindL l) ss k r).2])∧Below base w w':=
 put_core _ l ss k r v rv base w hl h hr hk hss hls hrl hbase rfl
theorem length_putPage (kd:Int)(ss:List (Option (List UInt8)))(k:Nat)(r:List UInt8):(putPage kd ss k r).1.length=512:=by
 unfold putPage
 split
 ·exact length_zeroPage
 ·refine length_madeL _ _ ?_
  have:=lens_trim_le (putL ss k r)
  unfold costL at*
  omega
def addL (l:List UInt8)(r:List UInt8):List UInt8×Int×Bool:=
 let pp:=putPage (kindL l) (slotsL l) (freeL (slotsL l)) r
 (pp.1,if pp.2 then (freeL (slotsL l):Int)else 0,pp.2)
theorem length_addL (l r:List UInt8):(addL l r).1.length=512:=length_putPage _ _ _ _
theorem add_core (pg:List UInt8)(ok:Bool)(k:Nat)(l r:List UInt8)(rv:Value)(w:World)(hl:l.length=512)(hr:ByteS w rv r)(hrl:r.length≤140737488351232)
 (hk:k=freeL (slotsL l)) (hpp:putPage (kindL l) (slotsL l) (freeL (slotsL l)) r=(pg,ok)):
 Calls Tryz.prog 74 #[.agg (bytesA l),rv] w fun e w'=>e= .returned (.tuple #[.agg (bytesA pg),.int .i64 (if ok then k else 0),.bool ok])∧Below w.heap.size w w':=by
 have hz:=zero_page
 have hfr:=freeL_le (slotsL l)
 have hsl:=slotsL_le l
 have hlens:=slotsLens l hl
 have hlpg:=length_putPage (kindL l) (slotsL l) (freeL (slotsL l)) r
 rw[hpp]at hlpg
 rw[← hk]at hfr hpp
 have HK:=Lib.hid hk;have HPP:=Lib.hid hpp;have HLP:=Lib.hid hlpg
 clear hk hpp hlpg
 have HL:=Lib.hid hl;clear hl
 have HR:=Lib.hid hr;clear hr
 go_enter Tryz.func74,Tryz.ntmps74
 go_upto_region 1 with fail
 have HB0:=Lib.hid (show Below w.heap.size w ((w.alloc (.cells (bytesA l) 111)).alloc (.cells (bytesA zeroPage) 111)) from ((Below.refl _ _).alloc (Nat.le_refl _) _).alloc (by simp) _)
 have HP0:=Lib.hid (heap_alloc2_old w (.cells (bytesA l) 111) (.cells (bytesA zeroPage) 111))
 have HZ0:=Lib.hid (heap_alloc2_new w (.cells (bytesA l) 111) (.cells (bytesA zeroPage) 111))
 have HW0:=Lib.hid (show ((w.alloc (.cells (bytesA l) 111)).alloc (.cells (bytesA zeroPage) 111)).heap.size=w.heap.size+2 from by simp)
 generalize (w.alloc (.cells (bytesA l) 111)).alloc (.cells (bytesA zeroPage) 111)=W at*
 have hW0:w.heap.size+2≤W.heap.size:=by have:=HW0.out;omega
 clear HW0
 go_wp2_with (refine wpList_load_row (P:=Tryz.prog) rfl 111 _ rfl _ rfl _ _ _ _ HP0.out Tryz.underlying111 rfl (info_page' _ HL.out) ?_)
 refine (slots_any l _ HL.out).mono ?_
 rintro e w3 ⟨v,rfl,hs,hb3⟩
 have HP3:=Lib.hid ((hb3.block w.heap.size (by omega)).trans HP0.out)
 have HZ3:=Lib.hid ((hb3.block (w.heap.size+1) (by omega)).trans HZ0.out)
 have HB3:=Lib.hid (HB0.out.trans (hb3.mono (by omega)))
 have hW3:W.heap.size≤w3.heap.size:=hb3.size
 have HS:=Lib.hid hs
 obtain⟨av,cv,rfl⟩:=hs.form
 clear hs hb3
 generalize slotsL l=ss at*
 go_wp2_with fail
 refine (free_any ss _ _ _ HS.out (by omega)).mono ?_
 rintro e w5 ⟨rfl,rfl⟩
 rw[← HK.out]
 go_wp2_with (refine wpList_load_row (P:=Tryz.prog) rfl 111 _ rfl _ rfl _ _ _ _ HP3.out Tryz.underlying111 rfl (info_page' _ HL.out) ?_)
 refine (put_any l ss k r _ _ W.heap.size _ HL.out HS.out (fun w' hb'=>HR.out.later (HB3.out.trans (hb'.mono (by omega)))) hfr (by omega) (by omega) hrl hW3).mono ?_
 rw[HPP.out]
 rintro e w6 ⟨rfl,hb6⟩
 have HP6:=Lib.hid ((hb6.block w.heap.size (by omega)).trans HP3.out)
 have HZ6:=Lib.hid ((hb6.block (w.heap.size+1) (by omega)).trans HZ3.out)
 have HB6:=Lib.hid (HB3.out.trans (hb6.mono (by omega)))
 have hW6:w3.heap.size≤w6.heap.size:=hb6.size
 clear hb6 HS HP3 HZ3 HB3 HP0 HZ0 HB0
 have HL9:=Lib.hid (setRow_heap (w6.alloc (.cells (bytesA zeroPage) 111)) w6.heap.size _ (bytesA pg) _ _ (heap_alloc_new w6 _))
 have HZ9:=Lib.hid (show ((w6.alloc (.cells (bytesA zeroPage) 111)).setRow w6.heap.size (bytesA pg)).heap[w.heap.size+1]? =some (.cells (bytesA zeroPage) 111 (0,0)) from by
  rw[setRow_other _ _ _ _ (by omega),Below.heap_alloc _ _ _ (by omega)];exact HZ6.out)
 have HB9:=Lib.hid (show Below w.heap.size w ((w6.alloc (.cells (bytesA zeroPage) 111)).setRow w6.heap.size (bytesA pg)) from (HB6.out.alloc (by omega) _).trans (Below.setRow _ _ _ _ (by omega)))
 cases ok
 all_goals
  go_wp2_with (first
   |refine wpList_store_row (P:=Tryz.prog) rfl 111 (.tmp 9) _ rfl _ _ rfl rfl _ _ (heap_alloc_new _ _) (info_page' _ HLP.out) (by rw[size_bytesA,size_bytesA,HLP.out];exact length_zeroPage) (oneCell_bytesA _) ?_
   |refine wpList_load_row (P:=Tryz.prog) rfl 111 _ rfl _ rfl _ _ _ _ HL9.out Tryz.underlying111 rfl (info_page' _ HLP.out) ?_
   |refine wpList_store_row (P:=Tryz.prog) rfl 111 (.tmp 4) _ rfl _ _ rfl rfl _ _ HZ9.out (info_page' _ HLP.out) (by rw[size_bytesA,size_bytesA,HLP.out];exact length_zeroPage) (oneCell_bytesA _) ?_)
  refine bodyPost_ret (results_page3 rfl _ _ _ _ rfl (setRow_heap _ _ _ _ _ _ HZ9.out) HLP.out _ _ rfl rfl) rfl ⟨rfl,?_⟩
  exact HB9.out.trans (Below.setRow _ _ _ _ (by omega))
theorem add_any (l r:List UInt8)(rv:Value)(w:World)(hl:l.length=512)(hr:ByteS w rv r)(hrl:r.length≤140737488351232):
 Calls Tryz.prog 74 #[.agg (bytesA l),rv] w fun e w'=>e= .returned (.tuple #[.agg (bytesA (addL l r).1),.int .i64 (addL l r).2.1,.bool (addL l r).2.2])∧Below w.heap.size w w':=
 add_core _ _ _ l r rv w hl hr hrl rfl rfl
def dropL (l:List UInt8)(k:Int):List UInt8×Bool:=
 if getL l k=none∨496<costL ((slotsL l).set k.toNat none)then (zeroPage,false)else (madeL (kindL l) ((slotsL l).set k.toNat none),true)
theorem drop_core (pp:List UInt8×Bool)(l:List UInt8)(k:Int)(w:World)(hl:l.length=512)(hpp:pp=dropL l k):
 Calls Tryz.prog 81 #[.agg (bytesA l),.int .i64 k] w fun e w'=>e= .returned (.tuple #[.agg (bytesA pp.1),.bool pp.2])∧Below w.heap.size w w':=by
 have hz:=zero_page
 have hn:=eql_nil
 have hsl:=slotsL_le l
 have hlens:=slotsLens l hl
 have HPP:=Lib.hid (show pp=if getL l k=none∨496<costL ((slotsL l).set k.toNat none)then (zeroPage,false)else (madeL (kindL l) ((slotsL l).set k.toNat none),true) from hpp)
 have HG:=Lib.hid (show getL l k=if k<0 then none else (slotsL l).getD k.toNat none from rfl)
 clear hpp
 have HL:=Lib.hid hl;clear hl
 go_enter Tryz.func81,Tryz.ntmps81
 go_upto_region 1 with fail
 have HB0:=Lib.hid (show Below w.heap.size w ((w.alloc (.cells (bytesA l) 111)).alloc (.cells (bytesA zeroPage) 111)) from ((Below.refl _ _).alloc (Nat.le_refl _) _).alloc (by simp) _)
 have HP0:=Lib.hid (heap_alloc2_old w (.cells (bytesA l) 111) (.cells (bytesA zeroPage) 111))
 have HZ0:=Lib.hid (heap_alloc2_new w (.cells (bytesA l) 111) (.cells (bytesA zeroPage) 111))
 have HW0:=Lib.hid (show ((w.alloc (.cells (bytesA l) 111)).alloc (.cells (bytesA zeroPage) 111)).heap.size=w.heap.size+2 from by simp)
 generalize (w.alloc (.cells (bytesA l) 111)).alloc (.cells (bytesA zeroPage) 111)=W at*
 have hW0:w.heap.size+2≤W.heap.size:=by have:=HW0.out;omega
 clear HW0
 go_wp2_with (refine wpList_load_row (P:=Tryz.prog) rfl 111 _ rfl _ rfl _ _ _ _ HP0.out Tryz.underlying111 rfl (info_page' _ HL.out) ?_)
 refine (slots_any l _ HL.out).mono ?_
 rintro e w3 ⟨v,rfl,hs,hb3⟩
 have HP3:=Lib.hid ((hb3.block w.heap.size (by omega)).trans HP0.out)
 have HZ3:=Lib.hid ((hb3.block (w.heap.size+1) (by omega)).trans HZ0.out)
 have HB3:=Lib.hid (HB0.out.trans (hb3.mono (by omega)))
 have hW3:W.heap.size≤w3.heap.size:=hb3.size
 have HS:=Lib.hid hs
 obtain⟨av,cv,rfl⟩:=hs.form
 clear hs hb3
 generalize slotsL l=ss at*
 have bad:getL l k=none∨496<costL (ss.set k.toNat none)→pp=(zeroPage,false):=fun h=>by rw[HPP.out,if_pos h]
 have HBAD:=Lib.hid bad;clear bad
 by_cases hnone:getL l k=none
 ·have HE:=Lib.hid (HBAD.out (.inl hnone))
  have hcases:k<0∨((0≤k∧(ss.length:Int)≤k)∨(0≤k∧k<ss.length∧ss.getD k.toNat none=none)):=by
   by_cases h1:k<0
   ·exact .inl h1
   ·by_cases h2:(ss.length:Int)≤k
    ·exact .inr (.inl ⟨by omega,h2⟩)
    ·rw[HG.out,if_neg h1]at hnone;exact .inr (.inr ⟨by omega,by omega,hnone⟩)
  clear hnone
  rcases hcases with h1|⟨h1,h2⟩|⟨h1,h2,h3⟩
  case' inr.inr=>
   obtain⟨j,rfl⟩:=Int.eq_ofNat_of_zero_le h1
   rw[Int.toNat_natCast]at h3
   rcases HS.out.cells with⟨e1,e2⟩|⟨g,cap,e1,hg,hcap,hc⟩
   case' inl=>(exfalso;have e3:=congrArg List.length e2;rw[List.length_nil]at e3;omega)
   case' inr=>
    simp only[Value.slice.injEq,true_and]at e1
    obtain⟨rfl,rfl⟩:=e1
    obtain⟨x,hx,_,hrec⟩:=hc j (by omega)
    clear hc
    rw[h3]at hrec
    have hrec':x= .slice none 0 0:=hrec
    subst hrec'
    clear hrec h3
  all_goals
   go_wp2_with (refine wpList_store_row (P:=Tryz.prog) rfl 111 _ _ rfl _ _ rfl rfl _ _ HZ3.out (info_page' _ length_zeroPage) rfl (oneCell_bytesA _) ?_)
   refine bodyPost_ret (v:=.tuple #[.agg (bytesA zeroPage),.bool false]) (results_page2 rfl _ _ _ _ rfl (setRow_heap _ _ _ _ _ _ HZ3.out) length_zeroPage _ rfl) rfl ⟨?_,?_⟩
   ·rw[HE.out]
   ·exact HB3.out.trans (Below.setRow _ _ _ _ (by omega))
 ·have hk:0≤k∧k<ss.length∧ss.getD k.toNat none≠none:=by
   by_cases h1:k<0
   ·exact absurd (by rw[HG.out,if_pos h1]) hnone
   ·rw[HG.out,if_neg h1]at hnone
    refine⟨by omega,?_,hnone⟩
    by_cases h2:k<ss.length
    ·exact h2
    ·exact absurd (by simp[List.getElem?_eq_none (show ss.length≤k.toNat by omega)]) hnone
  have HNN:=Lib.hid hnone
  clear hnone
  obtain⟨h1,h2,h3⟩:=hk
  obtain⟨j,rfl⟩:=Int.eq_ofNat_of_zero_le h1
  rw[Int.toNat_natCast]at*
  have hj:j<ss.length:=by omega
  rcases HS.out.cells with⟨e1,e2⟩|⟨g,cap,e1,hg,hcap,hc⟩
  ·exfalso;have e3:=congrArg List.length e2;rw[List.length_nil]at e3;omega
  ·simp only[Value.slice.injEq,true_and]at e1
   obtain⟨rfl,rfl⟩:=e1
   obtain⟨x,hx,hxf,hrec⟩:=hc j hj
   clear hc
   rcases hrec.form with⟨ho,rfl⟩|⟨r,g',cap',ho,rfl⟩
   ·exact absurd ho h3
   ·clear hrec ho h3
    have HS6:=Lib.hid (HS.out.store j (x:=.slice none 0 0) (o:=none) rfl hj)
    have HP6:=Lib.hid ((Below.heap_setCell w3 ⟨g,j,none⟩ (.slice none 0 0) w.heap.size (slots_apart HS.out HP3.out)).trans HP3.out)
    have HZ6:=Lib.hid ((Below.heap_setCell w3 ⟨g,j,none⟩ (.slice none 0 0) (w.heap.size+1) (slots_apart HS.out HZ3.out)).trans HZ3.out)
    have HB6:=Lib.hid (HB3.out.setCell (p:=⟨g,j,none⟩) (show w.heap.size≤g by omega) (.slice none 0 0))
    have HS3:=Lib.hid (show (w3.setCell ⟨g,j,none⟩ (.slice none 0 0)).heap.size=w3.heap.size from by simp)
    have hcp:costL (ss.set j none)≤63988:=by
     have a1:=lens_set_le ss j none
     simp only[recLen]at a1
     unfold costL
     simp only[List.length_set]
     omega
    generalize ss.set j none=sp at*
    go_wp2_with fail
    generalize w3.setCell ⟨g,j,none⟩ (.slice none 0 0)=w6 at*
    refine (cost_any sp _ _ _ HS6.out (by omega)).mono ?_
    rintro e w7 ⟨rfl,rfl⟩
    have hc4:=page_cell HP6.out HL.out 4 (by omega)
    have HKD:=Lib.hid (show kindL l=((l.getD 4 0).toNat:Int) from rfl)
    have hkd:=UInt8.toNat_lt (l.getD 4 0)
    generalize l.getD 4 0=kb at*
    by_cases hc496:496<costL sp
    ·have HE:=Lib.hid (HBAD.out (.inr hc496))
     generalize costL sp=cc at*
     go_wp2_with (refine wpList_store_row (P:=Tryz.prog) rfl 111 _ _ rfl _ _ rfl rfl _ _ HZ6.out (info_page' _ length_zeroPage) rfl (oneCell_bytesA _) ?_)
     refine bodyPost_ret (v:=.tuple #[.agg (bytesA zeroPage),.bool false]) (results_page2 rfl _ _ _ _ rfl (setRow_heap _ _ _ _ _ _ HZ6.out) length_zeroPage _ rfl) rfl ⟨?_,?_⟩
     ·rw[HE.out]
     ·exact HB6.out.trans (Below.setRow _ _ _ _ (by omega))
    ·rw[if_neg (by rintro (h|h);exact HNN.out h;exact hc496 h)]at HPP
     have hc2:costL sp≤496:=by omega
     generalize hcc:costL sp=cc at*
     have HCE:=Lib.hid hcc;clear hcc
     have hs6:w.heap.size+2≤w6.heap.size:=by have:=HS3.out;omega
     go_wp2_with fail
     refine (made_any (kb.toNat:Int) (by omega) (by omega) sp _ _ _ HS6.out (by rw[HCE.out];exact hc2)).mono ?_
     rintro e w7 ⟨rfl,hb7⟩
     have HZ7:=Lib.hid ((hb7.block (w.heap.size+1) (by omega)).trans HZ6.out)
     have HB7:=Lib.hid (HB6.out.trans (hb7.mono (by omega)))
     rw[HKD.out]at HPP
     have HLM:=Lib.hid (length_madeL (kb.toNat:Int) sp (by have a1:=lens_trim_le sp;have a2:=HCE.out;unfold costL at a2;omega))
     generalize madeL (kb.toNat:Int) sp=m at*
     clear hb7
     go_wp2_with (refine wpList_store_row (P:=Tryz.prog) rfl 111 _ _ rfl _ _ rfl rfl _ _ HZ7.out (info_page' _ HLM.out) (by rw[size_bytesA,size_bytesA,HLM.out];exact length_zeroPage) (oneCell_bytesA _) ?_)
     refine bodyPost_ret (v:=.tuple #[.agg (bytesA m),.bool true]) (results_page2 rfl _ _ _ _ rfl (setRow_heap _ _ _ _ _ _ HZ7.out) HLM.out _ rfl) rfl ⟨?_,?_⟩
     ·rw[HPP.out]
     ·exact HB7.out.trans (Below.setRow _ _ _ _ (by omega))
theorem drop_any (l:List UInt8)(k:Int)(w:World)(hl:l.length=512):
 Calls Tryz.prog 81 #[.agg (bytesA l),.int .i64 k] w fun e w'=>e= .returned (.tuple #[.agg (bytesA (dropL l k).1),.bool (dropL l k).2])∧Below w.heap.size w w':=
 drop_core _ l k w hl rfl
def setL (l:List UInt8)(k:Int)(r:List UInt8):List UInt8×Bool:=
 if getL l k=none then (zeroPage,false)else putPage (kindL l) (slotsL l) k.toNat r
theorem length_setL (l:List UInt8)(k:Int)(r:List UInt8):(setL l k r).1.length=512:=by
 unfold setL
 split
 ·exact length_zeroPage
 ·exact length_putPage _ _ _ _
theorem page_range {w:World}{g:Nat}{l:List UInt8}(h:w.heap[g]? =some (.cells (bytesA l) 111 (0,0))):w.rangeAt g 0 (bytesL l):=fun j v hv=>by
 rw[cell_of_row w g (0+j) _ _ _ h];simpa using hv
def Through (w:World)(l:List UInt8)(w':World):Prop:=
 w'.heap[w.heap.size]? =some (.cells (bytesA l) 111 (0,0))∧(∃ z:List UInt8,z.length=512∧w'.heap[w.heap.size+1]? =some (.cells (bytesA z) 111 (0,0)))∧Below w.heap.size w w'∧w.heap.size+2≤w'.heap.size
theorem Through.next {w w' w'':World}{l:List UInt8}(h:Through w l w'){B:Nat}(hB:w.heap.size+2≤B)(hb:Below B w' w''):Through w l w'':=by
 obtain⟨h1,⟨z,hz,h2⟩,h3,h4⟩:=h
 exact⟨(hb.block _ (by omega)).trans h1,⟨z,hz,(hb.block _ (by omega)).trans h2⟩,h3.trans (hb.mono (by omega)),Nat.le_trans h4 hb.size⟩
theorem Through.drew {w w':World}{l:List UInt8}(h:Through w l w'):Through w l w'.drew:=⟨h.1,h.2.1,h.2.2.1.drew,h.2.2.2⟩
theorem set_core (pp:List UInt8×Bool)(l:List UInt8)(k:Int)(r:List UInt8)(rv:Value)(w:World)(hl:l.length=512)(hr:ByteS w rv r)(hrl:r.length≤140737488351232)(hpp:pp=setL l k r):
 Calls Tryz.prog 78 #[.agg (bytesA l),.int .i64 k,rv] w fun e w'=>e= .returned (.tuple #[.agg (bytesA pp.1),.bool pp.2])∧Below w.heap.size w w':=by
 have hz:=zero_page
 have hsl:=slotsL_le l
 have hlens:=slotsLens l hl
 have hlp:=length_setL l k r
 rw[← hpp]at hlp
 have HLP:=Lib.hid hlp
 have HPP:=Lib.hid (show pp=if getL l k=none then (zeroPage,false)else putPage (kindL l) (slotsL l) k.toNat r from hpp)
 have HG:=Lib.hid (show getL l k=if k<0 then none else (slotsL l).getD k.toNat none from rfl)
 clear hpp hlp
 have HL:=Lib.hid hl;clear hl
 have HR:=Lib.hid hr;clear hr
 go_enter Tryz.func78,Tryz.ntmps78
 go_upto_region 1 with fail
 have HT0:=Lib.hid (show Through w l ((w.alloc (.cells (bytesA l) 111)).alloc (.cells (bytesA zeroPage) 111)) from ⟨heap_alloc2_old _ _ _,⟨_,length_zeroPage,heap_alloc2_new _ _ _⟩,((Below.refl _ _).alloc (Nat.le_refl _) _).alloc (by simp) _,by simp⟩)
 generalize (w.alloc (.cells (bytesA l) 111)).alloc (.cells (bytesA zeroPage) 111)=W at*
 go_wp2_with (refine wpList_load_row (P:=Tryz.prog) rfl 111 _ rfl _ rfl _ _ _ _ HT0.out.1 Tryz.underlying111 rfl (info_page' _ HL.out) ?_)
 refine (get_any l k _ HL.out).mono ?_
 rintro e w3 ⟨v,rfl,hrec,hb3⟩
 have HT3:=Lib.hid (HT0.out.next HT0.out.2.2.2 hb3)
 obtain⟨ga,gc,rfl⟩:=hrec.len
 clear hrec hb3 HT0
 by_cases hnone:getL l k=none
 ·rw[hnone]
  rw[if_pos hnone]at HPP
  obtain⟨z,hzl,hzh⟩:=HT3.out.2.1
  have HZL:=Lib.hid hzl;have HZH:=Lib.hid hzh
  clear hzl hzh
  go_wp2_with (refine wpList_store_row (P:=Tryz.prog) rfl 111 _ _ rfl _ _ rfl rfl _ _ HZH.out (info_page' _ length_zeroPage) (by rw[size_bytesA,size_bytesA,HZL.out];exact length_zeroPage.symm) (oneCell_bytesA _) ?_)
  refine bodyPost_ret (v:=.tuple #[.agg (bytesA zeroPage),.bool false]) (results_page2 rfl _ _ _ _ rfl (setRow_heap _ _ _ _ _ _ HZH.out) length_zeroPage _ rfl) rfl ⟨?_,?_⟩
  ·rw[HPP.out]
  ·exact HT3.out.2.2.1.trans (Below.setRow _ _ _ _ (by omega))
 ·have hk:0≤k∧k<(slotsL l).length:=by
   by_cases h1:k<0
   ·exact absurd (by rw[HG.out,if_pos h1]) hnone
   ·rw[HG.out,if_neg h1]at hnone
    refine⟨by omega,?_⟩
    by_cases h2:k<(slotsL l).length
    ·exact h2
    ·exact absurd (by simp[List.getElem?_eq_none (show (slotsL l).length≤k.toNat by omega)]) hnone
  rw[if_neg hnone]at HPP
  have hsome:(getL l k).isSome=true:=by cases h:getL l k with
   |none=>exact absurd h hnone
   |some x=>rfl
  rw[hsome]
  clear hnone hsome HG
  generalize recLen (getL l k)=gn
  obtain⟨h1,h2⟩:=hk
  obtain⟨j,rfl⟩:=Int.eq_ofNat_of_zero_le h1
  rw[Int.toNat_natCast]at HPP
  have hj:j<(slotsL l).length:=by omega
  go_wp2_with fail
  have hu:=Tryz.underlying111
  have hi:(Tryz.prog.info? 111).map (·.size)=some (bytesL l).length:=by rw[length_bytesL,HL.out];exact info_page
  refine wp_region_noPanic ?_
  refine wp_region_held_drew (S:=Through w l) (by kernel_rfl) HT3.out.drew (fun hH=> ?_)
  refine takeH_load 0 19 _ _ _ _ _ (bytesL l) _ rfl rfl rfl (by kernel_rfl) (by kernel_rfl) (by kernel_rfl) rfl rfl hu rfl hi hH (fun w h=>page_range h.1) ?_
  refine takeH_load 1 20 _ _ _ _ _ (bytesL l) _ rfl rfl rfl (by kernel_rfl) (by kernel_rfl) (by kernel_rfl) rfl rfl hu rfl hi hH (fun w h=>page_range h.1) ?_
  refine takeH 3 22 _ (.int .i64 j) rfl rfl rfl (by kernel_rfl) (by kernel_rfl) (by kernel_rfl) hH (fun w _=>by go_simp) ?_
  refine takeH 4 23 _ rv rfl rfl rfl (by kernel_rfl) (by kernel_rfl) (by kernel_rfl) hH (fun w _=>by go_simp) ?_
  simp only[List.setIfInBounds_toArray,List.set_cons_zero,List.set_cons_succ]
  refine wpAnyH_ready (rs:=[2]) (by kernel_rfl) (by simp) (AllReadyH.cons rfl (fun K hK=> ?_) AllReadyH.nil)
  go_simp
  refine (slots_any l _ HL.out).mono ?_
  rintro e w5 ⟨v,rfl,hs,hb5⟩
  go_simp
  refine hK.out _ _ (hH.next hH.2.2.2 hb5) (fun hH5=> ?_)
  clear hK K
  have hsz:=hb5.size
  refine wpAnyH_ready (rs:=[5]) (by kernel_rfl) (by simp) (AllReadyH.cons rfl (fun K hK=> ?_) AllReadyH.nil)
  go_simp
  refine (put_any l (slotsL l) j r _ _ w3.drew.heap.size _ HL.out hs (fun w' hb'=>HR.out.later (hH5.2.2.1.trans (hb'.mono (by have:=HT3.out.2.2.2;simp;omega)))) (by omega) (by omega) hlens hrl hsz).mono ?_
  rw[← HPP.out]
  rintro e w6 ⟨rfl,hb6⟩
  go_simp
  refine hK.out _ _ (hH5.next (by have:=HT3.out.2.2.2;simp;omega) hb6) (fun hH6=> ?_)
  clear hK K hs hb5 hb6 hH hH5 HT3
  refine takeH 6 25 _ (.agg (bytesA pp.1)) rfl rfl rfl (by kernel_rfl) (by kernel_rfl) (by kernel_rfl) hH6 (fun w _=>by go_simp) ?_
  refine takeH 7 26 _ (.bool pp.2) rfl rfl rfl (by kernel_rfl) (by kernel_rfl) (by kernel_rfl) hH6 (fun w _=>by go_simp) ?_
  simp only[List.setIfInBounds_toArray,List.set_cons_zero,List.set_cons_succ]
  obtain⟨z,hzl,hzh⟩:=hH6.2.1
  have hrow:=setRow_heap w6 (w.heap.size+1) (bytesA z) (bytesA pp.1) _ _ hzh
  have hS7:Through w l (w6.setRow (w.heap.size+1) (bytesA pp.1)):=⟨(setRow_other _ _ _ _ (by omega)).trans hH6.1,⟨_,HLP.out,hrow⟩,hH6.2.2.1.trans (Below.setRow _ _ _ _ (by omega)),by simpa using hH6.2.2.2⟩
  refine wpAnyH_ready (rs:=[8]) (by kernel_rfl) (by simp) (AllReadyH.cons rfl (fun K hK=> ?_) AllReadyH.nil)
  rw[if_pos (by rfl)]
  refine wp_store_row 111 (.tmp 6) (.tmp 25) rfl _ _ rfl rfl _ _ hzh (info_page' _ HLP.out) (by rw[size_bytesA,size_bytesA,HLP.out];exact hzl) (oneCell_bytesA _) ?_
  refine hK.out _ _ hS7 (fun _=> ?_)
  clear hK K
  refine takeH 9 7 _ (.bool pp.2) rfl rfl rfl (by kernel_rfl) (by kernel_rfl) (by kernel_rfl) hS7 (fun w _=>by go_simp) ?_
  refine wpAnyH_done (by kernel_rfl) ?_ _
  refine NoPanic.normal ?_
  go_wp2_with fail
  exact bodyPost_ret (results_page2 rfl _ _ _ _ rfl hrow HLP.out _ rfl) rfl ⟨rfl,hS7.2.2.1⟩
theorem set_any (l:List UInt8)(k:Int)(r:List UInt8)(rv:Value)(w:World)(hl:l.length=512)(hr:ByteS w rv r)(hrl:r.length≤140737488351232):
 Calls Tryz.prog 78 #[.agg (bytesA l),.int .i64 k,rv] w fun e w'=>e= .returned (.tuple #[.agg (bytesA (setL l k r).1),.bool (setL l k r).2])∧Below w.heap.size w w':=
 set_core _ l k r rv w hl hr hrl rfl
end Go.Proofs.YthhbnenaihkggaaGreat
