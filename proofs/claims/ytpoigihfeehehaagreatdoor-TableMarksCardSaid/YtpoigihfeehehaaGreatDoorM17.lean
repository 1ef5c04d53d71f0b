/- The walk of page.put. The walks of page.Add, Drop, Set. The walk of page.Set. The plain law of pages: what was put in a page is read out of it again. -/
import Derived.Test.YtpoigihfeehehaaGreatDoorM16
import Derived.Deep.Cut
set_option linter.all false
set_option maxRecDepth 100000
set_option maxHeartbeats 32000000
namespace Go.Proofs.YtpoigihfeehehaaGreatDoor
open Go.RowKit
def D2 (w:World)(v:Value)(r:List UInt8):Prop:=Src w v r.length (A8 r)
theorem D2.form {w:World}{v:Value}{r:List UInt8}(h:D2 w v r):∃ ao c,v= .slice ao r.length c:=by
 obtain⟨ao,c,rfl,_⟩:=h;exact⟨ao,c,rfl⟩
theorem Src.later {w w':World}{v:Value}{m:Nat}{news:List Value}(h:Src w v m news)(hb:Below w.heap.size w w'):Src w' v m news:=by
 obtain⟨ao,c,rfl,hc⟩:=h
 refine⟨ao,c,rfl,?_⟩
 rcases hc with h1|⟨ad,h1,h2⟩
 ·exact .inl h1
 ·refine .inr ⟨ad,h1,fun j u hj=> ?_⟩
  have:=h2 j u hj
  rw[hb.cell (World.block_lt_of_cell? w _ this)];exact this
theorem D2.later {w w':World}{v:Value}{r:List UInt8}(h:D2 w v r)(hb:Below w.heap.size w w'):D2 w' v r:=Src.later h hb
theorem Cm.store {w:World}{base g n cap:Nat}{ss:List (Option (List UInt8))}(k:Nat){x:Value}{o:Option (List UInt8)}(h:Cm w base (.slice (some ⟨g,0,none⟩) n cap) ss)(hx:Rec w base x o)(hk:k<ss.length):
 Cm (w.setCell ⟨g,k,none⟩ x) base (.slice (some ⟨g,0,none⟩) n cap) (ss.set k o):=by
 obtain⟨xs,hown,hl,hr⟩:=h
 have hn:n=ss.length:=by
  rcases hown.2 with⟨h',_⟩|⟨g',cap',cur,h',_⟩
  ·simp at h'
  ·simp only[Value.slice.injEq]at h';exact h'.2.1
 subst hn
 obtain⟨h1,h2⟩:=hown.stored k x
 have hk5:∀ (q:Nat) (cur:Array Value),w.heap[q]? =some (Obj.cells cur 5 (0,0))→(w.setCell ⟨g,k,none⟩ x).heap[q]? =w.heap[q]? :=by
  intro q cur hq
  refine h2.block q (QU.1 hq).1 fun e=> ?_
  simp only[QB]at e
  subst e
  rcases hown.2 with⟨h',_⟩|⟨g',cap',cur',h',_,hh,_⟩
  ·simp at h'
  ·simp only[Value.slice.injEq,QB,Addr.mk.injEq,and_true,true_and]at h'
   rw[← h'.1,hq]at hh
   simp at hh
 refine⟨xs.set k x,by simpa using h1,by simpa using hl,fun j hj=> ?_⟩
 simp only[ZW]at hj
 by_cases e:k=j
 ·subst e
  have:=hx.kept hk5
  simpa [QW,hl,hk]using this
 ·have:=(hr j hj).kept hk5
  simpa [QW,e]using this
theorem Ahg {w w':World}{o:Obj}{a b:Nat}(hg:(w.alloc o).grownBy w' (Value.ownBlock (.slice (some ⟨w.heap.size,0,none⟩) a b))):∀ q,q<w.heap.size→w'.heap[q]? =w.heap[q]? :=fun q hq=>by
 rw[hg.block q (by simp;omega) (by simp[Value.ownBlock];omega),Below.heap_alloc _ _ _ hq]
theorem Cm.cellAt {w:World}{base g n cap:Nat}{ss:List (Option (List UInt8))}(h:Cm w base (.slice (some ⟨g,0,none⟩) n cap) ss)(k:Nat)(hk:k<ss.length):
 ∃ x,w.cell? ⟨g,k,none⟩=some x∧w.frozen? ⟨g,k,none⟩=false∧Rec w base x (ss.getD k none):=by
 rcases h.cells with⟨h1,_⟩|⟨g',cap',h1,_,_,hc⟩
 ·simp at h1
 ·simp only[Value.slice.injEq,QB,Addr.mk.injEq,and_true]at h1
  obtain⟨rfl,_,rfl⟩:=h1
  exact hc k hk
theorem Zl (ss:List (Option (List UInt8)))(k:Nat)(o:Option (List UInt8)):lens (ss.set k o)≤lens ss+Cs o:=by
 induction ss generalizing k with
 |nil=>simp[lens]
 |cons a ss ih=>
  cases k with
  |zero=>simp[lens];omega
  |succ k=>
   have:=ih k
   simp only[lens,YF,QK,XI]at*
   omega
theorem Pi {w:World}{base g n cap q:Nat}{ss:List (Option (List UInt8))}{cs:Array Value}(h:Cm w base (.slice (some ⟨g,0,none⟩) n cap) ss)(hq:w.heap[q]? =some (.cells cs 151 (0,0))):q≠g:=by
 intro e
 subst e
 obtain⟨xs,hown,_⟩:=h
 rcases hown.2 with⟨h',_⟩|⟨g',cap',cur',h',_,hh,_⟩
 ·simp at h'
 ·simp only[Value.slice.injEq,QB,Addr.mk.injEq,and_true]at h'
  rw[← h'.1,hq]at hh
  simp at hh
theorem Ds:∀ (ss:List (Option (List UInt8))),lens (A4 ss)≤lens ss
 |[]=>by simp[A4]
 |none::r=>by
  have:=Ds r
  unfold A4
  split
  ·simp[lens]
  ·simp only[lens,QK,XI]at *;omega
 |some x::r=>by
  have:=Ds r
  simp only[A4,lens,QK,XI]at *;omega
theorem Dx {fn:Func}{p u:Tmp}(h:fn.results= #[.cell p 151,.tmp u])(tmps:Array Value)(w:World)(g:Nat)(l:List UInt8)
 (hp:tmps.getD p undef= .pointer (some ⟨g,0,none⟩)) (hg:w.heap[g]? =some (.cells (Ae l) 151 (0,0))) (hl:l.length=512) (b:Value) (hb:tmps.getD u undef=b):
 (results fn tmps).run Tryz.prog w= .ok (.tuple #[.agg (Ae l),b]) w:=by
 subst hb
 rw[results_cell_tmp h,hp]
 simp[asAddr,run_loadVar_row w g _ _ _ _ _ hg Tryz.underlying151 rfl (Aw _ hl),Result.andThen]
theorem Tv {fn:Func}{p u t:Tmp}(h:fn.results= #[.cell p 151,.tmp u,.tmp t])(tmps:Array Value)(w:World)(g:Nat)(l:List UInt8)
 (hp:tmps.getD p undef= .pointer (some ⟨g,0,none⟩)) (hg:w.heap[g]? =some (.cells (Ae l) 151 (0,0))) (hl:l.length=512) (a b:Value) (ha:tmps.getD u undef=a) (hb:tmps.getD t undef=b):
 (results fn tmps).run Tryz.prog w= .ok (.tuple #[.agg (Ae l),a,b]) w:=by
 subst ha hb
 have hp':tmps[p]?.getD undef= .pointer (some ⟨g,0,none⟩):=by simpa using hp
 simp[results,h,hp',asAddr,run_loadVar_row w g _ _ _ _ _ hg Tryz.underlying151 rfl (Aw _ hl),Result.andThen]
def Gi (ss:List (Option (List UInt8)))(k:Nat)(r:List UInt8):List (Option (List UInt8)):=(if k=ss.length then ss++[none]else ss).set k (some r)
def Di (kd:Int)(ss:List (Option (List UInt8)))(k:Nat)(r:List UInt8):List UInt8×Bool:=
 if 400<r.length∨496<B9 (Gi ss k r)then (Ah,false)else (Ek kd (Gi ss k r),true)
theorem Ak6 (pp:List UInt8×Bool)(l:List UInt8)(ss:List (Option (List UInt8)))(k:Nat)(r:List UInt8)(v rv:Value)(base:Nat)(w:World)(hl:l.length=512)(h:Cm w base v ss)(hr:∀ w',Below base w w'→D2 w' rv r)
 (hk:k≤ss.length) (hss:ss.length≤124) (hls:lens ss≤63488) (hrl:r.length≤140737488351232) (hbase:base≤w.heap.size) (hpp:pp=Di (Eo l) ss k r):
 Calls Tryz.prog 118 #[.agg (Ae l),v,.int .i64 k,rv] w fun e w'=>e= .returned (.tuple #[.agg (Ae pp.1),.bool pp.2])∧Below base w w':=by
 have HPP:=Lib.hid (show pp=if 400<r.length∨496<B9 (Gi ss k r)then (Ah,false)else (Ek (Eo l) (Gi ss k r),true) from hpp)
 clear hpp
 have hz:=Eg
 obtain⟨ao,rc,rfl⟩:=(hr w (Below.refl _ _)).form
 have HL:=Lib.hid hl;clear hl
 have HR:=Lib.hid hr;clear hr
 have HS:=Lib.hid h
 go_enter Tryz.func118,Tryz.ntmps118
 have HB0:=Lib.hid (show Below w.heap.size w ((w.alloc (.cells (Ae l) 151)).alloc (.cells (Ae Ah) 151)) from ((Below.refl _ _).alloc (QH _) _).alloc (by simp) _)
 have HP0:=Lib.hid (heap_alloc2_old w (.cells (Ae l) 151) (.cells (Ae Ah) 151))
 have HZ0:=Lib.hid (heap_alloc2_new w (.cells (Ae l) 151) (.cells (Ae Ah) 151))
 have HW0:=Lib.hid (show ((w.alloc (.cells (Ae l) 151)).alloc (.cells (Ae Ah) 151)).heap.size=w.heap.size+2 from by simp)
 have HS0:=Lib.hid (h.kept (fun g hg _=>HB0.out.block g hg))
 go_upto_region 1 with fail
 generalize (w.alloc (.cells (Ae l) 151)).alloc (.cells (Ae Ah) 151)=W at*
 have hWs:w.heap.size≤W.heap.size:=HB0.out.size
 by_cases hkl:k=ss.length
 case' pos=>
  obtain⟨xs,hown,hxl,hxr⟩:=HS0.out
  have HXL:=Lib.hid hxl;have HXR:=Lib.hid hxr
  clear hxl hxr
  subst hkl
  have HPL:=Lib.hid (show Gi ss ss.length r=(ss++[none]).set ss.length (some r) by simp[Gi])
  rw[HPL.out]at HPP
  clear HPL
  obtain⟨av,cv,rfl⟩:=h.form
  clear h
  go_upto_region 3 with (at_builtin;refine Gw 81 70 (.slice none 0 0) 1 24 Tryz.underlying81 Me rfl (by decide) rfl (.tmp 14) (.tmp 15) rfl base (.slice av ss.length cv) _ xs rfl (hown.alloc _) 1 [.slice none 0 0] (Src.one _ _ _) rfl (by simp[Value.oneCell']) (by unfold maxLen;omega) (by omega) (by simp;omega) (.inr (by omega)) ?_;intro g cap w1 hown1 hgrow1)
  have hs1:Cm w1 base (.slice (some ⟨g,0,none⟩) (ss.length+1) cap) (ss++[none]):=Cm.snoc (hown.alloc _) HXL.out rfl (fun j hj=>(HXR.out j hj).kept (fun g cur hg=>Below.heap_alloc _ _ g (QU.1 hg).1)) rfl hown1 hgrow1
  have HB1:=Lib.hid (show Below base W w1 from ((Below.refl base W).alloc (by omega) _).grown hgrow1 (by simp;omega) (fun q hq=>(hown.lt q hq).1))
  have HS1:=Lib.hid hs1
  have hss1:(ss++[none]).length≤125:=by simp;omega
  have hls1:lens (ss++[none])≤63488:=by simpa [lens,Cs]using hls
  have hkk:ss.length<(ss++[none]).length:=by simp
  have hsz1:W.heap.size≤w1.heap.size:=by have:=hgrow1.size;simp at this;omega
  have HBB:=Lib.hid ((HB0.out.mono hbase).trans HB1.out)
  have HR1:=Lib.hid (HR.out w1 HBB.out)
  have hne:∀ q,w.heap.size≤q→q<W.heap.size→w1.heap[q]? =W.heap[q]? :=fun q hq hq2=>by
   rw[hgrow1.block q (by simp;omega) (fun e=>by
    obtain⟨ys,hy,_⟩:=HS.out
    have:=(hy.lt q e.symm).2
    omega),Below.heap_alloc _ _ _ hq2]
  have HP1:=Lib.hid ((hne w.heap.size (QH _) (by have:=HW0.out;omega)).trans HP0.out)
  have HZ1:=Lib.hid ((hne (w.heap.size+1) (by omega) (by have:=HW0.out;omega)).trans HZ0.out)
  have hsz2:w.heap.size+2≤w1.heap.size:=by have:=HW0.out;omega
  clear hne HB1 HW0 HP0 HZ0 HS0 HS hown hown1 hgrow1 HXL HXR hs1 hsz1
  rw[show ss.length+1=(ss++[none]).length by simp]at*
  generalize ss.length=k at*
  generalize ss++[none]=ss1 at*
 case' neg=>
  have HPL:=Lib.hid (show Gi ss k r=ss.set k (some r) by simp[Gi,hkl])
  rw[HPL.out]at HPP
  clear HPL
  have hk2:((k:Int)==(ss.length:Int))=false:=by simp;omega
  have hkk:k<ss.length:=by omega
  have hss1:ss.length≤125:=by omega
  rcases HS0.out.cells with⟨h1,h2⟩|⟨g,cap,h1,hg,hcap,hc⟩
  case' inl=>(subst h2;simp at hkk)
  case' inr=>
   subst h1
   clear h hc hkl
   have HS1:=HS0
   have HBB:=Lib.hid (HB0.out.mono hbase)
   have HR1:=Lib.hid (HR.out W HBB.out)
   have HP1:=HP0
   have HZ1:=HZ0
   have hsz2:w.heap.size+2≤W.heap.size:=by have:=HW0.out;omega
   have hls1:=hls
   go_upto_region 3 with fail
   clear HW0 HP0 HZ0 HS0 HS hk2
   generalize W=w1 at*
   generalize ss=ss1 at*
 all_goals
  have HNE:=Lib.hid (show Value.ownBlock (.slice (some ⟨g,0,none⟩) ss1.length cap)=none∨Value.ownBlock (.slice (some ⟨g,0,none⟩) ss1.length cap)≠Value.ownBlock (.slice (some ⟨w1.heap.size,0,none⟩) 0 0) from by
   obtain⟨ys,hy,_⟩:=HS1.out
   have:=(hy.lt g rfl).2
   right;simp[Value.ownBlock];omega)
  have hown3:(w1.alloc (.cells #[] 5)).ownsRow base 5 1 (.slice (some ⟨w1.heap.size,0,none⟩) 0 0) 0 []:=World.ownsRow_made w1 #[] 0 (by omega) (by unfold maxLen;omega) rfl
  have HR2:=Lib.hid (show D2 (w1.alloc (.cells #[] 5)) (.slice ao r.length rc) r from HR.out _ (HBB.out.alloc (by omega) _))
  go_upto_region 4 with (at_builtin;refine Gw 70 5 (.int .u8 0) 1 1 Tryz.underlying70 W6 rfl (by decide) rfl (.tmp 19) (.tmp 20) rfl base (.slice (some ⟨w1.heap.size,0,none⟩) 0 0) 0 [] rfl hown3 r.length (A8 r) HR2.out (by rw[C1];omega) (Fs r) (by unfold maxLen;omega) (by omega) (by simp;omega) (.inl (by simp)) ?_;intro g5 cap5 w5 hown5 hgrow5;simp only[ZC,ZQ]at hown5;have HK5:=Lib.hid (Ahg hgrow5);have hsl:=HS1.out.kept (w':=w5) (fun q hq _=>HK5.out q hq);obtain⟨x,hx,hxf,_⟩:=hsl.cellAt k hkk;have HS5:=Lib.hid hsl;clear hsl)
  have HS6:=Lib.hid (HS5.out.store k (x:=.slice (some ⟨g5,0,none⟩) r.length cap5) (o:=some r) ⟨hown5,g5,cap5,rfl⟩ hkk)
  have HB5:=Lib.hid (show Below base w w5 from (HBB.out.alloc (by omega) _).grown hgrow5 (by simp;omega) (fun q hq=>by simp[Value.ownBlock]at hq;omega))
  have hgb:base≤g∧g<w1.heap.size:=by
   obtain⟨ys,hy,_⟩:=HS1.out
   exact hy.lt g rfl
  have HB6:=Lib.hid (HB5.out.setCell (p:=⟨g,k,none⟩) hgb.1 (.slice (some ⟨g5,0,none⟩) r.length cap5))
  have hz5:=hgrow5.size
  have hsz6:w.heap.size+2≤(w5.setCell ⟨g,k,none⟩ (.slice (some ⟨g5,0,none⟩) r.length cap5)).heap.size:=by simp at hz5 ⊢;omega
  have HP6:=Lib.hid ((Below.heap_setCell w5 ⟨g,k,none⟩ (.slice (some ⟨g5,0,none⟩) r.length cap5) w.heap.size (Pi HS1.out HP1.out)).trans ((HK5.out w.heap.size (by omega)).trans HP1.out))
  have HZ6:=Lib.hid ((Below.heap_setCell w5 ⟨g,k,none⟩ (.slice (some ⟨g5,0,none⟩) r.length cap5) (w.heap.size+1) (Pi HS1.out HZ1.out)).trans ((HK5.out (w.heap.size+1) (by omega)).trans HZ1.out))
  clear hz5 hgrow5 hown5 hx hxf HS5 HK5 hown3 HR2 HNE HB5 HP1 HZ1 HS1 HR1
  generalize w5.setCell ⟨g,k,none⟩ (.slice (some ⟨g5,0,none⟩) r.length cap5)=w6 at*
  have HLS:=Lib.hid (Zl ss1 k (some r))
  have HLT:=Lib.hid (show (ss1.set k (some r)).length=ss1.length by simp)
  generalize ss1.set k (some r)=sp at*
  have hcp:B9 sp≤63988+r.length:=by
   have a1:=HLS.out;have a2:=HLT.out
   simp only[Cs]at a1
   unfold B9
   omega
  have hc4:=E1 HP6.out HL.out 4 (by omega)
  have HKD:=Lib.hid (show Eo l=((l.getD 4 0).toNat:Int) from rfl)
  have hkd:=WN (l.getD 4 0)
  generalize l.getD 4 0=kb at*
  have bad:400<r.length∨496<B9 sp→pp=(Ah,false):=fun h=>by rw[HPP.out,if_pos h]
  have HBAD:=Lib.hid bad;clear bad
  by_cases hr400:400<r.length
  ·have HE:=Lib.hid (HBAD.out (.inl hr400))
   go_wp2_with (refine wpList_store_row (P:=Tryz.prog) rfl 151 _ _ rfl _ _ rfl rfl _ _ HZ6.out (Aw _ Ai) rfl (Bd _) ?_)
   refine bodyPost_ret (v:=.tuple #[.agg (Ae Ah),.bool false]) (Dx rfl _ _ _ _ rfl (setRow_heap _ _ _ _ _ _ HZ6.out) Ai _ rfl) rfl ⟨?_,?_⟩
   ·rw[HE.out]
   ·exact HB6.out.trans (Below.setRow _ _ _ _ (by omega))
  ·go_wp2_with fail
   refine (Ak1 sp _ _ _ HS6.out (by omega)).mono ?_
   rintro e w7 ⟨rfl,rfl⟩
   by_cases hc496:496<B9 sp
   ·have HE:=Lib.hid (HBAD.out (.inr hc496))
    generalize B9 sp=cc at*
    go_wp2_with (refine wpList_store_row (P:=Tryz.prog) rfl 151 _ _ rfl _ _ rfl rfl _ _ HZ6.out (Aw _ Ai) rfl (Bd _) ?_)
    refine bodyPost_ret (v:=.tuple #[.agg (Ae Ah),.bool false]) (Dx rfl _ _ _ _ rfl (setRow_heap _ _ _ _ _ _ HZ6.out) Ai _ rfl) rfl ⟨?_,?_⟩
    ·rw[HE.out]
    ·exact HB6.out.trans (Below.setRow _ _ _ _ (by omega))
   ·rw[if_neg (by omega)]at HPP
    have hc2:B9 sp≤496:=by omega
    have HCC:=Lib.hid hc2
    generalize hcc:B9 sp=cc at*
    have HCE:=Lib.hid hcc;clear hcc
    go_wp2_with fail
    refine (Ak4 (kb.toNat:Int) (by omega) (by omega) sp _ _ _ HS6.out (by rw[HCE.out];exact hc2)).mono ?_
    rintro e w7 ⟨rfl,hb7⟩
    have HZ7:=Lib.hid ((hb7.block (w.heap.size+1) (by omega)).trans HZ6.out)
    have HB7:=Lib.hid (HB6.out.trans (hb7.mono (by omega)))
    rw[HKD.out]at HPP
    have HLM:=Lib.hid (Ff (kb.toNat:Int) sp (by have a1:=Ds sp;have a2:=HCE.out;unfold B9 at a2;omega))
    generalize Ek (kb.toNat:Int) sp=m at*
    clear hb7
    go_wp2_with (refine wpList_store_row (P:=Tryz.prog) rfl 151 _ _ rfl _ _ rfl rfl _ _ HZ7.out (Aw _ HLM.out) (by rw[A1,A1,HLM.out];exact Ai) (Bd _) ?_)
    refine bodyPost_ret (v:=.tuple #[.agg (Ae m),.bool true]) (Dx rfl _ _ _ _ rfl (setRow_heap _ _ _ _ _ _ HZ7.out) HLM.out _ rfl) rfl ⟨?_,?_⟩
    ·rw[HPP.out]
    ·exact HB7.out.trans (Below.setRow _ _ _ _ (by omega))
theorem Ahh (l:List UInt8)(ss:List (Option (List UInt8)))(k:Nat)(r:List UInt8)(v rv:Value)(base:Nat)(w:World)(hl:l.length=512)(h:Cm w base v ss)(hr:∀ w',Below base w w'→D2 w' rv r)
 (hk:k≤ss.length) (hss:ss.length≤124) (hls:lens ss≤63488) (hrl:r.length≤140737488351232) (hbase:base≤w.heap.size):
 Calls Tryz.prog 118 #[.agg (Ae l),v,.int .i64 k,rv] w fun e w'=>
  e= .returned (.tuple #[.agg (Ae (Di (Eo l) ss k r).1),.bool (Di (Eo l) ss k r).2])∧Below base w w':=
 Ak6 _ l ss k r v rv base w hl h hr hk hss hls hrl hbase rfl
theorem Ft (kd:Int)(ss:List (Option (List UInt8)))(k:Nat)(r:List UInt8):(Di kd ss k r).1.length=512:=by
 unfold Di
 split
 ·exact Ai
 ·refine Ff _ _ ?_
  have:=Ds (Gi ss k r)
  unfold B9 at*
  omega
def He (l:List UInt8)(r:List UInt8):List UInt8×Int×Bool:=
 let pp:=Di (Eo l) (Au l) (C8 (Au l)) r
 (pp.1,if pp.2 then (C8 (Au l):Int)else 0,pp.2)
theorem D8 (l r:List UInt8):(He l r).1.length=512:=Ft _ _ _ _
theorem Ak7 (pg:List UInt8)(ok:Bool)(k:Nat)(l r:List UInt8)(rv:Value)(w:World)(hl:l.length=512)(hr:D2 w rv r)(hrl:r.length≤140737488351232)
 (hk:k=C8 (Au l)) (hpp:Di (Eo l) (Au l) (C8 (Au l)) r=(pg,ok)):
 Calls Tryz.prog 70 #[.agg (Ae l),rv] w fun e w'=>e= .returned (.tuple #[.agg (Ae pg),.int .i64 (if ok then k else 0),.bool ok])∧Below w.heap.size w w':=by
 have hz:=Eg
 have hfr:=N3 (Au l)
 have hsl:=E2 l
 have hlens:=W7 l hl
 have hlpg:=Ft (Eo l) (Au l) (C8 (Au l)) r
 rw[hpp]at hlpg
 rw[← hk]at hfr hpp
 have HK:=Lib.hid hk;have HPP:=Lib.hid hpp;have HLP:=Lib.hid hlpg
 clear hk hpp hlpg
 have HL:=Lib.hid hl;clear hl
 have HR:=Lib.hid hr;clear hr
 go_enter Tryz.func70,Tryz.ntmps70
 go_upto_region 1 with fail
 have HB0:=Lib.hid (show Below w.heap.size w ((w.alloc (.cells (Ae l) 151)).alloc (.cells (Ae Ah) 151)) from ((Below.refl _ _).alloc (QH _) _).alloc (by simp) _)
 have HP0:=Lib.hid (heap_alloc2_old w (.cells (Ae l) 151) (.cells (Ae Ah) 151))
 have HZ0:=Lib.hid (heap_alloc2_new w (.cells (Ae l) 151) (.cells (Ae Ah) 151))
 have HW0:=Lib.hid (show ((w.alloc (.cells (Ae l) 151)).alloc (.cells (Ae Ah) 151)).heap.size=w.heap.size+2 from by simp)
 generalize (w.alloc (.cells (Ae l) 151)).alloc (.cells (Ae Ah) 151)=W at*
 have hW0:w.heap.size+2≤W.heap.size:=by have:=HW0.out;omega
 clear HW0
 go_wp2_with (refine wpList_load_row (P:=Tryz.prog) rfl 151 _ rfl _ rfl _ _ _ _ HP0.out Tryz.underlying151 rfl (Aw _ HL.out) ?_)
 refine (Kc l _ HL.out).mono ?_
 rintro e w3 ⟨v,rfl,hs,hb3⟩
 have HP3:=Lib.hid ((hb3.block w.heap.size (by omega)).trans HP0.out)
 have HZ3:=Lib.hid ((hb3.block (w.heap.size+1) (by omega)).trans HZ0.out)
 have HB3:=Lib.hid (HB0.out.trans (hb3.mono (by omega)))
 have hW3:W.heap.size≤w3.heap.size:=hb3.size
 have HS:=Lib.hid hs
 obtain⟨av,cv,rfl⟩:=hs.form
 clear hs hb3
 generalize Au l=ss at*
 go_wp2_with fail
 refine (Ak3 ss _ _ _ HS.out (by omega)).mono ?_
 rintro e w5 ⟨rfl,rfl⟩
 rw[← HK.out]
 go_wp2_with (refine wpList_load_row (P:=Tryz.prog) rfl 151 _ rfl _ rfl _ _ _ _ HP3.out Tryz.underlying151 rfl (Aw _ HL.out) ?_)
 refine (Ahh l ss k r _ _ W.heap.size _ HL.out HS.out (fun w' hb'=>HR.out.later (HB3.out.trans (hb'.mono (by omega)))) hfr (by omega) (by omega) hrl hW3).mono ?_
 rw[HPP.out]
 rintro e w6 ⟨rfl,hb6⟩
 have HP6:=Lib.hid ((hb6.block w.heap.size (by omega)).trans HP3.out)
 have HZ6:=Lib.hid ((hb6.block (w.heap.size+1) (by omega)).trans HZ3.out)
 have HB6:=Lib.hid (HB3.out.trans (hb6.mono (by omega)))
 have hW6:w3.heap.size≤w6.heap.size:=hb6.size
 clear hb6 HS HP3 HZ3 HB3 HP0 HZ0 HB0
 have HL9:=Lib.hid (setRow_heap (w6.alloc (.cells (Ae Ah) 151)) w6.heap.size _ (Ae pg) _ _ (heap_alloc_new w6 _))
 have HZ9:=Lib.hid (show ((w6.alloc (.cells (Ae Ah) 151)).setRow w6.heap.size (Ae pg)).heap[w.heap.size+1]? =some (.cells (Ae Ah) 151 (0,0)) from by
  rw[setRow_other _ _ _ _ (by omega),Below.heap_alloc _ _ _ (by omega)];exact HZ6.out)
 have HB9:=Lib.hid (show Below w.heap.size w ((w6.alloc (.cells (Ae Ah) 151)).setRow w6.heap.size (Ae pg)) from (HB6.out.alloc (by omega) _).trans (Below.setRow _ _ _ _ (by omega)))
 cases ok
 all_goals
  go_wp2_with (first
   |refine wpList_store_row (P:=Tryz.prog) rfl 151 (.tmp 9) _ rfl _ _ rfl rfl _ _ (heap_alloc_new _ _) (Aw _ HLP.out) (by rw[A1,A1,HLP.out];exact Ai) (Bd _) ?_
   |refine wpList_load_row (P:=Tryz.prog) rfl 151 _ rfl _ rfl _ _ _ _ HL9.out Tryz.underlying151 rfl (Aw _ HLP.out) ?_
   |refine wpList_store_row (P:=Tryz.prog) rfl 151 (.tmp 4) _ rfl _ _ rfl rfl _ _ HZ9.out (Aw _ HLP.out) (by rw[A1,A1,HLP.out];exact Ai) (Bd _) ?_)
  refine bodyPost_ret (Tv rfl _ _ _ _ rfl (setRow_heap _ _ _ _ _ _ HZ9.out) HLP.out _ _ rfl rfl) rfl ⟨rfl,?_⟩
  exact HB9.out.trans (Below.setRow _ _ _ _ (by omega))
theorem Zm (l r:List UInt8)(rv:Value)(w:World)(hl:l.length=512)(hr:D2 w rv r)(hrl:r.length≤140737488351232):
 Calls Tryz.prog 70 #[.agg (Ae l),rv] w fun e w'=>e= .returned (.tuple #[.agg (Ae (He l r).1),.int .i64 (He l r).2.1,.bool (He l r).2.2])∧Below w.heap.size w w':=
 Ak7 _ _ _ l r rv w hl hr hrl rfl rfl
def Ak8 (l:List UInt8)(k:Int):List UInt8×Bool:=
 if Ip l k=none∨496<B9 ((Au l).set k.toNat none)then (Ah,false)else (Ek (Eo l) ((Au l).set k.toNat none),true)
def Ls (l:List UInt8)(k:Int)(r:List UInt8):List UInt8×Bool:=
 if Ip l k=none then (Ah,false)else Di (Eo l) (Au l) k.toNat r
theorem Pj (l:List UInt8)(k:Int)(r:List UInt8):(Ls l k r).1.length=512:=by
 unfold Ls
 split
 ·exact Ai
 ·exact Ft _ _ _ _
theorem R5 {w:World}{g:Nat}{l:List UInt8}(h:w.heap[g]? =some (.cells (Ae l) 151 (0,0))):w.rangeAt g 0 (A8 l):=fun j v hv=>by
 rw[cell_of_row w g (0+j) _ _ _ h];simpa using hv
def Through (w:World)(l:List UInt8)(w':World):Prop:=
 w'.heap[w.heap.size]? =some (.cells (Ae l) 151 (0,0))∧(∃ z:List UInt8,z.length=512∧w'.heap[w.heap.size+1]? =some (.cells (Ae z) 151 (0,0)))∧Below w.heap.size w w'∧w.heap.size+2≤w'.heap.size
theorem Through.next {w w' w'':World}{l:List UInt8}(h:Through w l w'){B:Nat}(hB:w.heap.size+2≤B)(hb:Below B w' w''):Through w l w'':=by
 obtain⟨h1,⟨z,hz,h2⟩,h3,h4⟩:=h
 exact⟨(hb.block _ (by omega)).trans h1,⟨z,hz,(hb.block _ (by omega)).trans h2⟩,h3.trans (hb.mono (by omega)),ZO h4 hb.size⟩
theorem Through.drew {w w':World}{l:List UInt8}(h:Through w l w'):Through w l w'.drew:=⟨h.1,h.2.1,h.2.2.1.drew,h.2.2.2⟩
theorem Ak9 (pp:List UInt8×Bool)(l:List UInt8)(k:Int)(r:List UInt8)(rv:Value)(w:World)(hl:l.length=512)(hr:D2 w rv r)(hrl:r.length≤140737488351232)(hpp:pp=Ls l k r):
 Calls Tryz.prog 77 #[.agg (Ae l),.int .i64 k,rv] w fun e w'=>e= .returned (.tuple #[.agg (Ae pp.1),.bool pp.2])∧Below w.heap.size w w':=by
 have hz:=Eg
 have hsl:=E2 l
 have hlens:=W7 l hl
 have hlp:=Pj l k r
 rw[← hpp]at hlp
 have HLP:=Lib.hid hlp
 have HPP:=Lib.hid (show pp=if Ip l k=none then (Ah,false)else Di (Eo l) (Au l) k.toNat r from hpp)
 have HG:=Lib.hid (show Ip l k=if k<0 then none else (Au l).getD k.toNat none from rfl)
 clear hpp hlp
 have HL:=Lib.hid hl;clear hl
 have HR:=Lib.hid hr;clear hr
 go_enter Tryz.func77,Tryz.ntmps77
 go_upto_region 1 with fail
 have HT0:=Lib.hid (show Through w l ((w.alloc (.cells (Ae l) 151)).alloc (.cells (Ae Ah) 151)) from ⟨heap_alloc2_old _ _ _,⟨_,Ai,heap_alloc2_new _ _ _⟩,((Below.refl _ _).alloc (QH _) _).alloc (by simp) _,by simp⟩)
 generalize (w.alloc (.cells (Ae l) 151)).alloc (.cells (Ae Ah) 151)=W at*
 go_wp2_with (refine wpList_load_row (P:=Tryz.prog) rfl 151 _ rfl _ rfl _ _ _ _ HT0.out.1 Tryz.underlying151 rfl (Aw _ HL.out) ?_)
 refine (Ahf l k _ HL.out).mono ?_
 rintro e w3 ⟨v,rfl,hrec,hb3⟩
 have HT3:=Lib.hid (HT0.out.next HT0.out.2.2.2 hb3)
 obtain⟨ga,gc,rfl⟩:=hrec.len
 clear hrec hb3 HT0
 by_cases hnone:Ip l k=none
 ·rw[hnone]
  rw[if_pos hnone]at HPP
  obtain⟨z,hzl,hzh⟩:=HT3.out.2.1
  have HZL:=Lib.hid hzl;have HZH:=Lib.hid hzh
  clear hzl hzh
  go_wp2_with (refine wpList_store_row (P:=Tryz.prog) rfl 151 _ _ rfl _ _ rfl rfl _ _ HZH.out (Aw _ Ai) (by rw[A1,A1,HZL.out];exact Ai.symm) (Bd _) ?_)
  refine bodyPost_ret (v:=.tuple #[.agg (Ae Ah),.bool false]) (Dx rfl _ _ _ _ rfl (setRow_heap _ _ _ _ _ _ HZH.out) Ai _ rfl) rfl ⟨?_,?_⟩
  ·rw[HPP.out]
  ·exact HT3.out.2.2.1.trans (Below.setRow _ _ _ _ (by omega))
 ·have hk:0≤k∧k<(Au l).length:=by
   by_cases h1:k<0
   ·exact absurd (by rw[HG.out,if_pos h1]) hnone
   ·rw[HG.out,if_neg h1]at hnone
    refine⟨by omega,?_⟩
    by_cases h2:k<(Au l).length
    ·exact h2
    ·exact absurd (by simp[ZG (show (Au l).length≤k.toNat by omega)]) hnone
  rw[if_neg hnone]at HPP
  have hsome:(Ip l k).isSome=true:=by cases h:Ip l k with
   |none=>exact absurd h hnone
   |some x=>rfl
  rw[hsome]
  clear hnone hsome HG
  generalize Cs (Ip l k)=gn
  obtain⟨h1,h2⟩:=hk
  obtain⟨j,rfl⟩:=Int.eq_ofNat_of_zero_le h1
  rw[ZZ]at HPP
  have hj:j<(Au l).length:=by omega
  go_wp2_with fail
  have hu:=Tryz.underlying151
  have hi:(Tryz.prog.info? 151).map (·.size)=some (A8 l).length:=by rw[C1,HL.out];exact W5
  refine wp_region_noPanic ?_
  refine wp_region_held_drew (S:=Through w l) (by kernel_rfl) HT3.out.drew (fun hH=> ?_)
  refine R4 0 19 _ _ _ _ _ (A8 l) _ rfl rfl rfl (by kernel_rfl) (by kernel_rfl) (by kernel_rfl) rfl rfl hu rfl hi hH (fun w h=>R5 h.1) ?_
  refine R4 1 20 _ _ _ _ _ (A8 l) _ rfl rfl rfl (by kernel_rfl) (by kernel_rfl) (by kernel_rfl) rfl rfl hu rfl hi hH (fun w h=>R5 h.1) ?_
  refine Aeu 3 22 _ (.int .i64 j) rfl rfl rfl (by kernel_rfl) (by kernel_rfl) (by kernel_rfl) hH (fun w _=>by go_simp) ?_
  refine Aeu 4 23 _ rv rfl rfl rfl (by kernel_rfl) (by kernel_rfl) (by kernel_rfl) hH (fun w _=>by go_simp) ?_
  simp only[List.setIfInBounds_toArray,XO,YF]
  refine wpAnyH_ready (rs:=[2]) (by kernel_rfl) (by simp) (AllReadyH.cons rfl (fun K hK=> ?_) AllReadyH.nil)
  go_simp
  refine (Kc l _ HL.out).mono ?_
  rintro e w5 ⟨v,rfl,hs,hb5⟩
  go_simp
  refine hK.out _ _ (hH.next hH.2.2.2 hb5) (fun hH5=> ?_)
  clear hK K
  have hsz:=hb5.size
  refine wpAnyH_ready (rs:=[5]) (by kernel_rfl) (by simp) (AllReadyH.cons rfl (fun K hK=> ?_) AllReadyH.nil)
  go_simp
  refine (Ahh l (Au l) j r _ _ w3.drew.heap.size _ HL.out hs (fun w' hb'=>HR.out.later (hH5.2.2.1.trans (hb'.mono (by have:=HT3.out.2.2.2;simp;omega)))) (by omega) (by omega) hlens hrl hsz).mono ?_
  rw[← HPP.out]
  rintro e w6 ⟨rfl,hb6⟩
  go_simp
  refine hK.out _ _ (hH5.next (by have:=HT3.out.2.2.2;simp;omega) hb6) (fun hH6=> ?_)
  clear hK K hs hb5 hb6 hH hH5 HT3
  refine Aeu 6 25 _ (.agg (Ae pp.1)) rfl rfl rfl (by kernel_rfl) (by kernel_rfl) (by kernel_rfl) hH6 (fun w _=>by go_simp) ?_
  refine Aeu 7 26 _ (.bool pp.2) rfl rfl rfl (by kernel_rfl) (by kernel_rfl) (by kernel_rfl) hH6 (fun w _=>by go_simp) ?_
  simp only[List.setIfInBounds_toArray,XO,YF]
  obtain⟨z,hzl,hzh⟩:=hH6.2.1
  have hrow:=setRow_heap w6 (w.heap.size+1) (Ae z) (Ae pp.1) _ _ hzh
  have hS7:Through w l (w6.setRow (w.heap.size+1) (Ae pp.1)):=⟨(setRow_other _ _ _ _ (by omega)).trans hH6.1,⟨_,HLP.out,hrow⟩,hH6.2.2.1.trans (Below.setRow _ _ _ _ (by omega)),by simpa using hH6.2.2.2⟩
  refine wpAnyH_ready (rs:=[8]) (by kernel_rfl) (by simp) (AllReadyH.cons rfl (fun K hK=> ?_) AllReadyH.nil)
  rw[if_pos (by rfl)]
  refine wp_store_row 151 (.tmp 6) (.tmp 25) rfl _ _ rfl rfl _ _ hzh (Aw _ HLP.out) (by rw[A1,A1,HLP.out];exact hzl) (Bd _) ?_
  refine hK.out _ _ hS7 (fun _=> ?_)
  clear hK K
  refine Aeu 9 7 _ (.bool pp.2) rfl rfl rfl (by kernel_rfl) (by kernel_rfl) (by kernel_rfl) hS7 (fun w _=>by go_simp) ?_
  refine wpAnyH_done (by kernel_rfl) ?_ _
  refine NoPanic.normal ?_
  go_wp2_with fail
  exact bodyPost_ret (Dx rfl _ _ _ _ rfl hrow HLP.out _ rfl) rfl ⟨rfl,hS7.2.2.1⟩
theorem Apn (l:List UInt8)(k:Int)(r:List UInt8)(rv:Value)(w:World)(hl:l.length=512)(hr:D2 w rv r)(hrl:r.length≤140737488351232):
 Calls Tryz.prog 77 #[.agg (Ae l),.int .i64 k,rv] w fun e w'=>e= .returned (.tuple #[.agg (Ae (Ls l k r).1),.bool (Ls l k r).2])∧Below w.heap.size w w':=
 Ak9 _ l k r rv w hl hr hrl rfl
end Go.Proofs.YtpoigihfeehehaaGreatDoor
namespace Go.Proofs.YtpoigihfeehehaaGreatDoor
theorem Ep (l:List UInt8)(i j:Nat)(x:UInt8):(l.set i x).getD j 0=if i=j∧j<l.length then x else l.getD j 0:=by
 simp only[QM,QW]
 by_cases h:i=j
 ·subst h
  by_cases h2:i<l.length
  ·simp[h2]
  ·simp[h2]
 ·simp[h]
theorem Zn (p r:List UInt8)(e j:Nat)(h:e+r.length≤p.length):(splice p e r).getD j 0=if e≤j∧j<e+r.length then r.getD (j - e) 0 else p.getD j 0:=by
 simp only[splice,QM]
 by_cases h1:j<e
 ·rw[QD (by simp;omega),if_neg (by omega),QT,if_pos h1]
 ·rw[QY (by simp;omega)]
  have e1:(p.take e).length=e:=by simp;omega
  rw[e1]
  by_cases h2:j<e+r.length
  ·rw[QD (by omega),if_pos ⟨by omega,h2⟩]
  ·rw[QY (by omega),if_neg (by omega),ZK]
   congr 2
   omega
theorem Tw (p r:List UInt8)(i e j:Nat)(h:e+r.length≤p.length)(hi:6+4*i+3<p.length):(Gx p i e r).getD j 0=
 if j=6+4*i+3 then toB (((r.length:Int)+1) / 256)else if j=6+4*i+2 then toB (r.length+1)else if j=6+4*i+1 then toB ((e:Int) / 256)else if j=6+4*i then toB e
 else if e≤j∧j<e+r.length then r.getD (j - e) 0 else p.getD j 0:=by
 unfold Gx
 have hl:=length_splice p e r h
 rw[Ep,Ep,Ep,Ep,Zn _ _ _ _ h]
 simp only[ZW,hl]
 by_cases h3:j=6+4*i+3
 ·rw[if_pos ⟨h3.symm,by omega⟩,if_pos h3]
 ·rw[if_neg (by omega),if_neg h3]
  by_cases h2:j=6+4*i+2
  ·rw[if_pos ⟨h2.symm,by omega⟩,if_pos h2]
  ·rw[if_neg (by omega),if_neg h2]
   by_cases h1:j=6+4*i+1
   ·rw[if_pos ⟨h1.symm,by omega⟩,if_pos h1]
   ·rw[if_neg (by omega),if_neg h1]
    by_cases h0:j=6+4*i
    ·rw[if_pos ⟨h0.symm,by omega⟩,if_pos h0]
    ·rw[if_neg (by omega),if_neg h0]
theorem Kg (x:Int)(_h:0≤x):(toB x).toNat=(x % 256).toNat:=by
 unfold toB
 rw[YQ]
 omega
theorem Ahi (e:Nat)(h:e≤65535):(toB (e:Int)).toNat+256*(toB ((e:Int) / 256)).toNat=e:=by
 rw[Kg _ (by omega),Kg _ (by omega)]
 omega
structure An9 (ts:List (Option (List UInt8)))(n:Nat)(kd:Int)(k:Nat)(p:List UInt8)(E:Nat):Prop where
 len:p.length=512
 kind:p.getD 4 0=toB kd
 count:p.getD 5 0=toB n
 zero:∀ j,6+4*k≤j→j<6+4*n→p.getD j 0=0
 none:∀ i,i<k→ts.getD i none=none→two p (6+4*i+2)=0
 some:∀ i r,i<k→ts.getD i Option.none=Option.some r→∃ e,E≤e∧e+r.length≤512∧two p (6+4*i)=e∧two p (6+4*i+2)=r.length+1∧∀ j,j<r.length→p.getD (e+j) 0=r.getD j 0
theorem Tx (j:Nat):Ah.getD j 0=0:=by
 unfold Ah
 simp only[QM,WU]
 split<;>simp
theorem filled (kd:Int)(ts:List (Option (List UInt8)))(hc:B9 ts≤496)(k:Nat)(hk:k≤ts.length):
 An9 ts ts.length kd k (Bw ts ((Ah.set 4 (toB kd)).set 5 (toB ts.length)) k).1 (512 - lens (ts.take k)):=by
 have hc':4*ts.length+lens ts≤496:=hc
 induction k with
 |zero=>
  refine⟨by simp[Bw,Ai],?_,?_,?_,fun i hi=>absurd hi (by omega),fun i r hi=>absurd hi (by omega)⟩
  ·simp only[Bw];rw[Ep,Ep];simp[Ai]
  ·simp only[Bw];rw[Ep];simp[Ai]
  ·intro j h1 h2
   simp only[Bw]
   rw[Ep,if_neg (by omega),Ep,if_neg (by omega),Tx]
 |succ k ih=>
  have F:=ih (by omega)
  have h1:=lens_take_succ ts k (by omega)
  have h2:=lens_take_le ts (k+1)
  have hE:=H9 ts ((Ah.set 4 (toB kd)).set 5 (toB ts.length)) k (by omega) (by omega)
  unfold Bw
  cases ho:ts.getD k none with
  |none=>
   rw[ho]at h1
   simp only[Cs,XD]at h1
   simp only
   rw[h1]
   refine⟨F.len,F.kind,F.count,fun j a b=>F.zero j (by omega) b,fun i hi hn=> ?_,fun i r hi hn=> ?_⟩
   ·by_cases e:i=k
    ·subst e
     unfold two
     rw[F.zero _ (by omega) (by omega),F.zero _ (by omega) (by omega)]
     rfl
    ·exact F.none i (by omega) hn
   ·by_cases e:i=k
    ·subst e;rw[ho]at hn;cases hn
    ·exact F.some i r (by omega) hn
  |some r=>
   rw[ho]at h1
   simp only[Cs]at h1
   simp only
   rw[hE]
   have hE':512 - lens (ts.take k) - r.length=512 - lens (ts.take (k+1)):=by omega
   rw[hE']
   generalize hp:(Bw ts ((Ah.set 4 (toB kd)).set 5 (toB ts.length)) k).1=p at*
   obtain⟨E,hEE⟩:∃ E,E=512 - lens (ts.take (k+1)):=⟨_,rfl⟩
   rw[← hEE]
   have hfit:E+r.length≤p.length:=by rw[F.len];omega
   have hrow:6+4*k+3<p.length:=by rw[F.len];omega
   have hEn:6+4*ts.length≤E:=by omega
   have hEk:E+r.length=512 - lens (ts.take k):=by omega
   have G:=fun j=>Tw p r k E j hfit hrow
   have same:∀ j,(j<6+4*k∨(6+4*k+4≤j∧j<E)∨E+r.length≤j)→(Gx p k E r).getD j 0=p.getD j 0:=fun j hj=>by
    rw[G j,if_neg (by omega),if_neg (by omega),if_neg (by omega),if_neg (by omega),if_neg (by omega)]
   refine⟨by rw[Ht _ _ _ _ hfit,F.len],by rw[same 4 (by omega),F.kind],by rw[same 5 (by omega),F.count],fun j a b=>by rw[same j (by omega),F.zero j (by omega) b],fun i hi hn=> ?_,fun i r' hi hn=> ?_⟩
   ·have e:i≠k:=fun e=>by subst e;rw[ho]at hn;cases hn
    unfold two
    rw[same _ (by omega),same _ (by omega)]
    exact F.none i (by omega) hn
   ·by_cases e:i=k
    ·subst e
     rw[ho]at hn
     obtain rfl:r=r':=by simpa using hn
     refine⟨E,QH _,by omega,?_,?_,?_⟩
     ·unfold two
      rw[G,G,if_neg (by omega),if_neg (by omega),if_neg (by omega),if_pos rfl,if_neg (by omega),if_neg (by omega),if_pos rfl]
      exact Ahi E (by omega)
     ·unfold two
      rw[G,G,if_neg (by omega),if_pos rfl,if_pos rfl]
      have:=Ahi (r.length+1) (by omega)
      simpa using this
     ·intro j hj
      rw[G,if_neg (by omega),if_neg (by omega),if_neg (by omega),if_neg (by omega),if_pos (by omega)]
      congr 1
      omega
    ·obtain⟨e',g1,g2,g3,g4,g5⟩:=F.some i r' (by omega) hn
     refine⟨e',by omega,g2,?_,?_,fun j hj=>by rw[same _ (by omega)];exact g5 j hj⟩
     ·unfold two at*
      rw[same _ (by omega),same _ (by omega)];exact g3
     ·unfold two at*
      rw[same _ (by omega),same _ (by omega)];exact g4
theorem Pk {ts:List (Option (List UInt8))}{n k E:Nat}{kd:Int}{p:List UInt8}(F:An9 ts n kd k p E)(hE:6≤E)(i:Nat)(hi:i<k):slotL p i=ts.getD i none:=by
 unfold slotL
 cases ho:ts.getD i none with
 |none=>rw[F.none i hi ho];simp[Iy]
 |some r=>
  obtain⟨e,g1,g2,g3,g4,g5⟩:=F.some i r hi ho
  rw[g3,g4]
  unfold Iy
  rw[if_neg (by omega)]
  congr 1
  apply XM
  intro j
  rw[QT]
  by_cases hj:j<r.length
  ·rw[if_pos (by omega),ZK]
   have:=g5 j hj
   have hlt:e+j<p.length:=by rw[F.len];omega
   simp only[QM,QN hlt,QN hj,Option.getD_some]at this
   rw[QN hlt,QN hj,this]
  ·rw[if_neg (by omega),ZG (by omega)]
theorem Zo (p:List UInt8)(i:Nat):slotL (Hd p) i=slotL p i:=by
 have e:∀ j,4≤j→two (Hd p) j=two p j:=fun j hj=>by unfold two;rw[Ka p j hj,Ka p (j+1) (by omega)]
 unfold slotL
 rw[e _ (by omega),e _ (by omega)]
 unfold Iy
 split
 ·rfl
 ·rename_i h
  have hd:∀ F,4≤F→(Hd p).drop F=p.drop F:=fun F hF=>by
   have:=congrArg (List.drop (F - 4)) (Md p)
   rw[VC,VC]at this
   rw[show 4+(F - 4)=F by omega]at this
   exact this
  rw[hd _ (by omega)]
theorem F7 (ss:List (Option (List UInt8))):B9 (A4 ss)≤B9 ss:=by
 have h1:=Ds ss
 have h2:(A4 ss).length≤ss.length:=by
  clear h1
  induction ss with
  |nil=>simp[A4]
  |cons o r ih=>
   cases o with
   |none=>unfold A4;split<;>simp<;>omega
   |some x=>simp[A4];omega
 unfold B9
 omega
theorem Zp (kd:Int)(ss:List (Option (List UInt8)))(hc:B9 ss≤496):Au (Ek kd ss)=A4 ss:=by
 have hc':=F7 ss
 have F:=filled kd (A4 ss) (by omega) (A4 ss).length (QH _)
 have hlen:(A4 ss).length≤124:=by unfold B9 at *;omega
 rw[ZS]at F
 have hn:((Ek kd ss).getD 5 0).toNat=(A4 ss).length:=by
  unfold Ek
  rw[Ka _ 5 (by omega)]
  rw[show Ke kd (A4 ss)=(Bw (A4 ss) ((Ah.set 4 (toB kd)).set 5 (toB (A4 ss).length)) (A4 ss).length).1 from rfl,F.count,Kg _ (by omega)]
  omega
 unfold Au
 rw[hn,show min (A4 ss).length 124=(A4 ss).length by omega]
 apply XM
 intro i
 rw[QR]
 by_cases hi:i<(A4 ss).length
 ·rw[List.getElem?_range hi,QN hi,XR]
  congr 1
  unfold Ek
  rw[Zo,show Ke kd (A4 ss)=(Bw (A4 ss) ((Ah.set 4 (toB kd)).set 5 (toB (A4 ss).length)) (A4 ss).length).1 from rfl,
   Pk F (by have:=Ds ss;unfold B9 at *;omega) i hi]
  simp[hi]
 ·rw[ZG (by simpa using hi),ZG (by omega)]
  rfl
theorem Aew (kd:Int)(h0:0≤kd)(h1:kd<256)(ss:List (Option (List UInt8)))(hc:B9 ss≤496):Eo (Ek kd ss)=kd:=by
 have hc':=F7 ss
 have F:=filled kd (A4 ss) (by omega) (A4 ss).length (QH _)
 unfold Eo Ek
 rw[Ka _ 4 (by omega),show Ke kd (A4 ss)=(Bw (A4 ss) ((Ah.set 4 (toB kd)).set 5 (toB (A4 ss).length)) (A4 ss).length).1 from rfl,F.kind,Kg _ h0]
 omega
theorem Zq (kd:Int)(ss:List (Option (List UInt8)))(hc:B9 ss≤496):Ahd (Ek kd ss)=true:=by
 have hc':=F7 ss
 have F:=filled kd (A4 ss) (by omega) (A4 ss).length (QH _)
 unfold Ahd Ek
 rw[Zj _ (by exact F.len)]
 simp
