/- Plain definitions and lemmas: bytes as cells, the checksum, lists of bytes. The walk of page.sum: it returns the checksum of the bytes of a slice, and leaves the world as it is. The walk of page.Seal. Slots of a page in memory: a slice of slices of bytes; the walks of page.cost and page.free. append onto a slice of the call's own, from whatever source: a slice that is nil or whose cells are known. The walk of page.slots. -/
import Derived.Test.YtpoigihfeehehaaGreatDoorRows
import Derived.WalkKit
import Derived.WalkSpells
import Derived.WalkLawsBesides
import Derived.Lib.Hide
import Derived.Laws.AppendOwnNone
import Derived.Deep.QuietTactic
import Derived.BigQuiet
import Derived.Test.YtpoigihfeehehaaGreatDoorM00
set_option linter.all false
set_option maxRecDepth 100000
set_option maxHeartbeats 32000000
namespace Go.Proofs.YtpoigihfeehehaaGreatDoor
open Go.RowKit
def Aeq (x:UInt8):Value:=.int .u8 x.toNat
def A8 (l:List UInt8):List Value:=l.map Aeq
abbrev Ae (l:List UInt8):Array Value:=(A8 l).toArray
theorem C1 (l:List UInt8):(A8 l).length=l.length:=by simp[A8]
theorem A1 (l:List UInt8):(Ae l).size=l.length:=by simp[A8]
theorem Dg (l:List UInt8)(k:Nat)(h:k<l.length):(A8 l)[k]? =some (.int .u8 (l.getD k 0).toNat):=by
 simp[A8,Aeq,h]
theorem Fs (l:List UInt8):∀ v∈A8 l,v.oneCell'=true:=by
 simp[A8,Aeq,Value.oneCell']
theorem Bd (l:List UInt8):(Ae l).all (·.oneCell')=true:=by
 simp[A8,Aeq,Value.oneCell']
theorem Zf (l:List UInt8)(k:Nat):A8 (l.take k)=(A8 l).take k:=by simp[A8]
theorem Zg (l:List UInt8)(k:Nat):A8 (l.drop k)=(A8 l).drop k:=by simp[A8]
def toB (x:Int):UInt8:=UInt8.ofNat (x % 256).toNat
theorem Ag8 (x:Int)(h0:0≤x)(h1:x<256):((toB x).toNat:Int)=x:=by
 unfold toB
 rw[YQ]
 omega
theorem H7 (l:List UInt8)(k:Nat)(x:Int)(h0:0≤x)(h1:x<256):
 (A8 l).set k (.int .u8 x)=A8 (l.set k (toB x)):=by
 simp only[A8,List.map_set,Aeq,Ag8 x h0 h1]
/-! the checksum -/
def Ase (m:Int):Int:=bits .xor .u32 (m / 2) (bits .and .u32 3988292384 (-bits .and .u32 m 1 % 4294967296))
def Zh:Nat→Int→Int
 |0,m=>m
 |k+1,m=>Ase (Zh k m)
def Zi (n:Int)(x:UInt8):Int:=Zh 8 (bits .xor .u32 n (x.toNat % 4294967296))
def W4 (l:List UInt8):Int:=l.foldl Zi 4294967295
def crc (l:List UInt8):Int:=bits .xor .u32 IntKind.u32.max (W4 l)
theorem Aer (l:List UInt8)(x:UInt8):W4 (l++[x])=Zi (W4 l) x:=by simp[W4]
theorem Ag9 (l:List UInt8)(k:Nat)(h:k<l.length):l.take (k+1)=l.take k++[l.getD k 0]:=by
 rw[YC h];simp[h]
theorem Ts {k:IntKind}{a b:Int}(h:a=b):Ending.returned (.int k a)= .returned (.int k b):=by rw[h]
theorem Apm (l:List UInt8)(b off len cap:Nat)(w:World)(hl:l.length=len)(hlen:len≤1000)
 (hc:∀ k,k<len→w.cell? ⟨b,off+k,none⟩=some (.int .u8 (l.getD k 0).toNat)):
 Calls Tryz.prog 189 #[.slice (some ⟨b,off,none⟩) len cap] w fun e w'=>e= .returned (.int .u32 (crc l))∧w=w':=by
 have HL:=Lib.hid hl;have HC:=Lib.hid hc;clear hl hc
 go_enter Tryz.func189,Tryz.ntmps189
 go_wp2
 go_loop [3,8] (fun c i=>∃ k:Nat,k≤len∧i= .int .i64 k∧c= .int .u32 (W4 (l.take k))) (fun _ i=>len - (intOf i).toNat)
 case atStart=>exact⟨0,YS _,rfl,rfl⟩
 case round=>
  obtain⟨k,hk,rfl,rfl⟩:=hrel
  by_cases hlt:k<len
  ·have hck:=HC.out k hlt
   generalize hx:l.getD k 0=x at hck
   have HS:Hid (W4 (l.take (k+1))=Zi (W4 (l.take k)) x):=Lib.hid (by rw[Ag9 l k (by rw[HL.out];exact hlt),Aer,hx])
   clear hx
   generalize W4 (l.take k)=n at*
   go_wp2
   go_loop [3,16] (fun c i=>∃ j:Nat,j≤8∧i= .int .i64 j∧c= .int .u32 (Zh j (bits .xor .u32 n (x.toNat % 4294967296)))) (fun _ i=>8 - (intOf i).toNat)
   case atStart=>exact⟨0,YS _,rfl,rfl⟩
   case round=>
    obtain⟨j,hj,rfl,rfl⟩:=hrel
    by_cases hlt2:j<8
    ·go_wp2
     go_round
     case rel=>exact⟨j+1,by omega,by go_num,rfl⟩
     case measure=>simp[intOf];omega
    ·obtain rfl:j=8:=by omega
     go_wp2
     go_round
     case rel=>exact⟨k+1,by omega,by go_num,by rw[HS.out];rfl⟩
     case measure=>simp[intOf];omega
  ·go_wp2
   go_ret
   exact⟨Ts (by rw[ZF (by rw[HL.out];omega)];rfl),rfl⟩
def Ah:List UInt8:=List.replicate 512 0
theorem Ai:Ah.length=512:=XC
theorem Eg (w:World):(zeroValue 151).run Tryz.prog w= .ok (.agg (Ae Ah)) w:=by kernel_rfl
def Ix (s:Int)(l:List UInt8):Nat→List UInt8
 |0=>l
 |k+1=>(Ix s l k).set k (toB (s / 2 ^ (8*k) % 256))
theorem J9 (s:Int)(l:List UInt8)(k:Nat):(Ix s l k).length=l.length:=by
 induction k with
 |zero=>rfl
 |succ k ih=>simp[Ix,ih]
def Hd (l:List UInt8):List UInt8:=Ix (crc (l.drop 4)) l 4
theorem Fe (l:List UInt8):(Hd l).length=l.length:=J9 _ _ _
theorem Md (l:List UInt8):(Hd l).drop 4=l.drop 4:=by
 simp[Hd,Ix,List.drop_set]
theorem Zj (l:List UInt8)(h:l.length=512):Hd (Hd l)=Hd l:=by
 unfold Hd
 rw[show (Ix (crc (List.drop 4 l)) l 4).drop 4=l.drop 4 from Md l]
 generalize crc (l.drop 4)=s
 obtain⟨a,b,c,d,r,rfl⟩:∃ a b c d r,l=a::b::c::d::r:=by
  match l,h with
  |a::b::c::d::r,_=>exact⟨a,b,c,d,r,rfl⟩
 simp[Ix]
theorem Ka (l:List UInt8)(k:Nat)(h:4≤k):(Hd l).getD k 0=l.getD k 0:=by
 have h1:=congrArg (fun x:List UInt8=>x.getD (k - 4) 0) (Md l)
 simp only[QM,ZK]at h1
 rw[show 4+(k - 4)=k from by omega]at h1
 simpa using h1
theorem W5:(Tryz.prog.info? 151).map (·.size)=some 512:=by kernel_rfl
theorem Aw (l:List UInt8)(h:l.length=512):(Tryz.prog.info? 151).map (·.size)=some (Ae l).size:=by
 rw[A1,h];exact W5
theorem Below.setRow (B:Nat)(w:World)(g:Nat)(cs:Array Value)(h:B≤g):Below B w (w.setRow g cs):=
 ⟨rfl,rfl,rfl,by simp,fun k hk=>setRow_other w g k cs (by omega)⟩
theorem Abr (l:List UInt8)(w:World)(hl:l.length=512):
 Calls Tryz.prog 156 #[.agg (Ae l)] w fun e w'=>e= .returned (.agg (Ae (Hd l)))∧Below w.heap.size w w':=by
 have HL:=Lib.hid hl;clear hl
 have hz:=Eg
 go_enter Tryz.func156,Tryz.ntmps156
 go_wp2_with fail
 refine (Apm (l.drop 4) _ _ _ _ _ (by simp[HL.out]) (by omega) ?_).mono ?_
 ·intro k hk
  simp[go_sem]
  rw[Dg l (4+k) (by rw[HL.out];omega)]
  simp
 rintro e w' ⟨rfl,rfl⟩
 have HS:=Lib.hid (show Hd l=Ix (crc (l.drop 4)) l 4 from rfl)
 generalize crc (l.drop 4)=s at*
 go_wp2_with fail
 go_loopw [7] (fun i wr=>∃ k:Nat,k≤4∧i= .int .i64 k∧wr=(w.alloc (.cells (Ae (Ix s l k)) 151)).alloc (.cells (Ae Ah) 151)) (fun i _=>4 - (intOf i).toNat)
 case atStart=>exact⟨0,by omega,rfl,rfl⟩
 case round=>
  obtain⟨k,hk,rfl,rfl⟩:=hrel
  by_cases hlt:k<4
  ·have hck:=Dg (Ix s l k) k (by rw[J9,HL.out];omega)
   go_wp2_with fail
   go_roundw
   case rel=>exact⟨k+1,by omega,by go_num,by rw[H7 _ _ _ (by omega) (by omega)];rfl⟩
   case measure=>simp[intOf];omega
  ·obtain rfl:k=4:=by omega
   rw[← HS.out]
   have HLS:=Lib.hid ((Fe l).trans HL.out)
   clear HS
   generalize hm:Hd l=m at*
   have HM:=Lib.hid hm;clear hm
   go_wp2_with (first|refine wpList_load_row (P:=Tryz.prog) rfl 151 _ rfl _ rfl _ _ _ _ (heap_alloc2_old _ _ _) Tryz.underlying151 rfl (Aw _ HLS.out) ?_|refine wpList_store_row (P:=Tryz.prog) rfl 151 _ _ rfl _ _ rfl rfl _ _ (heap_alloc2_new _ _ _) (Aw _ HLS.out) (by rw[A1,A1,HLS.out];exact Ai) (Bd _) ?_)
   refine bodyPost_ret (v:=.agg (Ae m)) (results_cell_row rfl _ _ _ _ _ _ _ rfl (setRow_heap _ _ _ _ _ _ (heap_alloc2_new _ _ _)) Tryz.underlying151 rfl (Aw _ HLS.out)) rfl ⟨by rw[HM.out],?_⟩
   exact (((Below.refl _ _).alloc (QH _) (.cells (Ae m) 151)).alloc (by simp) (.cells (Ae Ah) 151)).trans (Below.setRow _ _ _ _ (by simp))
def Rec (w:World)(base:Nat)(x:Value):Option (List UInt8)→Prop
 |none=>x= .slice none 0 0
 |some r=>w.ownsRow base 5 1 x r.length (A8 r)∧∃ g cap,x= .slice (some ⟨g,0,none⟩) r.length cap
def Cm (w:World)(base:Nat)(v:Value)(ss:List (Option (List UInt8))):Prop:=
 ∃ xs,w.ownsRow base 70 1 v ss.length xs∧xs.length=ss.length∧∀ k,k<ss.length→Rec w base (xs.getD k undef) (ss.getD k none)
def Cs:Option (List UInt8)→Nat
 |none=>0
 |some r=>r.length
theorem Rec.form {w:World}{base:Nat}{x:Value}{o:Option (List UInt8)}(h:Rec w base x o):
 (o=none∧x= .slice none 0 0)∨∃ r g cap,o=some r∧x= .slice (some ⟨g,0,none⟩) r.length cap:=by
 cases o with
 |none=>exact .inl ⟨rfl,h⟩
 |some r=>obtain⟨_,g,cap,hx⟩:=h;exact .inr ⟨r,g,cap,rfl,hx⟩
theorem Rec.len {w:World}{base:Nat}{x:Value}{o:Option (List UInt8)}(h:Rec w base x o):∃ a c,x= .slice a (Cs o) c:=by
 rcases h.form with⟨rfl,rfl⟩|⟨r,g,cap,rfl,rfl⟩
 ·exact⟨_,_,rfl⟩
 ·exact⟨_,_,rfl⟩
theorem Rec.kept {w w':World}{base:Nat}{x:Value}{o:Option (List UInt8)}(h:Rec w base x o)
 (hk:∀ (g:Nat) (cur:Array Value),w.heap[g]? =some (Obj.cells cur 5 (0,0))→w'.heap[g]? =w.heap[g]?):Rec w' base x o:=by
 cases o with
 |none=>exact h
 |some r=>
  obtain⟨⟨h1,h2⟩,h3⟩:=h
  refine⟨⟨h1,?_⟩,h3⟩
  rcases h2 with h2|⟨g,cap,cur,hv,hg,hh,rest⟩
  ·exact .inl h2
  ·exact .inr ⟨g,cap,cur,hv,hg,(hk g cur hh).trans hh,rest⟩
theorem Cm.kept {w w':World}{base:Nat}{v:Value}{ss:List (Option (List UInt8))}(h:Cm w base v ss)
 (hk:∀ g,g<w.heap.size→base≤g→w'.heap[g]? =w.heap[g]?):Cm w' base v ss:=by
 obtain⟨xs,⟨h1,h2⟩,hl,hr⟩:=h
 refine⟨xs,⟨h1,?_⟩,hl,fun k hkk=> ?_⟩
 ·rcases h2 with h2|⟨g,cap,cur,hv,hg,hh,rest⟩
  ·exact .inl h2
  ·exact .inr ⟨g,cap,cur,hv,hg,(hk g (QU.1 hh).1 hg).trans hh,rest⟩
 ·have:=hr k hkk
  cases ho:ss.getD k none with
  |none=>rw[ho]at this;exact this
  |some r=>
   rw[ho]at this
   obtain⟨⟨h1,h2⟩,h3⟩:=this
   refine⟨⟨h1,?_⟩,h3⟩
   rcases h2 with h2|⟨g,cap,cur,hv,hg,hh,rest⟩
   ·exact .inl h2
   ·exact .inr ⟨g,cap,cur,hv,hg,(hk g (QU.1 hh).1 hg).trans hh,rest⟩
theorem Cm.mono {w:World}{base base':Nat}{v:Value}{ss:List (Option (List UInt8))}(h:Cm w base v ss)(hb:base'≤base):Cm w base' v ss:=by
 obtain⟨xs,⟨h1,h2⟩,hl,hr⟩:=h
 have ow:∀ {e v n ys},w.ownsRow base e 1 v n ys→w.ownsRow base' e 1 v n ys:=by
  intro e v n ys ⟨h1,h2⟩
  refine⟨h1,?_⟩
  rcases h2 with h2|⟨g,cap,cur,hv,hg,rest⟩
  ·exact .inl h2
  ·exact .inr ⟨g,cap,cur,hv,ZO hb hg,rest⟩
 refine⟨xs,ow ⟨h1,h2⟩,hl,fun k hkk=> ?_⟩
 have:=hr k hkk
 cases ho:ss.getD k none with
 |none=>rw[ho]at this;exact this
 |some r=>rw[ho]at this;exact⟨ow this.1,this.2⟩
theorem Cm.cells {w:World}{base:Nat}{v:Value}{ss:List (Option (List UInt8))}(h:Cm w base v ss):
 (v= .slice none 0 0∧ss=[])∨∃ g cap,v= .slice (some ⟨g,0,none⟩) ss.length cap∧base≤g∧ss.length≤cap∧∀ k,k<ss.length→∃ x,w.cell? ⟨g,k,none⟩=some x∧w.frozen? ⟨g,k,none⟩=false∧Rec w base x (ss.getD k none):=by
 obtain⟨xs,⟨h1,h2⟩,hl,hr⟩:=h
 rcases h2 with⟨rfl,h2⟩|⟨g,cap,cur,rfl,hg,hh,hnc,hcm,hcs,ht⟩
 ·exact .inl ⟨rfl,XF h2⟩
 ·refine .inr ⟨g,cap,rfl,hg,hnc,fun k hk=>⟨xs.getD k undef,?_,frozen_of_row w g k cur _ hh,hr k hk⟩⟩
  rw[cell_of_row w g k cur _ _ hh]
  have h0:xs[k]? =some (xs.getD k undef):=by simp[hl,hk]
  have h3:(cur.toList.take (ss.length*1))[k]? =xs[k]? :=by rw[ht]
  rw[QT,if_pos (by omega)]at h3
  rw[← h0,←h3]
  simp
/-! the cost -/
def lens (ss:List (Option (List UInt8))):Nat:=(ss.map Cs).sum
def B9 (ss:List (Option (List UInt8))):Nat:=4*ss.length+lens ss
theorem lens_take_succ (ss:List (Option (List UInt8)))(k:Nat)(h:k<ss.length):lens (ss.take (k+1))=lens (ss.take k)+Cs (ss.getD k none):=by
 rw[YC h]
 unfold lens
 rw[ZH,List.sum_append]
 simp[h]
theorem lens_take_le (ss:List (Option (List UInt8)))(k:Nat):lens (ss.take k)≤lens ss:=by
 have:lens ss=lens (ss.take k)+lens (ss.drop k):=by
  conv=>lhs;rw[← ZI k ss]
  simp only[lens,ZH,List.sum_append]
 omega
theorem Ak1 (ss:List (Option (List UInt8)))(v:Value)(base:Nat)(w:World)(h:Cm w base v ss)(hm:B9 ss≤4611686018427387904):
 Calls Tryz.prog 150 #[v] w fun e w'=>e= .returned (.int .i64 (B9 ss))∧w=w':=by
 rcases h.cells with⟨rfl,rfl⟩|⟨g,cap,rfl,hg,hcap,hc⟩
 ·go_enter Tryz.func150,Tryz.ntmps150
  go_wp2
  refine wp_loop_rounds 1 ?_
  rw[rounds_succ]
  go_wp2
  go_ret
  exact⟨rfl,rfl⟩
 ·clear h
  have HC:=Lib.hid hc;clear hc
  have HM:=Lib.hid (show B9 ss=4*ss.length+lens ss from rfl)
  have HT:=Lib.hid (lens_take_succ ss)
  have HE:=Lib.hid (lens_take_le ss)
  have hb1:4*ss.length+lens ss≤4611686018427387904:=hm
  clear hm
  go_enter Tryz.func150,Tryz.ntmps150
  go_wp2
  go_loop [3,11] (fun n i=>∃ k:Nat,k≤ss.length∧i= .int .i64 k∧n= .int .i64 (4*ss.length+lens (ss.take k))) (fun _ i=>ss.length - (intOf i).toNat)
  case atStart=>exact⟨0,YS _,rfl,by simp[lens]⟩
  case round=>
   obtain⟨k,hk,rfl,rfl⟩:=hrel
   by_cases hlt:k<ss.length
   ·obtain⟨x,hx,_,hrec⟩:=HC.out k hlt
    obtain⟨a,c,rfl⟩:=hrec.len
    have h1:=HT.out k hlt
    have h2:=HE.out (k+1)
    have hle:4*ss.length+lens (ss.take k)+Cs (ss.getD k none)≤4611686018427387904:=by omega
    have HS:=Lib.hid h1
    clear h1 h2 hrec
    generalize Cs (ss.getD k none)=q at*
    go_wp2
    go_round
    case rel=>exact⟨k+1,by omega,by go_num,by rw[HS.out];go_num⟩
    case measure=>simp[intOf];omega
   ·obtain rfl:k=ss.length:=by omega
    go_wp2
    go_ret
    exact⟨Ts (by rw[HM.out];omega),rfl⟩
def C8 (ss:List (Option (List UInt8))):Nat:=ss.findIdx (·.isNone)
theorem N3 (ss:List (Option (List UInt8))):C8 ss≤ss.length:=List.findIdx_le_length
theorem Ak2 {ss:List (Option (List UInt8))}{k:Nat}(h:k<ss.length)(hn:ss.getD k none=none)(hb:∀ j,j<k→ss.getD j none≠none):C8 ss=k:=by
 unfold C8
 rw[List.findIdx_eq h]
 refine⟨by simp[h]at hn;simp[hn],fun j hj=> ?_⟩
 have:=hb j hj
 have hj':j<ss.length:=by omega
 simp[hj']at this
 cases h:ss[j]<;>simp_all
theorem Aes {ss:List (Option (List UInt8))}(hb:∀ j,j<ss.length→ss.getD j none≠none):C8 ss=ss.length:=by
 unfold C8
 rw[List.findIdx_eq_length]
 intro x hx
 obtain⟨i,hi,rfl⟩:=List.getElem_of_mem hx
 have:=hb i hi
 simp[hi]at this
 cases h:ss[i]<;>simp_all
theorem Zk (w:World)(a:Option Addr)(n c:Nat):(binOp .eql 70 (.slice a n c) (.slice none 0 0)).run Tryz.prog w= .ok (.bool a.isNone) w:=
 Lib.run_eql_slice_nil (P:=Tryz.prog) w 70 5 a n c 0 0 Tryz.underlying70
theorem Ak3 (ss:List (Option (List UInt8)))(v:Value)(base:Nat)(w:World)(h:Cm w base v ss)(hm:ss.length≤1000):
 Calls Tryz.prog 117 #[v] w fun e w'=>e= .returned (.int .i64 (C8 ss))∧w=w':=by
 have hn:=Zk
 rcases h.cells with⟨rfl,rfl⟩|⟨g,cap,rfl,hg,hcap,hc⟩
 ·go_enter Tryz.func117,Tryz.ntmps117
  go_wp2
  refine wp_loop_rounds 1 ?_
  rw[rounds_succ]
  go_wp2
  go_ret
  exact⟨rfl,rfl⟩
 ·clear h
  have HC:=Lib.hid hc;clear hc
  go_enter Tryz.func117,Tryz.ntmps117
  go_wp2
  go_loop [7] (fun i=>∃ k:Nat,k≤ss.length∧i= .int .i64 k∧∀ j,j<k→ss.getD j none≠none) (fun i=>ss.length - (intOf i).toNat)
  case atStart=>exact⟨0,YS _,rfl,by simp⟩
  case round=>
   obtain⟨k,hk,rfl,hb⟩:=hrel
   have HB:=Lib.hid hb;clear hb
   by_cases hlt:k<ss.length
   ·obtain⟨x,hx,_,hrec⟩:=HC.out k hlt
    rcases hrec.form with⟨ho,rfl⟩|⟨r,g',cap',ho,rfl⟩
    ·have HF:=Lib.hid (Ak2 hlt ho HB.out)
     clear hrec ho
     go_wp2
     go_ret
     exact⟨Ts (by rw[HF.out]),rfl⟩
    ·have HO:=Lib.hid ho
     clear hrec ho
     go_wp2
     go_round
     case rel=>exact⟨k+1,by omega,by go_num,fun j hj=>by
      by_cases e:j=k
      ·rw[e,HO.out];simp
      ·exact HB.out j (by omega)⟩
     case measure=>simp[intOf];omega
   ·obtain rfl:k=ss.length:=by omega
    have HF:=Lib.hid (Aes HB.out)
    go_wp2
    go_ret
    exact⟨Ts (by rw[HF.out]),rfl⟩
def Src (w:World)(x:Value)(m:Nat)(news:List Value):Prop:=
 ∃ ao c,x= .slice ao m c∧((ao=none∧m=0∧c=0)∨∃ ad,ao=some ad∧∀ j u,news[j]? =some u→w.cell? (ad.add j)=some u)
theorem World.grownBy_self (w:World)(row:Option Nat):w.grownBy w row:=⟨rfl,rfl,rfl,QH _,fun _ _ _=>rfl⟩
theorem R3 {P:Program}{w:World}{ops:Array Oper}{rest:List Oper}{o:Oper}{a:Act}{Q:Exit→Act→World→Prop}(t e:TypeId)(z:Value)(size bytes:Nat)
 (ht:P.underlying t=some (.slice e)) (hinfo:(P.info? e).map (fun i=>(i.zero,i.size,i.bytes))=some (some z,size,bytes)) (hzs:z.cells.size=size) (hsz:0<size)
 (hgd:o.guard=none) (s x:Operand)
 (ho:o.op= .call { callee:=.builtin .append,args:= #[s,x],argTypes:= #[t,t] })
 (base:Nat) (v:Value) (n:Nat) (xs:List Value) (hs:a.eval s=v) (hown:w.ownsRow base e size v n xs)
 (m:Nat) (news:List Value) (hx:Src w (a.eval x) m news) (hl:news.length=m*size) (h1:∀ u∈news,u.oneCell'=true)
 (h63:n+m≤maxLen) (hbytes:(n+m)*bytes≤140737488355328) (hbase:base≤w.heap.size)
 (h:∀ v' w',w'.ownsRow base e size v' (n+m) (xs++news)→w.grownBy w' v.ownBlock→(v'= .slice none 0 0↔v= .slice none 0 0∧m=0)→wpList P ops Q rest (a.put o.dst v') w'):wpList P ops Q (o::rest) a w:=by
 obtain⟨i,hi,hz0,hz1,hz2⟩:=info_parts hinfo
 obtain⟨ao,c,hx1,hx2⟩:=hx
 rcases hx2 with⟨rfl,rfl,rfl⟩|⟨ad,rfl,hc⟩
 ·have hn:news=[]:=XF (by simpa using hl)
  subst hn
  exact wpList_append_own_none hgd s x t ho base e i size ht hi v n xs hs hown hx1 (h v w (by simpa using hown) (World.grownBy_self _ _) (by simp))
 ·exact wpList_append_own w hgd s x t ho base e i z size bytes ht hi hz0 hz1 hz2 hzs hsz v n xs hs hown ad m c news hx1 hl hc h1 h63 hbytes hbase h
theorem Gw {P:Program}{w:World}{ops:Array Oper}{rest:List Oper}{o:Oper}{a:Act}{Q:Exit→Act→World→Prop}(t e:TypeId)(z:Value)(size bytes:Nat)
 (ht:P.underlying t=some (.slice e)) (hinfo:(P.info? e).map (fun i=>(i.zero,i.size,i.bytes))=some (some z,size,bytes)) (hzs:z.cells.size=size) (hsz:0<size)
 (hgd:o.guard=none) (s x:Operand)
 (ho:o.op= .call { callee:=.builtin .append,args:= #[s,x],argTypes:= #[t,t] })
 (base:Nat) (v:Value) (n:Nat) (xs:List Value) (hs:a.eval s=v) (hown:w.ownsRow base e size v n xs)
 (m:Nat) (news:List Value) (hx:Src w (a.eval x) m news) (hl:news.length=m*size) (h1:∀ u∈news,u.oneCell'=true)
 (h63:n+m≤maxLen) (hbytes:(n+m)*bytes≤140737488355328) (hbase:base≤w.heap.size) (hne:v≠ .slice none 0 0∨0<m)
 (h:∀ g cap w',w'.ownsRow base e size (.slice (some ⟨g,0,none⟩) (n+m) cap) (n+m) (xs++news)→w.grownBy w' v.ownBlock→wpList P ops Q rest (a.put o.dst (.slice (some ⟨g,0,none⟩) (n+m) cap)) w'):wpList P ops Q (o::rest) a w:=by
 refine R3 t e z size bytes ht hinfo hzs hsz hgd s x ho base v n xs hs hown m news hx hl h1 h63 hbytes hbase fun v' w' ho' hg' hn'=> ?_
 rcases ho'.2 with⟨rfl,_⟩|⟨g,cap,cur,rfl,_⟩
 ·obtain⟨e1,e2⟩:=hn'.1 rfl
  rcases hne with hne|hne
  ·exact absurd e1 hne
  ·omega
 ·exact h g cap w' ho' hg'
theorem Src.one (w:World)(x:Value)(t:TypeId):Src (w.alloc (.cells #[x] t)) (.slice (some ⟨w.heap.size,0,none⟩) 1 1) 1 [x]:=
 ⟨_,_,rfl,.inr ⟨_,rfl,cell_one_new w x t⟩⟩
theorem Src.at {w:World}{b off m c:Nat}{news:List Value}(h:∀ j u,news[j]? =some u→w.cell? ⟨b,off+j,none⟩=some u):Src w (.slice (some ⟨b,off,none⟩) m c) m news:=
 ⟨_,_,rfl,.inr ⟨_,rfl,fun j u hj=>by
  have:(⟨b,off,none⟩:Addr).add j=⟨b,off+j,none⟩:=by unfold Addr.add;split<;>simp_all
  rw[this];exact h j u hj⟩⟩
theorem Src.nil (w:World):Src w (.slice none 0 0) 0 []:=⟨_,_,rfl,.inl ⟨rfl,rfl,rfl⟩⟩
theorem W6:(Tryz.prog.info? 5).map (fun i=>(i.zero,i.size,i.bytes))=some (some (.int .u8 0),1,1):=by kernel_rfl
theorem Me:(Tryz.prog.info? 70).map (fun i=>(i.zero,i.size,i.bytes))=some (some (.slice none 0 0),1,24):=by kernel_rfl
def two (l:List UInt8)(i:Nat):Nat:=(l.getD i 0).toNat+256*(l.getD (i+1) 0).toNat
def Iy (l:List UInt8)(F n:Nat):Option (List UInt8):=if n=0∨F<6∨512<F+n - 1 then none else some ((l.drop F).take (n - 1))
def slotL (l:List UInt8)(i:Nat):Option (List UInt8):=Iy l (two l (6+4*i)) (two l (6+4*i+2))
def Au (l:List UInt8):List (Option (List UInt8)):=(List.range (min (l.getD 5 0).toNat 124)).map (slotL l)
theorem Asf (x y:Nat)(hx:x<256)(hy:y<256):bits BinOp.or IntKind.i64 (x:Int) ((y:Int)*256)=((x+256*y:Nat):Int):=by
 have e1:((y:Int)*256)=((y*256:Nat):Int):=by omega
 rw[e1]
 show IntKind.i64.wrap (((BitVec.ofInt 64 (x:Int)) ||| (BitVec.ofInt 64 ((y*256:Nat):Int))).toNat:Int)=_
 rw[WA,WA,BitVec.toNat_or,WK,WK]
 rw[YL (by omega),YL (by omega)]
 have e:x ||| y*256=x+256*y:=by
  rw[Nat.or_comm,XL y 256,show 256=2 ^ 8 from rfl,←Nat.two_pow_add_eq_or_of_lt (by omega)]
  omega
 rw[e]
 exact IntWalk.i64_in _ (by omega)
theorem N4 (a b:UInt8):bits BinOp.or IntKind.i64 (a.toNat:Int) ((b.toNat:Int)*256)=((a.toNat+256*b.toNat:Nat):Int):=
 Asf _ _ (WN a) (WN b)
theorem Aet (g lo m:Nat)(hi:Int)(h1:hi=lo+m)(h2:lo+m≤512)(w:World):
 (Instr.sliceAt 151 (.pointer (some ⟨g,0,none⟩)) (some (.int .i64 lo)) (some (.int .i64 hi)) none).run Tryz.prog w= .ok (.slice (some ⟨g,if lo=512 then 0 else lo,none⟩) m (512 - lo)) w:=by
 have ht:Tryz.prog.underlying 151=some (.array (Tryz.prog.arrayLen 151) (Tryz.prog.elem 151)):=by kernel_rfl
 have hn:Tryz.prog.arrayLen 151=512:=by kernel_rfl
 have hs:(sizeOf (Tryz.prog.elem 151)).run Tryz.prog w= .ok 1 w:=by kernel_rfl
 rw[run_sliceAt_array_lh w 151 _ ht .i64 .i64 lo hi (by omega) (by omega) (by rw[hn];omega),hs]
 subst h1
 simp only[Result.andThen_ok,slicedAt,hn]
 have e1:((lo:Int)+m).toNat=lo+m:=by omega
 rw[ZZ,e1]
 by_cases h:lo=512
 ·subst h;simp
 ·rw[if_neg (by omega),if_neg h]
  simp[Addr.add]
  intro e;exact e.symm
theorem Cm.snoc {w w':World}{base n:Nat}{v v' x:Value}{xs:List Value}{ss:List (Option (List UInt8))}{o:Option (List UInt8)}(hown:w.ownsRow base 70 1 v n xs)(hl:xs.length=ss.length)(hn:n=ss.length)
 (hr:∀ k,k<ss.length→Rec w base (xs.getD k undef) (ss.getD k none)) (hx:Rec w base x o)
 (hown':w'.ownsRow base 70 1 v' (n+1) (xs++[x])) (hg:w.grownBy w' v.ownBlock):Cm w' base v' (ss++[o]):=by
 have hk:∀ (g:Nat) (cur:Array Value),w.heap[g]? =some (Obj.cells cur 5 (0,0))→w'.heap[g]? =w.heap[g]? :=by
  intro g cur hgc
  refine hg.block g (QU.1 hgc).1 fun e=> ?_
  rcases hown.2 with⟨rfl,_⟩|⟨g',cap',cur',rfl,_,hh,_⟩
  ·simp[Value.ownBlock]at e
  ·simp[Value.ownBlock]at e
   subst e
   rw[hgc]at hh
   simp at hh
 subst hn
 refine⟨xs++[x],by simpa using hown',by simp[hl],fun k hkk=> ?_⟩
 by_cases hlt:k<ss.length
 ·have:=(hr k hlt).kept hk
  simpa [QD (show k<xs.length by omega),QD hlt]using this
 ·have e:k=ss.length:=by simp at hkk;omega
  subst e
  have:=hx.kept hk
  simp only[QM]
  rw[QY (by omega),QY (by omega)]
  simpa [hl]using this
theorem Q1 {α:Type}(f:Nat→α)(k:Nat):(List.range (k+1)).map f=(List.range k).map f++[f k]:=by simp[WY]
theorem Aha (l:List UInt8)(k:Nat):slotL l k=Iy l ((l.getD (6+4*k) 0).toNat+256*(l.getD (6+4*k+1) 0).toNat) ((l.getD (6+4*k+2) 0).toNat+256*(l.getD (6+4*k+3) 0).toNat):=rfl
theorem Kc (l:List UInt8)(w:World)(hl:l.length=512):
 Calls Tryz.prog 116 #[.agg (Ae l)] w fun e w'=>∃ v,e= .returned v∧Cm w' w.heap.size v (Au l)∧Below w.heap.size w w':=by
 have HL:=Lib.hid hl;clear hl
 have hc5:=Dg l 5 (by rw[HL.out];omega)
 have HD:=Lib.hid (show Au l=(List.range (min (l.getD 5 0).toNat 124)).map (slotL l) from rfl)
 generalize l.getD 5 0=n0 at*
 have hn0b:=WN n0
 generalize n0.toNat=M at*
 obtain⟨N,hN,hN1,hN2,hN3⟩:∃ N:Nat,N=min M 124∧N≤124∧(M≤124→N=M)∧(124<M→N=124):=⟨_,rfl,by omega,by omega,by omega⟩
 rw[← hN]at HD
 have HN:=Lib.hid hN;have HN2:=Lib.hid hN2;have HN3:=Lib.hid hN3
 clear hN hN2 hN3
 go_enter Tryz.func116,Tryz.ntmps116
 by_cases h124:M≤124
 case' pos=>
  obtain rfl:=HN2.out h124
  go_wp2_with fail
 case' neg=>
  go_wp2_with fail
  rw[show (124:Int)=((N:Nat):Int) from by have:=HN3.out (by omega);omega]
 all_goals
  have h0:(w.alloc (.cells (Ae l) 151)).heap[w.heap.size]? =some (.cells (Ae l) 151 (0,0)):=heap_alloc_new _ _
  have hb0:Below w.heap.size w (w.alloc (.cells (Ae l) 151)):=(Below.refl _ _).alloc (QH _) _
  have hlt0:w.heap.size+1≤(w.alloc (.cells (Ae l) 151)).heap.size:=by simp
  generalize w.alloc (.cells (Ae l) 151)=w1 at*
  go_loopw [3,12] (fun v i wr=>∃ k:Nat,k≤N∧i= .int .i64 k∧Cm wr (w.heap.size+1) v ((List.range k).map (slotL l))∧Below (w.heap.size+1) w1 wr) (fun _ i _=>N - (intOf i).toNat)
  case atStart=>exact⟨0,YS _,rfl,⟨[],World.ownsRow_nil _ _ _ _,rfl,fun k hk=>absurd hk (by simp)⟩,Below.refl _ _⟩
  case round=>
   obtain⟨k,hk,rfl,hsl,hbw⟩:=hrel
   by_cases hlt:k<N
   ·have hh:wr.heap[w.heap.size]? =some (.cells (Ae l) 151 (0,0)):=(hbw.block _ (by omega)).trans h0
    have hg:∀ j,j<512→wr.cell? ⟨w.heap.size,j,none⟩=some (.int .u8 (l.getD j 0).toNat):=fun j hj=>by
     rw[cell_of_row wr _ j _ _ _ hh];simpa using Dg l j (by rw[HL.out];exact hj)
    have hA:=hg (6+4*k) (by omega)
    have hB:=hg (6+4*k+1) (by omega)
    have hC:=hg (6+4*k+2) (by omega)
    have hD:=hg (6+4*k+3) (by omega)
    have HH:=Lib.hid hh
    have HF:=Lib.hid (Q1 (slotL l) k)
    rw[Aha l k]at HF
    have hlen:((List.range k).map (slotL l)).length=k:=by simp
    clear hg h0 hb0 hc5 hh
    have HSL:=Lib.hid hsl
    clear hsl
    generalize (List.range k).map (slotL l)=ss at*
    generalize l.getD (6+4*k) 0=a at*
    generalize l.getD (6+4*k+1) 0=b at*
    generalize l.getD (6+4*k+2) 0=c at*
    generalize l.getD (6+4*k+3) 0=d at*
    have ha:=WN a
    have hb:=WN b
    have hc:=WN c
    have hd:=WN d
    have HLEN:=Lib.hid hlen
    clear hlen
    go_wp2_with fail
    go_quiet (fail)
    rw[N4 a b,N4 c d]
    have hF:a.toNat+256*b.toNat≤65535:=by omega
    have hnn:c.toNat+256*d.toNat≤65535:=by omega
    clear hA hB hC hD ha hb hc hd
    generalize a.toNat+256*b.toNat=F at*
    generalize c.toNat+256*d.toNat=n at*
    obtain⟨xs,hown,hxl,hxr⟩:=HSL.out
    have hown2:(wr.drewN nq).ownsRow (w.heap.size+1) 70 1 u3 ss.length xs:=hown
    have hbw2:Below (w.heap.size+1) w1 (wr.drewN nq):=below_drewN hbw nq
    have hxr2:∀ j,j<ss.length→Rec (wr.drewN nq) (w.heap.size+1) (xs.getD j undef) (ss.getD j none):=hxr
    have HH2:=Lib.hid (show (wr.drewN nq).heap[w.heap.size]? =some (.cells (Ae l) 151 (0,0)) from HH.out)
    have hsz2:w.heap.size+1≤(wr.drewN nq).heap.size:=ZO hlt0 hbw2.size
    have HXL:=Lib.hid hxl
    have HXR:=Lib.hid hxr2
    clear hown hbw hxr HSL HH hxl hxr2
    generalize wr.drewN nq=w2 at*
    have HB2:=Lib.hid hbw2
    clear hbw2
    by_cases hcase:n=0∨F<6∨512<F+n - 1
    ·have HO:=Lib.hid (show Iy l F n=none by simp[Iy,hcase])
     rw[HO.out]at HF
     clear HO
     have hcase3:(((n:Int)==0)=true∧n=0)∨(((n:Int)==0)=false∧F<6)∨(((n:Int)==0)=false∧6≤F∧512<F+n - 1):=by
      rcases hcase with h|h|h<;>simp<;>omega
     clear hcase
     rcases hcase3 with⟨h1,_⟩|⟨h1,h2⟩|⟨h1,h2,h3⟩
     all_goals
      go_wp2_with (at_builtin;refine R3 81 70 (.slice none 0 0) 1 24 Tryz.underlying81 Me rfl (by decide) rfl _ _ rfl (w.heap.size+1) u3 _ xs rfl (hown2.alloc _) 1 [.slice none 0 0] (Src.one _ _ _) rfl (by simp[Value.oneCell']) (by rw[HLEN.out];unfold maxLen;omega) (by rw[HLEN.out];omega) (by simp;omega) ?_;intro v' w' hown' hgrow _)
      go_roundw
      case rel=>
       refine⟨k+1,by omega,by go_num,?_,?_⟩
       ·rw[HF.out]
        exact Cm.snoc (hown2.alloc _) HXL.out rfl (fun j hj=>(HXR.out j hj).kept (fun g cur hg=>Below.heap_alloc _ _ g (QU.1 hg).1)) rfl hown' hgrow
       ·exact (HB2.out.alloc hsz2 _).grown hgrow (by simp;omega) (fun q hq=>(hown2.lt q hq).1)
      case measure=>simp[intOf];omega
    ·have hc1:((n:Int)==0)=false:=by simp;omega
     have hc2:6≤F:=by omega
     have hc3:F+n - 1≤512:=by omega
     have hc4:1≤n:=by omega
     have HO:=Lib.hid (show Iy l F n=some ((l.drop F).take (n - 1)) by simp[Iy,hcase])
     rw[HO.out]at HF
     clear HO hcase
     have HRL:=Lib.hid (show ((l.drop F).take (n - 1)).length=n - 1 by simp[HL.out];omega)
     have HRG:=Lib.hid (show ∀ j u,(A8 ((l.drop F).take (n - 1)))[j]? =some u→w2.cell? ⟨w.heap.size,F+j,none⟩=some u from fun j u hj=>by
      rw[cell_of_row w2 _ (F+j) _ _ _ HH2.out,Zf,Zg]at*
      rw[QT]at hj
      split at hj
      ·rw[ZK]at hj;simpa using hj
      ·cases hj)
     generalize (l.drop F).take (n - 1)=r at*
     have hsl:=Aet w.heap.size F (n - 1) (F+n - 1) (by omega) (by omega)
     obtain⟨F',hF'⟩:∃ F',F'=if F=512 then 0 else F:=⟨_,rfl⟩
     rw[← hF']at hsl
     have HRG':=Lib.hid (show ∀ j u,(A8 r)[j]? =some u→w2.cell? ⟨w.heap.size,F'+j,none⟩=some u from fun j u hj=>by
      by_cases h:F=512
      ·have:r=[]:=XF (by rw[HRL.out];omega)
       subst this;simp[A8]at hj
      ·rw[if_neg h]at hF';subst hF';exact HRG.out j u hj)
     clear HRG hF'
     have hown3:(w2.alloc (.cells #[] 5)).ownsRow (w.heap.size+1) 5 1 (.slice (some ⟨w2.heap.size,0,none⟩) 0 0) 0 []:=World.ownsRow_made w2 #[] 0 hsz2 (by unfold maxLen;omega) rfl
     have HNE:=Lib.hid (show u3.ownBlock=none∨u3.ownBlock≠Value.ownBlock (.slice (some ⟨w2.heap.size,0,none⟩) 0 0) from by
      cases ho:u3.ownBlock with
      |none=>exact .inl rfl
      |some q=>right;have:=(hown2.lt q ho).2;simp[Value.ownBlock];omega)
     go_wp2_with (first
      |(at_builtin;refine Gw 70 5 (.int .u8 0) 1 1 Tryz.underlying70 W6 rfl (by decide) rfl (.tmp 58) (.tmp 64) rfl (w.heap.size+1) (.slice (some ⟨w2.heap.size,0,none⟩) 0 0) 0 [] rfl hown3 (n - 1) (A8 r) (Src.at (fun j u hj=>cell_later ((Below.refl _ _).alloc (QH _) _) (HRG'.out j u hj))) (by rw[C1,HRL.out];omega) (Fs r) (by unfold maxLen;omega) (by omega) (by simp;omega) (.inl (by simp)) ?_;intro g5 cap5 w5 hown5 hgrow5;simp only[ZC,ZQ]at hown5)
      |(at_builtin;refine Gw 81 70 (.slice none 0 0) 1 24 Tryz.underlying81 Me rfl (by decide) rfl (.tmp 57) (.tmp 66) rfl (w.heap.size+1) u3 _ xs rfl (((hown2.alloc _).kept hgrow5 HNE.out).alloc _) 1 [_] (Src.one _ _ _) rfl (by simp[Value.oneCell']) (by rw[HLEN.out];unfold maxLen;omega) (by rw[HLEN.out];omega) (by have:=hgrow5.size;simp at this;simp;omega) (.inr (by omega)) ?_;intro g6 cap6 w6 hown6 hgrow6))
     go_roundw
     case rel=>
      refine⟨k+1,by omega,by go_num,?_,?_⟩
      ·rw[HF.out]
       have hk5:∀ (g:Nat) (cur:Array Value),w2.heap[g]? =some (Obj.cells cur 5 (0,0))→(w5.alloc (.cells #[.slice (some ⟨g5,0,none⟩) (n - 1) cap5] 70)).heap[g]? =w2.heap[g]? :=fun g cur hg=>by
        have hlt:=(QU.1 hg).1
        have hz:=hgrow5.size
        rw[Below.heap_alloc _ _ g (by simp at hz;omega),hgrow5.block g (by simp;omega) (by simp[Value.ownBlock];omega),Below.heap_alloc _ _ g hlt]
       refine Cm.snoc (((hown2.alloc _).kept hgrow5 HNE.out).alloc _) HXL.out rfl (fun j hj=>(HXR.out j hj).kept hk5) ?_ hown6 hgrow6
       exact⟨by rw[HRL.out];exact hown5.alloc _,g5,cap5,by rw[HRL.out]⟩
      ·have hb5:=(HB2.out.alloc hsz2 (.cells #[] 5)).grown hgrow5 (by simp;omega) (fun q hq=>by simp[Value.ownBlock]at hq;omega)
       have hz:=hgrow5.size
       exact (hb5.alloc (by simp at hz;omega) _).grown hgrow6 (by simp at hz;simp;omega) (fun q hq=>(hown2.lt q hq).1)
     case measure=>simp[intOf];omega
   ·obtain rfl:k=N:=by omega
    go_wp2_with fail
    go_ret
    exact⟨_,rfl,by rw[HD.out];exact hsl.mono (by omega),(hb0.trans (hbw.mono (by omega)))⟩
