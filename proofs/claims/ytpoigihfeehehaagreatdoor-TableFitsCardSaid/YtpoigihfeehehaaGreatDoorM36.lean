/- Trees: records, what fits, the middle. Trees: a page is read as a node. slices.Insert of rows of four cells, in place and into a new row, as the world sees it. -/
import Derived.Test.YtpoigihfeehehaaGreatDoorM35
import Derived.Test.YtpoigihfeehehaaGreatDoorM15
import Derived.Shelf.Spec.SlicesInsertGrow
import Derived.Laws.CopyRow
set_option linter.all false
set_option maxRecDepth 100000
set_option maxHeartbeats 32000000
namespace Go.Proofs.YtpoigihfeehehaaGreatDoor
open Go.RowKit
open List (append_assoc getElem?_drop getElem?_take length_append length_cons length_nil take_length)
def Xx:Cv:=(.det 0 (.det 1 (.act 2 (.fin 3 (.det 4 (.det 5 (.det 6 (.det 7 (.fin 8 (.det 9 .done))))))))))
def tYc:=aa wX <| aa wbu <| aa T3 <| aa T5 <| aa T38 <| aa T44 <| aa T51 <| aa T70 <| aa W7 <| aa T192 <| aa T228 <| aa T232 <| aa T234 T239
theorem A1c {k:Nat}:IntKind.u8.wrap (k:Int)=((UInt8.ofNat k).toNat:Int):=by rw[IntKind.wrap_u8,UInt8.toNat_ofNat'];omega
theorem A1d {k:Nat}:IntKind.u8.wrap ((k:Int).fdiv (2 ^ min 8 IntKind.i64.bits))=((UInt8.ofNat (k / 256)).toNat:Int):=by
 have:(2:Int) ^ min 8 IntKind.i64.bits=256:=by decide
 rw[this,Int.fdiv_eq_ediv_of_nonneg _ (by omega),IntKind.wrap_u8,UInt8.toNat_ofNat'];omega
def ns3 (x:Itm):List Nat:=[x.c,x.e.p,x.e.s]
def preB (x:Itm)(i:Nat):List UInt8:=((ns3 x).take i).flatMap nm2
theorem Acd (x:Itm)(i:Nat):(preB x i).length=2*(min i 3):=by
 unfold preB
 have:∀ l:List Nat,(l.flatMap nm2).length=2*l.length:=by
  intro l
  induction l with
  |nil=>rfl
  |cons a l ih=>simp only[List.flatMap_cons,length_append,ih,length_cons,nm2,length_nil];omega
 rw[this,List.length_take];rfl
theorem Dm (l:List UInt8):(Ay l).length=l.length:=by simp[Ay]
theorem Al0 (x:Itm)(hx:x.ok)(σ:St):Aa Tryz.prog 194 [itA x] σ fun r s=>s=σ∧r= .p (.sl 1 (Ay (Il x))):=by
 refine Aa.pureF (R:=fun r=>r= .p (.sl 1 (Ay (Il x)))) ?_ rfl σ
 have hxl:=hx.1.1
 refine Ab Am Ao Tryz.func194 (by kernel_rfl) rfl (nt:=35) (rs:=[.tmp 2]) rfl rfl ?_
 simp only[itA,itC]
 repeat' simp only[↓wBA,tYc,seval]
 refine Xw (X:={ i:Nat // i≤3 }) (fun i=>3 - i.1) (fun i=>[(3,.nown 2 1 (Ay (preB x i.1))),(18,Ad .i64 (i.1:Nat)),(5,.any),(19,.any),(20,.any),(21,.any),(22,.any),(23,.any),(24,.any),(25,.any),(26,.any),(27,.any),(28,.any),(29,.any),(30,.any)]) (fun i=>[some (Ob.row 4 [itC x]),some (.right 3 3),some (.nright 5 (preB x i.1).length)]) (⟨0,by omega⟩) ?_ ?_ ?_
 ·intro x;simp
 ·skip
  simp only[wR]
  simp[wW,itC,preB,Ay]
 ·intro q
  simp only[wR]
  obtain⟨i,hi⟩:=q
  dsimp only at*
  have hi0:=nnI i
  have hpl:=Acd x i
  have hel:=Dm (preB x i)
  by_cases hlt:i<3
  ·have hdec:decide ((i:Int)<3)=true:=by simp;omega
   have hw:=wI i (by omega)
   obtain⟨n,hn⟩:∃ n,(ns3 x)[i]? =some n:=⟨(ns3 x)[i]'(by simpa [ns3]using hlt),by simp⟩
   have hg:([[PV.v (Value.int IntKind.i64 x.c)],[PV.v (Value.int IntKind.i64 x.e.p)],[PV.v (Value.int IntKind.i64 x.e.s)]]:List (List PV))[i]? =some [PV.v (Value.int IntKind.i64 (n:Nat))]:=by
    have:((ns3 x).map fun n:Nat=>[PV.v (Value.int IntKind.i64 (n:Nat))])[i]? =some [PV.v (Value.int IntKind.i64 (n:Nat))]:=by rw[List.getElem?_map,hn];rfl
    exact this
   have hpre:Ay (preB x i)++[[PV.v (Value.int IntKind.u8 (UInt8.ofNat n).toNat)],[PV.v (Value.int IntKind.u8 (UInt8.ofNat (n / 256)).toNat)]]=Ay (preB x (i+1)):=by
    unfold preB
    rw[List.take_add_one,hn]
    simp[Ay,nm2,Bq]
   have hpl2:=Acd x (i+1)
   have hel2:=Dm (preB x (i+1))
   have hlo:=A1c (k:=n)
   have hhi:=A1d (k:=n)
   have ht:=tL (n:=(preB x (i+1)).length) (by omega)
   have hm:=lM (n:=(preB x (i+1)).length) (by omega)
   have hpe:(preB x i).length+2=(preB x (i+1)).length:=by omega
   repeat' simp only[↓wBA,tYc,Bl,seval,hdec,hi0,hw,hg,hlo,hhi,hpre,hel,ht,hm,itC,hpe,hel2,A5,Lu,E1,Nat.mul_one]
   refine⟨⟨i+1,by omega⟩,by show 3 - (i+1)<3 - i;omega,?_⟩
   simp only[]
   simp[wW]
  ·obtain rfl:i=3:=by omega
   have hdec:decide (((3:Nat):Int)<3)=false:=by decide
   have hpre:Ay (preB x 3)++Ay x.e.k=Ay (Il x):=by
    rw[Uh]
    exact congrArg Ay (by simp[preB,ns3,Il,nm2])
   have ht:=tL (n:=(preB x 3).length+x.e.k.length) (by omega)
   have hm:=lM (n:=(preB x 3).length+x.e.k.length) (by omega)
   have hek:=Dm x.e.k
   repeat' simp only[↓wBA,tYc,seval,hpre,hel,ht,hm,itC,hek,A5,Lu,E1,Nat.mul_one]
   all_goals refine Co (a:=_) ?_ rfl rfl
   all_goals simp only[tYc,seval]
   all_goals simp_all [wS]
theorem Aex (l:List Itm)(i:Nat)(x:Itm)(h:l[i]? =some x):l.take (i+1)=l.take i++[x]:=by rw[List.take_add_one,h];rfl
theorem Aqh (kd:Nat)(l:List Itm)(hok:∀ x∈l,x.ok)(hl:l.length≤1000000):Aa Tryz.prog 167 [.agg [Ad .i64 (kd:Nat),.p (.sl 4 (encI l))]] [] fun r _=>r= .tup [A9 (Hy kd l).1,Az (Hy kd l).2]:=by
 have z5:=Aq A7
 have zN:=Aq (Df (kd:Int))
 refine Ab Am Ao Tryz.func167 (by kernel_rfl) rfl (nt:=29) (rs:=[.cell 2 151,.tmp 3]) rfl rfl ?_
 repeat' first|simp only[↓wBA,tYc,seval,A9,z5,zN,C5,Le]|((with_reducible show Aa _ _ _ _ _);refine (anew _ _).eq ?_)
 refine As (X:={ i:Nat // i≤l.length }) (fun i=>l.length - i.1) (fun i=>[(5,Az (Hy kd (l.take i.1)).2),(14,Ad .i64 (i.1:Nat))]) [7,15,16,17,18,19,20,21,22,23,24,25,26,27] (fun i s=>3≤s.length∧s[0]? =some (some (Ob.row 2 [[Ad .i64 (kd:Nat),AV.p (PV.sl 4 (encI l))]]))∧s[1]? =some (some (Ob.row 512 [Ar C4]))∧s[2]? =some (some (Ob.row 512 [Ar (Hy kd (l.take i.1)).1]))) (⟨0,by omega⟩) ?_ ?_ ?_ ?_
 ·simp only[wHl,wHf,List.take_zero,Hy,List.foldl_nil]
 ·exact⟨by simp,rfl,rfl,rfl⟩
 ·rintro _ _ ⟨h,_⟩;exact h
 ·intro y J s hI
  simp only[wHl]
  obtain⟨i,hi⟩:=y
  obtain⟨h3,b0,b1,b2⟩:=hI
  dsimp only at*
  have hi0:=nnI i
  have y0:=Ac b0
  have y1:=Ac b1
  have y2:=Ac b2
  obtain⟨q,hq⟩:∃ q,q=Hy kd (l.take i):=⟨_,rfl⟩
  rw[← hq]at b2 ⊢
  have hql:q.1.length=512:=by rw[hq];exact Ur _ _
  have hqc:=Aq hql
  by_cases hlt:i<l.length
  ·have hdec:=dT (i:=i) (n:=l.length) hlt
   have hw:=wI i (by omega)
   obtain⟨x,hx⟩:∃ x,l[i]? =some x:=⟨l[i],by simp⟩
   have hxo:=hok x (List.mem_of_getElem? hx)
   have hg:=Lf l i x hx
   have hnx:Hy kd (l.take (i+1))=fitS q x:=by rw[Aex l i x hx,Qe,hq]
   have hrl:=Lb x
   have hxl:=hxo.1.1
   have hrc:=Al0 x hxo
   simp only[itA,itC]at hrc
   cases hq2:q.2 with
   |true=>
    have hal:=Ea q.1 (Il x)
    have hac:=Aq hal
    have hS:fitS q x=((Hg q.1 (Il x)).1,(Hg q.1 (Il x)).2.2):=by unfold fitS;rw[if_pos hq2]
    rw[hS]at hnx
    repeat' first|simp only[↓wBA,tYc,seval,Xx,wH,wHl,A9,hdec,hi0,hg,itP,b0,b1,b2,y0,y1,y2,hqc,hac,hw]|((with_reducible show Aa _ _ _ _ _);first|refine (hrc _).eq ?_|refine (Api q.1 (Il x) _ hql (.inl rfl) (by omega) _).eq ?_)|(with_reducible refine dQ Xx 10 (some 20) ?_)
    refine⟨⟨i+1,by omega⟩,by show l.length - (i+1)<l.length - i;omega,⟨by omega,by dsimp only;rw[hnx]⟩,?_⟩
    dsimp only
    rw[hnx]
   |false=>
    have hS:fitS q x=q:=by unfold fitS;rw[if_neg (by simp[hq2])]
    rw[hS]at hnx
    repeat' simp only[↓wBA,tYc,seval,wH,wHl,hdec,hi0,hg,itP,b0,b1,b2,y0,y1,y2,hw]
    refine⟨⟨i+1,by omega⟩,by show l.length - (i+1)<l.length - i;omega,⟨by omega,by dsimp only;rw[hnx]⟩,?_⟩
    dsimp only
    rw[hnx,hq2]
  ·obtain rfl:i=l.length:=by omega
   have hdec:=dF (i:=l.length) (n:=l.length) hlt
   have hfi:Hy kd l=q:=by rw[hq,take_length]
   rw[hfi]
   repeat' simp only[↓wBA,tYc,seval,wHl,hdec,b1,b2,hqc,z5]
   all_goals refine rtS ?_
   all_goals simp only[A1.eq_1,Ak.eq_1,Ak.eq_2,Ax.eq_1,Ax.eq_2,tYc,seval,wH,y1,hqc]
theorem Xy {M M':A2}:∀ (l:List UInt8) (us:List Value),Af M (Ar l) us→Af M' (Ar l) us
 |[],us,h=>by simpa [Ar,Af]using h
 |x::l,us,h=>by
  simp only[Ar,List.map_cons,Af]at h ⊢
  obtain⟨u,us',h1,h2,h3⟩:=h
  exact⟨u,us',h1,by simpa only[Bq,Ag,Ce]using h2,Xy l us' h3⟩
theorem Aqi {l:List UInt8}{b:Bool}(M M':A2)(u:Value)(h:Ag M (.tup [A9 l,Az b]) u):Ag M' (.tup [A9 l,Az b]) u:=by
 simp only[A9,Ag,Af]at h ⊢
 obtain⟨us,rfl,u1,us1,rfl,⟨g0,vs,g1,g2⟩,u2,us2,rfl,h2,rfl⟩:=h
 exact⟨_,rfl,u1,_,rfl,⟨g0,vs,g1,Xy l vs g2⟩,u2,_,rfl,by (first|exact h2|(simp only[Ag,Ce]at h2 ⊢;exact h2)),rfl⟩
theorem Aog (kd:Nat){σ:St}{a:AV}{l:List Itm}(ha:ItA σ a l)(hok:∀ x∈l,x.ok)(hl:l.length≤1000000):Aa Tryz.prog 167 [.agg [Ad .i64 (kd:Nat),a]] σ fun r s=>s=σ∧r= .tup [A9 (Hy kd l).1,Az (Hy kd l).2]:=by
 refine Aa.borrowS (Aqh kd l hok hl) (fun r hr M M' u h=> ?_) fun M vs hM hv=> ?_
 ·subst hr;exact Aqi M M' u h
 ·simp only[Af]at hv ⊢
  obtain⟨u1,us1,rfl,h1,rfl⟩:=hv
  exact⟨u1,_,rfl,Acc hM ha h1,rfl⟩
def Jk:AV→Option Nat
 | .ms t _ _ _=>some t
 |_=>none
def ItX (σ:St)(a:AV)(l:List Itm):Prop:=(∃ t i,a= .ms t 4 i l.length∧ItM σ t i l)∨(leaf a=true∧Ct a=some [a]∧∀ s,ItA s a l)
theorem ItX.a {σ:St}{a:AV}{l:List Itm}(h:ItX σ a l):ItA σ a l:=by
 rcases h with⟨t,i,rfl,h⟩|⟨_,_,h⟩
 ·exact h.a
 ·exact h σ
theorem ItX.leaf {σ:St}{a:AV}{l:List Itm}(h:ItX σ a l):leaf a=true:=by
 rcases h with⟨t,i,rfl,h⟩|⟨h,_⟩
 ·rfl
 ·exact h
theorem ItX.cells {σ:St}{a:AV}{l:List Itm}(h:ItX σ a l):Ct a=some [a]:=by
 rcases h with⟨t,i,rfl,h⟩|⟨_,h,_⟩
 ·rfl
 ·exact h
theorem ItX.same {σ s:St}{a:AV}{l:List Itm}(h:ItX σ a l)(hs:∀ t,Jk a=some t→s[t]? =σ[t]?):ItX s a l:=by
 rcases h with⟨t,i,rfl,h⟩|h
 ·exact .inl ⟨t,i,rfl,h.same (hs t rfl)⟩
 ·exact .inr h
theorem ItX.ap {σ s:St}{a:AV}{l:List Itm}(h:ItX σ a l)(ha:Ap σ s):ItX s a l:=by
 rcases h with⟨t,i,rfl,h⟩|h
 ·refine .inl ⟨t,i,rfl,h.same ?_⟩
  have:=h.lt
  obtain⟨τ,rfl⟩:=ha
  exact List.getElem?_append_left this
 ·exact .inr h
theorem D4.nz {pg:List UInt8}{kd:Nat}{l:List Itm}(h:D4 pg kd l):pgz pg=pg:=Alh fun e=>by
 have h1:=h.pg.kind
 rw[e]at h1
 have h2:Er C4=0:=by decide
 rw[h2]at h1
 have:=h.kd
 omega
theorem Mk {σ:St}{b p dd l kh n kd:Nat}{U:Nat→Prop}{P:Al}{v:Nat→List UInt8}{a:AV}{its:List Itm}(h:Bt σ b p dd l kh U P v)(hn0:1≤n)(hn:n<P.pages)(ha:ItX σ a its)(hkd:kd=2∨kd=3)(hok:∀ x∈its,x.ok)(hs:szL its≤496):
 Aa Tryz.prog 133 [.agg [.mp b 2 0 0],Ad .i64 (n:Nat),.agg [Ad .i64 (kd:Nat),a]] σ fun r σ'=>r=Ad .i64 0∧∃ U',Fr σ σ' U U'∧Bt σ' b p dd l kh U' P (upV v n (Hy kd its).1):=by
 have hlen:=Uq its
 have hlf:=ha.leaf
 have hcl:=ha.cells
 obtain⟨hf2,hfn⟩:=Fa hkd hok hs
 have hpl:=Ur kd its
 have hpc:=Aq hpl
 have z5:=Aq A7
 refine Ab Am Ao Tryz.func133 (by kernel_rfl) rfl (nt:=16) (rs:=[.tmp 6]) rfl rfl ?_
 repeat' simp only[↓wBA,tYc,seval,wH]
 have ha2:=(ha.ap (Ap.app _ [some (Ob.row 1 [[AV.mp b 2 0 0]])])).ap (Ap.app _ [some (Ob.row 2 [[Ad .i64 (kd:Nat),a]])])
 refine (Aog kd ha2.a hok (by omega)).eq ?_
 have aa:Ap σ (σ++[some (Ob.row 1 [[AV.mp b 2 0 0]])]++[some (Ob.row 2 [[Ad .i64 (kd:Nat),a]])]++[some (Ob.row 512 [Ar (Hy kd its).1])]):=((Ap.app _ _).more _).more _
 repeat' simp only[↓wBA,tYc,seval,wH,A9,hpc,C5,z5]
 refine (Alp (h.ap aa) hn0 hn _ hpl hfn.nz).mono ?_
 rintro _ s ⟨rfl,U1,f1,h1⟩
 have l1:=f1.len
 simp only[length_append,length_cons,length_nil]at l1
 repeat' simp only[↓wBA,tYc,seval]
 all_goals refine rtS ?_
 all_goals simp only[A1.eq_1,Ak.eq_1,Ak.eq_2,Ax.eq_1,tYc,seval]
 exact⟨U1,aa.fr.trans f1,h1⟩
def Xz:Cv:=(.det 0 (.det 1 (.det 2 (.det 3 (.det 4 (.det 5 (.det 6 (.det 7 (.det 8 (.det 9 (.det 10 (.det 11 (.det 12 (.det 13 .done))))))))))))))
def Im:Cv:=(.det 0 (.det 1 (.det 4 (.det 6 (.det 10 (.two 2 (.det 3 (.act 5 (.act 7 (.det 8 (.det 9 (.act 11 (.det 12 (.act 13 (.fin 14 (.det 15 (.fin 16 .done))))))))))) 5 (.two 2 (.det 3 (.act 7 (.det 8 (.det 9 (.act 11 (.det 12 (.act 13 (.fin 14 (.det 15 (.fin 16 .done)))))))))) 7 (.det 8 (.two 2 (.det 3 (.det 9 (.act 11 (.det 12 (.act 13 (.fin 14 (.det 15 (.fin 16 .done)))))))) 11 (.act 2 (.det 3 (.det 9 (.det 12 (.act 13 (.fin 14 (.det 15 (.fin 16 .done)))))))))))))))))
def tYd:=aa wX <| aa wbu <| aa T3 <| aa T4 <| aa T5 <| aa T29 <| aa T38 <| aa T51 <| aa T70 <| aa W7 <| aa T192 <| aa T228 <| aa T232 <| aa T234 T239
def cxR:Ctx:={ cx with muts:=[232*100000+70] }
theorem Aoh:cxR.ok Tryz.prog:=Am
theorem Awe:Hq Tryz.prog (E4 Tryz.prog cxR):=J9 Aoh (by kernel_rfl)
theorem Al1 (t:TypeId):cxR.kind t=cx.kind t:=nr rfl
theorem tyR (t:TypeId):cxR.ty t=cx.ty t:=nr rfl
theorem Awf:cxR.muts=[232*100000+70]:=nr rfl
theorem lenR {T:TypeId}{x:AV}:Bf cxR T x=Bf cx T x:=nr rfl
theorem Aoi {T:TypeId}{x:AV}{lo hi:Option AV}:Bv cxR T x lo hi=Bv cx T x lo hi:=nr rfl
theorem or2g (a b:UInt8):IntKind.i64.wrap ((BitVec.ofInt IntKind.i64.bits (IntKind.i64.wrap (a.toNat:Int)) ||| BitVec.ofInt IntKind.i64.bits (IntKind.i64.wrap (IntKind.i64.wrap (b.toNat:Int)*2 ^ min 8 IntKind.i64.bits))).toNat:Int)=((a.toNat+256*b.toNat:Nat):Int):=by
 have h1:=a.toNat_lt
 have h2:=b.toNat_lt
 have h3:(2:Int) ^ min 8 IntKind.i64.bits=256:=by decide
 rw[h3,wrap_i64 (n:=(a.toNat:Int)) (by omega) (by omega),wrap_i64 (n:=(b.toNat:Int)) (by omega) (by omega),wrap_i64 (n:=(b.toNat:Int)*256) (by omega) (by omega)]
 exact N3 a b
theorem Ace (r:List UInt8)(i:Nat)(b:UInt8)(h:r[i]? =some b):(Ay r)[i]? =some [Bq b]:=by simp[Ay,h]
theorem atAt {σ:St}{t:Nat}{r:List UInt8}{i k:Nat}{a b:UInt8}(ht:σ[t]? =some (some (.row 1 [[.p (.sl 1 (Ay r))]])))(hi:i<100)(ha:r[i]? =some a)(hb:r[i+1]? =some b)(hk:a.toNat+256*b.toNat=k):
 Aa Tryz.prog 166 [Ad .i64 (i:Nat),.mp t 1 0 0] σ fun r s=>s=σ∧r=Ad .i64 (k:Nat):=by
 have hor:=or2g a b
 rw[hk]at hor
 have yt:=Ac ht
 have hi0:=nnI i
 have hi1:=nnI (i+1)
 have hw:=wI i (by omega)
 have g1:=Ace r i a ha
 have g2:=Ace r (i+1) b hb
 refine Ab Am Ao Tryz.func166 (by kernel_rfl) rfl (nt:=15) (rs:=[.tmp 3]) rfl rfl ?_
 repeat' first|simp only[↓wBA,tYd,Bl,seval,Xz,ht,hi0,hi1,hw,g1,g2,Bq,hor]|(with_reducible refine dQ Xz 14 (some 4) ?_)
 all_goals refine rtS ?_
 all_goals simp only[A1.eq_1,Ak.eq_1,Ak.eq_2,Ax.eq_1,tYd,seval]
theorem Fr.setY {σ σ':St}{F F':Nat→Prop}(h:Fr σ σ' F F'){t:Nat}(ht:σ.length≤t)(x:Option Ob):Fr σ (σ'.set t x) F F':=
 ⟨by simpa using h.len,fun s hs hn=>by rw[List.getElem?_set_ne (by omega)];exact h.keep s hs hn,h.own⟩
theorem Fr.cut {σ σ1 s1 S0 s:St}{U U1 F F':Nat→Prop}(h:Fr σ1 s1 U U1)(h0:Ap σ σ1∧∀ t,U1 t→t<s1.length)(ha:Ap s1 S0)(fa:Fr S0 s F F')(hF:∀ t,F t→s1.length≤t):Fr σ s U U1:=by
 have l0:=h0.1.len
 have l1:=h.len
 have l2:=ha.len
 have l3:=fa.len
 refine⟨by omega,fun t ht hn=> ?_,fun t ht=>(h.own t ht).imp id fun e=>by omega⟩
 obtain⟨τ0,rfl⟩:=h0.1
 obtain⟨τ1,rfl⟩:=ha
 rw[fa.keep t (by omega) (fun e=>by have:=hF t e;omega),List.getElem?_append_left (by omega),h.keep t (by simp;omega) hn,List.getElem?_append_left ht]
def NdA (σ:St)(a:AV)(l:List Itm):Prop:=(l=[]∧a= .p (.v (.slice none 0 0)))∨(l≠[]∧∃ t,a= .ms t 4 0 l.length∧σ[t]? =some (some (.row 4 (l.map itC))))
theorem NdA.same {σ s:St}{a:AV}{l:List Itm}(h:NdA σ a l)(hs:∀ t,Jk a=some t→s[t]? =σ[t]?):NdA s a l:=by
 rcases h with h|⟨h,t,rfl,h2⟩
 ·exact .inl h
 ·exact .inr ⟨h,t,rfl,(hs t rfl).trans h2⟩
theorem NdA.lt {σ:St}{a:AV}{l:List Itm}(h:NdA σ a l){t:Nat}(ht:Jk a=some t):t<σ.length:=by
 rcases h with⟨_,rfl⟩|⟨h,t,rfl,h2⟩
 ·cases ht
 ·simp only[Jk,Option.some.injEq]at ht;subst ht;exact Ac h2
theorem NdA.x {σ:St}{a:AV}{l:List Itm}(h:NdA σ a l):ItX σ a l:=by
 rcases h with⟨rfl,rfl⟩|⟨h,t,rfl,h2⟩
 ·exact .inr ⟨rfl,rfl,fun s=>ItA.nil s⟩
 ·refine .inl ⟨t,0,rfl,_,h2,by simp,fun j x hj=>by simp[hj]⟩
theorem Aiy (x:Itm):List.drop 6 (Ay (Il x))=Ay x.e.k:=by simp[Il,nm2,Ay]
theorem Awg (x:Itm):Bv cx 70 (.p (.sl 1 (Ay (Il x)))) (some (.p (.v (.int .i64 6)))) none=some (.p (.sl 1 (Ay x.e.k))):=by
 have hl:(Ay (Il x)).length=x.e.k.length+6:=by rw[Dm,Lb]
 unfold Bv
 rw[En]
 simp only[Br,Bm,Hk]
 rw[if_pos (⟨trivial,by omega,by rw[hl];omega,Int.le_refl _⟩:True∧(0:Int)≤6∧(6:Int)≤((Ay (Il x)).length:Int)∧((Ay (Il x)).length:Int)≤((Ay (Il x)).length:Int))]
 rw[Int.toNat_natCast,take_length]
 exact congrArg (fun l=>some (AV.p (PV.sl 1 l))) (Aiy x)
theorem D4.get {pg:List UInt8}{kd:Nat}{l:List Itm}(h:D4 pg kd l){i:Nat}{x:Itm}(hx:l[i]? =some x):I3 pg (i:Int)=some (Il x):=by
 rw[h.pg.get,if_neg (by omega)]
 simp[slI,hx]
theorem D4.len {pg:List UInt8}{kd:Nat}{l:List Itm}(h:D4 pg kd l):(Av pg).length=l.length:=by rw[h.pg.slots];simp[slI]
theorem c2y:((2:Nat):Int)=2:=nr rfl
theorem c3y:((3:Nat):Int)=3:=nr rfl
theorem X3 {σ:St}{b p dd l kh n kd:Nat}{U:Nat→Prop}{P:Al}{v:Nat→List UInt8}{its:List Itm}(h:Bt σ b p dd l kh U P v)(hn:n<P.pages)(hp:D4 (v n) kd its)(hb:Bud P 1):
 Aa Tryz.prog 132 [.agg [.mp b 2 0 0],Ad .i64 (n:Nat)] σ fun r σ'=>∃ U' P' a,r= .tup [.agg [Ad .i64 (kd:Nat),a],Ad .i64 0]∧Fr σ σ' U U'∧Bt σ' b p dd l kh U' P' v∧Kp P P' 0∧NdA σ' a its∧∀ t,Jk a=some t→σ.length≤t∧¬ U' t:=by
 have hvl:=(h.len n).1
 have hpc:=Aq hvl
 have z5:=Aq A7
 have hkd:=hp.pg.kind
 have hsl:=hp.len
 have hn49:=hp.n
 have hlt:=h.lt
 obtain⟨K,hK⟩:∃ K:Int,(kd:Int)=K:=⟨_,rfl⟩
 have hk23:=hp.kd
 rw[hK]at hkd ⊢
 obtain⟨q,e2,e3⟩:∃ q,(K != 2)=q∧(K != 3)= !q:=by
  rcases hk23 with rfl|rfl
  ·subst hK;exact⟨false,rfl,rfl⟩
  ·subst hK;exact⟨true,rfl,rfl⟩
 clear hK
 cases q
 all_goals
  simp only[Bool.not_true,Bool.not_false]at e3
  refine Ab Aoh Awe Tryz.func132 (by kernel_rfl) rfl (nt:=72) (rs:=[.cell 4 234,.tmp 5]) rfl rfl ?_
  repeat' first|simp only[↓wBA,tYd,seval,wH,Al1,tyR]|with_reducible refine And.intro ?_ ?_
  refine (Aoe (h.ap ((Ap.app _ _).more _)) hn hb).mono ?_
  rintro _ s1 ⟨rfl,U1,P1,f1,h1,k1⟩
  have l1:=f1.len
  simp only[length_append,length_cons,length_nil]at l1
  have nU:∀ j,σ.length≤j→j<σ.length+2→¬ U1 j:=fun j hj hj2 e=>(f1.own j e).elim (fun e=>by have:=hlt j e;omega) fun e=>by simp at e;omega
  have t0:s1[σ.length]? =some (some (Ob.row 1 [[AV.mp b 2 0 0]])):=by
   rw[f1.keep _ (by simp) fun e=>by have:=hlt _ e;omega];simp[]
  have t1:s1[σ.length+1]? =some (some (Ob.row 2 [[Ad .i64 0,AV.p (.v (.slice none 0 0))]])):=by
   rw[f1.keep _ (by simp) fun e=>by have:=hlt _ e;omega];simp[Ad]
  have y0:=Ac t0
  have y1:=Ac t1
  have hlt1:=h1.lt
  repeat' first|simp only[↓wBA,tYd,seval,wH,Al1,tyR,A9,hpc,C5,z5,hkd,hsl,e2,e3]|((with_reducible show Aa _ _ _ _ _);first|refine (Av1 (v n) hvl _).eq ?_|refine (Ps (v n) hvl _).eq ?_)|with_reducible refine And.intro ?_ ?_
  obtain⟨S0,hS0⟩:∃ S0,S0=s1++[some (Ob.row 512 [Ar (v n)])]++[some (Ob.row 2 [[Ad .i64 K,AV.p (.v (.slice none 0 0))]])]:=⟨_,rfl⟩
  have aS:Ap s1 S0:=⟨_,by rw[hS0,append_assoc]⟩
  have hl0:S0.length=s1.length+2:=by rw[hS0];simp
  have p0:S0[s1.length]? =some (some (Ob.row 512 [Ar (v n)])):=by rw[hS0];simp
  have x0:S0[s1.length+1]? =some (some (Ob.row 2 [[Ad .i64 K,AV.p (.v (.slice none 0 0))]])):=by rw[hS0];simp
  have t0:=aS.get t0
  have t1:=aS.get t1
  have hS1:s1++[some (Ob.row 512 [Ar (v n)])]++[some (Ob.row 2 [[AV.p (PV.v (Value.int IntKind.i64 K)),AV.p (.v (.slice none 0 0))]])]=S0:=hS0.symm
  rw[hS1]
  refine As (X:={ i:Nat // i≤its.length }) (fun i=>its.length - i.1) (fun i=>[(38,Ad .i64 (i.1:Nat))]) [5,9,10,11,12,39,40,41,42,43,44,45,46,47,48,49,50,51,52,53,54,55,56,57,58,59,60,61,62,63,64,65,66,67,68,69,70,71,72] (fun i s=>∃ a,NdA s a (its.take i.1)∧s[s1.length+1]? =some (some (Ob.row 2 [[Ad .i64 K,a]]))∧Fr S0 s (fun t=>t=s1.length+1) (fun t=>t=s1.length+1)∧∀ t,Jk a=some t→S0.length≤t) (⟨0,by omega⟩) ?_ ?_ ?_ ?_
  ·simp only[wHl,wHf]
  ·exact⟨_,.inl ⟨by simp,rfl⟩,x0,Fr.refl _ _,fun t ht=>by cases ht⟩
  ·rintro _ _ ⟨_,_,_,h,_⟩;exact h.len
  ·intro y J s hI
   simp only[wHl]
   obtain⟨i,hi⟩:=y
   obtain⟨a,ha,xa,fa,ta⟩:=hI
   dsimp only at*
   have la:=fa.len
   have pa:=fa.get p0 (by omega)
   have t0:=fa.get t0 (by omega)
   have t1:=fa.get t1 (by omega)
   have y0:=Ac t0
   have y1:=Ac t1
   have yx:=Ac xa
   have yp:=Ac pa
   by_cases hlt2:i<its.length
   ·have hdec:=dT (i:=i) (n:=its.length) hlt2
    have hi0:=nnI i
    have hw:=wI i (by omega)
    obtain⟨x,hx⟩:∃ x,its[i]? =some x:=⟨its[i],by simp⟩
    have hxo:=hp.ok x (List.mem_of_getElem? hx)
    have hgt:=hp.get hx
    have hrl:(Ay (Il x)).length=x.e.k.length+6:=by rw[Dm,Lb]
    have h6:decide (((x.e.k.length+6:Nat):Int)<6)=false:=by simp;omega
    have hsl6:=Awg x
    have htk:=Aex its i x hx
    have hx1:s1.length+1<s.length:=yx
    have hrow:(s.set (s1.length+1) none++[some (Ob.row 1 [[AV.p (PV.sl 1 (Ay (Il x)))]])])[s.length]? =some (some (Ob.row 1 [[AV.p (PV.sl 1 (Ay (Il x)))]])):=by simp
    have at2:=atAt (i:=2) hrow (by omega) (show (Il x)[2]? =some (UInt8.ofNat x.e.p) from rfl) (show (Il x)[3]? =some (UInt8.ofNat (x.e.p / 256)) from rfl) (Z4 hxo.1.2.1)
    have at4:=atAt (i:=4) hrow (by omega) (show (Il x)[4]? =some (UInt8.ofNat x.e.s) from rfl) (show (Il x)[5]? =some (UInt8.ofNat (x.e.s / 256)) from rfl) (Z4 hxo.1.2.2)
    have at0:=atAt (i:=0) hrow (by omega) (show (Il x)[0]? =some (UInt8.ofNat x.c) from rfl) (show (Il x)[1]? =some (UInt8.ofNat (x.c / 256)) from rfl) (Z4 hxo.2)
    have htl:(its.take i).length=i:=by rw[List.length_take];omega
    have htt:List.take i (List.map itC (List.take i its))=List.map itC (List.take i its):=by rw[List.take_of_length_le];rw[List.length_map,htl];exact Nat.le_refl _
    have hlm:(List.map itC (List.take i its)).length=i:=by rw[List.length_map,htl]
    have ht1:=tL (n:=(i+1)*48) (by omega)
    have ht2:=lM (n:=i+1) (by omega)
    have hm1:(1≤maxLen)=True:=lM (n:=1) (by omega)
    have hii:(i≤i)=True:=eq_true (Nat.le_refl _)
    rcases ha with⟨h0,rfl⟩|⟨hne,t,rfl,hta⟩
    ·skip
     repeat' first|simp only[↓wBA,tYd,seval,Im,wH,wHl,Al1,tyR,Awf,lenR,Aoi,hdec,hw,xa,yx,pa,hpc,hgt,recP,Option.isSome_some,hrl,h6,hsl6,Dd,srcM,E1,hm1]|((with_reducible show Aa _ _ _ _ _);first|refine (aget (v n) (i:Nat) hvl _).eq ?_|refine at2.eq ?_|refine at4.eq ?_|refine at0.eq ?_)|(with_reducible refine dQ Im 17 (some 56) ?_)|with_reducible refine And.intro ?_ ?_
     all_goals refine⟨⟨i+1,by omega⟩,by show its.length - (i+1)<its.length - i;omega,⟨.ms (s.length+2) 4 0 1,?_,rfl,?_,?_⟩,by simp only[]⟩
     all_goals first
      |exact .inr ⟨by rw[htk];simp,s.length+2,by rw[htk,h0];rfl,by rw[htk,h0];simp[itC,Ad]⟩
      |exact (((fa.set _ rfl).app _).app _).app _
      |(intro t ht;simp only[Jk,Option.some.injEq]at ht;omega)
    ·have hS:=ta t rfl
     have yt:=Ac hta
     have htx:(t=s1.length+1)=False:=eq_false (by omega)
     have htx2:(s1.length+1=t)=False:=eq_false (by omega)
     rw[htl]at xa
     repeat' first|simp only[↓wBA,tYd,seval,Im,wH,wHl,Al1,tyR,Awf,lenR,Aoi,hta,yt,htx,hdec,hw,xa,yx,pa,hpc,hgt,recP,Option.isSome_some,hrl,h6,hsl6,Dd,srcM,E1,htt,hlm,ht1,ht2,hii]|((with_reducible show Aa _ _ _ _ _);first|refine (aget (v n) (i:Nat) hvl _).eq ?_|refine at2.eq ?_|refine at4.eq ?_|refine at0.eq ?_)|(with_reducible refine dQ Im 17 (some 56) ?_)|with_reducible refine And.intro ?_ ?_
     all_goals refine⟨⟨i+1,by omega⟩,by show its.length - (i+1)<its.length - i;omega,⟨.ms (s.length+2) 4 0 (i+1),?_,rfl,?_,?_⟩,by simp only[]⟩
     all_goals first
      |exact .inr ⟨by rw[htk];simp,s.length+2,congrArg (AV.ms _ 4 0) (by rw[htk,length_append,htl];rfl),by rw[htk];simp[itC,Ad]⟩
      |exact ((((fa.setY hS none).set _ rfl).app _).app _).app _
      |(intro t ht;simp only[Jk,Option.some.injEq]at ht;omega)
   ·obtain rfl:i=its.length:=by omega
    have hdec:=dF (i:=its.length) (n:=its.length) hlt2
    have hcl:Ct a=some [a]:=ha.x.cells
    have hlf:leaf a=true:=ha.x.leaf
    repeat' first|simp only[↓wBA,tYd,seval,wHl,tyR,hdec,xa,t1]|with_reducible refine And.intro ?_ ?_
    all_goals refine rtS ?_
    all_goals simp only[A1.eq_1,Ak.eq_1,Ak.eq_2,Ax.eq_1,Ax.eq_2,tYd,seval,wH,tyR,y1]
    rw[take_length]at ha
    have hfs:Fr σ s U U1:=(Fr.cut f1 ⟨((Ap.app σ _).more _),hlt1⟩ aS fa fun t ht=>by omega)
    refine⟨U1,P1,a,rfl,hfs.setY (by omega) _,?_,k1,ha.same fun t ht=>List.getElem?_set_ne (by have:=ta t ht;omega),fun t ht=>⟨by have:=ta t ht;omega,fun e=>by have:=ta t ht;have:=hlt1 t e;omega⟩⟩
    exact ((h1.ap aS).frame fa fun t h1 h2=>by have:=hlt1 t h1;omega).set (nU _ (by omega) (by omega)) _
theorem Ew {P:Program}(w:World)(dT sT ty elem:TypeId)(g o dLen dCap k:Nat)(a:Addr)(sLen sCap:Nat)(cur:Array Value)(t:TypeId)(cs:List Value)
 (hu:P.underlying dT=some (.slice elem)) (hs:(P.info? elem).map (·.size)=some k)
 (hg:w.heap[g]? =some (.cells cur t (0,0))) (hn:cs.length=Nat.min sLen dLen*k)
 (hsrc:∀ j v,cs[j]? =some v→w.cell? (a.add j)=some v) (hfit:o+cs.length≤cur.size) (h1:∀ v∈cs,v.oneCell'=true):
 (Builtin.copy_ #[dT,sT] ty #[.slice (some ⟨g,o,none⟩) dLen dCap,.slice (some a) sLen sCap]).run P w=
  .ok (goInt (Nat.min sLen dLen)) (w.setRow g (cur.toList.take o++cs++cur.toList.drop (o+cs.length)).toArray):=by
 have hl:=run_loadCells_list (P:=P) w a cs hsrc
 have hst:=run_storeCells_at P g o t cs 0 cur w hg (by simpa using hfit) h1
 cases hq:P.info? elem with
 |none=>simp[hq]at hs
 |some i=>
  have hi:i.size=k:=by simpa [hq]using hs
  simp[Builtin.copy_,run_underlying hu,Builtin.lenOf,Builtin.firstCells,sizeOf,typeInfo,hq,hi,←hn,hl,hst]
theorem Qf {w:World}{g:Nat}{cur:Array Value}{t:TypeId}{fr:Nat×Nat}(h:w.heap[g]? =some (.cells cur t fr))(o:Nat):w.cell? ⟨g,o,none⟩=cur[o]? :=by
 simp only[World.cell?,h]
 first|rfl|simp
theorem Lg (g o j:Nat):(⟨g,o,none⟩:Addr).add j=⟨g,o+j,none⟩:=by unfold Addr.add;split<;>simp_all
theorem Aiz (b n c i vb vo vc:Nat)(cur vcur:Array Value)(T VT:TypeId)(w:World)(hi:i<n)(hroom:n+1≤c)(hn63:n+1≤9223372036854775807)(hvb:vb≠b)
 (hb:w.heap[b]? =some (.cells cur T (0,0))) (hv:w.heap[vb]? =some (.cells vcur VT (0,0))) (hfit:c*4≤cur.size) (hvf:vo+4≤vcur.size)
 (h1c:∀ v∈(cur.toList.drop (i*4)).take ((n - i)*4),v.oneCell'=true) (h1v:∀ v∈(vcur.toList.drop vo).take 4,v.oneCell'=true):
 Calls Tryz.prog 163 #[.slice (some ⟨b,0,none⟩) n c,.int .i64 i,.slice (some ⟨vb,vo,none⟩) 1 vc] w fun e w'=>
  e= .returned (.slice (some ⟨b,0,none⟩) (n+1) c)∧w'=((w.drew).setRow b (cur.toList.take ((i+1)*4)++(cur.toList.drop (i*4)).take ((n - i)*4)++cur.toList.drop ((i+1)*4+(n - i)*4)).toArray).setRow b
   (cur.toList.take (i*4)++(vcur.toList.drop vo).take 4++(cur.toList.drop (i*4)).take ((n - i)*4)++cur.toList.drop ((i+1)*4+(n - i)*4)).toArray:=by
 have hu:Tryz.prog.underlying 232=some (.slice 239):=by kernel_rfl
 have hs:(Tryz.prog.info? 239).map (·.size)=some 4:=by kernel_rfl
 have hsz:∀ w,(Go.sizeOf 239).run Tryz.prog w= .ok 4 w:=fun w=>by
  cases hq:Tryz.prog.info? 239 with
  |none=>rw[hq]at hs;simp at hs
  |some i=>rw[hq]at hs;simp at hs;simp[sizeOf,typeInfo,hq,hs]
 have hz2:¬ ((i:Int)=(n:Int)):=by omega
 obtain⟨mid,hmid⟩:∃ mid,mid=(cur.toList.drop (i*4)).take ((n - i)*4):=⟨_,rfl⟩
 obtain⟨vs,hvs⟩:∃ vs,vs=(vcur.toList.drop vo).take 4:=⟨_,rfl⟩
 have hml:mid.length=(n - i)*4:=by rw[hmid];simp;omega
 have hvl:vs.length=4:=by rw[hvs];simp;omega
 have hov:∀ lb cb,(callFunc 190 #[.slice (some ⟨vb,vo,none⟩) 1 vc,.slice (some ⟨b,(i+1)*4,none⟩) lb cb]).run Tryz.prog w= .ok (.value (.bool false)) w:=fun lb cb=>by
  rw[run_callFunc_extern Tryz.func190 (by kernel_rfl) (by kernel_rfl) (by kernel_rfl) (e:=Extern.SlicesOverlaps.overlaps #[232,232] #[4]) (by kernel_rfl),
   Lib.run_overlaps_apart w 232 4 239 hu 4 hsz ⟨vb,vo,none⟩ ⟨b,(i+1)*4,none⟩ 1 vc lb cb hvb VT T vcur.size cur.size (by simp[World.shape?,hv]) (by simp[World.shape?,hb]) (by omega) (by simp[World.frozen?,hv]) (by simp[World.frozen?,hv])]
  rfl
 rw[← hmid]at h1c
 rw[← hvs]at h1v
 rw[← hmid,←hvs]
 obtain⟨cur1,hcur1⟩:∃ cur1,cur1=(cur.toList.take ((i+1)*4)++mid++cur.toList.drop ((i+1)*4+(n - i)*4)).toArray:=⟨_,rfl⟩
 rw[← hcur1]
 obtain⟨cur2,hcur2⟩:∃ cur2,cur2=(cur.toList.take (i*4)++vs++mid++cur.toList.drop ((i+1)*4+(n - i)*4)).toArray:=⟨_,rfl⟩
 rw[← hcur2]
 have hc1s:cur1.size=cur.size:=by rw[hcur1];simp;omega
 have hcp1:∀ ty dc sc,(Builtin.copy_ #[232,232] ty #[.slice (some ⟨b,(i+1)*4,none⟩) (n - i) dc,.slice (some ⟨b,i*4,none⟩) (n+1 - i) sc]).run Tryz.prog w.drew= .ok (goInt ((n - i:Nat):Int)) (w.drew.setRow b cur1):=fun ty dc sc=>by
  have hmin:Nat.min (n+1 - i) (n - i)=n - i:=by simp only[Nat.min_def];split<;>omega
  have h:=Ew (P:=Tryz.prog) w.drew 232 232 ty 239 b ((i+1)*4) (n - i) dc 4 ⟨b,i*4,none⟩ (n+1 - i) sc cur T mid hu hs hb (by rw[hml,hmin]) (fun j v hj=>by
   rw[Lg,Qf (w:=w.drew) hb]
   rw[hmid,getElem?_take]at hj
   split at hj
   ·rw[getElem?_drop]at hj;simpa using hj
   ·simp at hj) (by rw[hml];omega) h1c
  rw[hmin,hml,←hcur1]at h
  exact h
 obtain⟨W1,hW1⟩:∃ W1,W1=w.drew.setRow b cur1:=⟨_,rfl⟩
 have hb1:W1.heap[b]? =some (.cells cur1 T (0,0)):=by rw[hW1];exact setRow_heap w.drew _ _ _ _ _ hb
 have hv1:W1.heap[vb]? =some (.cells vcur VT (0,0)):=by rw[hW1,setRow_other _ _ _ _ hvb];exact hv
 have hcp2:∀ ty dc,(Builtin.copy_ #[232,232] ty #[.slice (some ⟨b,i*4,none⟩) (n+1 - i) dc,.slice (some ⟨vb,vo,none⟩) 1 vc]).run Tryz.prog W1= .ok (goInt 1) (W1.setRow b cur2):=fun ty dc=>by
  have hmin:Nat.min 1 (n+1 - i)=1:=by simp only[Nat.min_def];split<;>omega
  have h:=Ew (P:=Tryz.prog) W1 232 232 ty 239 b (i*4) (n+1 - i) dc 4 ⟨vb,vo,none⟩ 1 vc cur1 T vs hu hs hb1 (by rw[hvl,hmin]) (fun j v hj=>by
   rw[Lg,Qf hv1]
   rw[hvs,getElem?_take]at hj
   split at hj
   ·rw[getElem?_drop]at hj;simpa using hj
   ·simp at hj) (by rw[hvl,hc1s];omega) h1v
  rw[hmin,hvl]at h
  have e:(cur1.toList.take (i*4)++vs++cur1.toList.drop (i*4+4)).toArray=cur2:=by
   have h1:(cur.toList.take ((i+1)*4)).length=(i+1)*4:=by simp;omega
   rw[hcur2,hcur1]
   simp only[append_assoc]
   congr 1
   rw[List.take_append_of_le_length (by rw[h1];omega),List.take_take,Nat.min_eq_left (by omega),show i*4+4=(i+1)*4 by omega,←append_assoc,append_assoc,List.drop_append_of_le_length (by rw[h1];exact Nat.le_refl _),List.drop_eq_nil_of_le (by rw[h1];exact Nat.le_refl _),List.nil_append]
  rw[e]at h
  exact h
 rw[← hW1]at hcp1
 have hin:i≤n:=by omega
 have hw1:IntKind.i64.wrap ((i:Int)+1)=(i:Int)+1:=by rw[IntKind.wrap_i64];omega
 have hw2:IntKind.i64.wrap ((n:Int)+1)=(n:Int)+1:=by rw[IntKind.wrap_i64];omega
 have hbb1:(0:Int)≤(i:Int)+1:=by omega
 have htn:((i:Int)+1).toNat=i+1:=by omega
 have htn2:((n:Int)+1).toNat=n+1:=by omega
 have hb2:¬ (c=i+1):=by omega
 have hb3:(i:Int)≤(n:Int)+1:=by omega
 have hb4:¬ (c=i):=by omega
 have hb5:¬ ((c:Int)<(n:Int)+1):=by omega
 rw[← hW1]
 clear hmid hvs hcur1 hcur2 hW1
 have mixed:Tryz.prog.follows Departure.mixedOrders=true:=by kernel_rfl
 go_enter Tryz.func163,Tryz.ntmps163
 go_wp2_with (simp only[hov])
 go_region_law_o (refine step_copy_runI rfl _ _ 232 232 rfl _ _ (by simp[Act.eval,Act.put]) (by simp[Act.eval,Act.put]) (hcp1 _ _ _) ?_)
 go_wp2_with (at_builtin;refine wpList_copy_runI _ rfl _ _ 232 232 rfl _ _ rfl rfl (hcp2 _ _) ?_)
 go_ret
 exact⟨rfl,rfl⟩
theorem Nm (w:World)(row row':Array Value)(E:TypeId):(w.alloc (.cells row E)).setRow w.heap.size row'=w.alloc (.cells row' E):=by
 cases w with
 |mk heap tape drawn os output=>
  simp only[World.alloc,World.setRow]
  congr 1
  apply Array.ext
  ·simp
  ·intro k h1 h2
   simp only[Array.getElem_modify,Array.getElem_push]
   split<;>rename_i hk
   ·subst hk;simp
   ·split<;>rename_i hk2
    ·rfl
    ·simp at h1;omega
theorem Al2 (b n c i vb vo vc:Nat)(cur vcur:Array Value)(T VT:TypeId)(w:World)(hi:i<n)(hnc:n≤c)(hroom:c<n+1)(hbig:(n+1)*48≤140737488355328)
 (hb:w.heap[b]? =some (.cells cur T (0,0))) (hv:w.heap[vb]? =some (.cells vcur VT (0,0))) (hfit:c*4≤cur.size) (hvf:vo+4≤vcur.size)
 (h1c:∀ v∈(cur.toList.drop (i*4)).take ((n - i)*4),v.oneCell'=true) (h1v:∀ v∈(vcur.toList.drop vo).take 4,v.oneCell'=true):
 Calls Tryz.prog 163 #[.slice (some ⟨b,0,none⟩) n c,.int .i64 i,.slice (some ⟨vb,vo,none⟩) 1 vc] w fun e w'=>∃ G z,z.length=(G - (n+1))*4∧n+1≤G∧
  e= .returned (.slice (some ⟨w.heap.size,0,none⟩) (n+1) G)∧w'=(w.drew.drew).alloc (.cells (cur.toList.take (i*4)++(vcur.toList.drop vo).take 4++(cur.toList.drop (i*4)).take ((n - i)*4)++z).toArray 239):=by
 have hu:Tryz.prog.underlying 232=some (.slice 239):=by kernel_rfl
 have hun:Tryz.prog.underlying 3=some (.int .i64):=by kernel_rfl
 obtain⟨i0,hi0,hz0,hzs,hzb⟩:∃ i0,Tryz.prog.info? 239=some i0∧i0.zero=some (.agg #[.slice none 0 0,.int .i64 0,.int .i64 0,.int .i64 0])∧i0.size=4∧i0.bytes=48:=by
  have h1:(Tryz.prog.info? 239).map (·.zero)=some (some (.agg #[.slice none 0 0,.int .i64 0,.int .i64 0,.int .i64 0])):=by kernel_rfl
  have h2:(Tryz.prog.info? 239).map (·.size)=some 4:=by kernel_rfl
  have h3:(Tryz.prog.info? 239).map (·.bytes)=some 48:=by kernel_rfl
  cases hq:Tryz.prog.info? 239 with
  |none=>rw[hq]at h2;simp at h2
  |some i0=>rw[hq]at h1 h2 h3;exact⟨i0,rfl,by simpa using h1,by simpa using h2,by simpa using h3⟩
 have hs:(Tryz.prog.info? 239).map (·.size)=some 4:=by rw[hi0];simp[hzs]
 have hz2:¬ ((i:Int)=(n:Int)):=by omega
 have hz3:(c:Int)<(n:Int)+1:=by omega
 have hbw:b<w.heap.size:=(Array.getElem?_eq_some_iff.1 hb).1
 have hvw:vb<w.heap.size:=(Array.getElem?_eq_some_iff.1 hv).1
 obtain⟨mid,hmid⟩:∃ mid,mid=(cur.toList.drop (i*4)).take ((n - i)*4):=⟨_,rfl⟩
 obtain⟨vs,hvs⟩:∃ vs,vs=(vcur.toList.drop vo).take 4:=⟨_,rfl⟩
 obtain⟨olds,holds⟩:∃ olds,olds=cur.toList.take (i*4):=⟨_,rfl⟩
 have hml:mid.length=(n - i)*4:=by rw[hmid];simp;omega
 have hvl:vs.length=4:=by rw[hvs];simp;omega
 have hol:olds.length=i*4:=by rw[holds];simp;omega
 rw[← hmid]at h1c
 rw[← hvs]at h1v
 rw[← hmid,←hvs,←holds]
 have hkk:(n:Int)+1 - (i:Int)=((n+1 - i:Nat):Int):=by omega
 have hik:i+(n+1 - i)=n+1:=by omega
 have hold:(Builtin.firstCells i0.size i (.slice (some ⟨b,0,none⟩) i c)).run Tryz.prog w.drew= .ok olds.toArray w.drew:=by
  rw[hzs]
  exact run_firstCells_some w.drew 4 i ⟨b,0,none⟩ i c olds hol (fun j v hj=>by
   rw[Lg,Qf (w:=w.drew) hb]
   rw[holds,getElem?_take]at hj
   split at hj
   ·simpa using hj
   ·simp at hj)
 obtain⟨Z,hZ⟩:∃ Z,Z=(Builtin.zeroCells (Value.agg #[.slice none 0 0,.int .i64 0,.int .i64 0,.int .i64 0]).cells (n+1 - i)++Builtin.zeroCells (Value.agg #[.slice none 0 0,.int .i64 0,.int .i64 0,.int .i64 0]).cells (grownCap w (n+1) c 239 - (n+1))).toList:=⟨_,rfl⟩
 have hrz:∀ ty,(Builtin.append_ #[232,3] ty #[.slice (some ⟨b,0,none⟩) i c,.int .i64 ((n:Int)+1 - (i:Int))]).run Tryz.prog w=
  .ok (.slice (some ⟨w.heap.size,0,none⟩) (n+1) (grownCap w (n+1) c 239)) (w.drew.alloc (.cells (olds++Z).toArray 239)):=fun ty=>by
  have h:=Lib.run_append_grow_zeros w 232 3 ty 239 i0 _ .i64 .i64 hu hun hi0 hz0 (some ⟨b,0,none⟩) i c olds hold (n+1 - i) (by omega) (by omega) (by omega) (by omega) (by rw[hzb];omega) (by rw[hzb,hik];exact growslice_fits hroom hbig)
  rw[hik]at h
  rw[hkk,h,hZ]
  congr 3
  apply Array.ext'
  simp
 have hGn:n+1≤grownCap w (n+1) c 239:=grownCap_ge w _ _ _
 have hG63:grownCap w (n+1) c 239≤9223372036854775807:=by
  have:=grownCap_le_maxLen w (n+1) c 239 (by unfold maxLen;omega)
  unfold maxLen at this
  omega
 obtain⟨G,hG⟩:∃ G,G=grownCap w (n+1) c 239:=⟨_,rfl⟩
 have hZl:Z.length=(G - i)*4:=by
  rw[hZ,←hG]
  simp[size_zeroCells,Value.cells]
  omega
 rw[← hG]at hrz hGn hG63
 obtain⟨row1,hrow1⟩:∃ row1,row1=(olds++vs++(olds++Z).drop (i*4+4)).toArray:=⟨_,rfl⟩
 obtain⟨row2,hrow2⟩:∃ row2,row2=(olds++vs++mid++(olds++Z).drop ((n+1)*4)).toArray:=⟨_,rfl⟩
 have hN0:∀ (w:World) (row:Array Value),(w.alloc (.cells row 239)).heap[w.heap.size]? =some (.cells row 239 (0,0)):=fun w row=>by show (w.heap.push (.cells row 239 (0,0)))[w.heap.size]? =_;simp
 have hOld:∀ (w:World) (row:Array Value) (k:Nat),k<w.heap.size→(w.alloc (.cells row 239)).heap[k]? =w.heap[k]? :=fun w row k hk=>by show (w.heap.push (.cells row 239 (0,0)))[k]? =_;simp[Array.getElem?_push,Nat.ne_of_lt hk]
 obtain⟨W1,hW1⟩:∃ W1,W1=w.drew.alloc (.cells (olds++Z).toArray 239):=⟨_,rfl⟩
 have hcpA:∀ (W:World),W.heap=W1.heap→∀ ty dc,(Builtin.copy_ #[232,232] ty #[.slice (some ⟨w.heap.size,i*4,none⟩) (n+1 - i) dc,.slice (some ⟨vb,vo,none⟩) 1 vc]).run Tryz.prog W= .ok (goInt 1) (W.setRow w.heap.size row1):=fun W hW ty dc=>by
  have hg:W.heap[w.heap.size]? =some (.cells (olds++Z).toArray 239 (0,0)):=by rw[hW,hW1];exact hN0 w.drew _
  have hv1:W.heap[vb]? =some (.cells vcur VT (0,0)):=by rw[hW,hW1,hOld w.drew _ vb hvw];exact hv
  have hmin:Nat.min 1 (n+1 - i)=1:=by simp only[Nat.min_def];split<;>omega
  have h:=Ew (P:=Tryz.prog) W 232 232 ty 239 w.heap.size (i*4) (n+1 - i) dc 4 ⟨vb,vo,none⟩ 1 vc _ _ vs hu hs hg (by rw[hvl,hmin]) (fun j v hj=>by
   rw[Lg,Qf hv1]
   rw[hvs,getElem?_take]at hj
   split at hj
   ·rw[getElem?_drop]at hj;simpa using hj
   ·simp at hj) (by simp[hvl,hol,hZl];omega) h1v
  rw[hmin,hvl]at h
  have e:((olds++Z).toArray.toList.take (i*4)++vs++(olds++Z).toArray.toList.drop (i*4+4)).toArray=row1:=by
   rw[hrow1,←hol]
   simp
  rw[e]at h
  exact h
 have hcpB:∀ (W:World),W.heap=(W1.setRow w.heap.size row1).heap→∀ ty dc sc,(Builtin.copy_ #[232,232] ty #[.slice (some ⟨w.heap.size,(i+1)*4,none⟩) (n - i) dc,.slice (some ⟨b,i*4,none⟩) (n - i) sc]).run Tryz.prog W= .ok (goInt ((n - i:Nat):Int)) (W.setRow w.heap.size row2):=fun W hW ty dc sc=>by
  have hg:W.heap[w.heap.size]? =some (.cells row1 239 (0,0)):=by rw[hW,hW1];exact setRow_heap _ _ _ _ _ _ (hN0 w.drew _)
  have hb1:W.heap[b]? =some (.cells cur T (0,0)):=by rw[hW,setRow_other _ _ _ _ (by omega),hW1,hOld w.drew _ b hbw];exact hb
  have hmin:Nat.min (n - i) (n - i)=n - i:=Nat.min_self _
  have h:=Ew (P:=Tryz.prog) W 232 232 ty 239 w.heap.size ((i+1)*4) (n - i) dc 4 ⟨b,i*4,none⟩ (n - i) sc _ _ mid hu hs hg (by rw[hml,hmin]) (fun j v hj=>by
   rw[Lg,Qf hb1]
   rw[hmid,getElem?_take]at hj
   split at hj
   ·rw[getElem?_drop]at hj;simpa using hj
   ·simp at hj) (by rw[hrow1];simp[hml,hvl,hol,hZl];omega) h1c
  rw[hmin,hml]at h
  have e:(row1.toList.take ((i+1)*4)++mid++row1.toList.drop ((i+1)*4+(n - i)*4)).toArray=row2:=by
   have h1:(olds++vs).length=(i+1)*4:=by simp[hol,hvl];omega
   rw[hrow2,hrow1]
   simp only
   rw[List.take_append_of_le_length (by rw[h1];exact Nat.le_refl _),←h1,take_length,List.drop_append,List.drop_eq_nil_of_le (by omega),List.nil_append,List.drop_drop]
   congr 3
   omega
  rw[e]at h
  exact h
 have hin:i≤n:=by omega
 have hbN:b≠w.heap.size:=by omega
 have hw1:IntKind.i64.wrap ((i:Int)+1)=(i:Int)+1:=by rw[IntKind.wrap_i64];omega
 have hw2:IntKind.i64.wrap ((n:Int)+1)=(n:Int)+1:=by rw[IntKind.wrap_i64];omega
 have hw3:IntKind.i64.wrap ((n:Int)+1 - i)=(n:Int)+1 - i:=by rw[IntKind.wrap_i64];omega
 have hbb1:(0:Int)≤(i:Int)+1:=by omega
 have htn:((i:Int)+1).toNat=i+1:=by omega
 have hGi:¬ (G=i):=by omega
 have hGim:¬ (G=i+1):=by omega
 have hci:¬ (c=i):=by omega
 have hb3:(i:Int)≤(n:Int):=by omega
 have mixed:Tryz.prog.follows Departure.mixedOrders=true:=by kernel_rfl
 have hcpC:∀ ty dc sc,(Builtin.copy_ #[232,232] ty #[.slice (some ⟨w.heap.size,(i+1)*4,none⟩) (n - i) dc,.slice (some ⟨b,i*4,none⟩) (n - i) sc]).run Tryz.prog (W1.setRow w.heap.size row1).drew= .ok (goInt ((n - i:Nat):Int)) ((W1.setRow w.heap.size row1).drew.setRow w.heap.size row2):=fun ty dc sc=>hcpB (W1.setRow w.heap.size row1).drew rfl ty dc sc
 have hfin:((W1.setRow w.heap.size row1).drew).setRow w.heap.size row2=(w.drew.drew).alloc (.cells row2 239):=by
  rw[hW1]
  rw[show (w.drew.alloc (.cells (olds++Z).toArray 239)).setRow w.heap.size row1=w.drew.alloc (.cells row1 239) from Nm w.drew _ _ _]
  exact Nm w.drew.drew _ _ _
 rw[← hW1]at hrz
 have hzz:((olds++Z).drop ((n+1)*4)).length=(G - (n+1))*4:=by simp[hol,hZl];omega
 have hfin2:((W1.setRow w.heap.size row1).drew).setRow w.heap.size row2=(w.drew.drew).alloc (.cells (olds++vs++mid++(olds++Z).drop ((n+1)*4)).toArray 239):=by rw[hfin,hrow2]
 clear hkk hik hold hZ hG hmid hvs holds hrow1 hW1 hrow2 hfin
 go_enter Tryz.func163,Tryz.ntmps163
 go_wp2_with (first
  |(at_builtin;refine Lib.wpList_append_run _ rfl _ _ _ _ rfl _ _ rfl rfl _ _ (hrz _) ?_)
  |(at_builtin;refine wpList_copy_runI _ rfl _ _ 232 232 rfl _ _ rfl rfl (hcpA _ rfl _ _) ?_))
 go_region_law_o (refine step_copy_runI rfl _ _ 232 232 rfl _ _ (by simp[Act.eval,Act.put]) (by simp[Act.eval,Act.put]) (hcpC _ _ _) ?_)
 go_wp2
 go_ret
 exact⟨G,_,hzz,hGn,rfl,by first|exact hfin2|(simp only[append_assoc];rfl)|(refine hfin2.trans ?_;simp only[append_assoc])|simpa [append_assoc]using hfin2⟩
end Go.Proofs.YtpoigihfeehehaaGreatDoor
