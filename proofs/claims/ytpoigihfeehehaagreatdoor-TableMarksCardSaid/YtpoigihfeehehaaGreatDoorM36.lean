/- Trees: a page is read as a node. slices.Insert of rows of four cells, in place and into a new row, as the world sees it. slices.Insert of items, on the machine. -/
import Derived.Test.YtpoigihfeehehaaGreatDoorM35
import Derived.Test.YtpoigihfeehehaaGreatDoorM15
import Derived.Shelf.Spec.SlicesInsertGrow
import Derived.Laws.CopyRow
set_option linter.all false
set_option maxRecDepth 100000
set_option maxHeartbeats 32000000
namespace Go.Proofs.YtpoigihfeehehaaGreatDoor
open Go.RowKit
def X4:Cq:=(.det 0 (.det 1 (.det 2 (.det 3 (.det 4 (.det 5 (.det 6 (.det 7 (.det 8 (.det 9 (.det 10 (.det 11 (.det 12 (.det 13 .done))))))))))))))
def Ii:Cq:=(.det 0 (.det 1 (.det 4 (.det 6 (.det 10 (.two 2 (.det 3 (.act 5 (.act 7 (.det 8 (.det 9 (.act 11 (.det 12 (.act 13 (.fin 14 (.det 15 (.fin 16 .done))))))))))) 5 (.two 2 (.det 3 (.act 7 (.det 8 (.det 9 (.act 11 (.det 12 (.act 13 (.fin 14 (.det 15 (.fin 16 .done)))))))))) 7 (.det 8 (.two 2 (.det 3 (.det 9 (.act 11 (.det 12 (.act 13 (.fin 14 (.det 15 (.fin 16 .done)))))))) 11 (.act 2 (.det 3 (.det 9 (.det 12 (.act 13 (.fin 14 (.det 15 (.fin 16 .done)))))))))))))))))
def tYd:=aa wX <| aa wbu <| aa T3 <| aa T4 <| aa T5 <| aa T29 <| aa T38 <| aa T51 <| aa T70 <| aa Y1 <| aa T192 <| aa T228 <| aa T232 <| aa T234 T239
def cxR:Ctx:={ cx with muts:=[232*100000+70] }
theorem Aos:cxR.ok Tryz.prog:=Am
theorem Awn:Ho Tryz.prog (Dh Tryz.prog cxR):=J4 Aos (by kernel_rfl)
theorem Al9 (t:TypeId):cxR.kind t=cx.kind t:=nr rfl
theorem tyR (t:TypeId):cxR.ty t=cx.ty t:=nr rfl
theorem Awo:cxR.muts=[232*100000+70]:=nr rfl
theorem lenR {T:TypeId}{x:AV}:Ba cxR T x=Ba cx T x:=nr rfl
theorem Aot {T:TypeId}{x:AV}{lo hi:Option AV}:Bl cxR T x lo hi=Bl cx T x lo hi:=nr rfl
theorem or2g (a b:UInt8):IntKind.i64.wrap ((BitVec.ofInt IntKind.i64.bits (IntKind.i64.wrap (a.toNat:Int)) ||| BitVec.ofInt IntKind.i64.bits (IntKind.i64.wrap (IntKind.i64.wrap (b.toNat:Int)*2 ^ min 8 IntKind.i64.bits))).toNat:Int)=((a.toNat+256*b.toNat:Nat):Int):=by
 have h1:=a.toNat_lt
 have h2:=b.toNat_lt
 have h3:(2:Int) ^ min 8 IntKind.i64.bits=256:=by decide
 rw[h3,wrap_i64 (n:=(a.toNat:Int)) (by omega) (by omega),wrap_i64 (n:=(b.toNat:Int)) (by omega) (by omega),wrap_i64 (n:=(b.toNat:Int)*256) (by omega) (by omega)]
 exact N4 a b
theorem Acl (r:List UInt8)(i:Nat)(b:UInt8)(h:r[i]? =some b):(Ax r)[i]? =some [Bo b]:=by simp[Ax,h]
theorem atAt {σ:St}{t:Nat}{r:List UInt8}{i k:Nat}{a b:UInt8}(ht:σ[t]? =some (some (.row 1 [[.p (.sl 1 (Ax r))]])))(hi:i<100)(ha:r[i]? =some a)(hb:r[i+1]? =some b)(hk:a.toNat+256*b.toNat=k):
 Aa Tryz.prog 166 [Ad .i64 (i:Nat),.mp t 1 0 0] σ fun r s=>s=σ∧r=Ad .i64 (k:Nat):=by
 have hor:=or2g a b
 rw[hk]at hor
 have yt:=Ac ht
 have hi0:=nnI i
 have hi1:=nnI (i+1)
 have hw:=wI i (by omega)
 have g1:=Acl r i a ha
 have g2:=Acl r (i+1) b hb
 refine Ab Am An Tryz.func166 (by kernel_rfl) rfl (nt:=15) (rs:=[.tmp 3]) rfl rfl ?_
 repeat' first|simp only[↓wBA,tYd,Cv,seval,X4,ht,hi0,hi1,hw,g1,g2,Bo,hor]|(with_reducible refine dQ X4 14 (some 4) ?_)
 all_goals refine rtS ?_
 all_goals simp only[wRe,tYd,seval]
theorem Fr.setY {σ σ':St}{F F':Nat→Prop}(h:Fr σ σ' F F'){t:Nat}(ht:σ.length≤t)(x:Option Ob):Fr σ (σ'.set t x) F F':=
 ⟨by simpa using h.len,fun s hs hn=>by rw[QO (by omega)];exact h.keep s hs hn,h.own⟩
theorem Fr.cut {σ σ1 s1 S0 s:St}{U U1 F F':Nat→Prop}(h:Fr σ1 s1 U U1)(h0:Ap σ σ1∧∀ t,U1 t→t<s1.length)(ha:Ap s1 S0)(fa:Fr S0 s F F')(hF:∀ t,F t→s1.length≤t):Fr σ s U U1:=by
 have l0:=h0.1.len
 have l1:=h.len
 have l2:=ha.len
 have l3:=fa.len
 refine⟨by omega,fun t ht hn=> ?_,fun t ht=>(h.own t ht).imp id fun e=>by omega⟩
 obtain⟨τ0,rfl⟩:=h0.1
 obtain⟨τ1,rfl⟩:=ha
 rw[fa.keep t (by omega) (fun e=>by have:=hF t e;omega),QD (by omega),h.keep t (by simp;omega) hn,QD ht]
def NdA (σ:St)(a:AV)(l:List Itm):Prop:=(l=[]∧a= .p (.v (.slice none 0 0)))∨(l≠[]∧∃ t,a= .ms t 4 0 l.length∧σ[t]? =some (some (.row 4 (l.map itC))))
theorem NdA.same {σ s:St}{a:AV}{l:List Itm}(h:NdA σ a l)(hs:∀ t,Je a=some t→s[t]? =σ[t]?):NdA s a l:=by
 rcases h with h|⟨h,t,rfl,h2⟩
 ·exact .inl h
 ·exact .inr ⟨h,t,rfl,(hs t rfl).trans h2⟩
theorem NdA.lt {σ:St}{a:AV}{l:List Itm}(h:NdA σ a l){t:Nat}(ht:Je a=some t):t<σ.length:=by
 rcases h with⟨_,rfl⟩|⟨h,t,rfl,h2⟩
 ·cases ht
 ·simp only[Je,QB]at ht;subst ht;exact Ac h2
theorem NdA.x {σ:St}{a:AV}{l:List Itm}(h:NdA σ a l):ItX σ a l:=by
 rcases h with⟨rfl,rfl⟩|⟨h,t,rfl,h2⟩
 ·exact .inr ⟨rfl,rfl,fun s=>ItA.nil s⟩
 ·refine .inl ⟨t,0,rfl,_,h2,by simp,fun j x hj=>by simp[hj]⟩
theorem Ajb (x:Itm):List.drop 6 (Ax (Ih x))=Ax x.e.k:=by simp[Ih,nm2,Ax]
theorem Awp (x:Itm):Bl cx 70 (.p (.sl 1 (Ax (Ih x)))) (some (.p (.v (.int .i64 6)))) none=some (.p (.sl 1 (Ax x.e.k))):=by
 have hl:(Ax (Ih x)).length=x.e.k.length+6:=by rw[Dk,K7]
 unfold Bl
 rw[E3]
 simp only[Bp,Bh,Hi]
 rw[if_pos (⟨trivial,by omega,by rw[hl];omega,Int.le_refl _⟩:True∧(0:Int)≤6∧(6:Int)≤((Ax (Ih x)).length:Int)∧((Ax (Ih x)).length:Int)≤((Ax (Ih x)).length:Int))]
 rw[ZZ,ZS]
 exact congrArg (fun l=>some (AV.p (PV.sl 1 l))) (Ajb x)
theorem D4.get {pg:List UInt8}{kd:Nat}{l:List Itm}(h:D4 pg kd l){i:Nat}{x:Itm}(hx:l[i]? =some x):Ip pg (i:Int)=some (Ih x):=by
 rw[h.pg.get,if_neg (by omega)]
 simp[slI,hx]
theorem D4.len {pg:List UInt8}{kd:Nat}{l:List Itm}(h:D4 pg kd l):(Au pg).length=l.length:=by rw[h.pg.slots];simp[slI]
theorem c2y:((2:Nat):Int)=2:=nr rfl
theorem c3y:((3:Nat):Int)=3:=nr rfl
theorem X5 {σ:St}{b p dd l kh n kd:Nat}{U:Nat→Prop}{P:Ak}{v:Nat→List UInt8}{its:List Itm}(h:Bt σ b p dd l kh U P v)(hn:n<P.pages)(hp:D4 (v n) kd its)(hb:Bud P 1):
 Aa Tryz.prog 132 [.agg [.mp b 2 0 0],Ad .i64 (n:Nat)] σ fun r σ'=>∃ U' P' a,r= .tup [.agg [Ad .i64 (kd:Nat),a],Ad .i64 0]∧Fr σ σ' U U'∧Bt σ' b p dd l kh U' P' v∧Kp P P' 0∧NdA σ' a its∧∀ t,Je a=some t→σ.length≤t∧¬ U' t:=by
 have hvl:=(h.len n).1
 have hpc:=Ao hvl
 have z5:=Ao A7
 have hkd:=hp.pg.kind
 have hsl:=hp.len
 have hn49:=hp.n
 have hlt:=h.lt
 obtain⟨K,hK⟩:∃ K:Int,(kd:Int)=K:=⟨_,rfl⟩
 have hk23:=hp.kd
 rw[hK]at hkd ⊢
 obtain⟨q,e2,e3⟩:∃ q,(K != 2)=q∧(K != 3)= !q:=by
  rcases hk23 with rfl|rfl
  ·subst hK;exact⟨false,rfl,rfl⟩
  ·subst hK;exact⟨true,rfl,rfl⟩
 clear hK
 cases q
 all_goals
  simp only[Bool.not_true,Bool.not_false]at e3
  refine Ab Aos Awn Tryz.func132 (by kernel_rfl) rfl (nt:=72) (rs:=[.cell 4 234,.tmp 5]) rfl rfl ?_
  repeat' first|simp only[↓wBA,tYd,seval,wH,Al9,tyR]|with_reducible refine And.intro ?_ ?_
  refine (Aop (h.ap ((Ap.app _ _).more _)) hn hb).mono ?_
  rintro _ s1 ⟨rfl,U1,P1,f1,h1,k1⟩
  have l1:=f1.len
  simp only[QE,QF,QI]at l1
  have nU:∀ j,σ.length≤j→j<σ.length+2→¬ U1 j:=fun j hj hj2 e=>(f1.own j e).elim (fun e=>by have:=hlt j e;omega) fun e=>by simp at e;omega
  have t0:s1[σ.length]? =some (some (Ob.row 1 [[AV.mp b 2 0 0]])):=by
   rw[f1.keep _ (by simp) fun e=>by have:=hlt _ e;omega];simp[]
  have t1:s1[σ.length+1]? =some (some (Ob.row 2 [[Ad .i64 0,AV.p (.v (.slice none 0 0))]])):=by
   rw[f1.keep _ (by simp) fun e=>by have:=hlt _ e;omega];simp[Ad]
  have y0:=Ac t0
  have y1:=Ac t1
  have hlt1:=h1.lt
  repeat' first|simp only[↓wBA,tYd,seval,wH,Al9,tyR,A6,hpc,C6,z5,hkd,hsl,e2,e3]|((with_reducible show Aa _ _ _ _ _);first|refine (Av9 (v n) hvl _).eq ?_|refine (Ps (v n) hvl _).eq ?_)|with_reducible refine And.intro ?_ ?_
  obtain⟨S0,hS0⟩:∃ S0,S0=s1++[some (Ob.row 512 [Aq (v n)])]++[some (Ob.row 2 [[Ad .i64 K,AV.p (.v (.slice none 0 0))]])]:=⟨_,rfl⟩
  have aS:Ap s1 S0:=⟨_,by rw[hS0,QX]⟩
  have hl0:S0.length=s1.length+2:=by rw[hS0];simp
  have p0:S0[s1.length]? =some (some (Ob.row 512 [Aq (v n)])):=by rw[hS0];simp
  have x0:S0[s1.length+1]? =some (some (Ob.row 2 [[Ad .i64 K,AV.p (.v (.slice none 0 0))]])):=by rw[hS0];simp
  have t0:=aS.get t0
  have t1:=aS.get t1
  have hS1:s1++[some (Ob.row 512 [Aq (v n)])]++[some (Ob.row 2 [[AV.p (PV.v (Value.int IntKind.i64 K)),AV.p (.v (.slice none 0 0))]])]=S0:=hS0.symm
  rw[hS1]
  refine Ar (X:={ i:Nat // i≤its.length }) (fun i=>its.length - i.1) (fun i=>[(38,Ad .i64 (i.1:Nat))]) [5,9,10,11,12,39,40,41,42,43,44,45,46,47,48,49,50,51,52,53,54,55,56,57,58,59,60,61,62,63,64,65,66,67,68,69,70,71,72] (fun i s=>∃ a,NdA s a (its.take i.1)∧s[s1.length+1]? =some (some (Ob.row 2 [[Ad .i64 K,a]]))∧Fr S0 s (fun t=>t=s1.length+1) (fun t=>t=s1.length+1)∧∀ t,Je a=some t→S0.length≤t) (⟨0,by omega⟩) ?_ ?_ ?_ ?_
  ·simp only[wHl,wHf]
  ·exact⟨_,.inl ⟨by simp,rfl⟩,x0,Fr.refl _ _,fun t ht=>by cases ht⟩
  ·rintro _ _ ⟨_,_,_,h,_⟩;exact h.len
  ·intro y J s hI
   simp only[wHl]
   obtain⟨i,hi⟩:=y
   obtain⟨a,ha,xa,fa,ta⟩:=hI
   dsimp only at*
   have la:=fa.len
   have pa:=fa.get p0 (by omega)
   have t0:=fa.get t0 (by omega)
   have t1:=fa.get t1 (by omega)
   have y0:=Ac t0
   have y1:=Ac t1
   have yx:=Ac xa
   have yp:=Ac pa
   by_cases hlt2:i<its.length
   ·have hdec:=dT (i:=i) (n:=its.length) hlt2
    have hi0:=nnI i
    have hw:=wI i (by omega)
    obtain⟨x,hx⟩:∃ x,its[i]? =some x:=⟨its[i],by simp⟩
    have hxo:=hp.ok x (QG hx)
    have hgt:=hp.get hx
    have hrl:(Ax (Ih x)).length=x.e.k.length+6:=by rw[Dk,K7]
    have h6:decide (((x.e.k.length+6:Nat):Int)<6)=false:=by simp;omega
    have hsl6:=Awp x
    have htk:=Afa its i x hx
    have hx1:s1.length+1<s.length:=yx
    have hrow:(s.set (s1.length+1) none++[some (Ob.row 1 [[AV.p (PV.sl 1 (Ax (Ih x)))]])])[s.length]? =some (some (Ob.row 1 [[AV.p (PV.sl 1 (Ax (Ih x)))]])):=by simp
    have at2:=atAt (i:=2) hrow (by omega) (show (Ih x)[2]? =some (UInt8.ofNat x.e.p) from rfl) (show (Ih x)[3]? =some (UInt8.ofNat (x.e.p / 256)) from rfl) (Aad hxo.1.2.1)
    have at4:=atAt (i:=4) hrow (by omega) (show (Ih x)[4]? =some (UInt8.ofNat x.e.s) from rfl) (show (Ih x)[5]? =some (UInt8.ofNat (x.e.s / 256)) from rfl) (Aad hxo.1.2.2)
    have at0:=atAt (i:=0) hrow (by omega) (show (Ih x)[0]? =some (UInt8.ofNat x.c) from rfl) (show (Ih x)[1]? =some (UInt8.ofNat (x.c / 256)) from rfl) (Aad hxo.2)
    have htl:(its.take i).length=i:=by rw[QZ];omega
    have htt:List.take i (List.map itC (List.take i its))=List.map itC (List.take i its):=by rw[ZF];rw[QL,htl];exact QH _
    have hlm:(List.map itC (List.take i its)).length=i:=by rw[QL,htl]
    have ht1:=tL (n:=(i+1)*48) (by omega)
    have ht2:=lM (n:=i+1) (by omega)
    have hm1:(1≤maxLen)=True:=lM (n:=1) (by omega)
    have hii:(i≤i)=True:=eq_true (QH _)
    rcases ha with⟨h0,rfl⟩|⟨hne,t,rfl,hta⟩
    ·skip
     repeat' first|simp only[↓wBA,tYd,seval,Ii,wH,wHl,Al9,tyR,Awo,lenR,Aot,hdec,hw,xa,yx,pa,hpc,hgt,recP,WX,hrl,h6,hsl6,Da,srcM,Ey,hm1]|((with_reducible show Aa _ _ _ _ _);first|refine (aget (v n) (i:Nat) hvl _).eq ?_|refine at2.eq ?_|refine at4.eq ?_|refine at0.eq ?_)|(with_reducible refine dQ Ii 17 (some 56) ?_)|with_reducible refine And.intro ?_ ?_
     all_goals refine⟨⟨i+1,by omega⟩,by show its.length - (i+1)<its.length - i;omega,⟨.ms (s.length+2) 4 0 1,?_,rfl,?_,?_⟩,by simp only[]⟩
     all_goals first
      |exact .inr ⟨by rw[htk];simp,s.length+2,by rw[htk,h0];rfl,by rw[htk,h0];simp[itC,Ad]⟩
      |exact (((fa.set _ rfl).app _).app _).app _
      |(intro t ht;simp only[Je,QB]at ht;omega)
    ·have hS:=ta t rfl
     have yt:=Ac hta
     have htx:(t=s1.length+1)=False:=eq_false (by omega)
     have htx2:(s1.length+1=t)=False:=eq_false (by omega)
     rw[htl]at xa
     repeat' first|simp only[↓wBA,tYd,seval,Ii,wH,wHl,Al9,tyR,Awo,lenR,Aot,hta,yt,htx,hdec,hw,xa,yx,pa,hpc,hgt,recP,WX,hrl,h6,hsl6,Da,srcM,Ey,htt,hlm,ht1,ht2,hii]|((with_reducible show Aa _ _ _ _ _);first|refine (aget (v n) (i:Nat) hvl _).eq ?_|refine at2.eq ?_|refine at4.eq ?_|refine at0.eq ?_)|(with_reducible refine dQ Ii 17 (some 56) ?_)|with_reducible refine And.intro ?_ ?_
     all_goals refine⟨⟨i+1,by omega⟩,by show its.length - (i+1)<its.length - i;omega,⟨.ms (s.length+2) 4 0 (i+1),?_,rfl,?_,?_⟩,by simp only[]⟩
     all_goals first
      |exact .inr ⟨by rw[htk];simp,s.length+2,congrArg (AV.ms _ 4 0) (by rw[htk,QE,htl];rfl),by rw[htk];simp[itC,Ad]⟩
      |exact ((((fa.setY hS none).set _ rfl).app _).app _).app _
      |(intro t ht;simp only[Je,QB]at ht;omega)
   ·obtain rfl:i=its.length:=by omega
    have hdec:=dF (i:=its.length) (n:=its.length) hlt2
    have hcl:Cu a=some [a]:=ha.x.cells
    have hlf:leaf a=true:=ha.x.leaf
    repeat' first|simp only[↓wBA,tYd,seval,wHl,tyR,hdec,xa,t1]|with_reducible refine And.intro ?_ ?_
    all_goals refine rtS ?_
    all_goals simp only[wRe,tYd,seval,wH,tyR,y1]
    rw[ZS]at ha
    have hfs:Fr σ s U U1:=(Fr.cut f1 ⟨((Ap.app σ _).more _),hlt1⟩ aS fa fun t ht=>by omega)
    refine⟨U1,P1,a,rfl,hfs.setY (by omega) _,?_,k1,ha.same fun t ht=>QO (by have:=ta t ht;omega),fun t ht=>⟨by have:=ta t ht;omega,fun e=>by have:=ta t ht;have:=hlt1 t e;omega⟩⟩
    exact ((h1.ap aS).frame fa fun t h1 h2=>by have:=hlt1 t h1;omega).set (nU _ (by omega) (by omega)) _
theorem Eu {P:Program}(w:World)(dT sT ty elem:TypeId)(g o dLen dCap k:Nat)(a:Addr)(sLen sCap:Nat)(cur:Array Value)(t:TypeId)(cs:List Value)
 (hu:P.underlying dT=some (.slice elem)) (hs:(P.info? elem).map (·.size)=some k)
 (hg:w.heap[g]? =some (.cells cur t (0,0))) (hn:cs.length=Nat.min sLen dLen*k)
 (hsrc:∀ j v,cs[j]? =some v→w.cell? (a.add j)=some v) (hfit:o+cs.length≤cur.size) (h1:∀ v∈cs,v.oneCell'=true):
 (Builtin.copy_ #[dT,sT] ty #[.slice (some ⟨g,o,none⟩) dLen dCap,.slice (some a) sLen sCap]).run P w=
  .ok (goInt (Nat.min sLen dLen)) (w.setRow g (cur.toList.take o++cs++cur.toList.drop (o+cs.length)).toArray):=by
 have hl:=run_loadCells_list (P:=P) w a cs hsrc
 have hst:=run_storeCells_at P g o t cs 0 cur w hg (by simpa using hfit) h1
 cases hq:P.info? elem with
 |none=>simp[hq]at hs
 |some i=>
  have hi:i.size=k:=by simpa [hq]using hs
  simp[Builtin.copy_,run_underlying hu,Builtin.lenOf,Builtin.firstCells,sizeOf,typeInfo,hq,hi,←hn,hl,hst]
theorem Qg {w:World}{g:Nat}{cur:Array Value}{t:TypeId}{fr:Nat×Nat}(h:w.heap[g]? =some (.cells cur t fr))(o:Nat):w.cell? ⟨g,o,none⟩=cur[o]? :=by
 simp only[World.cell?,h]
 first|rfl|simp
theorem Lc (g o j:Nat):(⟨g,o,none⟩:Addr).add j=⟨g,o+j,none⟩:=by unfold Addr.add;split<;>simp_all
theorem Ajc (b n c i vb vo vc:Nat)(cur vcur:Array Value)(T VT:TypeId)(w:World)(hi:i<n)(hroom:n+1≤c)(hn63:n+1≤9223372036854775807)(hvb:vb≠b)
 (hb:w.heap[b]? =some (.cells cur T (0,0))) (hv:w.heap[vb]? =some (.cells vcur VT (0,0))) (hfit:c*4≤cur.size) (hvf:vo+4≤vcur.size)
 (h1c:∀ v∈(cur.toList.drop (i*4)).take ((n - i)*4),v.oneCell'=true) (h1v:∀ v∈(vcur.toList.drop vo).take 4,v.oneCell'=true):
 Calls Tryz.prog 163 #[.slice (some ⟨b,0,none⟩) n c,.int .i64 i,.slice (some ⟨vb,vo,none⟩) 1 vc] w fun e w'=>
  e= .returned (.slice (some ⟨b,0,none⟩) (n+1) c)∧w'=((w.drew).setRow b (cur.toList.take ((i+1)*4)++(cur.toList.drop (i*4)).take ((n - i)*4)++cur.toList.drop ((i+1)*4+(n - i)*4)).toArray).setRow b
   (cur.toList.take (i*4)++(vcur.toList.drop vo).take 4++(cur.toList.drop (i*4)).take ((n - i)*4)++cur.toList.drop ((i+1)*4+(n - i)*4)).toArray:=by
 have hu:Tryz.prog.underlying 232=some (.slice 239):=by kernel_rfl
 have hs:(Tryz.prog.info? 239).map (·.size)=some 4:=by kernel_rfl
 have hsz:∀ w,(Go.sizeOf 239).run Tryz.prog w= .ok 4 w:=fun w=>by
  cases hq:Tryz.prog.info? 239 with
  |none=>rw[hq]at hs;simp at hs
  |some i=>rw[hq]at hs;simp at hs;simp[sizeOf,typeInfo,hq,hs]
 have hz2:¬ ((i:Int)=(n:Int)):=by omega
 obtain⟨mid,hmid⟩:∃ mid,mid=(cur.toList.drop (i*4)).take ((n - i)*4):=⟨_,rfl⟩
 obtain⟨vs,hvs⟩:∃ vs,vs=(vcur.toList.drop vo).take 4:=⟨_,rfl⟩
 have hml:mid.length=(n - i)*4:=by rw[hmid];simp;omega
 have hvl:vs.length=4:=by rw[hvs];simp;omega
 have hov:∀ lb cb,(callFunc 190 #[.slice (some ⟨vb,vo,none⟩) 1 vc,.slice (some ⟨b,(i+1)*4,none⟩) lb cb]).run Tryz.prog w= .ok (.value (.bool false)) w:=fun lb cb=>by
  rw[run_callFunc_extern Tryz.func190 (by kernel_rfl) (by kernel_rfl) (by kernel_rfl) (e:=Extern.SlicesOverlaps.overlaps #[232,232] #[4]) (by kernel_rfl),
   Lib.run_overlaps_apart w 232 4 239 hu 4 hsz ⟨vb,vo,none⟩ ⟨b,(i+1)*4,none⟩ 1 vc lb cb hvb VT T vcur.size cur.size (by simp[World.shape?,hv]) (by simp[World.shape?,hb]) (by omega) (by simp[World.frozen?,hv]) (by simp[World.frozen?,hv])]
  rfl
 rw[← hmid]at h1c
 rw[← hvs]at h1v
 rw[← hmid,←hvs]
 obtain⟨cur1,hcur1⟩:∃ cur1,cur1=(cur.toList.take ((i+1)*4)++mid++cur.toList.drop ((i+1)*4+(n - i)*4)).toArray:=⟨_,rfl⟩
 rw[← hcur1]
 obtain⟨cur2,hcur2⟩:∃ cur2,cur2=(cur.toList.take (i*4)++vs++mid++cur.toList.drop ((i+1)*4+(n - i)*4)).toArray:=⟨_,rfl⟩
 rw[← hcur2]
 have hc1s:cur1.size=cur.size:=by rw[hcur1];simp;omega
 have hcp1:∀ ty dc sc,(Builtin.copy_ #[232,232] ty #[.slice (some ⟨b,(i+1)*4,none⟩) (n - i) dc,.slice (some ⟨b,i*4,none⟩) (n+1 - i) sc]).run Tryz.prog w.drew= .ok (goInt ((n - i:Nat):Int)) (w.drew.setRow b cur1):=fun ty dc sc=>by
  have hmin:Nat.min (n+1 - i) (n - i)=n - i:=by simp only[Nat.min_def];split<;>omega
  have h:=Eu (P:=Tryz.prog) w.drew 232 232 ty 239 b ((i+1)*4) (n - i) dc 4 ⟨b,i*4,none⟩ (n+1 - i) sc cur T mid hu hs hb (by rw[hml,hmin]) (fun j v hj=>by
   rw[Lc,Qg (w:=w.drew) hb]
   rw[hmid,QT]at hj
   split at hj
   ·rw[ZK]at hj;simpa using hj
   ·simp at hj) (by rw[hml];omega) h1c
  rw[hmin,hml,←hcur1]at h
  exact h
 obtain⟨W1,hW1⟩:∃ W1,W1=w.drew.setRow b cur1:=⟨_,rfl⟩
 have hb1:W1.heap[b]? =some (.cells cur1 T (0,0)):=by rw[hW1];exact setRow_heap w.drew _ _ _ _ _ hb
 have hv1:W1.heap[vb]? =some (.cells vcur VT (0,0)):=by rw[hW1,setRow_other _ _ _ _ hvb];exact hv
 have hcp2:∀ ty dc,(Builtin.copy_ #[232,232] ty #[.slice (some ⟨b,i*4,none⟩) (n+1 - i) dc,.slice (some ⟨vb,vo,none⟩) 1 vc]).run Tryz.prog W1= .ok (goInt 1) (W1.setRow b cur2):=fun ty dc=>by
  have hmin:Nat.min 1 (n+1 - i)=1:=by simp only[Nat.min_def];split<;>omega
  have h:=Eu (P:=Tryz.prog) W1 232 232 ty 239 b (i*4) (n+1 - i) dc 4 ⟨vb,vo,none⟩ 1 vc cur1 T vs hu hs hb1 (by rw[hvl,hmin]) (fun j v hj=>by
   rw[Lc,Qg hv1]
   rw[hvs,QT]at hj
   split at hj
   ·rw[ZK]at hj;simpa using hj
   ·simp at hj) (by rw[hvl,hc1s];omega) h1v
  rw[hmin,hvl]at h
  have e:(cur1.toList.take (i*4)++vs++cur1.toList.drop (i*4+4)).toArray=cur2:=by
   have h1:(cur.toList.take ((i+1)*4)).length=(i+1)*4:=by simp;omega
   rw[hcur2,hcur1]
   simp only[QX]
   congr 1
   rw[XY (by rw[h1];omega),List.take_take,YO (by omega),show i*4+4=(i+1)*4 by omega,←QX,QX,List.drop_append_of_le_length (by rw[h1];exact QH _),YE (by rw[h1];exact QH _),ZQ]
  rw[e]at h
  exact h
 rw[← hW1]at hcp1
 have hin:i≤n:=by omega
 have hw1:IntKind.i64.wrap ((i:Int)+1)=(i:Int)+1:=by rw[IntKind.wrap_i64];omega
 have hw2:IntKind.i64.wrap ((n:Int)+1)=(n:Int)+1:=by rw[IntKind.wrap_i64];omega
 have hbb1:(0:Int)≤(i:Int)+1:=by omega
 have htn:((i:Int)+1).toNat=i+1:=by omega
 have htn2:((n:Int)+1).toNat=n+1:=by omega
 have hb2:¬ (c=i+1):=by omega
 have hb3:(i:Int)≤(n:Int)+1:=by omega
 have hb4:¬ (c=i):=by omega
 have hb5:¬ ((c:Int)<(n:Int)+1):=by omega
 rw[← hW1]
 clear hmid hvs hcur1 hcur2 hW1
 have mixed:Tryz.prog.follows Departure.mixedOrders=true:=by kernel_rfl
 go_enter Tryz.func163,Tryz.ntmps163
 go_wp2_with (simp only[hov])
 go_region_law_o (refine step_copy_runI rfl _ _ 232 232 rfl _ _ (by simp[Act.eval,Act.put]) (by simp[Act.eval,Act.put]) (hcp1 _ _ _) ?_)
 go_wp2_with (at_builtin;refine wpList_copy_runI _ rfl _ _ 232 232 rfl _ _ rfl rfl (hcp2 _ _) ?_)
 go_ret
 exact⟨rfl,rfl⟩
theorem No (w:World)(row row':Array Value)(E:TypeId):(w.alloc (.cells row E)).setRow w.heap.size row'=w.alloc (.cells row' E):=by
 cases w with
 |mk heap tape drawn os output=>
  simp only[World.alloc,World.setRow]
  congr 1
  apply Array.ext
  ·simp
  ·intro k h1 h2
   simp only[Array.getElem_modify,Array.getElem_push]
   split<;>rename_i hk
   ·subst hk;simp
   ·split<;>rename_i hk2
    ·rfl
    ·simp at h1;omega
theorem Ama (b n c i vb vo vc:Nat)(cur vcur:Array Value)(T VT:TypeId)(w:World)(hi:i<n)(hnc:n≤c)(hroom:c<n+1)(hbig:(n+1)*48≤140737488355328)
 (hb:w.heap[b]? =some (.cells cur T (0,0))) (hv:w.heap[vb]? =some (.cells vcur VT (0,0))) (hfit:c*4≤cur.size) (hvf:vo+4≤vcur.size)
 (h1c:∀ v∈(cur.toList.drop (i*4)).take ((n - i)*4),v.oneCell'=true) (h1v:∀ v∈(vcur.toList.drop vo).take 4,v.oneCell'=true):
 Calls Tryz.prog 163 #[.slice (some ⟨b,0,none⟩) n c,.int .i64 i,.slice (some ⟨vb,vo,none⟩) 1 vc] w fun e w'=>∃ G z,z.length=(G - (n+1))*4∧n+1≤G∧
  e= .returned (.slice (some ⟨w.heap.size,0,none⟩) (n+1) G)∧w'=(w.drew.drew).alloc (.cells (cur.toList.take (i*4)++(vcur.toList.drop vo).take 4++(cur.toList.drop (i*4)).take ((n - i)*4)++z).toArray 239):=by
 have hu:Tryz.prog.underlying 232=some (.slice 239):=by kernel_rfl
 have hun:Tryz.prog.underlying 3=some (.int .i64):=by kernel_rfl
 obtain⟨i0,hi0,hz0,hzs,hzb⟩:∃ i0,Tryz.prog.info? 239=some i0∧i0.zero=some (.agg #[.slice none 0 0,.int .i64 0,.int .i64 0,.int .i64 0])∧i0.size=4∧i0.bytes=48:=by
  have h1:(Tryz.prog.info? 239).map (·.zero)=some (some (.agg #[.slice none 0 0,.int .i64 0,.int .i64 0,.int .i64 0])):=by kernel_rfl
  have h2:(Tryz.prog.info? 239).map (·.size)=some 4:=by kernel_rfl
  have h3:(Tryz.prog.info? 239).map (·.bytes)=some 48:=by kernel_rfl
  cases hq:Tryz.prog.info? 239 with
  |none=>rw[hq]at h2;simp at h2
  |some i0=>rw[hq]at h1 h2 h3;exact⟨i0,rfl,by simpa using h1,by simpa using h2,by simpa using h3⟩
 have hs:(Tryz.prog.info? 239).map (·.size)=some 4:=by rw[hi0];simp[hzs]
 have hz2:¬ ((i:Int)=(n:Int)):=by omega
 have hz3:(c:Int)<(n:Int)+1:=by omega
 have hbw:b<w.heap.size:=(QU.1 hb).1
 have hvw:vb<w.heap.size:=(QU.1 hv).1
 obtain⟨mid,hmid⟩:∃ mid,mid=(cur.toList.drop (i*4)).take ((n - i)*4):=⟨_,rfl⟩
 obtain⟨vs,hvs⟩:∃ vs,vs=(vcur.toList.drop vo).take 4:=⟨_,rfl⟩
 obtain⟨olds,holds⟩:∃ olds,olds=cur.toList.take (i*4):=⟨_,rfl⟩
 have hml:mid.length=(n - i)*4:=by rw[hmid];simp;omega
 have hvl:vs.length=4:=by rw[hvs];simp;omega
 have hol:olds.length=i*4:=by rw[holds];simp;omega
 rw[← hmid]at h1c
 rw[← hvs]at h1v
 rw[← hmid,←hvs,←holds]
 have hkk:(n:Int)+1 - (i:Int)=((n+1 - i:Nat):Int):=by omega
 have hik:i+(n+1 - i)=n+1:=by omega
 have hold:(Builtin.firstCells i0.size i (.slice (some ⟨b,0,none⟩) i c)).run Tryz.prog w.drew= .ok olds.toArray w.drew:=by
  rw[hzs]
  exact run_firstCells_some w.drew 4 i ⟨b,0,none⟩ i c olds hol (fun j v hj=>by
   rw[Lc,Qg (w:=w.drew) hb]
   rw[holds,QT]at hj
   split at hj
   ·simpa using hj
   ·simp at hj)
 obtain⟨Z,hZ⟩:∃ Z,Z=(Builtin.zeroCells (Value.agg #[.slice none 0 0,.int .i64 0,.int .i64 0,.int .i64 0]).cells (n+1 - i)++Builtin.zeroCells (Value.agg #[.slice none 0 0,.int .i64 0,.int .i64 0,.int .i64 0]).cells (grownCap w (n+1) c 239 - (n+1))).toList:=⟨_,rfl⟩
 have hrz:∀ ty,(Builtin.append_ #[232,3] ty #[.slice (some ⟨b,0,none⟩) i c,.int .i64 ((n:Int)+1 - (i:Int))]).run Tryz.prog w=
  .ok (.slice (some ⟨w.heap.size,0,none⟩) (n+1) (grownCap w (n+1) c 239)) (w.drew.alloc (.cells (olds++Z).toArray 239)):=fun ty=>by
  have h:=Lib.run_append_grow_zeros w 232 3 ty 239 i0 _ .i64 .i64 hu hun hi0 hz0 (some ⟨b,0,none⟩) i c olds hold (n+1 - i) (by omega) (by omega) (by omega) (by omega) (by rw[hzb];omega) (by rw[hzb,hik];exact growslice_fits hroom hbig)
  rw[hik]at h
  rw[hkk,h,hZ]
  congr 3
  apply Array.ext'
  simp
 have hGn:n+1≤grownCap w (n+1) c 239:=grownCap_ge w _ _ _
 have hG63:grownCap w (n+1) c 239≤9223372036854775807:=by
  have:=grownCap_le_maxLen w (n+1) c 239 (by unfold maxLen;omega)
  unfold maxLen at this
  omega
 obtain⟨G,hG⟩:∃ G,G=grownCap w (n+1) c 239:=⟨_,rfl⟩
 have hZl:Z.length=(G - i)*4:=by
  rw[hZ,←hG]
  simp[size_zeroCells,Value.cells]
  omega
 rw[← hG]at hrz hGn hG63
 obtain⟨row1,hrow1⟩:∃ row1,row1=(olds++vs++(olds++Z).drop (i*4+4)).toArray:=⟨_,rfl⟩
 obtain⟨row2,hrow2⟩:∃ row2,row2=(olds++vs++mid++(olds++Z).drop ((n+1)*4)).toArray:=⟨_,rfl⟩
 have hN0:∀ (w:World) (row:Array Value),(w.alloc (.cells row 239)).heap[w.heap.size]? =some (.cells row 239 (0,0)):=fun w row=>by show (w.heap.push (.cells row 239 (0,0)))[w.heap.size]? =_;simp
 have hOld:∀ (w:World) (row:Array Value) (k:Nat),k<w.heap.size→(w.alloc (.cells row 239)).heap[k]? =w.heap[k]? :=fun w row k hk=>by show (w.heap.push (.cells row 239 (0,0)))[k]? =_;simp[Array.getElem?_push,Nat.ne_of_lt hk]
 obtain⟨W1,hW1⟩:∃ W1,W1=w.drew.alloc (.cells (olds++Z).toArray 239):=⟨_,rfl⟩
 have hcpA:∀ (W:World),W.heap=W1.heap→∀ ty dc,(Builtin.copy_ #[232,232] ty #[.slice (some ⟨w.heap.size,i*4,none⟩) (n+1 - i) dc,.slice (some ⟨vb,vo,none⟩) 1 vc]).run Tryz.prog W= .ok (goInt 1) (W.setRow w.heap.size row1):=fun W hW ty dc=>by
  have hg:W.heap[w.heap.size]? =some (.cells (olds++Z).toArray 239 (0,0)):=by rw[hW,hW1];exact hN0 w.drew _
  have hv1:W.heap[vb]? =some (.cells vcur VT (0,0)):=by rw[hW,hW1,hOld w.drew _ vb hvw];exact hv
  have hmin:Nat.min 1 (n+1 - i)=1:=by simp only[Nat.min_def];split<;>omega
  have h:=Eu (P:=Tryz.prog) W 232 232 ty 239 w.heap.size (i*4) (n+1 - i) dc 4 ⟨vb,vo,none⟩ 1 vc _ _ vs hu hs hg (by rw[hvl,hmin]) (fun j v hj=>by
   rw[Lc,Qg hv1]
   rw[hvs,QT]at hj
   split at hj
   ·rw[ZK]at hj;simpa using hj
   ·simp at hj) (by simp[hvl,hol,hZl];omega) h1v
  rw[hmin,hvl]at h
  have e:((olds++Z).toArray.toList.take (i*4)++vs++(olds++Z).toArray.toList.drop (i*4+4)).toArray=row1:=by
   rw[hrow1,←hol]
   simp
  rw[e]at h
  exact h
 have hcpB:∀ (W:World),W.heap=(W1.setRow w.heap.size row1).heap→∀ ty dc sc,(Builtin.copy_ #[232,232] ty #[.slice (some ⟨w.heap.size,(i+1)*4,none⟩) (n - i) dc,.slice (some ⟨b,i*4,none⟩) (n - i) sc]).run Tryz.prog W= .ok (goInt ((n - i:Nat):Int)) (W.setRow w.heap.size row2):=fun W hW ty dc sc=>by
  have hg:W.heap[w.heap.size]? =some (.cells row1 239 (0,0)):=by rw[hW,hW1];exact setRow_heap _ _ _ _ _ _ (hN0 w.drew _)
  have hb1:W.heap[b]? =some (.cells cur T (0,0)):=by rw[hW,setRow_other _ _ _ _ (by omega),hW1,hOld w.drew _ b hbw];exact hb
  have hmin:Nat.min (n - i) (n - i)=n - i:=Nat.min_self _
  have h:=Eu (P:=Tryz.prog) W 232 232 ty 239 w.heap.size ((i+1)*4) (n - i) dc 4 ⟨b,i*4,none⟩ (n - i) sc _ _ mid hu hs hg (by rw[hml,hmin]) (fun j v hj=>by
   rw[Lc,Qg hb1]
   rw[hmid,QT]at hj
   split at hj
   ·rw[ZK]at hj;simpa using hj
   ·simp at hj) (by rw[hrow1];simp[hml,hvl,hol,hZl];omega) h1c
  rw[hmin,hml]at h
  have e:(row1.toList.take ((i+1)*4)++mid++row1.toList.drop ((i+1)*4+(n - i)*4)).toArray=row2:=by
   have h1:(olds++vs).length=(i+1)*4:=by simp[hol,hvl];omega
   rw[hrow2,hrow1]
   simp only
   rw[XY (by rw[h1];exact QH _),←h1,ZS,WV,YE (by omega),ZQ,VC]
   congr 3
   omega
  rw[e]at h
  exact h
 have hin:i≤n:=by omega
 have hbN:b≠w.heap.size:=by omega
 have hw1:IntKind.i64.wrap ((i:Int)+1)=(i:Int)+1:=by rw[IntKind.wrap_i64];omega
 have hw2:IntKind.i64.wrap ((n:Int)+1)=(n:Int)+1:=by rw[IntKind.wrap_i64];omega
 have hw3:IntKind.i64.wrap ((n:Int)+1 - i)=(n:Int)+1 - i:=by rw[IntKind.wrap_i64];omega
 have hbb1:(0:Int)≤(i:Int)+1:=by omega
 have htn:((i:Int)+1).toNat=i+1:=by omega
 have hGi:¬ (G=i):=by omega
 have hGim:¬ (G=i+1):=by omega
 have hci:¬ (c=i):=by omega
 have hb3:(i:Int)≤(n:Int):=by omega
 have mixed:Tryz.prog.follows Departure.mixedOrders=true:=by kernel_rfl
 have hcpC:∀ ty dc sc,(Builtin.copy_ #[232,232] ty #[.slice (some ⟨w.heap.size,(i+1)*4,none⟩) (n - i) dc,.slice (some ⟨b,i*4,none⟩) (n - i) sc]).run Tryz.prog (W1.setRow w.heap.size row1).drew= .ok (goInt ((n - i:Nat):Int)) ((W1.setRow w.heap.size row1).drew.setRow w.heap.size row2):=fun ty dc sc=>hcpB (W1.setRow w.heap.size row1).drew rfl ty dc sc
 have hfin:((W1.setRow w.heap.size row1).drew).setRow w.heap.size row2=(w.drew.drew).alloc (.cells row2 239):=by
  rw[hW1]
  rw[show (w.drew.alloc (.cells (olds++Z).toArray 239)).setRow w.heap.size row1=w.drew.alloc (.cells row1 239) from No w.drew _ _ _]
  exact No w.drew.drew _ _ _
 rw[← hW1]at hrz
 have hzz:((olds++Z).drop ((n+1)*4)).length=(G - (n+1))*4:=by simp[hol,hZl];omega
 have hfin2:((W1.setRow w.heap.size row1).drew).setRow w.heap.size row2=(w.drew.drew).alloc (.cells (olds++vs++mid++(olds++Z).drop ((n+1)*4)).toArray 239):=by rw[hfin,hrow2]
 clear hkk hik hold hZ hG hmid hvs holds hrow1 hW1 hrow2 hfin
 go_enter Tryz.func163,Tryz.ntmps163
 go_wp2_with (first
  |(at_builtin;refine Lib.wpList_append_run _ rfl _ _ _ _ rfl _ _ rfl rfl _ _ (hrz _) ?_)
  |(at_builtin;refine wpList_copy_runI _ rfl _ _ 232 232 rfl _ _ rfl rfl (hcpA _ rfl _ _) ?_))
 go_region_law_o (refine step_copy_runI rfl _ _ 232 232 rfl _ _ (by simp[Act.eval,Act.put]) (by simp[Act.eval,Act.put]) (hcpC _ _ _) ?_)
 go_wp2
 go_ret
 exact⟨G,_,hzz,hGn,rfl,by first|exact hfin2|(simp only[QX];rfl)|(refine hfin2.trans ?_;simp only[QX])|simpa [QX]using hfin2⟩
def tYi:=aa wX <| aa wbu <| aa T3 <| aa T4 T232
def cxI:Ctx:={ cx with muts:=[232*100000+25] }
theorem Ajd:cxI.ok Tryz.prog:=Am
theorem Aou:Ho Tryz.prog (Dh Tryz.prog cxI):=J4 Ajd (by kernel_rfl)
theorem Awq (t:TypeId):cxI.kind t=cx.kind t:=nr rfl
theorem Awr:cxI.muts=[232*100000+25]:=nr rfl
theorem lenI {T:TypeId}{x:AV}:Ba cxI T x=Ba cx T x:=nr rfl
theorem Aov {T:TypeId}{x:AV}{lo hi:Option AV}:Bl cxI T x lo hi=Bl cx T x lo hi:=nr rfl
theorem A1y (t n:Nat)(h:(0<n)=True):Bl cx 232 (.ms t 4 0 n) (some (.p (.v (.int .i64 (n:Nat))))) none=some (.p (.sl 4 [])):=by
 unfold Bl
 rw[Hu]
 cases n with
 |zero=>simp at h
 |succ n=>
  have e1:Bh (some (.p (.v (.int .i64 ((n+1:Nat):Int))))) 0=some (Int.ofNat (n+1)):=rfl
  have e2:Bh none ((n+1:Nat):Int)=some (Int.ofNat (n+1)):=rfl
  simp only[Bp,e1,e2]
  rw[if_neg (by rintro⟨_,_,h1,_⟩;omega),if_pos (by refine⟨trivial,?_,trivial,?_⟩<;>simp<;>omega)]
theorem Aws (t i n k:Nat)(h0:0<k)(h:k<n):Bl cx 232 (.ms t 4 i n) (some (.p (.v (.int .i64 (k:Nat))))) none=some (.ms t 4 (i+k) (n - k)):=by
 unfold Bl
 rw[Hu]
 cases k with
 |zero=>omega
 |succ k=>
  have e1:Bh (some (.p (.v (.int .i64 ((k+1:Nat):Int))))) 0=some (Int.ofNat (k+1)):=rfl
  have e2:Bh none (n:Int)=some (Int.ofNat n):=rfl
  simp only[Bp,e1,e2]
  rw[if_pos (by refine⟨trivial,?_,?_,?_⟩<;>simp<;>omega)]
  rfl
theorem slTo (t i n k:Nat)(h:k≤n):Bl cx 232 (.ms t 4 i n) none (some (.p (.v (.int .i64 (k:Nat)))))=some (.ms t 4 i k):=by
 unfold Bl
 rw[Hu]
 have e2:Bh (some (.p (.v (.int .i64 (k:Nat))))) (n:Int)=some (Int.ofNat k):=rfl
 change (match Bh (some (AV.p (PV.v (Value.int IntKind.i64 (k:Nat))))) (n:Int)with|some h=>(if 4=4∧(0:Int)≤h∧h≤(n:Int)then some (AV.ms t 4 i h.toNat)else none)|none=>none)=_
 rw[e2]
 dsimp only
 rw[if_pos (by refine⟨rfl,?_,?_⟩<;>simp<;>omega)]
 rfl
theorem A1z:Bl cx 232 (.p (.v (.slice none 0 0))) (some (.p (.v (.int .i64 0)))) none=some (.p (.v (.slice none 0 0))):=by
 unfold Bl
 rw[Hu]
 rfl
theorem Aqu {σ:St}{t tv:Nat}{l:List Itm}{x:Itm}(hl:l.length≤1000000)(hl0:0<l.length)(ht:σ[t]? =some (some (.row 4 (l.map itC))))(hv:σ[tv]? =some (some (.right 239 4))):
 Aa Tryz.prog 163 [.ms t 4 0 l.length,Ad .i64 (l.length:Nat),.own tv 4 [itP x]] σ fun r s=>r= .ms σ.length 4 0 (l.length+1)∧s=σ.set t none++[some (.row 4 ((l++[x]).map itC))]:=by
 have hs:=A1y t l.length (eq_true hl0)
 have yt:=Ac ht
 have yv:=Ac hv
 have hlm:(List.map itC l).length=l.length:=by simp
 have htt:List.take l.length (List.map itC l)=List.map itC l:=ZF (by simp)
 have ht1:=tL (n:=(l.length+1)*48) (by omega)
 have ht2:=lM (n:=l.length+1) (by omega)
 have hii:(l.length≤l.length)=True:=eq_true (QH _)
 refine Ab Ajd Aou Tryz.func163 (by kernel_rfl) rfl (nt:=92) (rs:=[.tmp 6]) rfl rfl ?_
 repeat' simp only[↓wBA,tYi,seval,wH,Awq,Awr,lenI,Aov,ht,hlm,htt,ht1,ht2,hii,Da,srcM,Ey,itP,hs]
 all_goals refine rtS ?_
 all_goals simp only[wRe,tYi,seval]
 simp[itC,Ad]
theorem Aqv {σ:St}{tv:Nat}{x:Itm}(hv:σ[tv]? =some (some (.right 239 4))):
 Aa Tryz.prog 163 [.p (.v (.slice none 0 0)),Ad .i64 0,.own tv 4 [itP x]] σ fun r s=>r= .ms σ.length 4 0 1∧s=σ++[some (.row 4 [itC x])]:=by
 have yv:=Ac hv
 have ht2:=lM (n:=1) (by omega)
 refine Ab Ajd Aou Tryz.func163 (by kernel_rfl) rfl (nt:=92) (rs:=[.tmp 6]) rfl rfl ?_
 repeat' simp only[↓wBA,tYi,seval,Awq,Awr,lenI,Aov,ht2,Da,srcM,Ey,itP,A1z]
 all_goals refine rtS ?_
 all_goals simp only[wRe,tYi,seval]
 simp[itC,Ad]
theorem Aqw {σ:St}{t tv i:Nat}{l:List Itm}{x:Itm}(hl:l.length≤1000000)(hi:i<l.length)(ht:σ[t]? =some (some (.row 4 (l.map itC))))(hv:σ[tv]? =some (some (.right 239 4))):
 Aa Tryz.prog 163 [.ms t 4 0 l.length,Ad .i64 (i:Nat),.own tv 4 [itP x]] σ fun r s=>r= .ms σ.length 4 0 (l.length+1)∧s=σ.set t none++[some (.row 4 ((l.take i++x::l.drop i).map itC))]:=by
 refine⟨en _ (by kernel_rfl),fun M vs hM hvs=> ?_⟩
 obtain⟨u1,us1,rfl,h1,u2,us2,rfl,h2,u3,us3,rfl,h3,rfl⟩:∃ u us',vs=u::us'∧Ag M (.ms t 4 0 l.length) u∧∃ u2 us2,us'=u2::us2∧Ag M (Ad .i64 (i:Nat)) u2∧∃ u3 us3,us2=u3::us3∧Ag M (.own tv 4 [itP x]) u3∧us3=[]:=by simpa only[Af]using hvs
 have hsz:σ.put σ.length (.row 4 ((l.take i++x::l.drop i).map itC))=σ++[some (.row 4 ((l.take i++x::l.drop i).map itC))]:=I8 rfl
 have hput:∀ (σ0:St),σ0.length=σ.length→St.put σ0 σ.length (.row 4 ((l.take i++x::l.drop i).map itC))=σ0++[some (.row 4 ((l.take i++x::l.drop i).map itC))]:=fun σ0 h=>I8 h.symm
 obtain⟨_,b,cur,T,hb,hh,hI,hr,hcs⟩:=hM.obj t _ ht
 simp only[Ag]at h1
 obtain⟨b',c,hb',_,rfl,hn,hf⟩:=h1
 have:b'=b:=by rw[hb]at hb';simpa using hb'.symm
 subst this
 rw[← hcs]at hf
 have e2:u2= .int .i64 (i:Nat):=Bi h2
 subst e2
 simp only[Ag]at h3
 obtain⟨vb,vc,n0,rfl,hvc,_,hpr,hvn,_,himp⟩:=h3
 obtain⟨hvl,vb',vcur,hvb',hvh,hvcs,hvI⟩:=hM.obj tv _ hv
 rw[hvl]at hvn
 simp only[QB]at hvn
 obtain⟨hvmu,hvcap⟩:=himp (by rw[← hvn];rfl)
 have:vb'=vb:=by rw[hvmu]at hvb';simpa using hvb'.symm
 subst this
 have hne:vb'≠b':=fun e=>hI 0 (by rw[← e];exact (hvI 0).2 (by omega))
 have hvr:Cr M vcur 4 [itC x]:=fun j cc hj=>by
  cases j with
  |succ j=>simp at hj
  |zero=>
   simp at hj;subst hj
   refine⟨rfl,fun q a ha=> ?_⟩
   rw[← Awe,QR]at ha
   cases hq:(itP x)[q]? with
   |none=>rw[hq]at ha;simp at ha
   |some y=>
    rw[hq]at ha;simp at ha;subst ha
    obtain⟨_,hpc⟩:=hpr.get (i:=0) (c:=itP x) rfl
    obtain⟨u,g1,_,g2⟩:=hpc.get hq
    rw[cell_of_row _ _ _ _ _ _ hvh]at g1
    exact⟨rfl,u,by simpa using g1,by simpa only[Ag]using g2⟩
 have hvc1:1≤vc:=by simpa using hvc
 have hvsz:0+4≤vcur.size:=by rw[hvcs,hvcap];omega
 have hlm:(l.map itC).length=l.length:=by simp
 have hcf:c*4≤cur.size:=by omega
 obtain⟨a1,a2,a3,a4⟩:=Gq hr 0 i (by rw[hlm];omega) (by omega) (by omega)
 obtain⟨b1,b2,b3,b4⟩:=Gq hr i (l.length - i) (by rw[hlm];omega) (by omega) (by omega)
 obtain⟨c1,c2,c3,c4⟩:=Gq hvr 0 1 (by simp) (by omega) (by omega)
 simp only[WB,XA,Nat.one_mul]at a1 a2 a3 a4 c1 c2 c3 c4
 have hms:((l.map itC).take i++[itC x].take 1++((l.map itC).drop i).take (l.length - i))=(l.take i++x::l.drop i).map itC:=by
  rw[ZH,QK,WO,VA,ZF (l:=List.drop i (List.map itC l)) (by simp)]
  simp
 have hrow:∀ z:List Value,Cr M (cur.toList.take (i*4)++(vcur.toList.drop 0).take 4++(cur.toList.drop (i*4)).take ((l.length - i)*4)++z).toArray 4 ((l.take i++x::l.drop i).map itC):=fun z=>by
  rw[← hms]
  refine Ox (us:=cur.toList.take (i*4)++(vcur.toList.drop 0).take 4) (vs:=(cur.toList.drop (i*4)).take ((l.length - i)*4)) ?_ ?_ b4 fun q u hq=> ?_
  ·rw[QE,XA,a1,c1];simp;omega
  ·refine Ox (us:=cur.toList.take (i*4)) (vs:=(vcur.toList.drop 0).take 4) ?_ a4 (by rw[XA];exact c4) fun q u hq=> ?_
   ·rw[a1];simp;omega
   ·simpa using hq
  ·rw[YD,QD (QC.1 hq).1]
   exact hq
 have hone:∀ v∈(vcur.toList.drop 0).take 4,v.oneCell'=true:=by rw[XA];exact c3
 by_cases hroom:l.length+1≤c
 ·refine (Ajc b' l.length c i vb' 0 vc cur vcur T 239 M.w hi hroom (by omega) hne hh hvh hcf hvsz b3 hone).mono ?_
  rintro e w' ⟨rfl,hw'⟩
  obtain⟨cur2,hc2⟩:∃ cur2,cur2=(cur.toList.take (i*4)++(vcur.toList.drop 0).take 4++(cur.toList.drop (i*4)).take ((l.length - i)*4)++cur.toList.drop ((i+1)*4+(l.length - i)*4)).toArray:=⟨_,rfl⟩
  have hrow2:=hrow (cur.toList.drop ((i+1)*4+(l.length - i)*4))
  rw[← hc2]at hrow2 hw'
  have hcs2:cur2.size=cur.size:=by rw[hc2];simp only[YV,QE,a1,b1,XA,c1,WJ,YK];omega
  obtain⟨cur1,hc1⟩:∃ cur1,w'=(M.w.drew.setRow b' cur1).setRow b' cur2:=⟨_,hw'⟩
  obtain⟨M',h5,h6,h6',hct,h7,h8⟩:=hM.rowAt (tk:=σ.length) (w':=w') ht hb hI rfl (by rw[hc1];exact setRow_heap _ _ _ _ _ _ (setRow_heap M.w.drew _ _ _ _ _ hh)) (fun k hk=>by rw[hc1,setRow_other _ _ _ _ hk,setRow_other _ _ _ _ hk];rfl) (by rw[hc1];simp) (by rw[hc1];rfl) (by rw[hc1];rfl) (by rw[hc1];rfl) hrow2
  rw[hput _ (by simp)]at h7 h8
  refine⟨_,.ms σ.length 4 0 (l.length+1),_,M',rfl,h5,h7,h8,?_,by simp,rfl,rfl⟩
  simp only[Ag]
  refine⟨b',c,h6,h6',by simp,hroom,?_⟩
  rw[hct,hcs2];omega
 ·refine (Ama b' l.length c i vb' 0 vc cur vcur T 239 M.w hi hn (by omega) (by omega) hh hvh hcf hvsz b3 hone).mono ?_
  rintro e w' ⟨G,z,hz,hG,rfl,rfl⟩
  obtain⟨M',h5,h6,h6',hct,h7,h8⟩:=((hM.drew.drew).forget t).row (t:=σ.length) (by simp) _ 239 4 _ (((hrow z).later (Later.drew M)).later (Later.drew M.drew))
  rw[hput _ (by simp)]at h7 h8
  refine⟨_,.ms σ.length 4 0 (l.length+1),_,M',rfl,h5,((Ext.drew M σ).trans (Ext.drew M.drew σ)).trans ((Ext.forget M.drew.drew σ t).trans h7),h8,?_,by simp,rfl,rfl⟩
  simp only[Ag]
  refine⟨_,G,h6,h6',rfl,hG,?_⟩
  rw[hct]
  simp only[QE,a1,b1,hz,XA,c1]
  omega
