/- Tables: any row is put in; numbers that may not be; a table that is worked on. Rows compared: values. A walk that is cut in two: what holds between. TableMarks: what holds between the walk's parts. TableMarks: the last loop. TableMarks: the search, the first loop. TableMarks: Mark. TableMarks: the rows are put in; the whole. TableMarks: the law. A world that holds the listed tables: the witness of law 21's rows; what stands in the variables. -/
import Derived.Test.YtpoigihfeehehaaGreatDoorM49
import Derived.Test.YtpoigihfeehehaaGreatDoorM41
import Derived.Test.YtpoigihfeehehaaGreatDoorM20
import Derived.Test.YtpoigihfeehehaaGreatDoorM31
import Derived.Test.YtpoigihfeehehaaGreatDoorRows
import Derived.Shelf.Vars
import Derived.Lib.LaidIn
import Derived.Lib.LaidCaseMet
import Derived.PinnedBridge
import Derived.Deep.DeepWitnessRowRef
set_option linter.all false
set_option maxRecDepth 100000
set_option maxHeartbeats 32000000
namespace Go.Proofs.YtpoigihfeehehaaGreatDoor
open Go.RowKit
def tT15:=aa wX <| aa wbu <| aa T3 <| aa T4 <| aa T29 <| aa T38 <| aa T46 <| aa T51 <| aa T70 T81
theorem Anc {b:Nat}{n k made taken:Int}(hbad:(wiN made&&wiN taken)=false)(x0 x1 x2 x3 x4:PV)(σ:St):
 Aa Tryz.prog 20 [.mp b 2 0 0,.agg [.p x0,.p x1,.p x2,.p x3,.p x4],.agg [Ad .i64 n,Ad .i64 k],Ad .i64 made,Ad .i64 taken] σ fun r σ'=>r=Ad .i64 1∧Ap σ σ':=by
 have hw1:=Jl made
 have hw2:=Jl taken
 refine Ab Am An Tryz.func20 (by kernel_rfl) rfl (nt:=40) (rs:=[.tmp 10]) rfl rfl ?_
 cases h1:wiN made with
 |false=>
  rw[h1]at hw1
  repeat' first|simp only[↓wBA,tT15,seval,wH]|((with_reducible show Aa _ _ _ _ _);first|refine (hw1 _).eq ?_|refine (hw2 _).eq ?_)
  all_goals refine rtS ?_
  all_goals simp only[wRe,tT15,seval]
  exact (Ap.app _ _).more _
 |true=>
  rw[h1]at hw1
  rw[h1,Bool.true_and]at hbad
  rw[hbad]at hw2
  repeat' first|simp only[↓wBA,tT15,seval,wH]|((with_reducible show Aa _ _ _ _ _);first|refine (hw1 _).eq ?_|refine (hw2 _).eq ?_)
  all_goals refine rtS ?_
  all_goals simp only[wRe,tT15,seval]
  exact (Ap.app _ _).more _
theorem Arr (a c:Int)(σ:St):Aa Tryz.prog 21 [Ad .i64 a,Ad .i64 c] σ fun r s=>s=σ∧r=Av (wiN a&&wiN c):=by
 refine Aa.pureF (R:=fun r=>r=Av (wiN a&&wiN c)) ?_ rfl σ
 unfold wiN
 have g1:decide (a≥0)=decide (0≤a):=rfl
 have g2:decide (c≥0)=decide (0≤c):=rfl
 refine Ab Am An Tryz.func21 (by kernel_rfl) rfl (nt:=17) (rs:=[.tmp 4]) rfl rfl ?_
 cases h1:decide (0≤a)<;>cases h2:decide (0≤c)<;>cases h3:decide (a≤16777216)<;>cases h4:decide (c≤16777216)
 all_goals rw[h1]at g1;rw[h2]at g2
 repeat' simp only[↓wBA,tT15,seval,h1,h2,h3,h4,Bool.and_true,Bool.and_false]
 all_goals refine rtS ?_
 all_goals simp only[wRe,tT15,seval]
 all_goals exact⟨rfl,rfl⟩
def stoK (nm:ByteArray)(cols:List (List PV))(K:List (Idx×Nat×Kd))(first:Nat):AV:=tabA (.v (.string nm)) (.sl 4 cols) (lsP 4 (K.map fun q=>Fv q.1)) first (lsP 1 (K.map fun q=>[.v (.int .i64 (q.2.1:Nat))]))
theorem Akn (nm:ByteArray)(cols:List (List PV))(X:List Ixx)(first:Nat):Of nm cols X first=stoK nm cols (X.map Lm) first:=by
 have h1:(X.map fun x=>Fv x.x)=(X.map Lm).map fun q=>Fv q.1:=by rw[XV];rfl
 have h2:(X.map fun x=>[PV.v (.int .i64 (x.root:Nat))])=(X.map Lm).map fun q=>[PV.v (.int .i64 (q.2.1:Nat))]:=by rw[XV];rfl
 unfold Of stoK
 rw[h1,h2]
def Ane (K:List (Idx×Nat×Kd))(n:Nat):Nat:=(K.map fun q=>q.2.2.B n).sum
theorem Axo (X:List Ixx)(n:Nat):Mw X n=Ane (X.map Lm) n:=by unfold Mw Ane;rw[XV];rfl
def TbS (σ s:St)(b p dd l kh first:Nat)(U0:Nat→Prop)(P0:Ak)(K:List (Idx×Nat×Kd))(w:Nat)(E:List Ver):Prop:=
 ∃ (U:Nat→Prop) (P:Ak) (v:Nat→List UInt8) (T:Nat→Bool) (ns:List Nat) (X:List Ixx),Fr σ s U0 U∧Bt s b p dd l kh U P v∧Kp P0 P 0∧Tk (v 0) P0.pages T∧T 0=true∧X.map Lm=K∧Tab v T P0.pages first ns E X w
section
variable {σ s s':St} {b p dd l kh first w made:Nat} {U0:Nat→Prop} {P0:Ak} {K:List (Idx×Nat×Kd)} {E:List Ver} {vs:List Va} {cols:List (List PV)}
theorem TbS.ap (h:TbS σ s b p dd l kh first U0 P0 K w E)(a:Ap s s'):TbS σ s' b p dd l kh first U0 P0 K w E:=by
 obtain⟨U,P,v,T,ns,X,f,hB,kp,r⟩:=h
 exact⟨U,P,v,T,ns,X,f.trans a.fr,hB.ap a,kp,r⟩
theorem TbS.len (h:TbS σ s b p dd l kh first U0 P0 K w E):σ.length≤s.length:=by
 obtain⟨U,P,v,T,ns,X,f,_⟩:=h
 exact f.len
theorem TbS.get (h:TbS σ s b p dd l kh first U0 P0 K w E){t:Nat}{x:Option Ob}(ht:σ[t]? =some x)(hn:¬ U0 t):s[t]? =some x:=by
 obtain⟨U,P,v,T,ns,X,f,_⟩:=h
 exact f.get ht hn
theorem Anf (e:Ver)(E:List Ver):(insV e E).length=E.length+1:=by rw[(Ll e E).length_eq];rfl
theorem A2p (h:TbS σ s b p dd l kh first U0 P0 K w E)(hb:Bud P0 1)(hnp:P0.pages≤3200)(hE:E.length<60)(hw0:0<w)(hw:w≤255)(hvl:vs.length≤4398046511104)(hr:∀ v∈vs,i64R v.2.1)(hm:made≤16777216)
 (hof:∀ q∈K,∀ σ,Aa Tryz.prog 43 [idxA q.1] σ fun r s=>s=σ∧r=q.2.2.tool) (hroom:4+E.length+2*Ane K (E.length+1)≤P0.pages) (nm:ByteArray) (hcl:cols.length=w) (hK:K.length≤1000):
 Aa Tryz.prog 14 [.mp b 2 0 0,stoK nm cols K first,.p (.sl 3 (enV vs)),Ad .i64 (made:Nat)] s fun r s'=>∃ (n k:Int) (e:Int) (E':List Ver),r= .tup [.agg [Ad .i64 n,Ad .i64 k],Ad .i64 e]∧TbS σ s' b p dd l kh first U0 P0 K w E'∧s.length≤s'.length∧((e=0∧E'.length=E.length+1)∨(e≠0∧E'=E)):=by
 have h0:=h
 obtain⟨U,P,v,T,ns,X,f,hB,kp,hT,hT0,hX,ht⟩:=h
 have hwn:wiN (made:Nat)=true:=by unfold wiN;simp;omega
 by_cases hg:vs.length=w∧vs.all okV=true
 ·obtain⟨hl,hv⟩:=hg
  have hv':∀ x∈vs,okW x:=fun x hx=>⟨ZA.1 hv x hx,hr x hx⟩
  by_cases hfit:(rwB vs).length≤392
  ·subst hX
   rw[← Akn]
   refine (Axk (X:=X) (T:=T) (made:=made) hB (by rw[kp.pages];exact hT) (by rw[kp.pages];omega) hT0 (by rw[kp.pages];exact ht) (hb.kp (k:=1) kp (by omega)) hE hl hw hw0 hv' hfit hm (fun x hx σ=>hof (Lm x) (ZP.2 ⟨x,hx,rfl⟩) σ) (by rw[kp.pages,Axo];omega) nm hcl (by simpa using hK)).mono ?_
   rintro r s' ⟨n,k,ns',Y,U',P',v',T',rfl,f',hB',kp',hT',hT0',hY,_,ht'⟩
   refine⟨(n:Nat),(k:Nat),0,insV ((n,k),(made,0),vs) E,rfl,⟨U',P',v',T',ns',Y,f.trans f',hB',kp.trans kp',?_,hT0',hY,?_⟩,f'.len,.inl ⟨rfl,Anf _ _⟩⟩
   ·rw[kp.pages]at hT';exact hT'
   ·rw[kp.pages]at ht';exact ht'
  ·refine (Arq (b:=b) (vs:=vs) (cols:=cols) (made:=(made:Nat)) (by rw[hl,hcl]) (by omega) hv' hwn hfit _ _ _ _).mono ?_
   rintro r s' ⟨rfl,a⟩
   exact⟨0,0,34,E,rfl,h0.ap a,a.len,.inr ⟨by omega,rfl⟩⟩
 ·refine (Arp (b:=b) (vs:=vs) (cols:=cols) (made:=(made:Nat)) hvl (fun e=>hg ⟨by rw[e.1,hcl],e.2.1⟩) _ _ _ _).mono ?_
  rintro r s' ⟨rfl,a⟩
  exact⟨0,0,1,E,rfl,h0.ap a,a.len,.inr ⟨by omega,rfl⟩⟩
end
def Adp:Cq:=(.det 0 (.det 1 (.det 2 (.det 3 (.det 4 (.det 5 (.det 6 (.det 7 (.det 8 .done)))))))))
def tSv:=aa wX <| aa wbu <| aa T3 <| aa T24 T54
theorem Axp {a b:ByteArray}(h:a.toList=b.toList):a=b:=by
 rw[Ag6,Ag6]at h
 cases a;cases b
 congr
 exact Array.toList_inj.1 h
theorem A2q (a1 a2 b1 b2:Int)(a3 b3:ByteArray):(a1==b1&&((a2==b2)&&((a3.toList==b3.toList)&&true)))=decide (((a1,a2,a3):Va)=(b1,b2,b3)):=by
 by_cases h:((a1,a2,a3):Va)=(b1,b2,b3)
 ·cases h;simp
 ·rw[decide_eq_false h]
  by_cases h1:a1=b1
  ·by_cases h2:a2=b2
   ·have h3:a3.toList≠b3.toList:=fun e=>h (by rw[h1,h2,Axp e])
    simp[h3]
   ·simp[h2]
  ·simp[h1]
def Afh (a b:List Va):Bool:=decide (a=b)
theorem Axq (a b:List Va)(ha:a.length≤4398046511104)(hb:b.length≤4398046511104)(σ:St):Aa Tryz.prog 19 [.p (.sl 3 (enV a)),.p (.sl 3 (enV b))] σ fun r s=>s=σ∧r=Av (Afh a b):=by
 refine Aa.pureF (R:=fun r=>r=Av (Afh a b)) ?_ rfl σ
 refine Ab Am An Tryz.func19 (by kernel_rfl) rfl (nt:=24) (rs:=[.tmp 4]) rfl rfl ?_
 by_cases hab:a.length=b.length
 ·have d:((a.length:Int) != (b.length:Int))=false:=by simp[hab]
  repeat' simp only[↓wBA,tSv,seval,Ea,d]
  refine Hs (a.length) (fun i=>[(5,Ad .i64 (i:Nat)),(4,.any),(11,.any),(12,.any),(13,.any),(14,.any),(15,.any),(16,.any),(17,.any),(18,.any),(19,.any),(20,.any),(21,.any),(22,.any),(23,.any),(24,.any),(25,.any)]) (fun i=>[]) (fun i=>a.take i=b.take i) ?_ ?_ ?_
  ·rfl
  ·skip
   simp only[wR]
   simp[wW]
  ·intro i hi hI
   simp only[wR]
   by_cases hlt:i<a.length
   ·have hdec:=dT (i:=i) (n:=a.length) (by omega)
    have hi0:=nnI i
    have hw:=wI i (by omega)
    have hltb:i<b.length:=by omega
    have hg:=Ji a i hlt
    have hgb:=Ji b i hltb
    have hta:=YC hlt
    have htb:=YC hltb
    have hfin:a[i]≠b[i]→Afh a b=false:=fun h=>decide_eq_false fun e=>h (by subst e;rfl)
    rcases hai:a[i]with⟨a1,a2,a3⟩
    rcases hbi:b[i]with⟨b1,b2,b3⟩
    rw[hai]at hg hta hfin
    rw[hbi]at hgb htb hfin
    simp only[vaC]at hg hgb
    have hv:=A2q a1 a2 b1 b2 a3 b3
    repeat' first|((with_reducible apply cs)<;>intro h<;>try simp only[h])|simp only[↓wBA,tSv,seval,Adp,Ea,hdec,hi0,hw,hg,hgb,hv]|(with_reducible refine dQ Adp 9 (some 17) ?_)
    ·have hf:=hfin (by intro e;rw[decide_eq_true e]at h;simp at h)
     simp only[hf]
     all_goals refine Cc (a:=_) ?_ rfl rfl
     all_goals simp only[tSv,seval]
     all_goals simp_all [wS]
    ·skip
     refine⟨⟨i+1,by omega,?_⟩,by show a.length - (i+1)<a.length - i;omega,?_⟩
     ·rw[hta,htb,hI];congr 1;simpa using h
     ·skip
      simp only[]
      simp[wW]
   ·have hdec:=dF (i:=i) (n:=a.length) (by omega)
    have hs:Afh a b=true:=decide_eq_true (by rw[ZF (by omega),ZF (by omega)]at hI;exact hI)
    simp only[hs]
    repeat' simp only[↓wBA,tSv,seval,Ea,hdec]
    all_goals refine Cc (a:=_) ?_ rfl rfl
    all_goals simp only[tSv,seval]
    all_goals simp_all [wS]
 ·have d:((a.length:Int) != (b.length:Int))=true:=by simp;omega
  have hs:Afh a b=false:=decide_eq_false fun e=>hab (by rw[e])
  simp only[hs]
  repeat' simp only[↓wBA,tSv,seval,Ea,d]
  all_goals refine Cc (a:=_) ?_ rfl rfl
  all_goals simp only[tSv,seval]
  all_goals simp_all [wS]
def preC:Nat→Code→Code
 |n+1,.seq x y=>.seq x (preC n y)
 |_,_=>.skip
def sufC:Nat→Code→Code
 |n+1,.seq _ y=>sufC n y
 |_,c=>c
def codeOf (f:Func):Code:=match f.body with
 |some c=>c
 |none=>.skip
theorem Vg {P:Program}{C:Ctx}{R:List AV→St→Prop}:∀ (n:Nat) {c:Code} {fr:List AV} {σ:St} {Q:Exit→List AV→St→Prop},AWp P C (Dh P C) (preC n c) fr σ (fun e f s=>match e with| .normal=>R f s|e=>Q e f s)→(∀ f s,R f s→AWp P C (Dh P C) (sufC n c) f s Q)→AWp P C (Dh P C) c fr σ Q
 |0,c,fr,σ,Q,h1,h2=>by
  have h:preC 0 c= .skip:=by cases c<;>rfl
  have h':sufC 0 c=c:=by cases c<;>rfl
  rw[h]at h1
  rw[h']at h2
  exact h2 _ _ h1
 |n+1,c,fr,σ,Q,h1,h2=>by
  cases c with
  |seq x y=>
   have h:AWp P C (Dh P C) x fr σ fun e f s=>match e with
    | .normal=>AWp P C (Dh P C) (preC n y) f s fun e f s=>match e with| .normal=>R f s|e=>Q e f s
    |e=>(match e with| .normal=>R f s|e=>Q e f s):=h1
   show AWp P C (Dh P C) x fr σ fun e f s=>match e with
    | .normal=>AWp P C (Dh P C) y f s Q
    |e=>Q e f s
   refine En (fun e f s h=> ?_) h
   cases e with
   |normal=>exact Vg n h h2
   |_=>exact h
  |_=>exact h2 _ _ h1
theorem Adq {n:Nat}{f:List AV}(h:f.length=n):f=(List.range n).map fun i=>f.getD i .any:=by
 subst h
 apply XM
 intro i
 rw[QR]
 by_cases hi:i<f.length
 ·rw[List.getElem?_range hi];simp[QM,hi]
 ·rw[ZG (by omega),ZG (by simp;omega)];rfl
theorem Mm.lenV {q:St}{av:AV}{E:List Ver}(h:Mm q av 5 (E.map Dt)):Ba cx 56 av=some E.length:=by
 rcases h with⟨rfl,h⟩|⟨t,rfl,h1,h2⟩
 ·have:E=[]:=by simpa using h
  subst this
  unfold Ba;rw[Mf];rfl
 ·unfold Ba;rw[Mf];simp[Bp]
theorem Mm.rowV {q:St}{av:AV}{E:List Ver}(h:Mm q av 5 (E.map Dt))(hE:E≠[]):∃ t,av= .ms t 5 0 E.length∧q[t]? =some (some (.row 5 (E.map Dt))):=by
 rcases h with⟨_,h⟩|⟨t,rfl,h1,h2⟩
 ·exact absurd (by simpa using h) hE
 ·exact⟨t,by simp,h2⟩
theorem Oh {E:List Ver}{i n k m t:Nat}{l:List Va}(h:E[i]? =some ((n,k),(m,t),l)):(E.map Dt)[i]? =some [.p (.v (.int .i64 (n:Nat))),.p (.v (.int .i64 (k:Nat))),.p (.v (.int .i64 (m:Nat))),.p (.v (.int .i64 (t:Nat))),.p (.sl 3 (enV l))]:=by rw[QR,h];rfl
theorem Ang (A B:List Ver)(e e':Ver):((A++e::B).map Dt).set A.length (Dt e')=(A++e'::B).map Dt:=by simp
theorem Axr {L:List Ver}(h:L.Pairwise ltV){x y:Ver}(hx:x∈L)(hy:y∈L)(e:x.1=y.1):x=y:=by
 obtain⟨i,hi,rfl⟩:=List.getElem_of_mem hx
 obtain⟨j,hj,rfl⟩:=List.getElem_of_mem hy
 have hp:=WH.1 h
 rcases WC i j with h1|rfl|h1
 ·exact absurd e (Ln (hp i j hi hj h1))
 ·rfl
 ·exact absurd e.symm (Ln (hp j i hj hi h1))
def MkZ (x:Nat→AV)(S:St)(b p dd l kh first t5:Nat)(nm:ByteArray)(cols:List (List PV))(E:List Ver)(U:Nat→Prop)(P:Ak)(v:Nat→List UInt8)(T:Nat→Bool)(ns:List Nat)(y:Ixx)(z2 z4:PV):Prop:=
 x 9= .mp b 2 0 0∧x 10= .mp t5 5 0 0∧Bt S b p dd l kh U P v∧Tab v T P.pages first ns E [y] 3∧y.kd=Gg∧y.x=i0x∧Bud P 700∧Of nm cols [y] first= .agg [.p (.v (.string nm)),.p (.sl 4 cols),.p z2,.p (.v (.int .i64 (first:Nat))),.p z4]∧S[t5]? =some (some (Ob.row 5 [[AV.p (.v (.string nm)),AV.p (.sl 4 cols),AV.p z2,AV.p (.v (.int .i64 (first:Nat))),AV.p z4]]))∧¬ U t5∧E.length≤20
def MkA (n0:Nat)(k made taken:Int)(f:List AV)(S:St):Prop:=∃ (x:Nat→AV) (b p dd l kh first t5:Nat) (nm:ByteArray) (cols:List (List PV)) (E:List Ver) (U:Nat→Prop) (P:Ak) (v:Nat→List UInt8) (T:Nat→Bool) (ns:List Nat) (y:Ixx) (z2 z4:PV),
 f=(List.range 278).map x∧n0≤S.length∧x 4=Ad .i64 k∧x 5=Ad .i64 made∧x 6=Ad .i64 taken∧x 8=Ad .i64 0∧MkZ x S b p dd l kh first t5 nm cols E U P v T ns y z2 z4
def MkB (n0:Nat)(f:List AV)(S:St):Prop:=∃ (x:Nat→AV) (b p dd l kh first t5:Nat) (nm:ByteArray) (cols:List (List PV)) (E:List Ver) (U:Nat→Prop) (P:Ak) (v:Nat→List UInt8) (T:Nat→Bool) (ns:List Nat) (y:Ixx) (z2 z4:PV) (A B:List Ver) (n kp mm tt tw:Nat) (va:Va) (vr:List Va),
 f=(List.range 278).map x∧n0≤S.length∧MkZ x S b p dd l kh first t5 nm cols E U P v T ns y z2 z4∧x 12= .ms tw 5 0 E.length∧x 14=Ad .i64 (A.length:Nat)∧E=A++((n,kp),(mm,tt),va::vr)::B∧okW va∧S[tw]? =some (some (.row 5 (E.map Dt)))∧¬ U tw∧¬ tw=t5
def MkC (n0:Nat)(f:List AV)(S:St):Prop:=∃ (x:Nat→AV) (tw tn:Nat) (E:List Ver),
 f=(List.range 278).map x∧n0≤S.length∧x 12= .ms tw 5 0 E.length∧x 17= .ms tn 5 0 E.length∧x 20=Av true∧S[tw]? =some (some (.row 5 (E.map Dt)))∧S[tn]? =some (some (.row 5 (E.map Dt)))∧E.length≤20∧∀ y∈E,y.2.2.length=3
def Yy:Cq:=(.det 0 (.det 1 (.det 2 (.det 3 (.det 4 (.det 5 (.det 6 (.det 7 (.det 8 (.det 9 (.det 10 (.det 11 (.det 12 (.det 13 (.det 14 (.det 15 (.det 16 (.det 17 (.det 18 (.det 19 (.det 20 (.det 21 (.det 22 (.det 23 (.det 24 (.det 25 (.det 26 (.det 27 (.det 28 (.det 29 (.det 30 (.det 31 (.det 32 (.det 33 (.det 34 (.det 35 (.det 36 (.det 37 (.det 38 (.det 39 (.det 40 (.det 41 (.det 42 (.det 43 (.det 44 (.det 45 (.det 46 (.det 47 (.fin 48 (.det 49 (.det 50 .done)))))))))))))))))))))))))))))))))))))))))))))))))))
def tTmd:=aa wX <| aa wbu <| aa T3 <| aa T4 <| aa T22 <| aa T24 <| aa T26 <| aa T28 <| aa T29 <| aa T32 <| aa T34 <| aa T37 <| aa T38 <| aa T42 <| aa T43 <| aa T46 <| aa T51 <| aa T54 <| aa T56 <| aa T62 T66
theorem amkD {n0:Nat}{f:List AV}{S:St}(h:MkC n0 f S):AWp Tryz.prog cx (Dh Tryz.prog cx) (sufC 24 (codeOf Tryz.f4)) f S (retA cx [.tmp 2] n0 fun q _=>q=Av true):=by
 obtain⟨x,tw,tn,E',rfl,hn0,h12,h17,h20,roww,rown,hE20,hvl⟩:=h
 simp only[codeOf,Tryz.f4,sufC,List.range,List.range.loop,QK,ZB,h12,h17,h20]
 have yw:=Ac roww
 have yn:=Ac rown
 repeat' simp only[↓wBA,tTmd,seval]
 refine Ar (X:={ i:Nat // i≤E'.length }) (fun i=>E'.length - i.1) (fun i=>[(22,Ad .i64 (i.1:Nat))]) [2,220,221,222,223,224,225,226,227,228,229,230,231,232,233,234,235,236,237,238,239,240,241,242,243,244,245,246,247,248,249,250,251,252,253,254,255,256,257,258,259,260,261,262,263,264,265,266,267,268,269,270,271,272,273,274,275,276] (fun i s'=>s'=S) (⟨0,by omega⟩) ?_ ?_ ?_ ?_
 ·simp only[wHl,wHf]
 ·rfl
 ·rintro _ _ rfl;exact QH _
 ·intro w J' s' hI
  simp only[wHl]
  obtain⟨i3,hi3⟩:=w
  obtain rfl:s'=S:=hI
  dsimp only at*
  have hi0'':=nnI i3
  by_cases hlt3:i3<E'.length
  ·have e4:=dT (i:=i3) (n:=E'.length) hlt3
   obtain⟨⟨⟨yn',yk'⟩,⟨ym,yt⟩,yl⟩,hy⟩:∃ y,E'[i3]? =some y:=⟨E'[i3],by simp⟩
   have hgy:=Oh hy
   have hif3:((i3:Int)<(E'.length:Int))=True:=eq_true (by omega)
   have hwi':=wI i3 (by omega)
   have hyl:=hvl _ (QG hy)
   have hS:=Axq yl yl (by simp only at hyl;omega) (by simp only at hyl;omega)
   rw[show Afh yl yl=true from decide_eq_true rfl]at hS
   repeat' first|simp only[↓wBA,tTmd,seval,Yy,wH,wHl,hgy,hif3,hi0'',hwi',rown,roww,Bool.and_self]|((with_reducible show Aa _ _ _ _ _);refine (hS _).eq ?_)|(with_reducible refine dQ Yy 51 (some 226) ?_)
   exact⟨⟨i3+1,by omega⟩,by show E'.length - (i3+1)<E'.length - i3;omega,by simp only[]⟩
  ·obtain rfl:i3=E'.length:=by omega
   have e4:=dF (i:=E'.length) (n:=E'.length) hlt3
   repeat' simp only[↓wBA,tTmd,seval,wHl,e4]
   all_goals refine rtS ?_
   all_goals simp only[wRe,tTmd,seval]
def Gh:Cq:=(.det 0 (.det 1 (.det 2 (.det 3 (.det 4 (.det 5 (.det 6 (.det 7 (.det 8 (.det 9 (.det 10 (.det 11 (.det 12 (.det 13 (.det 14 (.det 15 (.det 16 (.det 17 (.det 18 (.det 19 (.det 20 (.det 21 (.det 22 (.det 23 (.det 24 (.det 25 (.det 26 (.det 27 (.det 28 (.det 29 (.det 30 (.det 31 (.det 32 (.det 33 (.det 34 (.det 35 (.det 36 (.det 37 (.det 38 (.det 39 (.det 40 .done)))))))))))))))))))))))))))))))))))))))))
def tTmc:=aa wX <| aa wbu <| aa T3 <| aa T4 <| aa T22 <| aa T24 <| aa T26 <| aa T28 <| aa T29 <| aa T32 <| aa T34 <| aa T37 <| aa T38 <| aa T42 <| aa T43 <| aa T46 <| aa T51 <| aa T54 <| aa T56 <| aa T62 T66
theorem amkC {n0:Nat}{f:List AV}{S:St}(h:MkB n0 f S):AWp Tryz.prog cx (Dh Tryz.prog cx) (sufC 18 (codeOf Tryz.f4)) f S (retA cx [.tmp 2] n0 fun q _=>q=Av true):=by
 obtain⟨x,b,p,dd,l,kh,first,t5,nm,cols,E',U9,P9,v9,T6,ns6,y,z2,z4,A,B,n,kp,mm,tt,tw,va,vr,rfl,hn0,hZ,h12,h14,hE',hva,row9,ut9,hnt0⟩:=h
 obtain⟨h9x,h10x,h9,ht9,hyx2,hyx1,hb9,hst2,x9,u9,hE20⟩:=hZ
 refine Vg 6 (R:=MkC n0) ?_ (fun f s h=>amkD h)
 simp only[codeOf,Tryz.f4,sufC,preC,List.range,List.range.loop,QK,ZB,h9x,h10x,h12,h14]
 have hnt:(tw=t5)=False:=eq_false hnt0
 have hjl:A.length<E'.length:=by rw[hE'];simp
 have u1:=nnI A.length
 have u2:((A.length:Int)<(E'.length:Int))=True:=eq_true (by omega)
 have yr9:=Ac row9
 have y9:=Ac x9
 repeat' simp only[↓wBA,tTmc,seval,x9]
 refine (Aj7 h9 ht9.th ht9.f (hb9.mono (by omega)) (by have:=ht9.nl;omega) _ _ _ _).mono ?_
 rintro _ s10 ⟨av10,U10,P10,rfl,hm10,f10,h10,k10,hms10⟩
 have l10:=f10.len
 have x10:=f10.get x9 u9
 have y10:=Ac x10
 have row10:=f10.get row9 ut9
 have yr10:=Ac row10
 have u10:¬ U10 t5:=fun e=>(f10.own _ e).elim u9 fun e=>by omega
 have ut10:¬ U10 tw:=fun e=>(f10.own _ e).elim ut9 fun e=>by omega
 have hvg':=Oh (E:=E') (i:=A.length) (n:=n) (k:=kp) (m:=mm) (t:=tt) (l:=va::vr) (by rw[hE'];simp)
 obtain⟨va1,va2,va3⟩:=va
 have hF:=fun {s:St} (a:Ap s10 s)=>Yv (ix:=0) (x:=y) (lo:=(va1,va2,va3)) (hi:=(va1,va2,va3)) (h10.ap a) (by rw[k10.pages];exact ht9) (hb9.kp (k:=1) k10 (by omega)) (by omega) (by omega) rfl hyx2 (by rw[hyx1];rfl) hva hva nm ⟨#[116]⟩ cols
 rw[hst2,hyx1]at hF
 simp only[Yr,Akh,i0x,QK,ZB]at hF
 have hE'0:E'≠[]:=by rw[hE'];simp
 obtain⟨t10,rfl,rowt⟩:=hm10.rowV hE'0
 have htn:=hms10 t10 rfl
 have y10t:=Ac rowt
 repeat' simp only[↓wBA,tTmc,seval,wH,wHl,hvg',row10,u1,u2,x10,y10,enV,vaC]
 refine (hF (Ap.app _ _)).mono ?_
 rintro _ s11 ⟨av11,L,U11,P11,rfl,hm11,hL11,hp11,f11,h11,k11,hms11⟩
 have he:((n,kp),(mm,tt),(va1,va2,va3)::vr)∈L:=(hL11 _).2 ⟨by rw[hE'];simp,.inr (Adn (Qr 0 ((n,kp),(mm,tt),(va1,va2,va3)::vr))),Yx _⟩
 have hLl:L.length≤E'.length:=List.Nodup.length_le_of_subset (hp11.imp fun h e=>Ln h (congrArg Prod.fst e)) fun y hy=>((hL11 y).1 hy).1
 obtain⟨t11,rfl,row11⟩:=hm11.rowV (List.ne_nil_of_mem he)
 have yr11:=Ac row11
 have roww:=f11.get ((Ap.app _ _).get row10) ut10
 have rown:=f11.get ((Ap.app _ _).get rowt) htn.2
 have yw:=Ac roww
 have yn:=Ac rown
 repeat' simp only[↓wBA,tTmc,seval,wHl]
 obtain⟨Q,hQ⟩:∃ Q:Nat→Bool,Q=fun i=>(L.take i).any fun y=>decide (y.1=(n,kp)):=⟨_,rfl⟩
 have hQ0:Q 0=false:=by rw[hQ];rfl
 have hQL:Q L.length=true:=by
  rw[hQ]
  simp only[ZS]
  exact List.any_eq_true.2 ⟨_,he,by simp⟩
 refine Ar (X:={ i:Nat // i≤L.length }) (fun i=>L.length - i.1) (fun i=>[(20,Av (Q i.1)),(21,Ad .i64 (i.1:Nat))]) [174,175,176,177,178,179,180,181,182,183,184,185,186,187,188,189,190,191,192,193,194,195,196,197,198,199,200,201,202,203,204,205,206,207,208,209,210,211,212,213,214,215,216,217,218,219] (fun i s=>s=s11) (⟨0,by omega⟩) ?_ ?_ ?_ ?_
 ·simp only[wHl,wHf,hQ0]
 ·rfl
 ·rintro _ _ rfl;exact QH _
 ·intro w J s hI
  simp only[wHl]
  obtain⟨i2,hi2⟩:=w
  obtain rfl:s=s11:=hI
  dsimp only at*
  have hi0':=nnI i2
  by_cases hlt2:i2<L.length
  ·have e3:=dT (i:=i2) (n:=L.length) hlt2
   obtain⟨⟨⟨yn',yk'⟩,⟨ym,yt⟩,yl⟩,hy⟩:∃ y,L[i2]? =some y:=⟨L[i2],by simp⟩
   have hgy:=Oh hy
   have hif3:((i2:Int)<(L.length:Int))=True:=eq_true (by omega)
   have hQs:Q (i2+1)=(Q i2||decide (((yn',yk'):Nat×Nat)=(n,kp))):=by
    rw[hQ]
    simp only[YU,hy,List.any_append,Option.toList_some,List.any_cons,List.any_nil,Bool.or_false]
   have hwi':=wI i2 (by omega)
   cases hq:Q i2 with
   |true=>
    rw[hq,Bool.true_or]at hQs
    repeat' first|simp only[↓wBA,tTmc,seval,Gh,wHl,e3,hwi']|(with_reducible refine dQ Gh 41 (some 180) ?_)
    exact⟨⟨i2+1,by omega⟩,by show L.length - (i2+1)<L.length - i2;omega,by simp only[hQs]⟩
   |false=>
    rw[hq,Bool.false_or]at hQs
    by_cases hr':((yn',yk'):Nat×Nat)=(n,kp)
    ·have hone:=Axr hp11 (QG hy) he hr'
     simp only[QJ]at hone
     obtain⟨⟨rfl,rfl⟩,⟨rfl,rfl⟩,rfl⟩:=hone
     rw[decide_eq_true rfl]at hQs
     repeat' first|simp only[↓wBA,tTmc,seval,Gh,wH,wHl,hgy,hif3,hi0',hwi',row11,roww,hvg',u1,u2,Bool.and_self]|(with_reducible refine dQ Gh 41 (some 180) ?_)
     exact⟨⟨i2+1,by omega⟩,by show L.length - (i2+1)<L.length - i2;omega,by simp only[hQs]⟩
    ·rw[decide_eq_false hr']at hQs
     have hrid:(((yn':Nat):Int)==((n:Nat):Int)&&(((yk':Nat):Int)==((kp:Nat):Int)&&true))=false:=by
      simp only[QJ]at hr'
      simp;omega
     repeat' first|simp only[↓wBA,tTmc,seval,Gh,wH,wHl,hgy,hif3,hi0',hwi',row11,roww,hvg',u1,u2,hrid]|(with_reducible refine dQ Gh 41 (some 180) ?_)
     exact⟨⟨i2+1,by omega⟩,by show L.length - (i2+1)<L.length - i2;omega,by simp only[hQs]⟩
  ·obtain rfl:i2=L.length:=by omega
   have e3:=dF (i:=L.length) (n:=L.length) hlt2
   repeat' simp only[↓wBA,tTmc,seval,wHl,e3]
   have l11:=f11.len
   simp only[QE,QF,QI]at l11
   exact⟨_,tw,t10,E',Adq rfl,by omega,rfl,rfl,congrArg Av hQL,roww,rown,hE20,fun y hy=>(ht9.ok y hy).2⟩
def Lr:Cq:=(.det 0 (.det 1 (.det 2 (.det 3 (.det 4 (.det 5 (.det 6 (.det 7 (.det 8 (.fin 9 (.det 10 .done)))))))))))
def tTmb:=aa wX <| aa wbu <| aa T3 <| aa T4 <| aa T22 <| aa T24 <| aa T26 <| aa T28 <| aa T29 <| aa T32 <| aa T34 <| aa T37 <| aa T38 <| aa T42 <| aa T43 <| aa T46 <| aa T51 <| aa T54 <| aa T56 <| aa T62 T66
theorem amkB {n0:Nat}{k made taken:Int}{f:List AV}{S:St}(h:MkA n0 k made taken f S):AWp Tryz.prog cx (Dh Tryz.prog cx) (sufC 11 (codeOf Tryz.f4)) f S (retA cx [.tmp 2] n0 fun q _=>q=Av true):=by
 obtain⟨x,b,p,dd,l,kh,first,t5,nm,cols,E,U6,P6,v6,T6,ns6,y,z2,z4,rfl,hn0,g4,g5,g6,g8,hZ⟩:=h
 obtain⟨h9x,h10x,h6,ht6,hyx2,hyx1,hb6,hst2,x6,u6,hE20⟩:=hZ
 refine Vg 7 (R:=MkB n0) ?_ (fun f s h=>amkC h)
 simp only[codeOf,Tryz.f4,sufC,preC,List.range,List.range.loop,QK,ZB,h9x,h10x,g4,g5,g6,g8]
 have y6:=Ac x6
 repeat' simp only[↓wBA,tTmb,seval,wHl,x6]
 refine (Aj7 h6 ht6.th ht6.f (hb6.mono (by omega)) (by have:=ht6.nl;omega) _ _ _ _).mono ?_
 rintro _ s7 ⟨av,U7,P7,rfl,hm7,f7,h7,k7,hms7⟩
 have hlav:=hm7.lenV
 have x7:=f7.get x6 u6
 have y7:=Ac x7
 have l7:=f7.len
 have u7:¬ U7 t5:=fun e=>(f7.own _ e).elim u6 fun e=>by omega
 by_cases hE0:E=[]
 ·subst hE0
  repeat' simp only[↓wBA,tTmb,seval,wHl,hlav]
  all_goals refine rtS ?_
  all_goals simp only[wRe,tTmb,seval]
 ·have hpos:0<E.length:=XX.2 hE0
  have e0:((E.length:Int)==0)=false:=by simp;omega
  obtain⟨tw,rfl,hrow⟩:=hm7.rowV hE0
  have yrow:=Ac hrow
  obtain⟨htw,utw⟩:=hms7 tw rfl
  obtain⟨kk,hkk⟩:∃ kk:Nat,IntKind.u64.wrap k=(kk:Int):=⟨(IntKind.u64.wrap k).toNat,by rw[IntKind.wrap_u64];omega⟩
  have hul:IntKind.u64.wrap (E.length:Int)=(E.length:Int):=by rw[IntKind.wrap_u64];omega
  have hz:((E.length:Int)=0)=False:=eq_false (by omega)
  obtain⟨j,hj⟩:∃ j,j=kk % E.length:=⟨_,rfl⟩
  have hjl:j<E.length:=by rw[hj];exact WW _ hpos
  have htm:(kk:Int).tmod (E.length:Int)=(j:Int):=by rw[WR (by omega)];omega
  have hwj:IntKind.i64.wrap (j:Int)=(j:Int):=wrap_i64 (by omega) (by omega)
  have u1:=nnI j
  have u2:((j:Int)<(E.length:Int))=True:=eq_true (by omega)
  obtain⟨A,e,B,hEq,hAl⟩:∃ A e B,E=A++e::B∧A.length=j:=⟨E.take j,E[j],E.drop (j+1),by rw[← YB hjl,ZI],by rw[QZ];omega⟩
  obtain⟨⟨n,kp⟩,⟨m0,t0⟩,vs⟩:=e
  have hvg:=Oh (E:=E) (i:=j) (n:=n) (k:=kp) (m:=m0) (t:=t0) (l:=vs) (by rw[hEq,←hAl];simp)
  have hb7:Bud P7 700:=hb6.kp (k:=700) k7 (by omega)
  have ht7:Tab v6 T6 P7.pages first ns6 (A++((n,kp),(m0,t0),vs)::B) [y] 3:=by rw[k7.pages,←hEq];exact ht6
  obtain⟨⟨_,_,o3,_,_⟩,o6⟩:=ht7.ok ((n,kp),(m0,t0),vs) (by simp)
  obtain⟨va,vr,rfl⟩:∃ va vr,vs=va::vr:=by
   cases vs with
   |nil=>simp at o6
   |cons a r=>exact⟨a,r,rfl⟩
  have hwd:=Arr made taken
  have hnt:(tw=t5)=False:=eq_false (by omega)
  have hs2:∀ c:List AV,((E.map Dt).set j c)[j]? =some c:=fun c=>by rw[XW (by simpa using hjl)]
  obtain⟨LE,hLE⟩:∃ LE,LE=E.map Dt:=⟨_,rfl⟩
  rw[← hLE]at hrow hvg hs2
  rcases Bool.eq_false_or_eq_true (wiN made&&wiN taken)with hw|hw
  case inl=>
   rw[hw]at hwd
   rw[QV]at hw
   obtain⟨hw1,hw2⟩:=hw
   unfold wiN at hw1 hw2
   simp only[QV,decide_eq_true_eq]at hw1 hw2
   obtain⟨m,rfl⟩:∃ m:Nat,made=m:=⟨made.toNat,by omega⟩
   obtain⟨tk,rfl⟩:∃ tk:Nat,taken=tk:=⟨taken.toNat,by omega⟩
   repeat' first|simp only[↓wBA,tTmb,Cv,seval,Lr,wH,wHl,hlav,e0,hkk,hul,hz,htm,hwj,hvg,hrow,u1,u2,x7]|(with_reducible refine dQ Lr 11 (some 103) ?_)
   refine (Axi h7 ht7 (hb7.mono (by omega)) (by omega) (by omega) _ _ _ _ _).mono ?_
   rintro _ s8 ⟨rfl,U8,P8,v8,f8,h8,k8,hv8,ht8⟩
   have l8:=f8.len
   have x8:=f8.get x7 u7
   have y8:=Ac x8
   have u8:¬ U8 t5:=fun e=>(f8.own _ e).elim u7 fun e=>by omega
   have ut8:¬ U8 tw:=fun e=>(f8.own _ e).elim utw fun e=>by omega
   have row8:=f8.get hrow utw
   have yr8:=Ac row8
   repeat' first|simp only[↓wBA,tTmb,seval,wH,wHl,hvg,row8,yr8,u1,u2,hs2]|((with_reducible show Aa _ _ _ _ _);refine (hwd _).eq ?_)
   obtain⟨S9,hS9⟩:∃ S9,S9=List.set s8 tw (some (Ob.row 5 (LE.set j [AV.p (PV.v (Value.int IntKind.i64 (n:Nat))),AV.p (PV.v (Value.int IntKind.i64 (kp:Nat))),AV.p (PV.v (Value.int IntKind.i64 (m:Nat))),AV.p (PV.v (Value.int IntKind.i64 (tk:Nat))),AV.p (PV.sl 3 (enV (va::vr)))]))):=⟨_,rfl⟩
   simp only[← hS9]
   refine⟨_,b,p,dd,l,kh,first,t5,nm,cols,A++((n,kp),(m,tk),va::vr)::B,U8,P8,v8,T6,ns6,y,z2,z4,A,B,n,kp,m,tk,tw,va,vr,Adq rfl,by rw[hS9,ZW];omega,⟨rfl,rfl,by rw[hS9];exact h8.set ut8 _,by rw[k8.pages];exact ht8,hyx2,hyx1,hb7.kp (k:=700) k8 (by omega),hst2,by rw[hS9,QO (by omega)];exact x8,u8,by rw[hEq]at hE20;simpa using hE20⟩,?_,by rw[hAl];rfl,rfl,o3 _ (by simp),?_,ut8,by omega⟩
   ·rw[hEq];simp
   ·rw[hS9,XW yr8,hLE,hEq,←hAl]
    exact congrArg (fun z=>some (some (Ob.row 5 z))) (Ang A B _ ((n,kp),(m,tk),va::vr))
  case inr=>
   rw[hw]at hwd
   repeat' first|simp only[↓wBA,tTmb,Cv,seval,Lr,wH,wHl,hlav,e0,hkk,hul,hz,htm,hwj,hvg,hrow,u1,u2,x7]|(with_reducible refine dQ Lr 11 (some 103) ?_)
   refine (Anc hw _ _ _ _ _ _).mono ?_
   rintro _ s8 ⟨rfl,a8⟩
   have l8:=a8.len
   have x8:=a8.get x7
   have y8:=Ac x8
   have row8:=a8.get hrow
   have yr8:=Ac row8
   repeat' first|simp only[↓wBA,tTmb,seval,wHl]|((with_reducible show Aa _ _ _ _ _);refine (hwd _).eq ?_)
   exact⟨_,b,p,dd,l,kh,first,t5,nm,cols,A++((n,kp),(m0,t0),va::vr)::B,U7,P7,v6,T6,ns6,y,z2,z4,A,B,n,kp,m0,t0,tw,va,vr,Adq rfl,by omega,⟨rfl,rfl,h7.ap a8,ht7,hyx2,hyx1,hb7,hst2,x8,u7,by rw[hEq]at hE20;simpa using hE20⟩,by rw[hEq];simp,by rw[hAl];rfl,rfl,o3 _ (by simp),by rw[row8,hLE,hEq],utw,by omega⟩
def Yz:Cq:=(.det 0 (.det 1 (.det 2 (.det 3 (.det 4 (.det 5 (.det 6 (.fin 7 .done))))))))
def tT16:=aa wX <| aa wbu <| aa T3 <| aa T4 <| aa T22 <| aa T24 <| aa T26 <| aa T28 <| aa T29 <| aa T32 <| aa T34 <| aa T37 <| aa T38 <| aa T42 <| aa T43 <| aa T46 <| aa T51 <| aa T54 <| aa T56 <| aa T62 T66
theorem Anh (rows:List (List Va))(k made taken:Int)(hrl:rows.length≤140737488351232)(hr:∀ r∈rows,r.length≤4398046511104∧∀ v∈r,i64R v.2.1)(σ:St):Aa Tryz.prog 4 [.agg [.p (.sl 1 (enVV rows)),Ad .i64 k,Ad .i64 made,Ad .i64 taken]] σ fun q _=>q=Av true:=by
 have hla:=Acu rows
 refine Ab Am An Tryz.func4 (by kernel_rfl) rfl (nt:=277) (rs:=[.tmp 2]) rfl rfl ?_
 refine Vg 11 (R:=MkA σ.length k made taken) ?_ (fun f s h=>amkB h)
 simp only[preC]
 repeat' simp only[↓wBA,tT16,seval]
 refine (Ana _).mono ?_
 rintro _ s0 ⟨a0,rfl⟩
 have l0:=a0.len
 simp only[QE,QF,QI]at l0
 have x0:=a0.get (t:=σ.length) (x:=some (Ob.row 4 [[AV.p (.sl 1 (enVV rows)),Ad .i64 k,Ad .i64 made,Ad .i64 taken]])) (by simp[Ad])
 have y0:=Ac x0
 repeat' simp only[↓wBA,tT16,seval,x0]
 refine (Alf 4000 (by omega) s0).mono ?_
 rintro _ s1 ⟨dd,Fd,rfl,a1,hd,hFd⟩
 repeat' simp only[↓wBA,tT16,seval]
 refine (Alf 20000 (by omega) s1).mono ?_
 rintro _ s2 ⟨dl,Fl,rfl,a2,hl,hFl⟩
 have hd2:=hd.ap a2
 have l1:=a1.len
 have l2:=a2.len
 repeat' simp only[↓wBA,tT16,seval]
 refine (Aix hd2 hl (fun t h1 h2=>by have:=hd.lt t h1;have:=hFl t h2;omega) (by omega) (by omega) 8 (by omega) (by omega)).mono ?_
 rintro _ s3 ⟨p,l,kh,G,P,rfl,a3,hP,p1,p2,p3,p4,p5,p6,p7,p8,p9⟩
 have l3:=a3.len
 have hpg:P.pages=500:=by rw[p1];rfl
 have hbud:Bud P 1000000:=⟨by omega,by rw[p7];simp,by omega⟩
 repeat' first|simp only[↓wBA,tT16,seval]|((with_reducible show Aa _ _ _ _ _);refine (Ai2 hP).mono ?_;rintro _ s4 ⟨rfl,a4,h4⟩)
 have l4:=a4.len
 refine (Akm _).mono ?_
 rintro _ s4' ⟨rfl,nm,cols,rfl,hcl⟩
 have hc0:cols≠[]:=fun e=>by rw[e]at hcl;simp at hcl
 repeat' simp only[↓wBA,tT16,seval,wH]
 refine Aa.frzArgs ?_
 refine (Apc (w:=3) (T:=fun n=>n==0) (ks:=[(i0x,Gg)]) (h4.ap (Ap.app _ _)) (by rw[p8];exact Aoo (by omega)) (by omega) (by omega) rfl (fun q hq=>by simpa using hq) (hbud.mono (by omega)) (Apd _) (Ape rfl) (by simp[i0x]) (by simp[Gg,Mx];omega) nm hc0 (by omega) (by simp)).mono ?_
 rintro _ s5 ⟨first,X,U5,P5,v5,T5,rfl,f5,h5,k5,hT5,ht05,hX5,ht5⟩
 obtain⟨x,rfl,hxx,hxk⟩:=Axm hX5
 have l5:=f5.len
 simp only[QE,QF,QI]at l5
 have hlt5:=h5.lt
 have hb5:Bud P5 1000:=hbud.kp (k:=1000) k5 (by omega)
 have hpg5:P5.pages=500:=by rw[k5.pages];exact hpg
 obtain⟨K,hK⟩:∃ K,K=[x].map Lm:=⟨_,rfl⟩
 have hKe:K=[(i0x,x.root,Gg)]:=by rw[hK];simp[Lm,hxx,hxk]
 rw[Akn,←hK]
 obtain⟨z2,z4,hst⟩:∃ z2 z4,stoK nm cols K first= .agg [.p (.v (.string nm)),.p (.sl 4 cols),.p z2,.p (.v (.int .i64 (first:Nat))),.p z4]:=⟨_,_,rfl⟩
 rw[hst]
 repeat' simp only[↓wBA,tT16,seval,wH]
 obtain⟨S,hS⟩:∃ S,S=s5++[some (Ob.row 5 [[AV.p (.v (.string nm)),AV.p (.sl 4 cols),AV.p z2,AV.p (.v (.int .i64 (first:Nat))),AV.p z4]])]:=⟨_,rfl⟩
 have aS:Ap s5 S:=⟨_,hS⟩
 have lS:S.length=s5.length+1:=by rw[hS];simp
 have xS:S[s5.length]? =some (some (Ob.row 5 [[AV.p (.v (.string nm)),AV.p (.sl 4 cols),AV.p z2,AV.p (.v (.int .i64 (first:Nat))),AV.p z4]])):=by rw[hS];simp
 have uS:¬ U5 s5.length:=fun e=>ZJ _ (hlt5 _ e)
 rw[← hS]
 have hT0:TbS S S s3.length p dd l kh first U5 P5 K 3 []:=⟨U5,P5,v5,T5,[first],[x],Fr.refl _ _,h5.ap aS,Kp.refl _ _,by rw[hpg5,←hpg];exact hT5,ht05,hK.symm,by rw[hpg5,←hpg];exact ht5⟩
 refine Anb (X:={ q:Nat×List Ver // q.1≤rows.length∧q.1≤20∧q.2.length≤q.1 }) (fun q=>[(11,Ad .i64 (q.1.1:Nat))]) [51,52,53,54,55,56,57,58,59,60,61,62,63,64,65,66,67,68,69,70,71,72] (fun q s=>TbS S s s3.length p dd l kh first U5 P5 K 3 q.1.2) 0 rfl ?_ ?_
 ·skip
  refine Ar (X:={ q:Nat×List Ver // q.1≤rows.length∧q.1≤20∧q.2.length≤q.1 }) (fun q=>rows.length - q.1.1) (fun q=>[(11,Ad .i64 (q.1.1:Nat))]) [51,52,53,54,55,56,57,58,59,60,61,62,63,64,65,66,67,68,69,70,71,72] (fun q s=>S.length≤s.length∧TbS S s s3.length p dd l kh first U5 P5 K 3 q.1.2) (⟨(0,[]),by simp⟩) ?_ ?_ ?_ ?_
  ·simp only[wHl,wHf]
  ·exact⟨QH _,hT0⟩
  ·rintro _ _ ⟨h,_⟩;exact h
  ·intro y J s hI
   simp only[wHl]
   obtain⟨⟨i,E⟩,hi,hi20,hEl⟩:=y
   obtain⟨ls,hT⟩:=hI
   have hi:i≤rows.length:=hi
   have hi20:i≤20:=hi20
   have hEl:E.length≤i:=hEl
   dsimp only at*
   have hi0:=nnI i
   have hwi:=wI i (by omega)
   have xs:=hT.get xS uS
   have ys:=Ac xs
   by_cases hlt:i<rows.length
   ·have e1:=dT (i:=i) (n:=rows.length) hlt
    by_cases hl20:i<20
    ·have e2:decide ((i:Int)<20)=true:=decide_eq_true (by omega)
     have hg:=Amk rows i hlt
     have hif:((i:Int)<(rows.length:Int))=True:=eq_true (by omega)
     have hm:=hr _ (XU hlt)
     generalize rows[i]=vs at hg hm
     have hI:=fun {s':St} (h:TbS S s' s3.length p dd l kh first U5 P5 K 3 E)=>A2p (vs:=vs) (made:=i) (cols:=cols) h (hb5.mono (by omega)) (by omega) (by omega) (by omega) (by omega) hm.1 hm.2 (by omega) (fun q hq σ=>by rw[hKe,ZR]at hq;subst hq;exact aof _ rfl σ) (by rw[hKe,hpg5];simp only[Ane,Gg,QK,ZB,XI,List.sum_nil];have:=So (E.length+1) 21 (by omega);have h21:Mx 21=86:=rfl;omega) nm hcl (by rw[hKe];simp)
     rw[hst]at hI
     repeat' first|simp only[↓wBA,tT16,seval,Yz,wHl,hla,e2,hg,hif,hi0,xs]|(with_reducible refine dQ Yz 8 (some 65) ?_)
     refine Aa.frzArgs ?_
     refine (hI hT).mono ?_
     rintro _ s' ⟨n',k',e,E',rfl,hT',ls',hE'⟩
     repeat' simp only[↓wBA,tT16,seval,wHl,hwi]
     refine⟨⟨(i+1,E'),by show i+1≤rows.length;omega,by show i+1≤20;omega,by show E'.length≤i+1;rcases hE' with⟨_,h⟩|⟨_,h⟩<;>rw[h]<;>omega⟩,by show rows.length - (i+1)<rows.length - i;omega,⟨by omega,hT'⟩,by simp only[]⟩
    ·have e2:decide ((i:Int)<20)=false:=decide_eq_false (by omega)
     repeat' simp only[↓wBA,tT16,seval,wHl,hla,e1,e2,wOu]
     exact⟨⟨(i,E),hi,hi20,hEl⟩,hT,by simp only[]⟩
   ·have e1:=dF (i:=i) (n:=rows.length) hlt
    repeat' simp only[↓wBA,tT16,seval,wHl,hla,e1,wOu]
    exact⟨⟨(i,E),hi,hi20,hEl⟩,hT,by simp only[]⟩
 ·intro y J s hI
  simp only[wHl]
  obtain⟨⟨i,E⟩,hi,hi20,hEl⟩:=y
  have hi20:i≤20:=hi20
  have hEl:E.length≤i:=hEl
  dsimp only at*
  obtain⟨U6,P6,v6,T6,ns6,X6,f6,h6,k6,hT6,ht06,hX6,ht6⟩:=hI
  obtain⟨y,rfl,hyx⟩:=Axn (hX6.trans hK)
  have hyx1:y.x=x.x:=congrArg Prod.fst hyx
  have hyx2:y.kd=x.kd:=congrArg (fun q=>q.2.2) hyx
  rw[hxx]at hyx1
  rw[hxk]at hyx2
  have hst2:Of nm cols [y] first= .agg [.p (.v (.string nm)),.p (.sl 4 cols),.p z2,.p (.v (.int .i64 (first:Nat))),.p z4]:=by rw[← hst,Akn,hX6]
  have x6:=f6.get xS uS
  have u6:¬ U6 s5.length:=fun e=>(f6.own _ e).elim uS fun e=>by omega
  have l6:=f6.len
  repeat' simp only[↓wBA,tT16,seval]
  exact⟨_,s3.length,p,dd,l,kh,first,s5.length,nm,cols,E,U6,P6,v6,T6,ns6,y,z2,z4,Adq rfl,by omega,rfl,rfl,rfl,rfl,⟨rfl,rfl,h6,by rw[k6.pages];exact ht6,hyx2,hyx1,hb5.kp (k:=700) k6 (by omega),hst2,x6,u6,by omega⟩⟩
theorem wfT {n:Int}(h:(Lit.int .i64 n).wf=true):i64R n:=by
 simp[Lit.wf,IntKind.min,IntKind.max,IntKind.signed,IntKind.bits]at h
 unfold i64R;omega
theorem Adr:∀ ls:List (List PV),(∀ c∈ls,Cd [.int .i64,.int .i64,.str] c)→∃ r:List Va,enV r=ls∧∀ v∈r,i64R v.2.1
 |[],_=>⟨[],rfl,by simp⟩
 |c::ls,h=>by
  obtain⟨r,rfl,hr⟩:=Adr ls fun c hc=>h c (by simp[hc])
  have h0:=h c (by simp)
  simp only[Cd,Ui]at h0
  obtain⟨_,_,rfl,⟨k,rfl,_⟩,_,_,rfl,⟨n,rfl,hn⟩,_,_,rfl,⟨s,rfl,_⟩,rfl⟩:=h0
  refine⟨(k,n,s)::r,rfl,fun v hv=> ?_⟩
  rcases QP.1 hv with rfl|hv
  ·exact wfT hn
  ·exact hr v hv
theorem Ads:∀ ls:List (List PV),(∀ c∈ls,Cd [.sl 32 [.int .i64,.int .i64,.str]] c)→∃ rows:List (List Va),enVV rows=ls∧∀ r∈rows,r.length≤4398046511104∧∀ v∈r,i64R v.2.1
 |[],_=>⟨[],rfl,by simp⟩
 |c::ls,h=>by
  obtain⟨rows,rfl,hr⟩:=Ads ls fun c hc=>h c (by simp[hc])
  have h0:=h c (by simp)
  simp only[Cd]at h0
  obtain⟨x,_,rfl,hx,rfl⟩:=h0
  simp only[Ui]at hx
  obtain⟨m,rfl,hl,hm⟩:=hx
  obtain⟨r,rfl,hv⟩:=Adr m hm
  rw[Ea]at hl
  refine⟨r::rows,rfl,fun q hq=> ?_⟩
  rcases QP.1 hq with rfl|hq
  ·exact⟨by omega,hv⟩
  ·exact hr q hq
abbrev Ako:List Sh:=[.sl 24 [.sl 32 [.int .i64,.int .i64,.str]],.int .i64,.int .i64,.int .i64]
theorem Akp (ps:List PV)(cs:Array Value)(W:World)(hx:Cd Ako ps)(hv:Nw W ps cs.toList)(hG:Aiy W):
 Calls Tryz.prog 4 #[.agg cs] W fun e W'=>e= .returned (.bool true)∧Below W.heap.size W W':=by
 simp only[Cd]at hx
 obtain⟨x,_,rfl,hx,y1,_,rfl,h1,y2,_,rfl,h2,y3,_,rfl,h3,rfl⟩:=hx
 simp only[Ui]at hx h1 h2 h3
 obtain⟨ls,rfl,hl,hc⟩:=hx
 obtain⟨k,rfl,_⟩:=h1
 obtain⟨m,rfl,_⟩:=h2
 obtain⟨t,rfl,_⟩:=h3
 obtain⟨rows,rfl,hr⟩:=Ads ls hc
 rw[Acu]at hl
 exact Ae9 (W:=W) (vs:=[.agg cs]) (Anh rows k m t (by omega) hr []) (by
  simp only[Af]
  exact⟨_,_,rfl,Nw.agg hv,rfl⟩) hG
end Go.Proofs.YtpoigihfeehehaaGreatDoor
namespace Go.Proofs.YtpoigihfeehehaaGreatDoor
open Go.RowKit Go.Lib Go.Shelf
abbrev A2r:List (String×DataW Unit):=[("unicode/utf8.acceptRanges",Rows.laid_unicode_utf8_acceptRanges),("unicode/utf8.first",Rows.laid_unicode_utf8_first)]
noncomputable def E8 (os:Os):World:=
 let w0:=World.holding Tryz.prog os ⟨#[],#[],[]⟩
 let put (h:Array Obj) (g:Nat) (cs:Array Value):Array Obj:=h.modify g fun
  | .cells _ t frozen=>.cells cs t frozen
  |o=>o
 let h3:=put w0.heap 2 ((List.range 16).flatMap fun i=>[Value.int .u8 (Lib.accLo i),Value.int .u8 (Lib.accHi i)]).toArray
 let h4:=put h3 1 (Lib.firstTab.map fun z=>Value.int .u8 z).toArray
 { w0 with heap:=h4 }
theorem Axs (os:Os)(args:Array Value):LaidIn Tryz.prog ((E8 os).forCall (fun _ _=>0) ⟨#[],args,[]⟩).memory [("unicode/utf8.acceptRanges",Rows.laid_unicode_utf8_acceptRanges)] [2]:=
 LaidIn.of_run _ 8 (by kernel_rfl) (by kernel_rfl) (by kernel_rfl) (by kernel_rfl)
theorem Axt (os:Os)(args:Array Value):LaidIn Tryz.prog ((E8 os).forCall (fun _ _=>0) ⟨#[],args,[]⟩).memory [("unicode/utf8.first",Lib.firstData)] [1]:=
 LaidIn.of_run _ 8 (by kernel_rfl) (by kernel_rfl) (by kernel_rfl) (by kernel_rfl)
theorem Ani (os:Os)(args:Array Value):laidMet Tryz.prog A2r ((E8 os).forCall (fun _ _=>0) ⟨#[],args,[]⟩).memory:=by
 have hB:LaidIn Tryz.prog ((E8 os).forCall (fun _ _=>0) ⟨#[],args,[]⟩).memory [("unicode/utf8.first",Rows.laid_unicode_utf8_first)] [1]:=by
  unfold Rows.laid_unicode_utf8_first;rw[Pinned.utf8First_eq];exact Axt os args
 exact ((Axs os args).append hB (by kernel_rfl)).met
theorem Afi {W:World}(hsh:W.ShapedOpen Tryz.prog):Aiy W:=by
 intro x hx
 rcases QS.1 hx with hx|hx
 ·cases hx
 ·simp only[ZR]at hx
  subst hx
  obtain⟨zero,t,h0,hz,hb,hc,hu⟩:∃ zero t,((begin Tryz.prog (fun _ _=>0) default).world.heap[0]?).bind Obj.row? =some (zero,t)∧zero.size=1∧Tryz.prog.buildable t=true∧Tryz.prog.cellTypes Tryz.prog.depth t=some [t]∧Tryz.prog.underlying t=some (.int .i64):=⟨#[.int .i64 0],3,by kernel_rfl,rfl,by kernel_rfl,by kernel_rfl,by kernel_rfl⟩
  obtain⟨cs,hh,hs,_⟩:=hsh.1 _ zero t (of_decide_eq_true (by kernel_rfl)) h0
  obtain⟨m,hm⟩:=cell_of_shapedOpen_int hsh (of_decide_eq_true (by kernel_rfl)) h0 hz hb hc hu
  refine⟨cs,t,hh,m,?_⟩
  rw[cell_of_row _ _ _ _ _ _ hh]at hm
  apply Array.ext_getElem?
  intro i
  rcases i with _|i
  ·rw[hm];rfl
  ·rw[XT (by omega)];rfl
