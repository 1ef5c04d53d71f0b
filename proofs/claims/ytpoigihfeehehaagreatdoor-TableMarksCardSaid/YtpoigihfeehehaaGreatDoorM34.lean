/- Heaps: Scan. Heaps: what a scan finds; rows that are written. -/
import Derived.Test.YtpoigihfeehehaaGreatDoorM33
set_option linter.all false
set_option maxRecDepth 100000
set_option maxHeartbeats 32000000
namespace Go.Proofs.YtpoigihfeehehaaGreatDoor
open Go.RowKit
open List (length_tail)
def tHk:=aa wX <| aa wbu <| aa T3 <| aa T29 <| aa T38 <| aa T51 <| aa T116 <| aa T120 <| aa Y1 T165
theorem c1y:((1:Nat):Int)=1:=nr rfl
theorem Kr.cells {q:St}{av:AV}{E:TypeId}{e:Nat}{ls:List (List PV)}(h:Kr q av E e ls):Cu av=some [av]:=by
 rcases h with⟨rfl,_⟩|⟨t,rfl,_⟩<;>rfl
def Nx (n:Nat):Nat→List (Option (List UInt8))→List (Nat×Nat×List UInt8)
 |_,[]=>[]
 |k,none::ss=>Nx n (k+1) ss
 |k,some r::ss=>(n,k,r)::Nx n (k+1) ss
theorem K5 (n:Nat)(x:Option (List UInt8)):∀ (l:List (Option (List UInt8))) (k:Nat),Nx n k (l++[x])=Nx n k l++(match x with|some r=>[(n,k+l.length,r)]|none=>[])
 |[],k=>by cases x<;>simp[Nx]
 |none::l,k=>by
  simp only[ZN,Nx,K5 n x l (k+1),QF]
  cases x<;>simp[ZY,VI 1]
 |some r::l,k=>by
  simp only[ZN,Nx,K5 n x l (k+1),QF]
  cases x<;>simp[ZY,VI 1]
theorem N9 (n:Nat):∀ (l:List (Option (List UInt8))) (k:Nat),(Nx n k l).length≤l.length
 |[],_=>QH _
 |none::l,k=>by have:=N9 n l (k+1);simp only[Nx,QF];omega
 |some r::l,k=>by have:=N9 n l (k+1);simp only[Nx,QF];omega
def Y2 (e:Nat×Nat×List UInt8):List PV:=[.v (.int .i64 (e.1:Nat)),.v (.int .i64 (e.2.1:Nat)),.sl 1 (Ax e.2.2)]
def entP (n:Nat)(pg:List UInt8):List (Nat×Nat×List UInt8):=Nx n 1 (Au pg).tail
theorem Awd {σ:St}{t n:Nat}{av:AV}{ls:List (List PV)}{pg:List UInt8}(hpg:pg.length=512)(hbox:σ[t]? =some (some (.row 1 [[av]])))(ho:Kr σ av 120 3 ls)(hne:Ch av≠some t)(hlen:ls.length≤900000):
 Aa Tryz.prog 87 [Ad .i64 (n:Nat),A6 pg,.mp t 1 0 0] σ fun r σ'=>r=Ad .i64 0∧∃ av',σ'[t]? =some (some (.row 1 [[av']]))∧Kr σ' av' 120 3 (ls++(entP n pg).map Y2)∧Fr σ σ' (fun q=>q=t∨Ch av=some q) (fun q=>q=t∨Ch av'=some q)∧Ch av'≠some t:=by
 have hpc:=Ao hpg
 have hsl:=E2 pg
 have hlt:=Ac hbox
 obtain⟨ts,hts⟩:∃ ts,ts=(Au pg).tail:=⟨_,rfl⟩
 have hbig:ts.length≤124:=by rw[hts,length_tail];omega
 refine Ab Am An Tryz.func87 (by kernel_rfl) rfl (nt:=27) (rs:=[.tmp 5]) rfl rfl ?_
 repeat' simp only[↓wBA,tHk,seval,A6,hpc]
 obtain⟨S0,hS0⟩:∃ S0,S0=σ++[some (Ob.row 512 [Aq pg])]:=⟨_,rfl⟩
 have aS:Ap σ S0:=⟨_,hS0⟩
 have hb0:S0[σ.length]? =some (some (.row 512 [Aq pg])):=by rw[hS0];simp
 have hl0:S0.length=σ.length+1:=by rw[hS0];simp
 have ho0:=ho.same (q':=S0) fun q hq=>by rw[hS0,QD (ho.lt hq)]
 rw[← hS0]
 refine Ar (X:={ j:Nat // j≤ts.length }) (fun j=>ts.length - j.1) (fun j=>[(6,Ad .i64 (j.1+1:Nat))]) [7,8,9,10,11,12,13,14,15,16,17,18,19,20,21,22,23,24,25,26,27,28,29] (fun j s=>∃ av',s[t]? =some (some (.row 1 [[av']]))∧Kr s av' 120 3 (ls++(Nx n 1 (ts.take j.1)).map Y2)∧Fr S0 s (fun q=>q=t∨Ch av=some q) (fun q=>q=t∨Ch av'=some q)∧Ch av'≠some t) (⟨0,by omega⟩) ?_ ?_ ?_ ?_
 ·simp only[wHl,wHf,c1y,ZC]
 ·exact⟨av,aS.get hbox,by simpa [Nx]using ho0,Fr.refl _ _,hne⟩
 ·rintro _ _ ⟨_,_,_,h,_⟩;exact h.len
 ·intro y J s hI
  simp only[wHl]
  obtain⟨j,hj⟩:=y
  obtain⟨av',hbx,how,f1,hne1⟩:=hI
  dsimp only at*
  have hbp:=f1.get hb0 (fun e=>e.elim (fun e=>by omega) fun e=>by have:=ho.lt e;omega)
  have yp:=Ac hbp
  have yb:=Ac hbx
  by_cases hjl:j<ts.length
  ·have hsn:(Au pg).length=ts.length+1:=by rw[hts,length_tail]at *;omega
   have e1:decide (((j+1:Nat):Int)<((Au pg).length:Int))=true:=by simp;omega
   obtain⟨x,hx⟩:∃ x,ts[j]? =some x:=⟨ts[j],by simp⟩
   have hg:Ip pg ((j+1:Nat):Int)=x:=by
    unfold Ip
    rw[if_neg (by omega),ZZ,QM]
    have:(Au pg)[j+1]? =some x:=by rw[← hx,hts,List.getElem?_tail]
    rw[this];rfl
   have htake:ts.take (j+1)=ts.take j++[x]:=by rw[YU,hx];rfl
   have hwj:=wI (j+1) (by omega)
   have hll:=N9 n (ts.take j) 1
   simp only[QZ]at hll
   cases x with
   |none=>
    repeat' first|simp only[↓wBA,tHk,seval,wH,wHl,hpc,hbp,e1,hg,hwj,Option.isSome_none]|((with_reducible show Aa _ _ _ _ _);first|refine (Ps pg hpg _).eq ?_|refine (aget pg (j+1:Nat) hpg _).eq ?_)
    refine⟨⟨j+1,by omega⟩,by show ts.length - (j+1)<ts.length - j;omega,⟨av',hbx,?_,f1,hne1⟩,by simp only[]⟩
    dsimp only
    rw[htake,K5]
    simpa using how
   |some r=>
    repeat' first|simp only[↓wBA,tHk,seval,wH,wHl,hpc,hbp,e1,hg,WX,recP,hbx]|((with_reducible show Aa _ _ _ _ _);first|refine (Ps pg hpg _).eq ?_|refine (aget pg (j+1:Nat) hpg _).eq ?_)
    have hll2:(ls++(Nx n 1 (ts.take j)).map Y2).length≤900200:=by simp only[QE,QL];omega
    have how1:=how.same (q':=s++[some (.right 120 3)]) fun q hq=>QD (how.lt hq)
    obtain⟨av2,s2,h1,h2,h3,h4,h5⟩:=G3 (q:=s++[some (.right 120 3)]) (y:=.own s.length 3 [[.v (.int .i64 (n:Nat)),.v (.int .i64 (j+1:Nat)),.sl 1 (Ax r)]]) (m:=[[.v (.int .i64 (n:Nat)),.v (.int .i64 (j+1:Nat)),.sl 1 (Ax r)]]) Kh how1 rfl (by simp) (by simp only[QF,QI];omega) (by simp only[QF,QI];omega)
    simp only[QE,QF,QI,ZC]at h1 h3 h4 h5
    have hbx2:s2[t]? =some (some (.row 1 [[av']])):=by rw[h4 t (by omega) hne1,QD yb];exact hbx
    have yb2:=Ac hbx2
    have hcl:=h2.cells
    repeat' simp only[↓wBA,tHk,seval,wH,wHl,h1,hbx2,yb2,hwj,hcl]
    have hn2:Ch av2≠some t:=fun e=>(h5 t e).elim hne1 fun e=>by omega
    refine⟨⟨j+1,by omega⟩,by show ts.length - (j+1)<ts.length - j;omega,⟨av2,by simp[],?_,?_,hn2⟩,by simp only[]⟩
    ·dsimp only
     rw[htake,K5]
     have he:(ls++List.map Y2 (Nx n 1 (ts.take j)++[(n,1+(ts.take j).length,r)]))=(ls++List.map Y2 (Nx n 1 (ts.take j)))++[[.v (.int .i64 (n:Nat)),.v (.int .i64 (j+1:Nat)),.sl 1 (Ax r)]]:=by
      have hjj:1+(ts.take j).length=j+1:=by rw[QZ];omega
      rw[hjj];simp[Y2]
     show Kr _ av2 _ 3 (ls++List.map Y2 (Nx n 1 (ts.take j)++[(n,1+(ts.take j).length,r)]))
     rw[he]
     exact h2.same fun q hq=>QO fun e=>hn2 (by rw[e];exact hq)
    ·refine⟨by have:=f1.len;simp;omega,fun q hq hnf=> ?_,fun q hq=> ?_⟩
     ·have hnt:t≠q:=fun e=>hnf (.inl e.symm)
      rw[QO hnt]
      have hno:Ch av'≠some q:=fun e=>(f1.own q (.inr e)).elim hnf fun e=>by omega
      have:=f1.len
      rw[h4 q (by omega) hno,QD (by omega)]
      exact f1.keep q hq hnf
     ·have:=f1.len
      rcases hq with h|h
      ·exact .inl (.inl h)
      ·exact (h5 q h).elim (fun e=>f1.own q (.inr e)) fun e=>.inr (by omega)
  ·obtain rfl:j=ts.length:=by omega
   have e1:decide (((ts.length+1:Nat):Int)<((Au pg).length:Int))=false:=by
    have:(Au pg).length≤ts.length+1:=by rw[hts,length_tail];omega
    simp;omega
   repeat' first|simp only[↓wBA,tHk,seval,wHl,hpc,hbp,e1]|((with_reducible show Aa _ _ _ _ _);refine (Ps pg hpg _).eq ?_)
   have l1:=f1.len
   all_goals refine rtS ?_
   all_goals simp only[wRe,tHk,seval]
   refine⟨av',hbx,?_,(Ap.fr aS).trans f1,hne1⟩
   rw[ZS,hts]at how
   exact how
def Jn (v:Nat→List UInt8)(ns:List Nat):List (Nat×Nat×List UInt8):=ns.flatMap fun n=>entP n (v n)
theorem Al1 {n:Nat}{pg:List UInt8}:(entP n pg).length≤124:=by
 have h1:=N9 n (Au pg).tail 1
 have h2:=E2 pg
 have h3:(Au pg).tail.length≤(Au pg).length:=by rw[length_tail];omega
 unfold entP;omega
theorem Um (v:Nat→List UInt8):∀ ns:List Nat,(Jn v ns).length≤124*ns.length
 |[]=>QH _
 |n::ns=>by
  have h1:=Um v ns
  have h2:=Al1 (n:=n) (pg:=v n)
  simp only[Jn,YA,QE,QF]at h1 ⊢
  omega
theorem A1r {σ:St}{b p dd l kh first t:Nat}{U:Nat→Prop}{P:Ak}{v:Nat→List UInt8}{T:Nat→Bool}{ns:List Nat}{av:AV}{ls:List (List PV)}(h:Bt σ b p dd l kh U P v)(hh:Nn v T P.pages ns)(hf:ns[0]? =some first)(hb:Bud P 1)(hbox:σ[t]? =some (some (.row 1 [[av]])))(ho:Kr σ av 120 3 ls)(htU:¬ U t)(hoU:∀ q,Ch av=some q→¬ U q∧q≠t)(hlen:ls.length+124*ns.length≤900000):
 Aa Tryz.prog 86 [.mp b 2 0 0,Ad .i64 (first:Nat),.fn 87 [] [.mp t 1 0 0]] σ fun r σ'=>r=Ad .i64 0∧∃ U' P' av',Fr σ σ' (fun q=>U q∨q=t∨Ch av=some q) (fun q=>U' q∨q=t∨Ch av'=some q)∧Bt σ' b p dd l kh U' P' v∧Kp P P' 0∧σ'[t]? =some (some (.row 1 [[av']]))∧Kr σ' av' 120 3 (ls++(Jn v ns).map Y2)∧¬ U' t∧∀ q,Ch av'=some q→¬ U' q∧q≠t:=by
 have hnl:=hh.len
 have hl0:0<ns.length:=by have:=(QC.1 hf).1;omega
 have z5:=Ao A7
 refine Ab Am An Tryz.func86 (by kernel_rfl) rfl (nt:=32) (rs:=[.tmp 6]) rfl rfl ?_
 repeat' simp only[↓wBA,tHk,seval]
 refine Ar (X:={ q:Nat×Nat // q.1<ns.length∧ns[q.1]? =some q.2 }) (fun q=>ns.length - q.1.1) (fun q=>[(7,Ad .i64 (q.1.2:Nat))]) [6,8,9,10,14,15,16,17,18,19,20,21,22,23,24,25,26,27,28,29,30,31,32,33,34] (fun q s=>∃ U' P' av',Fr σ s (fun q=>U q∨q=t∨Ch av=some q) (fun q=>U' q∨q=t∨Ch av'=some q)∧Bt s b p dd l kh U' P' v∧Kp P P' 0∧s[t]? =some (some (.row 1 [[av']]))∧Kr s av' 120 3 (ls++(Jn v (ns.take q.1.1)).map Y2)∧¬ U' t∧∀ q,Ch av'=some q→¬ U' q∧q≠t) (⟨(0,first),hl0,hf⟩) ?_ ?_ ?_ ?_
 ·simp only[wHl,wHf]
 ·exact⟨U,P,av,Fr.refl _ _,h,Kp.refl P _,hbox,by simpa [Jn]using ho,htU,hoU⟩
 ·rintro _ _ ⟨_,_,_,h,_⟩;exact h.len
 ·intro y J s hI
  simp only[wHl]
  obtain⟨⟨i,n⟩,hi,hni⟩:=y
  obtain⟨U1,P1,av1,f1,h1,k1,hbx,how,htU1,hoU1⟩:=hI
  dsimp only at*
  obtain⟨ss,hp⟩:=hh.ch.get hni
  obtain⟨n1,n2,n3⟩:=hh.tk n (QG hni)
  have hpl:=hp.len
  have hpc:=Ao hpl.1
  have yb:=Ac hbx
  repeat' simp only[↓wBA,tHk,seval,wHl]
  refine (Ai4 h1 (by rw[k1.pages];exact n2) hp (hb.kp k1 (by omega))).mono ?_
  rintro _ s2 ⟨rfl,U2,P2,f2,h2,k2⟩
  have hbx2:=f2.get hbx htU1
  have how2:=how.same (q':=s2) fun q hq=>f2.keep q (how.lt hq) (hoU1 q hq).1
  have htU2:¬ U2 t:=fun e=>(f2.own t e).elim htU1 fun e=>by omega
  have hoU2:∀ q,Ch av1=some q→¬ U2 q:=fun q hq e=>(f2.own q e).elim (hoU1 q hq).1 fun e=>by have:=how.lt hq;omega
  have a3:=Ap.app s2 [some (.row 512 [Aq (v n)])]
  have how3:=how2.same (q':=s2++[some (.row 512 [Aq (v n)])]) fun q hq=>QD (how2.lt hq)
  have hel:=Um v (ns.take i)
  have htl:(ns.take i).length=i:=by rw[QZ];omega
  have hm:124*i≤124*ns.length:=Nat.mul_le_mul_left _ (by omega)
  have hsc:=Awd (n:=n) hpl.1 (a3.get hbx2) how3 (fun e=>(hoU1 t e).2 rfl) (by simp only[QE,QL];rw[htl]at hel;omega)
  repeat' simp only[↓wBA,tHk,seval,wH,wHl,A6,hpc,C6,z5]
  refine hsc.mono ?_
  rintro _ s4 ⟨rfl,av4,hb4,how4,f4,hn4⟩
  have l2:=f2.len
  have l4:=f4.len
  simp only[QE,QF,QI]at l4
  have h4:=(h2.ap a3).frame f4 fun q h1 h2=>h2.elim (fun e=>htU2 (by rw[← e];exact h1)) fun e=>hoU2 q e h1
  have hlt2:=h2.lt
  have hoU4:∀ q,Ch av4=some q→¬ U2 q∧q≠t:=fun q hq=>⟨fun e=>(f4.own q (.inr hq)).elim (fun e'=>e'.elim (fun e'=>htU2 (by rw[← e'];exact e)) fun e'=>hoU2 q e' e) fun e'=>by have:=hlt2 q e;simp at e';omega,fun e=>hn4 (by rw[← e];exact hq)⟩
  have f14:Fr σ s4 (fun q=>U q∨q=t∨Ch av=some q) (fun q=>U2 q∨q=t∨Ch av4=some q):=by
   refine⟨by have:=f1.len;omega,fun q hq hnf=> ?_,fun q hq=> ?_⟩
   ·have hnf1:¬ (U1 q∨q=t∨Ch av1=some q):=fun e=>(f1.own q e).elim hnf fun e=>by omega
    have:=f1.len
    rw[f4.keep q (by simp;omega) (fun e=>hnf1 (.inr e)),QD (by omega),f2.keep q (by omega) (fun e=>hnf1 (.inl e))]
    exact f1.keep q hq hnf
   ·have:=f1.len
    rcases hq with e|e|e
    ·exact (f2.own q e).elim (fun e=>f1.own q (.inl e)) fun e=>.inr (by omega)
    ·exact .inl (.inr (.inl e))
    ·rcases f4.own q (.inr e)with e'|e'
     ·exact f1.own q (.inr e')
     ·simp at e';exact .inr (by omega)
  have htk:Jn v (ns.take (i+1))=Jn v (ns.take i)++entP n (v n):=by
   rw[YU,hni]
   simp[Jn]
  have how4':Kr s4 av4 120 3 (ls++(Jn v (ns.take (i+1))).map Y2):=by
   rw[htk,ZH,←QX];exact how4
  by_cases hnx:i+1<ns.length
  ·obtain⟨n',hn'⟩:∃ n',ns[i+1]? =some n':=⟨ns[i+1],by simp⟩
   have hn1':=(hh.tk n' (QG hn')).1
   have hgd:(ns[i+1]?).getD 0=n':=by rw[hn'];rfl
   have hnz:((n':Int)==0)=false:=by simp;omega
   repeat' simp only[↓wBA,tHk,seval,wHl,hgd,hnz]
   exact⟨⟨(i+1,n'),hnx,hn'⟩,by show ns.length - (i+1)<ns.length - i;omega,⟨U2,P2,av4,f14,h4,k1.trans k2,hb4,how4',htU2,hoU4⟩,by simp only[]⟩
  ·have hgd:(ns[i+1]?).getD 0=0:=by rw[ZG (by omega)];rfl
   repeat' simp only[↓wBA,tHk,seval,wHl,hgd]
   have l14:=f14.len
   all_goals refine rtS ?_
   all_goals simp only[wRe,tHk,seval]
   rw[ZF (by omega)]at how4'
   exact⟨U2,P2,av4,f14,h4,k1.trans k2,hb4,how4',htU2,hoU4⟩
def lsV (e:Nat)(ls:List (List PV)):AV:=if ls=[]then .p (.v (.slice none 0 0))else .p (.sl e ls)
theorem Kr.tup {q:St}{av x:AV}{E:TypeId}{e:Nat}{ls:List (List PV)}(h:Kr q av E e ls){M:Az}{u:Value}(hu:Ag M (.tup [av,x]) u):Ag M (.tup [lsV e ls,x]) u:=by
 rcases h with⟨rfl,rfl⟩|⟨t,rfl,hl,_⟩
 ·exact hu
 ·unfold lsV
  rw[if_neg hl]
  simp only[Ag,Af]at hu ⊢
  obtain⟨us,rfl,v1,us1,rfl,h1,h2⟩:=hu
  exact⟨_,rfl,v1,us1,rfl,Acd (by simp only[Ag];exact h1),h2⟩
theorem A1s {σ:St}{b p dd l kh first:Nat}{U:Nat→Prop}{P:Ak}{v:Nat→List UInt8}{T:Nat→Bool}{ns:List Nat}(h:Bt σ b p dd l kh U P v)(hh:Nn v T P.pages ns)(hf:ns[0]? =some first)(hb:Bud P 1)(hns:ns.length≤7000):
 Aa Tryz.prog 47 [.mp b 2 0 0,Ad .i64 (first:Nat)] σ fun r σ'=>r= .tup [lsV 3 ((Jn v ns).map Y2),Ad .i64 0]∧∃ U' P',Fr σ σ' U U'∧Bt σ' b p dd l kh U' P' v∧Kp P P' 0:=by
 have hlt:=h.lt
 have hc:Aa Tryz.prog 47 [.mp b 2 0 0,Ad .i64 (first:Nat)] σ fun r σ'=>∃ av U' P',r= .tup [av,Ad .i64 0]∧Kr σ' av 120 3 ((Jn v ns).map Y2)∧Fr σ σ' U U'∧Bt σ' b p dd l kh U' P' v∧Kp P P' 0:=by
  refine Ab Am An Tryz.func47 (by kernel_rfl) rfl (nt:=14) (rs:=[.tmp 4,.tmp 5]) rfl rfl ?_
  repeat' simp only[↓wBA,tHk,seval,wH]
  have aS:=Ap.app σ [some (Ob.row 1 [[AV.p (.v (.slice none 0 0))]])]
  have hl1:(σ++[some (Ob.row 1 [[AV.p (.v (.slice none 0 0))]])]).length=σ.length+1:=by simp
  refine (A1r (t:=σ.length) (av:=.p (.v (.slice none 0 0))) (ls:=[]) (h.ap aS) hh hf hb (by simp) (.inl ⟨rfl,rfl⟩) (fun e=>ZJ _ (hlt _ e)) (by simp[Ch]) (by simp;omega)).mono ?_
  rintro _ s2 ⟨rfl,U2,P2,av2,f2,h2,k2,hb2,how2,ht2,ho2⟩
  have y2:=Ac hb2
  have l2:=f2.len
  have hcl:=how2.cells
  repeat' simp only[↓wBA,tHk,seval,hb2]
  all_goals refine rtS ?_
  all_goals simp only[wRe,tHk,seval]
  refine⟨av2,U2,P2,rfl,how2,⟨by omega,fun q hq hn=> ?_,fun q hq=> ?_⟩,h2,k2⟩
  ·rw[f2.keep q (by omega) (fun e=>e.elim hn fun e=>e.elim (fun e=>by omega) fun e=>by cases e),QD hq]
  ·exact (f2.own q (.inl hq)).elim (fun e=>e.elim .inl fun e=>e.elim (fun e=>.inr (by omega)) fun e=>by cases e) fun e=>.inr (by omega)
 refine hc.ans ?_
 rintro _ s ⟨av,U2,P2,rfl,how,hf2,h2,k2⟩
 exact⟨_,⟨rfl,U2,P2,hf2,h2,k2⟩,fun M v=>how.tup⟩
def Mm (q:St)(av:AV)(e:Nat)(ls:List (List AV)):Prop:=(av= .p (.v (.slice none 0 0))∧ls=[])∨∃ t,av= .ms t e 0 ls.length∧ls≠[]∧q[t]? =some (some (.row e ls))
theorem Mm.same {q s:St}{av:AV}{e:Nat}{ls:List (List AV)}(h:Mm q av e ls)(hs:∀ t,N8 av=some t→s[t]? =q[t]?):Mm s av e ls:=by
 rcases h with h|⟨t,rfl,h1,h2⟩
 ·exact .inl h
 ·exact .inr ⟨t,rfl,h1,by rw[hs t rfl];exact h2⟩
theorem Mm.lt {q:St}{av:AV}{e:Nat}{ls:List (List AV)}(h:Mm q av e ls){t:Nat}(ht:N8 av=some t):t<q.length:=by
 rcases h with⟨rfl,_⟩|⟨t',rfl,h1,h2⟩
 ·cases ht
 ·simp only[N8,QB]at ht;subst ht;exact Ac h2
theorem Ai5 {C:Ctx}{q:St}{av y:AV}{E T:TypeId}{e eb:Nat}{ez:List Value}{ls m:List (List AV)}(hk:C.kind T=some (.slice E e eb ez))(h:Mm q av e ls)(hy:srcM q e y=some m)(hm:m≠[])(hb:(ls.length+m.length)*eb≤140737488355328)(hb2:ls.length+m.length≤1000000):
 ∃ q',Da C q.length T av y q=some (.ms q.length e 0 (ls.length+m.length),q')∧q'[q.length]? =some (some (.row e (ls++m)))∧q'.length=q.length+1∧∀ t,t<q.length→N8 av≠some t→q'[t]? =q[t]? :=by
 have c2:ls.length+m.length≤maxLen:=by unfold maxLen;omega
 have hml:0<m.length:=XX.2 hm
 rcases h with⟨rfl,rfl⟩|⟨t,rfl,hl,ht⟩
 ·refine⟨q++[some (.row e m)],?_,by simp,by simp,fun t ht _=>QD ht⟩
  unfold Da
  rw[hk]
  simp only[hy]
  rw[if_pos ⟨hml,by simpa using hb,by simpa using c2⟩,I8 rfl]
  simp
 ·have htl:=Ac ht
  refine⟨q.set t none++[some (.row e (ls++m))],?_,?_,by simp,fun t' ht' hn=> ?_⟩
  ·unfold Da
   rw[hk]
   simp only[hy]
   rw[if_pos ⟨trivial,hb,c2⟩,ht]
   simp only[QH,and_self,if_true,ZS]
   rw[I8 (by simp)]
  ·rw[QY (by simp)];simp
  ·rw[QD (by simpa using ht'),QO fun e=>hn (by rw[e];rfl)]
theorem K6 (n n' k':Nat)(r:List UInt8):∀ (l:List (Option (List UInt8))) (k:Nat),(n',k',r)∈Nx n k l↔n'=n∧∃ j,l[j]? =some (some r)∧k'=k+j
 |[],k=>by simp[Nx]
 |none::l,k=>by
  rw[Nx,K6 n n' k' r l (k+1)]
  constructor
  ·rintro⟨h,j,h1,h2⟩
   exact⟨h,j+1,by simpa using h1,by omega⟩
  ·rintro⟨h,j,h1,h2⟩
   cases j with
   |zero=>simp at h1
   |succ j=>exact⟨h,j,by simpa using h1,by omega⟩
 |some x::l,k=>by
  rw[Nx,QP,K6 n n' k' r l (k+1)]
  constructor
  ·rintro (h|⟨h,j,h1,h2⟩)
   ·simp only[QJ]at h
    obtain⟨rfl,rfl,rfl⟩:=h
    exact⟨rfl,0,rfl,by omega⟩
   ·exact⟨h,j+1,by simpa using h1,by omega⟩
  ·rintro⟨h,j,h1,h2⟩
   cases j with
   |zero=>simp at h1;subst h1;left;rw[h,h2];rfl
   |succ j=>right;exact⟨h,j,by simpa using h1,by omega⟩
theorem Ace {v:Nat→List UInt8}{n nx:Nat}{ss:List (Option (List UInt8))}(h:HPg (v n) nx ss)(n' k':Nat)(r:List UInt8):(n',k',r)∈entP n (v n)↔n'=n∧recOf v n k'=some r:=by
 unfold entP
 rw[h.pg.slots,List.tail_cons,K6]
 constructor
 ·rintro⟨h1,j,h2,rfl⟩
  refine⟨h1,?_⟩
  rw[VI 1 j,h.recOf,QM,h2];rfl
 ·rintro⟨h1,h2⟩
  refine⟨h1,?_⟩
  cases k' with
  |zero=>rw[Ex]at h2;cases h2
  |succ j=>
   rw[h.recOf,QM]at h2
   refine⟨j,?_,by omega⟩
   cases hj:ss[j]? with
   |none=>rw[hj]at h2;cases h2
   |some x=>rw[hj]at h2;simp at h2;subst h2;rfl
theorem E5.mem {v:Nat→List UInt8}{ns:List Nat}(h:E5 v ns){n:Nat}(hn:n∈ns):∃ nx ss,HPg (v n) nx ss:=by
 obtain⟨i,hi⟩:=YH hn
 obtain⟨ss,h⟩:=h.get hi
 exact⟨_,ss,h⟩
theorem Ec {v:Nat→List UInt8}{T:Nat→Bool}{np:Nat}{ns:List Nat}(h:Nn v T np ns)(n k:Nat)(r:List UInt8):(n,k,r)∈Jn v ns↔Iz v ns n k=some r:=by
 unfold Jn Iz
 rw[YN]
 constructor
 ·rintro⟨m,hm,h1⟩
  obtain⟨nx,ss,hp⟩:=h.ch.mem hm
  obtain⟨rfl,h2⟩:=(Ace hp n k r).1 h1
  rw[if_pos hm];exact h2
 ·intro h1
  by_cases hn:n∈ns
  ·rw[if_pos hn]at h1
   obtain⟨nx,ss,hp⟩:=h.ch.mem hn
   exact⟨n,hn,(Ace hp n k r).2 ⟨rfl,h1⟩⟩
  ·rw[if_neg hn]at h1;cases h1
theorem Mn (n:Nat):∀ (l:List (Option (List UInt8))) (k:Nat),((Nx n k l).map fun e=>(e.1,e.2.1)).Nodup
 |[],_=>by simp[Nx]
 |none::l,k=>Mn n l (k+1)
 |some r::l,k=>by
  simp only[Nx,QK,ZU]
  refine⟨fun h=> ?_,Mn n l (k+1)⟩
  obtain⟨⟨a,c,x⟩,h1,h2⟩:=ZP.1 h
  obtain⟨_,j,_,h3⟩:=(K6 n a c x l (k+1)).1 h1
  simp only[QJ]at h2
  omega
theorem Acf (n:Nat)(l:List (Option (List UInt8)))(k:Nat):∀ e∈Nx n k l,e.1=n:=fun ⟨a,c,x⟩ h=>((K6 n a c x l k).1 h).1
theorem Se (v:Nat→List UInt8):∀ ns:List Nat,ns.Nodup→((Jn v ns).map fun e=>(e.1,e.2.1)).Nodup
 |[],_=>by simp[Jn]
 |n::ns,h=>by
  have hd:=ZU.1 h
  have ih:=Se v ns hd.2
  simp only[Jn,YA,ZH]at ih ⊢
  refine ZD.2 ⟨Mn n _ 1,ih,fun a ha b hb e=> ?_⟩
  obtain⟨x,hx,rfl⟩:=ZP.1 ha
  obtain⟨y,hy,rfl⟩:=ZP.1 hb
  obtain⟨m,hm,hy2⟩:=YN.1 hy
  have h1:=Acf n _ 1 x hx
  have h2:=Acf m _ 1 y hy2
  simp only[QJ]at e
  exact hd.1 (by rw[← h1,e.1,h2];exact hm)
