/- Heaps: Scan. Heaps: what a scan finds; rows that are written. -/
import Derived.Test.YtpoigihfeehehaaGreatDoorM33
set_option linter.all false
set_option maxRecDepth 100000
set_option maxHeartbeats 32000000
namespace Go.Proofs.YtpoigihfeehehaaGreatDoor
open Go.RowKit
open List (getElem?_append_left length_append length_cons length_nil length_tail length_take mem_map)
def tHk:=aa wX <| aa wbu <| aa T3 <| aa T29 <| aa T38 <| aa T51 <| aa T116 <| aa T120 <| aa W7 T165
theorem c1y:((1:Nat):Int)=1:=nr rfl
theorem It.cells {q:St}{av:AV}{E:TypeId}{e:Nat}{ls:List (List PV)}(h:It q av E e ls):Ct av=some [av]:=by
 rcases h with⟨rfl,_⟩|⟨t,rfl,_⟩<;>rfl
def Nv (n:Nat):Nat→List (Option (List UInt8))→List (Nat×Nat×List UInt8)
 |_,[]=>[]
 |k,none::ss=>Nv n (k+1) ss
 |k,some r::ss=>(n,k,r)::Nv n (k+1) ss
theorem K9 (n:Nat)(x:Option (List UInt8)):∀ (l:List (Option (List UInt8))) (k:Nat),Nv n k (l++[x])=Nv n k l++(match x with|some r=>[(n,k+l.length,r)]|none=>[])
 |[],k=>by cases x<;>simp[Nv]
 |none::l,k=>by
  simp only[List.cons_append,Nv,K9 n x l (k+1),length_cons]
  cases x<;>simp[Nat.add_assoc,Nat.add_comm 1]
 |some r::l,k=>by
  simp only[List.cons_append,Nv,K9 n x l (k+1),length_cons]
  cases x<;>simp[Nat.add_assoc,Nat.add_comm 1]
theorem N9 (n:Nat):∀ (l:List (Option (List UInt8))) (k:Nat),(Nv n k l).length≤l.length
 |[],_=>Nat.le_refl _
 |none::l,k=>by have:=N9 n l (k+1);simp only[Nv,length_cons];omega
 |some r::l,k=>by have:=N9 n l (k+1);simp only[Nv,length_cons];omega
def Yu (e:Nat×Nat×List UInt8):List PV:=[.v (.int .i64 (e.1:Nat)),.v (.int .i64 (e.2.1:Nat)),.sl 1 (Ay e.2.2)]
def entP (n:Nat)(pg:List UInt8):List (Nat×Nat×List UInt8):=Nv n 1 (Av pg).tail
theorem Av4 {σ:St}{t n:Nat}{av:AV}{ls:List (List PV)}{pg:List UInt8}(hpg:pg.length=512)(hbox:σ[t]? =some (some (.row 1 [[av]])))(ho:It σ av 120 3 ls)(hne:B0 av≠some t)(hlen:ls.length≤900000):
 Aa Tryz.prog 87 [Ad .i64 (n:Nat),A9 pg,.mp t 1 0 0] σ fun r σ'=>r=Ad .i64 0∧∃ av',σ'[t]? =some (some (.row 1 [[av']]))∧It σ' av' 120 3 (ls++(entP n pg).map Yu)∧Fr σ σ' (fun q=>q=t∨B0 av=some q) (fun q=>q=t∨B0 av'=some q)∧B0 av'≠some t:=by
 have hpc:=Aq hpg
 have hsl:=E6 pg
 have hlt:=Ac hbox
 obtain⟨ts,hts⟩:∃ ts,ts=(Av pg).tail:=⟨_,rfl⟩
 have hbig:ts.length≤124:=by rw[hts,length_tail];omega
 refine Ab Am Ao Tryz.func87 (by kernel_rfl) rfl (nt:=27) (rs:=[.tmp 5]) rfl rfl ?_
 repeat' simp only[↓wBA,tHk,seval,A9,hpc]
 obtain⟨S0,hS0⟩:∃ S0,S0=σ++[some (Ob.row 512 [Ar pg])]:=⟨_,rfl⟩
 have aS:Ap σ S0:=⟨_,hS0⟩
 have hb0:S0[σ.length]? =some (some (.row 512 [Ar pg])):=by rw[hS0];simp
 have hl0:S0.length=σ.length+1:=by rw[hS0];simp
 have ho0:=ho.same (q':=S0) fun q hq=>by rw[hS0,getElem?_append_left (ho.lt hq)]
 rw[← hS0]
 refine As (X:={ j:Nat // j≤ts.length }) (fun j=>ts.length - j.1) (fun j=>[(6,Ad .i64 (j.1+1:Nat))]) [7,8,9,10,11,12,13,14,15,16,17,18,19,20,21,22,23,24,25,26,27,28,29] (fun j s=>∃ av',s[t]? =some (some (.row 1 [[av']]))∧It s av' 120 3 (ls++(Nv n 1 (ts.take j.1)).map Yu)∧Fr S0 s (fun q=>q=t∨B0 av=some q) (fun q=>q=t∨B0 av'=some q)∧B0 av'≠some t) (⟨0,by omega⟩) ?_ ?_ ?_ ?_
 ·simp only[wHl,wHf,c1y,Nat.zero_add]
 ·exact⟨av,aS.get hbox,by simpa [Nv]using ho0,Fr.refl _ _,hne⟩
 ·rintro _ _ ⟨_,_,_,h,_⟩;exact h.len
 ·intro y J s hI
  simp only[wHl]
  obtain⟨j,hj⟩:=y
  obtain⟨av',hbx,how,f1,hne1⟩:=hI
  dsimp only at*
  have hbp:=f1.get hb0 (fun e=>e.elim (fun e=>by omega) fun e=>by have:=ho.lt e;omega)
  have yp:=Ac hbp
  have yb:=Ac hbx
  by_cases hjl:j<ts.length
  ·have hsn:(Av pg).length=ts.length+1:=by rw[hts,length_tail]at *;omega
   have e1:decide (((j+1:Nat):Int)<((Av pg).length:Int))=true:=by simp;omega
   obtain⟨x,hx⟩:∃ x,ts[j]? =some x:=⟨ts[j],by simp⟩
   have hg:I3 pg ((j+1:Nat):Int)=x:=by
    unfold I3
    rw[if_neg (by omega),Int.toNat_natCast,List.getD_eq_getElem?_getD]
    have:(Av pg)[j+1]? =some x:=by rw[← hx,hts,List.getElem?_tail]
    rw[this];rfl
   have htake:ts.take (j+1)=ts.take j++[x]:=by rw[List.take_add_one,hx];rfl
   have hwj:=wI (j+1) (by omega)
   have hll:=N9 n (ts.take j) 1
   simp only[length_take]at hll
   cases x with
   |none=>
    repeat' first|simp only[↓wBA,tHk,seval,wH,wHl,hpc,hbp,e1,hg,hwj,Option.isSome_none]|((with_reducible show Aa _ _ _ _ _);first|refine (Ps pg hpg _).eq ?_|refine (aget pg (j+1:Nat) hpg _).eq ?_)
    refine⟨⟨j+1,by omega⟩,by show ts.length - (j+1)<ts.length - j;omega,⟨av',hbx,?_,f1,hne1⟩,by simp only[]⟩
    dsimp only
    rw[htake,K9]
    simpa using how
   |some r=>
    repeat' first|simp only[↓wBA,tHk,seval,wH,wHl,hpc,hbp,e1,hg,Option.isSome_some,recP,hbx]|((with_reducible show Aa _ _ _ _ _);first|refine (Ps pg hpg _).eq ?_|refine (aget pg (j+1:Nat) hpg _).eq ?_)
    have hll2:(ls++(Nv n 1 (ts.take j)).map Yu).length≤900200:=by simp only[length_append,List.length_map];omega
    have how1:=how.same (q':=s++[some (.right 120 3)]) fun q hq=>getElem?_append_left (how.lt hq)
    obtain⟨av2,s2,h1,h2,h3,h4,h5⟩:=E7 (q:=s++[some (.right 120 3)]) (y:=.own s.length 3 [[.v (.int .i64 (n:Nat)),.v (.int .i64 (j+1:Nat)),.sl 1 (Ay r)]]) (m:=[[.v (.int .i64 (n:Nat)),.v (.int .i64 (j+1:Nat)),.sl 1 (Ay r)]]) Kn how1 rfl (by simp) (by simp only[length_cons,length_nil];omega) (by simp only[length_cons,length_nil];omega)
    simp only[length_append,length_cons,length_nil,Nat.zero_add]at h1 h3 h4 h5
    have hbx2:s2[t]? =some (some (.row 1 [[av']])):=by rw[h4 t (by omega) hne1,getElem?_append_left yb];exact hbx
    have yb2:=Ac hbx2
    have hcl:=h2.cells
    repeat' simp only[↓wBA,tHk,seval,wH,wHl,h1,hbx2,yb2,hwj,hcl]
    have hn2:B0 av2≠some t:=fun e=>(h5 t e).elim hne1 fun e=>by omega
    refine⟨⟨j+1,by omega⟩,by show ts.length - (j+1)<ts.length - j;omega,⟨av2,by simp[],?_,?_,hn2⟩,by simp only[]⟩
    ·dsimp only
     rw[htake,K9]
     have he:(ls++List.map Yu (Nv n 1 (ts.take j)++[(n,1+(ts.take j).length,r)]))=(ls++List.map Yu (Nv n 1 (ts.take j)))++[[.v (.int .i64 (n:Nat)),.v (.int .i64 (j+1:Nat)),.sl 1 (Ay r)]]:=by
      have hjj:1+(ts.take j).length=j+1:=by rw[length_take];omega
      rw[hjj];simp[Yu]
     show It _ av2 _ 3 (ls++List.map Yu (Nv n 1 (ts.take j)++[(n,1+(ts.take j).length,r)]))
     rw[he]
     exact h2.same fun q hq=>List.getElem?_set_ne fun e=>hn2 (by rw[e];exact hq)
    ·refine⟨by have:=f1.len;simp;omega,fun q hq hnf=> ?_,fun q hq=> ?_⟩
     ·have hnt:t≠q:=fun e=>hnf (.inl e.symm)
      rw[List.getElem?_set_ne hnt]
      have hno:B0 av'≠some q:=fun e=>(f1.own q (.inr e)).elim hnf fun e=>by omega
      have:=f1.len
      rw[h4 q (by omega) hno,getElem?_append_left (by omega)]
      exact f1.keep q hq hnf
     ·have:=f1.len
      rcases hq with h|h
      ·exact .inl (.inl h)
      ·exact (h5 q h).elim (fun e=>f1.own q (.inr e)) fun e=>.inr (by omega)
  ·obtain rfl:j=ts.length:=by omega
   have e1:decide (((ts.length+1:Nat):Int)<((Av pg).length:Int))=false:=by
    have:(Av pg).length≤ts.length+1:=by rw[hts,length_tail];omega
    simp;omega
   repeat' first|simp only[↓wBA,tHk,seval,wHl,hpc,hbp,e1]|((with_reducible show Aa _ _ _ _ _);refine (Ps pg hpg _).eq ?_)
   have l1:=f1.len
   all_goals refine rtS ?_
   all_goals simp only[A1.eq_1,Ak.eq_1,Ak.eq_2,Ax.eq_1,tHk,seval]
   refine⟨av',hbx,?_,(Ap.fr aS).trans f1,hne1⟩
   rw[List.take_length,hts]at how
   exact how
def Jt (v:Nat→List UInt8)(ns:List Nat):List (Nat×Nat×List UInt8):=ns.flatMap fun n=>entP n (v n)
theorem Alt {n:Nat}{pg:List UInt8}:(entP n pg).length≤124:=by
 have h1:=N9 n (Av pg).tail 1
 have h2:=E6 pg
 have h3:(Av pg).tail.length≤(Av pg).length:=by rw[length_tail];omega
 unfold entP;omega
theorem Up (v:Nat→List UInt8):∀ ns:List Nat,(Jt v ns).length≤124*ns.length
 |[]=>Nat.le_refl _
 |n::ns=>by
  have h1:=Up v ns
  have h2:=Alt (n:=n) (pg:=v n)
  simp only[Jt,List.flatMap_cons,length_append,length_cons]at h1 ⊢
  omega
theorem A07 {σ:St}{b p dd l kh first t:Nat}{U:Nat→Prop}{P:Al}{v:Nat→List UInt8}{T:Nat→Bool}{ns:List Nat}{av:AV}{ls:List (List PV)}(h:Bt σ b p dd l kh U P v)(hh:Nl v T P.pages ns)(hf:ns[0]? =some first)(hb:Bud P 1)(hbox:σ[t]? =some (some (.row 1 [[av]])))(ho:It σ av 120 3 ls)(htU:¬ U t)(hoU:∀ q,B0 av=some q→¬ U q∧q≠t)(hlen:ls.length+124*ns.length≤900000):
 Aa Tryz.prog 86 [.mp b 2 0 0,Ad .i64 (first:Nat),.fn 87 [] [.mp t 1 0 0]] σ fun r σ'=>r=Ad .i64 0∧∃ U' P' av',Fr σ σ' (fun q=>U q∨q=t∨B0 av=some q) (fun q=>U' q∨q=t∨B0 av'=some q)∧Bt σ' b p dd l kh U' P' v∧Kp P P' 0∧σ'[t]? =some (some (.row 1 [[av']]))∧It σ' av' 120 3 (ls++(Jt v ns).map Yu)∧¬ U' t∧∀ q,B0 av'=some q→¬ U' q∧q≠t:=by
 have hnl:=hh.len
 have hl0:0<ns.length:=by have:=(List.getElem?_eq_some_iff.1 hf).1;omega
 have z5:=Aq A7
 refine Ab Am Ao Tryz.func86 (by kernel_rfl) rfl (nt:=32) (rs:=[.tmp 6]) rfl rfl ?_
 repeat' simp only[↓wBA,tHk,seval]
 refine As (X:={ q:Nat×Nat // q.1<ns.length∧ns[q.1]? =some q.2 }) (fun q=>ns.length - q.1.1) (fun q=>[(7,Ad .i64 (q.1.2:Nat))]) [6,8,9,10,14,15,16,17,18,19,20,21,22,23,24,25,26,27,28,29,30,31,32,33,34] (fun q s=>∃ U' P' av',Fr σ s (fun q=>U q∨q=t∨B0 av=some q) (fun q=>U' q∨q=t∨B0 av'=some q)∧Bt s b p dd l kh U' P' v∧Kp P P' 0∧s[t]? =some (some (.row 1 [[av']]))∧It s av' 120 3 (ls++(Jt v (ns.take q.1.1)).map Yu)∧¬ U' t∧∀ q,B0 av'=some q→¬ U' q∧q≠t) (⟨(0,first),hl0,hf⟩) ?_ ?_ ?_ ?_
 ·simp only[wHl,wHf]
 ·exact⟨U,P,av,Fr.refl _ _,h,Kp.refl P _,hbox,by simpa [Jt]using ho,htU,hoU⟩
 ·rintro _ _ ⟨_,_,_,h,_⟩;exact h.len
 ·intro y J s hI
  simp only[wHl]
  obtain⟨⟨i,n⟩,hi,hni⟩:=y
  obtain⟨U1,P1,av1,f1,h1,k1,hbx,how,htU1,hoU1⟩:=hI
  dsimp only at*
  obtain⟨ss,hp⟩:=hh.ch.get hni
  obtain⟨n1,n2,n3⟩:=hh.tk n (List.mem_of_getElem? hni)
  have hpl:=hp.len
  have hpc:=Aq hpl.1
  have yb:=Ac hbx
  repeat' simp only[↓wBA,tHk,seval,wHl]
  refine (Air h1 (by rw[k1.pages];exact n2) hp (hb.kp k1 (by omega))).mono ?_
  rintro _ s2 ⟨rfl,U2,P2,f2,h2,k2⟩
  have hbx2:=f2.get hbx htU1
  have how2:=how.same (q':=s2) fun q hq=>f2.keep q (how.lt hq) (hoU1 q hq).1
  have htU2:¬ U2 t:=fun e=>(f2.own t e).elim htU1 fun e=>by omega
  have hoU2:∀ q,B0 av1=some q→¬ U2 q:=fun q hq e=>(f2.own q e).elim (hoU1 q hq).1 fun e=>by have:=how.lt hq;omega
  have a3:=Ap.app s2 [some (.row 512 [Ar (v n)])]
  have how3:=how2.same (q':=s2++[some (.row 512 [Ar (v n)])]) fun q hq=>getElem?_append_left (how2.lt hq)
  have hel:=Up v (ns.take i)
  have htl:(ns.take i).length=i:=by rw[length_take];omega
  have hm:124*i≤124*ns.length:=Nat.mul_le_mul_left _ (by omega)
  have hsc:=Av4 (n:=n) hpl.1 (a3.get hbx2) how3 (fun e=>(hoU1 t e).2 rfl) (by simp only[length_append,List.length_map];rw[htl]at hel;omega)
  repeat' simp only[↓wBA,tHk,seval,wH,wHl,A9,hpc,C5,z5]
  refine hsc.mono ?_
  rintro _ s4 ⟨rfl,av4,hb4,how4,f4,hn4⟩
  have l2:=f2.len
  have l4:=f4.len
  simp only[length_append,length_cons,length_nil]at l4
  have h4:=(h2.ap a3).frame f4 fun q h1 h2=>h2.elim (fun e=>htU2 (by rw[← e];exact h1)) fun e=>hoU2 q e h1
  have hlt2:=h2.lt
  have hoU4:∀ q,B0 av4=some q→¬ U2 q∧q≠t:=fun q hq=>⟨fun e=>(f4.own q (.inr hq)).elim (fun e'=>e'.elim (fun e'=>htU2 (by rw[← e'];exact e)) fun e'=>hoU2 q e' e) fun e'=>by have:=hlt2 q e;simp at e';omega,fun e=>hn4 (by rw[← e];exact hq)⟩
  have f14:Fr σ s4 (fun q=>U q∨q=t∨B0 av=some q) (fun q=>U2 q∨q=t∨B0 av4=some q):=by
   refine⟨by have:=f1.len;omega,fun q hq hnf=> ?_,fun q hq=> ?_⟩
   ·have hnf1:¬ (U1 q∨q=t∨B0 av1=some q):=fun e=>(f1.own q e).elim hnf fun e=>by omega
    have:=f1.len
    rw[f4.keep q (by simp;omega) (fun e=>hnf1 (.inr e)),getElem?_append_left (by omega),f2.keep q (by omega) (fun e=>hnf1 (.inl e))]
    exact f1.keep q hq hnf
   ·have:=f1.len
    rcases hq with e|e|e
    ·exact (f2.own q e).elim (fun e=>f1.own q (.inl e)) fun e=>.inr (by omega)
    ·exact .inl (.inr (.inl e))
    ·rcases f4.own q (.inr e)with e'|e'
     ·exact f1.own q (.inr e')
     ·simp at e';exact .inr (by omega)
  have htk:Jt v (ns.take (i+1))=Jt v (ns.take i)++entP n (v n):=by
   rw[List.take_add_one,hni]
   simp[Jt]
  have how4':It s4 av4 120 3 (ls++(Jt v (ns.take (i+1))).map Yu):=by
   rw[htk,List.map_append,←List.append_assoc];exact how4
  by_cases hnx:i+1<ns.length
  ·obtain⟨n',hn'⟩:∃ n',ns[i+1]? =some n':=⟨ns[i+1],by simp⟩
   have hn1':=(hh.tk n' (List.mem_of_getElem? hn')).1
   have hgd:(ns[i+1]?).getD 0=n':=by rw[hn'];rfl
   have hnz:((n':Int)==0)=false:=by simp;omega
   repeat' simp only[↓wBA,tHk,seval,wHl,hgd,hnz]
   exact⟨⟨(i+1,n'),hnx,hn'⟩,by show ns.length - (i+1)<ns.length - i;omega,⟨U2,P2,av4,f14,h4,k1.trans k2,hb4,how4',htU2,hoU4⟩,by simp only[]⟩
  ·have hgd:(ns[i+1]?).getD 0=0:=by rw[List.getElem?_eq_none (by omega)];rfl
   repeat' simp only[↓wBA,tHk,seval,wHl,hgd]
   have l14:=f14.len
   all_goals refine rtS ?_
   all_goals simp only[A1.eq_1,Ak.eq_1,Ak.eq_2,Ax.eq_1,tHk,seval]
   rw[List.take_of_length_le (by omega)]at how4'
   exact⟨U2,P2,av4,f14,h4,k1.trans k2,hb4,how4',htU2,hoU4⟩
def lsV (e:Nat)(ls:List (List PV)):AV:=if ls=[]then .p (.v (.slice none 0 0))else .p (.sl e ls)
theorem It.tup {q:St}{av x:AV}{E:TypeId}{e:Nat}{ls:List (List PV)}(h:It q av E e ls){M:A2}{u:Value}(hu:Ag M (.tup [av,x]) u):Ag M (.tup [lsV e ls,x]) u:=by
 rcases h with⟨rfl,rfl⟩|⟨t,rfl,hl,_⟩
 ·exact hu
 ·unfold lsV
  rw[if_neg hl]
  simp only[Ag,Af]at hu ⊢
  obtain⟨us,rfl,v1,us1,rfl,h1,h2⟩:=hu
  exact⟨_,rfl,v1,us1,rfl,Ab6 (by simp only[Ag];exact h1),h2⟩
theorem A08 {σ:St}{b p dd l kh first:Nat}{U:Nat→Prop}{P:Al}{v:Nat→List UInt8}{T:Nat→Bool}{ns:List Nat}(h:Bt σ b p dd l kh U P v)(hh:Nl v T P.pages ns)(hf:ns[0]? =some first)(hb:Bud P 1)(hns:ns.length≤7000):
 Aa Tryz.prog 47 [.mp b 2 0 0,Ad .i64 (first:Nat)] σ fun r σ'=>r= .tup [lsV 3 ((Jt v ns).map Yu),Ad .i64 0]∧∃ U' P',Fr σ σ' U U'∧Bt σ' b p dd l kh U' P' v∧Kp P P' 0:=by
 have hlt:=h.lt
 have hc:Aa Tryz.prog 47 [.mp b 2 0 0,Ad .i64 (first:Nat)] σ fun r σ'=>∃ av U' P',r= .tup [av,Ad .i64 0]∧It σ' av 120 3 ((Jt v ns).map Yu)∧Fr σ σ' U U'∧Bt σ' b p dd l kh U' P' v∧Kp P P' 0:=by
  refine Ab Am Ao Tryz.func47 (by kernel_rfl) rfl (nt:=14) (rs:=[.tmp 4,.tmp 5]) rfl rfl ?_
  repeat' simp only[↓wBA,tHk,seval,wH]
  have aS:=Ap.app σ [some (Ob.row 1 [[AV.p (.v (.slice none 0 0))]])]
  have hl1:(σ++[some (Ob.row 1 [[AV.p (.v (.slice none 0 0))]])]).length=σ.length+1:=by simp
  refine (A07 (t:=σ.length) (av:=.p (.v (.slice none 0 0))) (ls:=[]) (h.ap aS) hh hf hb (by simp) (.inl ⟨rfl,rfl⟩) (fun e=>Nat.lt_irrefl _ (hlt _ e)) (by simp[B0]) (by simp;omega)).mono ?_
  rintro _ s2 ⟨rfl,U2,P2,av2,f2,h2,k2,hb2,how2,ht2,ho2⟩
  have y2:=Ac hb2
  have l2:=f2.len
  have hcl:=how2.cells
  repeat' simp only[↓wBA,tHk,seval,hb2]
  all_goals refine rtS ?_
  all_goals simp only[A1.eq_1,Ak.eq_1,Ak.eq_2,Ax.eq_1,tHk,seval]
  refine⟨av2,U2,P2,rfl,how2,⟨by omega,fun q hq hn=> ?_,fun q hq=> ?_⟩,h2,k2⟩
  ·rw[f2.keep q (by omega) (fun e=>e.elim hn fun e=>e.elim (fun e=>by omega) fun e=>by cases e),getElem?_append_left hq]
  ·exact (f2.own q (.inl hq)).elim (fun e=>e.elim .inl fun e=>e.elim (fun e=>.inr (by omega)) fun e=>by cases e) fun e=>.inr (by omega)
 refine hc.ans ?_
 rintro _ s ⟨av,U2,P2,rfl,how,hf2,h2,k2⟩
 exact⟨_,⟨rfl,U2,P2,hf2,h2,k2⟩,fun M v=>how.tup⟩
def Qc (q:St)(av:AV)(e:Nat)(ls:List (List AV)):Prop:=(av= .p (.v (.slice none 0 0))∧ls=[])∨∃ t,av= .ms t e 0 ls.length∧ls≠[]∧q[t]? =some (some (.row e ls))
theorem Qc.same {q s:St}{av:AV}{e:Nat}{ls:List (List AV)}(h:Qc q av e ls)(hs:∀ t,N8 av=some t→s[t]? =q[t]?):Qc s av e ls:=by
 rcases h with h|⟨t,rfl,h1,h2⟩
 ·exact .inl h
 ·exact .inr ⟨t,rfl,h1,by rw[hs t rfl];exact h2⟩
theorem Qc.lt {q:St}{av:AV}{e:Nat}{ls:List (List AV)}(h:Qc q av e ls){t:Nat}(ht:N8 av=some t):t<q.length:=by
 rcases h with⟨rfl,_⟩|⟨t',rfl,h1,h2⟩
 ·cases ht
 ·simp only[N8,Option.some.injEq]at ht;subst ht;exact Ac h2
theorem Ais {C:Ctx}{q:St}{av y:AV}{E T:TypeId}{e eb:Nat}{ez:List Value}{ls m:List (List AV)}(hk:C.kind T=some (.slice E e eb ez))(h:Qc q av e ls)(hy:srcM q e y=some m)(hm:m≠[])(hb:(ls.length+m.length)*eb≤140737488355328)(hb2:ls.length+m.length≤1000000):
 ∃ q',Dd C q.length T av y q=some (.ms q.length e 0 (ls.length+m.length),q')∧q'[q.length]? =some (some (.row e (ls++m)))∧q'.length=q.length+1∧∀ t,t<q.length→N8 av≠some t→q'[t]? =q[t]? :=by
 have c2:ls.length+m.length≤maxLen:=by unfold maxLen;omega
 have hml:0<m.length:=List.length_pos_iff.2 hm
 rcases h with⟨rfl,rfl⟩|⟨t,rfl,hl,ht⟩
 ·refine⟨q++[some (.row e m)],?_,by simp,by simp,fun t ht _=>getElem?_append_left ht⟩
  unfold Dd
  rw[hk]
  simp only[hy]
  rw[if_pos ⟨hml,by simpa using hb,by simpa using c2⟩,Jd rfl]
  simp
 ·have htl:=Ac ht
  refine⟨q.set t none++[some (.row e (ls++m))],?_,?_,by simp,fun t' ht' hn=> ?_⟩
  ·unfold Dd
   rw[hk]
   simp only[hy]
   rw[if_pos ⟨trivial,hb,c2⟩,ht]
   simp only[Nat.le_refl,and_self,if_true,List.take_length]
   rw[Jd (by simp)]
  ·rw[List.getElem?_append_right (by simp)];simp
  ·rw[getElem?_append_left (by simpa using ht'),List.getElem?_set_ne fun e=>hn (by rw[e];rfl)]
theorem La (n n' k':Nat)(r:List UInt8):∀ (l:List (Option (List UInt8))) (k:Nat),(n',k',r)∈Nv n k l↔n'=n∧∃ j,l[j]? =some (some r)∧k'=k+j
 |[],k=>by simp[Nv]
 |none::l,k=>by
  rw[Nv,La n n' k' r l (k+1)]
  constructor
  ·rintro⟨h,j,h1,h2⟩
   exact⟨h,j+1,by simpa using h1,by omega⟩
  ·rintro⟨h,j,h1,h2⟩
   cases j with
   |zero=>simp at h1
   |succ j=>exact⟨h,j,by simpa using h1,by omega⟩
 |some x::l,k=>by
  rw[Nv,List.mem_cons,La n n' k' r l (k+1)]
  constructor
  ·rintro (h|⟨h,j,h1,h2⟩)
   ·simp only[Prod.mk.injEq]at h
    obtain⟨rfl,rfl,rfl⟩:=h
    exact⟨rfl,0,rfl,by omega⟩
   ·exact⟨h,j+1,by simpa using h1,by omega⟩
  ·rintro⟨h,j,h1,h2⟩
   cases j with
   |zero=>simp at h1;subst h1;left;rw[h,h2];rfl
   |succ j=>right;exact⟨h,j,by simpa using h1,by omega⟩
theorem Ab7 {v:Nat→List UInt8}{n nx:Nat}{ss:List (Option (List UInt8))}(h:HPg (v n) nx ss)(n' k':Nat)(r:List UInt8):(n',k',r)∈entP n (v n)↔n'=n∧recOf v n k'=some r:=by
 unfold entP
 rw[h.pg.slots,List.tail_cons,La]
 constructor
 ·rintro⟨h1,j,h2,rfl⟩
  refine⟨h1,?_⟩
  rw[Nat.add_comm 1 j,h.recOf,List.getD_eq_getElem?_getD,h2];rfl
 ·rintro⟨h1,h2⟩
  refine⟨h1,?_⟩
  cases k' with
  |zero=>rw[Ez]at h2;cases h2
  |succ j=>
   rw[h.recOf,List.getD_eq_getElem?_getD]at h2
   refine⟨j,?_,by omega⟩
   cases hj:ss[j]? with
   |none=>rw[hj]at h2;cases h2
   |some x=>rw[hj]at h2;simp at h2;subst h2;rfl
theorem E9.mem {v:Nat→List UInt8}{ns:List Nat}(h:E9 v ns){n:Nat}(hn:n∈ns):∃ nx ss,HPg (v n) nx ss:=by
 obtain⟨i,hi⟩:=List.getElem?_of_mem hn
 obtain⟨ss,h⟩:=h.get hi
 exact⟨_,ss,h⟩
theorem Ik {v:Nat→List UInt8}{T:Nat→Bool}{np:Nat}{ns:List Nat}(h:Nl v T np ns)(n k:Nat)(r:List UInt8):(n,k,r)∈Jt v ns↔Jr v ns n k=some r:=by
 unfold Jt Jr
 rw[List.mem_flatMap]
 constructor
 ·rintro⟨m,hm,h1⟩
  obtain⟨nx,ss,hp⟩:=h.ch.mem hm
  obtain⟨rfl,h2⟩:=(Ab7 hp n k r).1 h1
  rw[if_pos hm];exact h2
 ·intro h1
  by_cases hn:n∈ns
  ·rw[if_pos hn]at h1
   obtain⟨nx,ss,hp⟩:=h.ch.mem hn
   exact⟨n,hn,(Ab7 hp n k r).2 ⟨rfl,h1⟩⟩
  ·rw[if_neg hn]at h1;cases h1
theorem Mj (n:Nat):∀ (l:List (Option (List UInt8))) (k:Nat),((Nv n k l).map fun e=>(e.1,e.2.1)).Nodup
 |[],_=>by simp[Nv]
 |none::l,k=>Mj n l (k+1)
 |some r::l,k=>by
  simp only[Nv,List.map_cons,List.nodup_cons]
  refine⟨fun h=> ?_,Mj n l (k+1)⟩
  obtain⟨⟨a,c,x⟩,h1,h2⟩:=mem_map.1 h
  obtain⟨_,j,_,h3⟩:=(La n a c x l (k+1)).1 h1
  simp only[Prod.mk.injEq]at h2
  omega
theorem Ab8 (n:Nat)(l:List (Option (List UInt8)))(k:Nat):∀ e∈Nv n k l,e.1=n:=fun ⟨a,c,x⟩ h=>((La n a c x l k).1 h).1
theorem Sn (v:Nat→List UInt8):∀ ns:List Nat,ns.Nodup→((Jt v ns).map fun e=>(e.1,e.2.1)).Nodup
 |[],_=>by simp[Jt]
 |n::ns,h=>by
  have hd:=List.nodup_cons.1 h
  have ih:=Sn v ns hd.2
  simp only[Jt,List.flatMap_cons,List.map_append]at ih ⊢
  refine List.nodup_append.2 ⟨Mj n _ 1,ih,fun a ha b hb e=> ?_⟩
  obtain⟨x,hx,rfl⟩:=mem_map.1 ha
  obtain⟨y,hy,rfl⟩:=mem_map.1 hb
  obtain⟨m,hm,hy2⟩:=List.mem_flatMap.1 hy
  have h1:=Ab8 n _ 1 x hx
  have h2:=Ab8 m _ 1 y hy2
  simp only[Prod.mk.injEq]at e
  exact hd.1 (by rw[← h1,e.1,h2];exact hm)
end Go.Proofs.YtpoigihfeehehaaGreatDoor
