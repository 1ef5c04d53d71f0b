/- Hash indexes: Delete, Make. Hash indexes: Make, Free. -/
import Derived.Test.YthhbnenaihkggaaGreatM38
set_option linter.unusedSimpArgs false
set_option linter.unusedVariables false
set_option linter.defProp false
set_option maxRecDepth 100000
set_option maxHeartbeats 32000000
namespace Go.Proofs.YthhbnenaihkggaaGreat
open Go.RowKit
open List (length_append length_cons length_nil length_set)
def tXd:=aa wX <| aa wbu <| aa T3 <| aa T4 <| aa T23 <| aa T25 <| aa T29 <| aa T45 T65
section
variable {σ:St} {b p dd l kh root c:Nat} {U:Nat→Prop} {P:PoolV} {v:Nat→List UInt8} {T:Nat→Bool} {bs:List (List Nat)} {E:List HEn}
theorem axdelete {e:HEn}{x:PV}(h:Bt σ b p dd l kh U P v)(hx:Ix v T P.pages root bs E E.length)(hb:Bud P 1)(hl:bs.length≤1000000)(he:e.Ok)(hxk:BX x e.k)(hcl:E.length<16777216):
 ACalls Tryz.prog 17 [.mp b 2 0 0,intV .i64 (root:Nat),.p x,.agg [intV .i64 (e.p:Nat),intV .i64 (e.s:Nat)]] σ fun r σ'=>∃ U' P' v',Fr σ σ' U U'∧Bt σ' b p dd l kh U' P' v'∧Kp P P' 0∧(∀ m,m≠root→m∉bs.flatten→v' m=v m)∧
  ((e∉E∧r=intV .i64 1∧v'=v)∨(e∈E∧r=intV .i64 0∧∀ E',E.Perm (e::E')→Ix v' T P.pages root bs E' E'.length)):=by
 have hlt:=h.lt
 have hla:lenA cx 23 (.p x)=some e.k.length:=RecA.len (σ:=σ) (.inl ⟨x,rfl,hxk⟩)
 obtain⟨h1,h2,h3⟩:=id he
 have e1:decide ((e.k.length:Int)>140)=false:=by simp only[decide_eq_false_iff_not];omega
 have e1':decide ((140:Int)<(e.k.length:Int))=false:=by simp only[decide_eq_false_iff_not];omega
 have hmn:decide ((if (e.s:Int)<(e.p:Int)then (e.s:Int)else (e.p:Int))<0)=false:=by simp only[decide_eq_false_iff_not];split<;>omega
 have hmx:decide ((if (e.s:Int)>(e.p:Int)then (e.s:Int)else (e.p:Int))≥65536)=false:=by simp only[decide_eq_false_iff_not];split<;>omega
 refine acalls_of cx_ok dr_ok Tryz.func17 (by kernel_rfl) rfl (nt:=67) (rs:=[.tmp 8]) rfl rfl ?_
 repeat' first|((with_reducible first|apply cs|apply ws)<;>intro h<;>try simp only[h])|simp only[↓wBA,tXd,convA,seval,wH,hla,e1,e1',hmn,hmx]
 have a0:=Ap.app σ [some (Ob.row 2 [[AV.p (PV.v (Value.int IntKind.i64 (e.p:Nat))),AV.p (PV.v (Value.int IntKind.i64 (e.s:Nat)))]])]
 have g0:(σ++[some (Ob.row 2 [[AV.p (PV.v (Value.int IntKind.i64 (e.p:Nat))),AV.p (PV.v (Value.int IntKind.i64 (e.s:Nat)))]])])[σ.length]? =some (some (Ob.row 2 [[AV.p (PV.v (Value.int IntKind.i64 (e.p:Nat))),AV.p (PV.v (Value.int IntKind.i64 (e.s:Nat)))]])):=by simp
 have n0:¬ U σ.length:=fun e=>Nat.lt_irrefl _ (hlt _ e)
 refine (axopen (h.ap a0) hx hb).mono ?_
 rintro _ s1 ⟨rfl,U1,P1,f1,h1',k1⟩
 have g1:=f1.get g0 n0
 have y1:=at_lt g1
 have l1:=f1.len
 simp only[length_append,length_cons,length_nil]at l1
 have n1:¬ U1 σ.length:=fun e=>(f1.own _ e).elim n0 fun e=>by simp at e;omega
 have a1:=Ap.app s1 [some (Ob.row 2 [ixC b root E.length bs])]
 have hx1:Ix v T P1.pages root bs E E.length:=by rw[k1.pages];exact hx
 repeat' first|((with_reducible first|apply cs|apply ws)<;>intro h<;>try simp only[h])|simp only[↓wBA,tXd,convA,seval,wH,ixC,g1,y1]
 refine (axfind (h1'.ap a1) hx1 (hb.kp k1 (by omega)) hl he hxk).mono ?_
 rintro r s2 ⟨⟨U2,P2,f2,h2',k2⟩,hc⟩
 have f02:=((a0.fr.trans f1).trans a1.fr).trans f2
 have l2:=f2.len
 simp only[length_append,length_cons,length_nil]at l2
 have k12:=k1.trans k2
 have hlt1:=h1'.lt
 have n1':¬ U1 s1.length:=fun e=>Nat.lt_irrefl _ (hlt1 _ e)
 have m2:=f2.get (t:=s1.length) (x:=some (Ob.row 2 [[AV.mp b 2 0 0,AV.p (PV.sl 3 (dirR root E.length bs))]])) (by simp[ixC]) n1'
 have y2:=at_lt m2
 have w2:¬ U2 s1.length:=fun e=>(f2.own _ e).elim n1' fun e=>by simp at e;omega
 rcases hc with⟨hin,n,k,b',hb',hnb,hrec,rfl⟩|⟨hnot,rfl⟩
 rotate_left
 ·skip
  repeat' first|((with_reducible first|apply cs|apply ws)<;>intro h<;>try simp only[h])|simp only[↓wBA,tXd,convA,seval,wH]
  all_goals refine ret_st ?_ (by first|exact Nat.le_refl _|(simp only[length_set,length_append];omega)|omega)
  all_goals simp only[resA.eq_1,resL.eq_1,resL.eq_2,resV.eq_1,resV.eq_2,↓wBA,tXd,convA,seval,wH]
  exact⟨U2,P2,v,f02.app _,h2'.ap (Ap.app _ _),k12,fun _ _ _=>rfl,.inl ⟨hnot,rfl⟩⟩
 have hH:=hx.bk b' (List.mem_of_getElem? hb')
 obtain⟨d1,d2,d3⟩:=hH.tk n hnb
 obtain⟨i,hi⟩:=List.getElem?_of_mem hnb
 obtain⟨ss,hp⟩:=hH.ch.get hi
 have hk1:1≤k:=by
  rcases Nat.eq_zero_or_pos k with hz|hz
  ·rw[hz]at hrec;unfold HRec at hrec;rw[if_pos hnb,recOf_zero]at hrec;cases hrec
  ·exact hz
 obtain⟨j,rfl⟩:∃ j,k=j+1:=⟨k - 1,by omega⟩
 have hgs:ss.getD j none=some (encX e):=by
  unfold HRec at hrec;rw[if_pos hnb,hp.recOf]at hrec;exact hrec
 have hgt:getL (v n) ((j+1:Nat):Int)=some (encX e):=by rw[hp.at];exact hgs
 repeat' first|((with_reducible first|apply cs|apply ws)<;>intro h<;>try simp only[h])|simp only[↓wBA,tXd,convA,seval,wH]
 have a2:=Ap.app s2 [some (Ob.row 2 [[AV.p (PV.v (Value.int IntKind.i64 (n:Nat))),AV.p (PV.v (Value.int IntKind.i64 (j+1:Nat)))]])]
 refine (ahdrop (h2'.ap a2) d1 (by rw[k12.pages];exact d2) hp (hb.kp k12 (by omega)) hgt (by omega)).mono ?_
 rintro _ s3 ⟨rfl,U3,P3,f3,h3',k3⟩
 obtain⟨_,hp'⟩:=hp.drop hgs
 obtain⟨hH2,hget2⟩:=hH.change hi hp rfl hp' (x:=none) (k:=j) fun q=>by
  rw[trimL_getD',List.getD_eq_getElem?_getD,List.getElem?_set]
  by_cases e:j=q
  ·subst e
   rw[if_pos rfl,if_pos rfl]
   split<;>rfl
  ·rw[if_neg e,if_neg (fun h=>e h.symm),←List.getD_eq_getElem?_getD]
 obtain⟨A,B,hAB⟩:=List.append_of_mem hin
 have hpm:E.Perm (e::(A++B)):=by rw[hAB];exact List.perm_middle
 have hlen:E.length=(A++B).length+1:=by have:=hpm.length_eq;simpa using this
 have hx3:=hx.cut hb' hpm hnb hrec hH2 hget2
 have f03:=(f02.trans a2.fr).trans f3
 have l3:=f3.len
 simp only[length_append,length_cons,length_nil]at l3
 have k123:=k12.trans k3
 have m3:=f3.get (a2.get m2) w2
 have y3:=at_lt m3
 repeat' first|((with_reducible first|apply cs|apply ws)<;>intro h<;>try simp only[h])|simp only[↓wBA,tXd,convA,seval,wH,m3,y3]
 have hct:=axcount (by_:= -1) (c':=E.length - 1) h3' (by rw[k123.pages];exact hx3) (hb.kp k123 (by omega)) hcl (by omega) (by omega)
 simp only[ixC]at hct
 refine hct.mono ?_
 rintro _ s4 ⟨rfl,U4,P4,f4,h4',k4,hx4⟩
 have l4:=f4.len
 repeat' first|((with_reducible first|apply cs|apply ws)<;>intro h<;>try simp only[h])|simp only[↓wBA,tXd,convA,seval,wH]
 all_goals refine ret_st ?_ (by first|exact Nat.le_refl _|(simp only[length_set,length_append];omega)|omega)
 all_goals simp only[resA.eq_1,resL.eq_1,resL.eq_2,resV.eq_1,resV.eq_2,↓wBA,tXd,convA,seval,wH]
 rw[k123.pages]at hx4
 refine⟨U4,P4,_,f03.trans f4,h4',k123.trans k4,fun m hm1 hm2=> ?_,.inr ⟨hin,fun E' hE'=> ?_⟩⟩
 ·have:m≠n:=fun e=>hm2 (by subst e;exact List.mem_flatten.2 ⟨b',List.mem_of_getElem? hb',hnb⟩)
  unfold upV;rw[if_neg hm1,if_neg this]
 ·have hp2:E'.Perm (A++B):=List.Perm.cons_inv (hE'.symm.trans hpm)
  have hl2:E'.length=E.length - 1:=by have:=hE'.length_eq;simp at this;omega
  rw[hl2]
  exact hx4.perm hp2
end
def tXe:=aa wX <| aa wbu <| aa T3 <| aa T23 <| aa T25 <| aa T29 <| aa T63 <| aa T65 T97
theorem Heap.one {v:Nat→List UInt8}{T:Nat→Bool}{np m:Nat}(h1:1≤m)(h2:m<np)(hT:T m=true)(hp:HPg (v m) 0 []):Heap v T np [m]∧∀ n k,HRec v [m] n k=none:=by
 refine⟨⟨by simp,by simp,by simp;exact⟨h1,h2,hT⟩,⟨[],by simpa using hp⟩,trivial⟩,fun n k=> ?_⟩
 unfold HRec
 split
 ·rename_i hn
  simp at hn;subst hn
  cases k with
  |zero=>exact recOf_zero _ _
  |succ k=>rw[hp.recOf];simp
 ·rfl
section
variable {σ:St} {b p dd l kh root c:Nat} {U:Nat→Prop} {P:PoolV} {v:Nat→List UInt8} {T:Nat→Bool} {bs:List (List Nat)} {E:List HEn}
structure MadeX (v v':Nat→List UInt8)(T T':Nat→Bool)(np root m:Nat):Prop where
 ix:Ix v' T' np root [[m]] [] 0
 tk:Tk (v' 0) np T'
 t0:T' 0=true
 tt:∀ n,T' n=true↔T n=true∨n=root∨n=m
 cn:cnt T' np=cnt T np+2
 fr:T root=false∧T m=false∧root≠m
 oth:∀ q,q≠root→q≠m→q≠0→v' q=v q
theorem axmake (h:Bt σ b p dd l kh U P v)(hT:Tk (v 0) P.pages T)(hnp:P.pages≤3200)(hT0:T 0=true)(hroom:cnt T P.pages+2≤P.pages)(hb:Bud P 1):
 ACalls Tryz.prog 15 [.mp b 2 0 0] σ fun r σ'=>∃ U' P' v' T' root m,r= .tup [intV .i64 (root:Nat),intV .i64 0]∧Fr σ σ' U U'∧Bt σ' b p dd l kh U' P' v'∧Kp P P' 0∧MadeX v v' T T' P.pages root m:=by
 have hlt:=h.lt
 refine acalls_of cx_ok dr_ok Tryz.func15 (by kernel_rfl) rfl (nt:=43) (rs:=[.tmp 2,.tmp 3]) rfl rfl ?_
 repeat' first|((with_reducible first|apply cs|apply ws)<;>intro h<;>try simp only[h])|simp only[↓wBA,tXe,convA,seval,wH]
 refine (amake (T:=T) h hT hnp (by omega) hT0 hb).mono ?_
 rintro r1 s1 ⟨U1,P1,v1,f1,h1,k1,hc1⟩
 rcases hc1 with⟨root,r1',r2',hTr,rfl,hpr,hvo1,hTk1⟩|⟨hall,_,_⟩
 rotate_left
 ·exact absurd (cnt_all _ hall) (by omega)
 have hc1:=cnt_true hTr P.pages r2'
 have hT10:updT T root true 0=true:=by unfold updT;split<;>simp_all
 have l1:=f1.len
 repeat' first|((with_reducible first|apply cs|apply ws)<;>intro h<;>try simp only[h])|simp only[↓wBA,tXe,convA,seval,wH]
 refine (amake (T:=updT T root true) h1 (by rw[k1.pages];exact hTk1) (by rw[k1.pages];exact hnp) (by rw[k1.pages];omega) hT10 (hb.kp k1 (by omega))).mono ?_
 rintro r2 s2 ⟨U2,P2,v2,f2,h2,k2,hc2⟩
 rw[k1.pages]at hc2
 rcases hc2 with⟨m,m1,m2,hTm,rfl,hpm,hvo2,hTk2⟩|⟨hall,_,_⟩
 rotate_left
 ·exact absurd (cnt_all _ hall) (by omega)
 have hc2:=cnt_true hTm P.pages m2
 have hmr:m≠root:=fun e=>by subst e;simp[updT]at hTm
 have hTm':T m=false:=by unfold updT at hTm;rw[if_neg hmr]at hTm;exact hTm
 have hT20:updT (updT T root true) m true 0=true:=by show (if 0=m then true else updT T root true 0)=true;rw[hT10];split<;>rfl
 have f12:=f1.trans f2
 have k12:=k1.trans k2
 have l2:=f2.len
 have hpr2:HPg (v2 root) 0 []:=by rw[hvo2 root (fun e=>hmr e.symm) (by omega)];exact hpr
 have hmb:m<16777216:=by omega
 repeat' first|((with_reducible first|apply cs|apply ws)<;>intro h<;>try simp only[h])|simp only[↓wBA,tXe,convA,seval,wH]
 obtain⟨S3,hS3⟩:∃ S3,S3=s2++[some (Ob.right 3 2)]:=⟨_,rfl⟩
 have a3:Ap s2 S3:=⟨_,hS3⟩
 rw[← hS3]
 have l3:=a3.len
 let vs:Nat→Nat:=fun i=>if i=0 then 0 else m
 refine awp_loopS (X:={ i:Nat // i≤2 }) (fun i=>2 - i.1) (fun i=>[(5,intV .i64 0),(25,intV .i64 (i.1:Nat))]) [8,26,27,28,29,30,31,32,33,34,35,36,37,38,39] (fun i s=>∃ U' P' v',Fr S3 s U2 U'∧Bt s b p dd l kh U' P' v'∧Kp P P' 0∧(∀ q,q≠root→v' q=v2 q)∧HPg (v' root) 0 ((([num3 0,num3 m]:List (List UInt8)).take i.1).map some)) (⟨0,by omega⟩) ?_ ?_ ?_ ?_
 ·simp only[wHl,wHf]
 ·exact⟨U2,P2,v2,Fr.refl _ _,h2.ap a3,k12,fun _ _=>rfl,hpr2⟩
 ·rintro _ _ ⟨_,_,_,h,_⟩;exact h.len
 ·intro w J s hI
  simp only[wHl]
  obtain⟨i,hi⟩:=w
  obtain⟨U4,P4,v4,f4,h4,k4,hv4,hp4⟩:=hI
  dsimp only at*
  have l4:=f4.len
  have hw1:IntKind.i64.wrap 1=1:=by decide
  have hw2:IntKind.i64.wrap 2=2:=by decide
  have c2y:((2:Nat):Int)=2:=rfl
  have hi3:i=0∨i=1∨i=2:=by omega
  rcases hi3 with rfl|rfl|rfl
  ·have hrm:=HPg.room hp4 (num3 0) (by simp[num3])
   repeat' first|((with_reducible first|apply cs|apply ws)<;>intro h<;>try simp only[h])|simp only[↓wBA,tXe,convA,seval,wH,wHl,hw1]|((with_reducible show ACalls _ _ _ _ _);refine (axbytes 0 (by omega) _).mono ?_;rintro _ s5 ⟨a5,rfl⟩)
   have l5:=a5.len
   refine (ahinsert1 (r:=num3 0) (h4.ap a5) r1' (by rw[k4.pages];exact r2') hp4 hrm (.inl rfl) (by simp[num3]) (hb.kp k4 (by omega))).mono ?_
   rintro _ s6 ⟨rfl,U6,P6,f6,h6,k6,hp6⟩
   have l6:=f6.len
   repeat' first|((with_reducible first|apply cs|apply ws)<;>intro h<;>try simp only[h])|simp only[↓wBA,tXe,convA,seval,wH,wHl,hw1]
   exact⟨⟨1,by omega⟩,by show 2 - 1<2 - 0;omega,⟨U6,P6,_,(f4.trans a5.fr).trans f6,h6,k4.trans k6,fun q hq=>by unfold upV;rw[if_neg hq];exact hv4 q hq,by unfold upV;rw[if_pos rfl];exact hp6⟩,by simp only[wHl,wHf,c1y]⟩
  ·have hrm:=dir_room (c:=0) (bs:=[]) (r:=num3 m) hp4 rfl (by simp)
   repeat' first|((with_reducible first|apply cs|apply ws)<;>intro h<;>try simp only[h])|simp only[↓wBA,tXe,convA,seval,wH,wHl,hw1,hw2,c1y]|((with_reducible show ACalls _ _ _ _ _);refine (axbytes m hmb _).mono ?_;rintro _ s5 ⟨a5,rfl⟩)
   have l5:=a5.len
   refine (ahinsert1 (r:=num3 m) (h4.ap a5) r1' (by rw[k4.pages];exact r2') hp4 hrm (.inl rfl) (by simp[num3]) (hb.kp k4 (by omega))).mono ?_
   rintro _ s6 ⟨rfl,U6,P6,f6,h6,k6,hp6⟩
   have l6:=f6.len
   repeat' first|((with_reducible first|apply cs|apply ws)<;>intro h<;>try simp only[h])|simp only[↓wBA,tXe,convA,seval,wH,wHl,hw1,hw2,c1y]
   exact⟨⟨2,by omega⟩,by show 2 - 2<2 - 1;omega,⟨U6,P6,_,(f4.trans a5.fr).trans f6,h6,k4.trans k6,fun q hq=>by unfold upV;rw[if_neg hq];exact hv4 q hq,by unfold upV;rw[if_pos rfl];exact hp6⟩,by simp only[wHl,wHf,c2y]⟩
  ·skip
   repeat' first|((with_reducible first|apply cs|apply ws)<;>intro h<;>try simp only[h])|simp only[↓wBA,tXe,convA,seval,wH,wHl,hw1,hw2,c1y,c2y]
   all_goals refine ret_st ?_ (by first|exact Nat.le_refl _|(simp only[length_set,length_append];omega)|omega)
   all_goals simp only[resA.eq_1,resL.eq_1,resL.eq_2,resV.eq_1,resV.eq_2,↓wBA,tXe,convA,seval,wH]
   have hone:=Heap.one (np:=P.pages) (m:=m) (T:=updT (updT T root true) m true) (v:=v4) m1 m2 (by simp[updT]) (by rw[hv4 m hmr];exact hpm)
   refine⟨U4,P4,v4,_,root,m,rfl,(f12.trans a3.fr).trans f4,h4,k4,⟨⟨⟨r1',r2',?_⟩,hp4,fun b' hb'=> ?_,?_,by simp,by simp,fun i b' hb'=> ?_,by simp⟩,?_,hT20,fun q=> ?_,by omega,⟨hTr,hTm',fun e=>hmr e.symm⟩,fun q q1 q2 q3=> ?_⟩⟩
   ·unfold updT;split<;>simp
   ·simp only[List.mem_singleton]at hb';subst hb';exact hone.1
   ·simp;exact fun e=>hmr e.symm
   ·have:b'=[m]:=by
     cases i with
     |zero=>simpa using hb'.symm
     |succ i=>simp at hb'
    subst this
    have he:entH v4 [m]=[]:=by
     cases hq:entH v4 [m]with
     |nil=>rfl
     |cons a r=>
      have:=(mem_entH hone.1 a.1 a.2.1 a.2.2).1 (by rw[hq];simp)
      rw[hone.2]at this;cases this
    unfold recH;rw[he];simp
   ·rw[hv4 0 (by omega)];exact hTk2
   ·unfold updT
    by_cases e1:q=m
    ·simp[e1]
    ·by_cases e2:q=root
     ·simp[e2]
     ·simp[e1,e2]
   ·rw[hv4 q q1,hvo2 q q2 q3,hvo1 q q1 q3]
theorem axfree (h:Bt σ b p dd l kh U P v)(hT:Tk (v 0) P.pages T)(hnp:P.pages≤3200)(hx:Ix v T P.pages root bs E c)(hb:Bud P 1)(hl:bs.length≤1000000):
 ACalls Tryz.prog 18 [.mp b 2 0 0,intV .i64 (root:Nat)] σ fun r σ'=>FreeR σ b p dd l kh U P v T (root::bs.flatten) r σ':=by
 have hlt:=h.lt
 have hrl:=dirR_len (root:=root) (c:=c) (bs:=bs)
 have hla:lenA cx 63 (.p (.sl 3 (dirR root c bs)))=some (bs.length+1):=by
  unfold lenA
  rw[ck_63]
  simp[elemsA,hrl]
 refine acalls_of cx_ok dr_ok Tryz.func18 (by kernel_rfl) rfl (nt:=37) (rs:=[.tmp 4]) rfl rfl ?_
 repeat' first|((with_reducible first|apply cs|apply ws)<;>intro h<;>try simp only[h])|simp only[↓wBA,tXe,convA,seval,wH]
 refine (axopen h hx hb).mono ?_
 rintro _ s1 ⟨rfl,U1,P1,f1,h1,k1⟩
 have l1:=f1.len
 have hlt1:=h1.lt
 have n1:¬ U1 s1.length:=fun e=>Nat.lt_irrefl _ (hlt1 _ e)
 obtain⟨S,hS⟩:∃ S,S=s1++[some (Ob.row 2 [[AV.mp b 2 0 0,AV.p (PV.sl 3 (dirR root c bs))]])]:=⟨_,rfl⟩
 have aS:Ap s1 S:=⟨_,hS⟩
 have bg:S[s1.length]? =some (some (Ob.row 2 [[AV.mp b 2 0 0,AV.p (PV.sl 3 (dirR root c bs))]])):=by rw[hS];simp
 have lS:=aS.len
 repeat' first|((with_reducible first|apply cs|apply ws)<;>intro h<;>try simp only[h])|simp only[↓wBA,tXe,convA,seval,wH,ixC,hS.symm]
 refine awp_loopS (X:={ k:Nat // k≤bs.length }) (fun k=>bs.length - k.1) (fun k=>[(6,intV .i64 0),(7,intV .i64 (k.1:Nat))]) [16,17,18,19,20,21,22,23,24,25,26,27,28,29,30,31,32] (fun k s=>∃ U' P' v' T',Fr S s U1 U'∧Bt s b p dd l kh U' P' v'∧Kp P P' 0∧(∀ m,m≠0→v' m=v m)∧Tk (v' 0) P.pages T'∧∀ n,T' n=(T n&& !decide (n∈(bs.take k.1).flatten))) (⟨0,by omega⟩) ?_ ?_ ?_ ?_
 ·simp only[wHl,wHf]
 ·exact⟨U1,P1,v,T,Fr.refl _ _,h1.ap aS,k1,fun _ _=>rfl,hT,fun n=>by simp⟩
 ·rintro _ _ ⟨_,_,_,_,h,_⟩;exact h.len
 ·intro w J s hI
  simp only[wHl]
  obtain⟨k,hk⟩:=w
  obtain⟨U2,P2,v2,T2,f2,h2,k2,hv2,hT2,hTt⟩:=hI
  dsimp only at*
  have l2:=f2.len
  have g2:=f2.get bg n1
  have y2:=at_lt g2
  have w2:¬ U2 s1.length:=fun e=>(f2.own _ e).elim n1 fun e=>by have:=at_lt bg;omega
  have hw:=wI k (by omega)
  by_cases hlt':k<bs.length
  ·have e1:=dT (i:=k+1) (n:=bs.length+1) (by omega)
   obtain⟨b',hb'⟩:∃ b',bs[k]? =some b':=⟨bs[k],by simp⟩
   have hH:=hx.bk b' (List.mem_of_getElem? hb')
   obtain⟨hbl,hbh⟩:=h.big2 hH
   have hfst:b'[0]? =some (b'.headD 0):=by
    cases b' with
    |nil=>exact absurd rfl hH.ne
    |cons a r=>rfl
   have htk:(bs.take (k+1)).flatten=(bs.take k).flatten++b':=by
    rw[List.take_add_one,hb',List.flatten_append];simp
   have hdis:∀ n∈b',n∉(bs.take k).flatten:=fun n hn hm=>by
    have h3:=(List.nodup_cons.1 hx.dj).2
    have h4:bs.flatten=(bs.take (k+1)).flatten++(bs.drop (k+1)).flatten:=by rw[← List.flatten_append,List.take_append_drop]
    rw[h4,htk]at h3
    exact (List.nodup_append.1 (List.nodup_append.1 h3).1).2.2 n hm n hn rfl
   have hH2:=(hH.other (v':=v2) (T':=T2) (fun n hn=>hv2 n (by have:=(hH.tk n hn).1;omega)) fun n hn=>by rw[hTt];simp[hdis n hn]).1
   repeat' first|((with_reducible first|apply cs|apply ws)<;>intro h<;>try simp only[h])|simp only[↓wBA,tXe,convA,seval,wH,wHl,hw,g2,y2,hla,e1]
   refine (axpage hb' hbh hl).mono ?_
   rintro _ s3 ⟨a3,rfl⟩
   have l3:=a3.len
   repeat' first|((with_reducible first|apply cs|apply ws)<;>intro h<;>try simp only[h])|simp only[↓wBA,tXe,convA,seval,wH,wHl]
   refine (ahfree (T:=T2) (h2.ap a3) (by rw[k2.pages];exact hT2) (by rw[k2.pages];exact hnp) (by rw[k2.pages];exact hH2) hfst (hb.kp k2 (by omega))).mono ?_
   rintro _ s4 ⟨rfl,U4,P4,v4,T4,f4,h4,k4,hv4,hT4,hTt4⟩
   rw[k2.pages]at hT4
   repeat' first|((with_reducible first|apply cs|apply ws)<;>intro h<;>try simp only[h])|simp only[↓wBA,tXe,convA,seval,wH,wHl,hw]
   refine⟨⟨k+1,by omega⟩,by show bs.length - (k+1)<bs.length - k;omega,⟨U4,P4,v4,T4,(f2.trans a3.fr).trans f4,h4,k2.trans k4,fun m hm=>(hv4 m hm).trans (hv2 m hm),hT4,fun n=> ?_⟩,by simp only[wHl,wHf]⟩
   show T4 n=(T n&& !decide (n∈(bs.take (k+1)).flatten))
   rw[hTt4,hTt,htk]
   by_cases q1:n∈(bs.take k).flatten<;>by_cases q2:n∈b'<;>simp[q1,q2]
  ·obtain rfl:k=bs.length:=by omega
   have e1:=dF (i:=bs.length+1) (n:=bs.length+1) (by omega)
   rw[List.take_length]at hTt
   have hrn:root∉bs.flatten:=(List.nodup_cons.1 hx.dj).1
   have hHr:=(hx.heapD.1.other (v':=v2) (T':=T2) (fun n hn=>hv2 n (by simp at hn;subst hn;have:=hx.rt.1;omega)) fun n hn=>by simp at hn;subst hn;rw[hTt];simp[hrn]).1
   repeat' first|((with_reducible first|apply cs|apply ws)<;>intro h<;>try simp only[h])|simp only[↓wBA,tXe,convA,seval,wH,wHl,hw,g2,y2,hla,e1]
   refine (ahfree (T:=T2) h2 (by rw[k2.pages];exact hT2) (by rw[k2.pages];exact hnp) (by rw[k2.pages];exact hHr) rfl (hb.kp k2 (by omega))).mono ?_
   rintro _ s4 ⟨rfl,U4,P4,v4,T4,f4,h4,k4,hv4,hT4,hTt4⟩
   rw[k2.pages]at hT4
   have l4:=f4.len
   repeat' first|((with_reducible first|apply cs|apply ws)<;>intro h<;>try simp only[h])|simp only[↓wBA,tXe,convA,seval,wH,wHl]
   all_goals refine ret_st ?_ (by first|exact Nat.le_refl _|(simp only[length_set,length_append];omega)|omega)
   all_goals simp only[resA.eq_1,resL.eq_1,resL.eq_2,resV.eq_1,resV.eq_2,↓wBA,tXe,convA,seval,wH]
   refine⟨rfl,U4,P4,v4,T4,((f1.trans aS.fr).trans f2).trans f4,h4,k2.trans k4,fun m hm=>(hv4 m hm).trans (hv2 m hm),hT4,fun n=> ?_⟩
   rw[hTt4,hTt]
   by_cases q1:n∈bs.flatten<;>by_cases q2:n=root<;>simp[q1,q2]
end
end Go.Proofs.YthhbnenaihkggaaGreat
