/- Hash indexes: HashFinds. Hash indexes: arguments of the laws: scripts. -/
import Derived.Test.YthhbnenaihkggaaGreatM47
set_option linter.unusedSimpArgs false
set_option linter.unusedVariables false
set_option linter.defProp false
set_option maxRecDepth 100000
set_option maxHeartbeats 32000000
namespace Go.Proofs.YthhbnenaihkggaaGreat
open Go.RowKit
open List (getElem?_set_ne length_filter_le length_map)
def tXz:=aa wX <| aa wbu <| aa T3 <| aa T4 <| aa T9 <| aa T23 <| aa T25 <| aa T28 <| aa T29 <| aa T36 <| aa T39 <| aa T45 <| aa T50 <| aa T51 <| aa T53 <| aa T55 T57
abbrev OpX:=Int×Int×List UInt8×Int×Int
def opX (o:OpX):List PV:=[.v (.int .i64 o.1),.v (.int .i64 o.2.1),.sl 1 (encB o.2.2.1),.v (.int .i64 o.2.2.2.1),.v (.int .i64 o.2.2.2.2)]
theorem conv_back (r:List UInt8):convB cx 9 23 (.p (.v (.string (strS r))))=some (.p (.sl 1 (encB r))):=by
 unfold convB
 rw[ck_23,ck_9]
 simp only[ck_5]
 rfl
theorem HxV.perm {root np ins:Nat}{v:Nat→List UInt8}{T:Nat→Bool}{bs:List (List Nat)}{E E':List HEn}(h:HxV v T np root bs E ins)(hp:E'.Perm E):HxV v T np root bs E' ins:=⟨h.tk,h.t0,by rw[hp.length_eq];exact h.ix.perm hp,by rw[hp.length_eq];exact h.few,h.many,by rw[hp.length_eq];exact h.le,h.cn,h.only⟩
theorem kp_view {P P':PoolV}(k:Kp P P' 0):P'.view=P.view:=funext fun n=>k.view n
theorem ahashFinds (fr:Int)(ops:List OpX)(hops:ops.length≤140737488351232)(hkey:∀ op∈ops,op.2.2.1.length≤140737488351232)(σ:St):ACalls Tryz.prog 6 [intV .i64 fr,.p (.sl 5 (ops.map opX))] σ fun r σ'=>r=boolV true:=by
 obtain⟨kk,hkk⟩:∃ kk:Nat,IntKind.u64.wrap fr=(kk:Int):=⟨(IntKind.u64.wrap fr).toNat,by rw[IntKind.wrap_u64];omega⟩
 have hm6:(kk:Int).tmod 6=((kk % 6:Nat):Int):=by rw[Int.tmod_eq_emod_of_nonneg (by omega)];omega
 have hu6:IntKind.u64.wrap ((kk % 6:Nat):Int)=((kk % 6:Nat):Int):=IntKind.wrap_u64 _▸(by omega)
 have hw6:IntKind.i64.wrap ((kk % 6:Nat):Int)=((kk % 6:Nat):Int):=wrap_i64 (by omega) (by omega)
 have hw7:=wI (kk % 6) (by omega)
 have hlo:lenA cx 50 (.p (.sl 5 (ops.map opX)))=some ops.length:=by
  unfold lenA;rw[ck_50];simp[elemsA]
 refine acalls_of cx_ok dr_ok Tryz.func6 (by kernel_rfl) rfl (nt:=177) (rs:=[.tmp 4]) rfl rfl ?_
 repeat' first|((with_reducible first|apply cs|apply ws)<;>intro h<;>try simp only[h])|simp only[↓wBA,tXz,convA,seval,wH]|((with_reducible show ACalls _ _ _ _ _);refine (aawake8 _).mono ?_;rintro _ s0 ⟨a0,rfl⟩)
 refine (adnew 8800 (by omega) _).mono ?_
 rintro _ s1 ⟨dd,Fd,rfl,a1,hd,hFd⟩
 repeat' first|((with_reducible first|apply cs|apply ws)<;>intro h<;>try simp only[h])|simp only[↓wBA,tXz,convA,seval,wH]
 refine (adnew 30000 (by omega) _).mono ?_
 rintro _ s2 ⟨dl,Fl,rfl,a2,hl,hFl⟩
 have hd2:=hd.ap a2
 have l0:=a0.len;have l1:=a1.len;have l2:=a2.len
 repeat' first|((with_reducible first|apply cs|apply ws)<;>intro h<;>try simp only[h])|simp only[↓wBA,tXz,convA,seval,wH,hkk,hm6,hu6,hw6,hw7]
 refine (aopenN2 hd2 hl (fun t h1 h2=>by have:=hd.lt t h1;have:=hFl t h2;omega) (by omega) (by omega) (kk % 6+1) (by omega) (by omega)).mono ?_
 rintro _ s3 ⟨p,lg,kh,G,P,rfl,a3,hP,p1,p2,p3,p4,p5,p6,p7,p8,p9⟩
 have hpg:P.pages=1100:=by rw[p1];rfl
 have l3:=a3.len
 have hbud:Bud P 50000000:=⟨by omega,by omega,by omega⟩
 repeat' first|((with_reducible first|apply cs|apply ws)<;>intro h<;>try simp only[h])|simp only[↓wBA,tXz,convA,seval,wH]|((with_reducible show ACalls _ _ _ _ _);refine (abBatch hP).mono ?_;rintro _ s4 ⟨rfl,a4,h4⟩)
 have l4:=a4.len
 refine (ahxMake h4 hpg (by rw[p8];exact tk_new (by omega)) (by omega) (by omega) (hbud.mono (by omega))).mono ?_
 rintro r s5 ⟨U5,P5,v5,T5,root,bs5,rfl,f5,k5,h5,n5⟩
 have l5:=f5.len
 have hb5:=hbud.kp0 k5
 have hls5:P5.log.disk.size=30000:=k5.ls.trans p3
 repeat' first|((with_reducible first|apply cs|apply ws)<;>intro h<;>try simp only[h])|simp only[↓wBA,tXz,convA,seval,wH,bne_self_eq_false]
 refine (abDone h5.bt (by rw[h5.pg,hls5];omega) (hb5.mono (by omega))).mono ?_
 rintro _ s6 ⟨rfl,U6,P6,f6,h6b,k6⟩
 have l6:=f6.len
 have hls6:P6.log.disk.size=30000:=k6.ls.trans hls5
 have hv6:P6.view=v5:=funext fun n=>k6.view n
 have h6:HxS s6 s3.length p dd lg kh root U6 P6 v5 T5 bs5 [] 1100 0:=h5.v.s h6b (k6.pages.trans h5.pg)
 have hV6:HxV P6.view T5 1100 root bs5 [] 0:=by rw[hv6];exact h5.v
 have hb6:Bud P6 40000000:=hb5.kb k6 (by omega)
 clear h4 h5 hP hd hd2 hl h6b
 have hlx0:AV.p (lsX [])= .p (.v (.slice none 0 0)):=rfl
 repeat' first|((with_reducible first|apply cs|apply ws)<;>intro h<;>try simp only[h])|simp only[↓wBA,tXz,convA,seval,wH,bne_self_eq_false]
 refine awp_loopS (X:={ q:Nat×Nat×List HEn×List HEn×Nat // q.1≤120∧q.1≤ops.length }) (fun q=>120 - q.1.1) (fun q=>[(7,.mp q.1.2.1 2 0 0),(9,.p (lsX q.1.2.2.1)),(10,.p (lsX q.1.2.2.2.1)),(11,intV .i64 (q.1.2.2.2.2:Nat)),(12,intV .i64 (q.1.1:Nat))]) [4,13,14,15,16,17,18,19,20,50,51,52,53,54,55,56,57,58,59,60,61,62,63,64,65,66,67,68,69,70,71,72,73,74,75,76,77,78,79,80,81,82,83,84,85,86,87,88,89,90,91,92,93,94,95,96,97,98,99,100,101,102,103,104,105,106,107,108,109,110,111,112,113,114,115,116,117,118,119,120,121,122,123,124,125,126,127,128,129,130,131,132,133,134,135,136,137,138,139,140,141,142,143,144,145,146,147,148,149,150,151,152,153,154,155,156,157,158,159,160,161,162,163,164,165,166,167,168,169,170,171,172,173,174] (fun q s=>s6.length≤s.length∧∃ U P v T bs Td bsd,HxS s q.1.2.1 p dd lg kh root U P v T bs q.1.2.2.1 1100 q.1.1∧HxV P.view Td 1100 root bsd q.1.2.2.2.1 q.1.1∧q.1.2.2.1.Pairwise ltX∧q.1.2.2.2.1.Pairwise ltX∧q.1.2.2.2.2≤bs.length∧Bud P (40000000 - 300000*q.1.1)∧P.log.disk.size=30000) (⟨(0,s3.length,[],[],1),by omega,by omega⟩) ?_ ?_ ?_ ?_
 ·simp only[wHl,wHf,hlx0,c1y]
 ·exact⟨Nat.le_refl _,U6,P6,v5,T5,bs5,T5,bs5,h6,hV6,List.Pairwise.nil,List.Pairwise.nil,by rw[n5];exact Nat.le_refl _,hb6,hls6⟩
 ·rintro _ _ ⟨h,_⟩;exact h
 ·intro y J s hI
  simp only[wHl]
  obtain⟨⟨i,b,lx,dx,bk⟩,hi,hi2⟩:=y
  obtain⟨hsl,U,PP,v,T,bs,Td,bsd,hx,hv,hsx,hsd,hbk,hb,hls⟩:=hI
  dsimp only at*
  clear h6 hV6 hb6 f6 f5 k5 k6
  obtain⟨hbl,hll⟩:=hx.lens (by omega)
  have hln:=lsX_len lx
  by_cases hlt:i<ops.length∧i<120
  rotate_left
  ·have hend:=awhole hx (by omega) hsx (hb.mono (by omega))
   by_cases hl1:i<ops.length
   ·have e1:=dT (i:=i) (n:=ops.length) hl1
    have e2:decide ((i:Int)<120)=false:=by simp only[decide_eq_false_iff_not];omega
    repeat' first|((with_reducible first|apply cs|apply ws)<;>intro h<;>try simp only[h])|simp only[↓wBA,tXz,convA,seval,wH,wHl,hlo,e1,e2]
    refine hend.mono ?_
    rintro _ s9 ⟨l9,rfl⟩
    repeat' first|((with_reducible first|apply cs|apply ws)<;>intro h<;>try simp only[h])|simp only[↓wBA,tXz,convA,seval,wH,wHl]
    all_goals refine ret_st ?_ (by first|exact Nat.le_refl _|(simp only[List.length_set,List.length_append];omega)|omega)
    all_goals simp only[resA.eq_1,resL.eq_1,resL.eq_2,resV.eq_1,resV.eq_2,↓wBA,tXz,convA,seval,wH]
   ·have e1:=dF (i:=i) (n:=ops.length) hl1
    repeat' first|((with_reducible first|apply cs|apply ws)<;>intro h<;>try simp only[h])|simp only[↓wBA,tXz,convA,seval,wH,wHl,hlo,e1]
    refine hend.mono ?_
    rintro _ s9 ⟨l9,rfl⟩
    repeat' first|((with_reducible first|apply cs|apply ws)<;>intro h<;>try simp only[h])|simp only[↓wBA,tXz,convA,seval,wH,wHl]
    all_goals refine ret_st ?_ (by first|exact Nat.le_refl _|(simp only[List.length_set,List.length_append];omega)|omega)
    all_goals simp only[resA.eq_1,resL.eq_1,resL.eq_2,resV.eq_1,resV.eq_2,↓wBA,tXz,convA,seval,wH]
  have e1:=dT (i:=i) (n:=ops.length) hlt.1
  have e2:decide ((i:Int)<120)=true:=by simp only[decide_eq_true_eq];omega
  obtain⟨⟨kd,nn,key,pg,sl⟩,hop⟩:∃ op,ops[i]? =some op:=⟨ops[i]'hlt.1,by simp[hlt.1]⟩
  have hget:(ops.map opX)[i]? =some [.v (.int .i64 kd),.v (.int .i64 nn),.sl 1 (encB key),.v (.int .i64 pg),.v (.int .i64 sl)]:=by rw[List.getElem?_map,hop];rfl
  have hkl:=hkey _ (List.mem_of_getElem? hop)
  dsimp only at hkl
  have hi0:=nnI i
  have hif:((i:Int)<((ops.map opX).length:Int))=True:=eq_true (by rw[length_map];omega)
  have hif':((i:Int)<(ops.length:Int))=True:=eq_true (by omega)
  have hcs:=conv_str key
  have hcb:=conv_back key
  have hwi:=wI i (by omega)
  have hrm:6+2*i+roomF (i / 8+1)<1100:=by
   have:roomF (i / 8+1)≤roomF 15:=roomF_mono (by omega)
   have:roomF 15=854:=by decide
   omega
  have hUlt:=hx.bt.lt
  have nU:∀ t,s.length≤t→¬ U t:=fun t ht e=>by have:=hUlt t e;omega
  obtain⟨S0,hS0⟩:∃ S0,S0=s++[some (Ob.row 5 [[.p (.v (.int .i64 kd)),.p (.v (.int .i64 nn)),.p (.sl 1 (encB key)),.p (.v (.int .i64 pg)),.p (.v (.int .i64 sl))]])]++[some (Ob.row 3 [[.p (.v (.string (strS key))),.p (.v (.int .i64 pg)),.p (.v (.int .i64 sl))]])]:=⟨_,rfl⟩
  have aS0:Ap s S0:=by rw[hS0];exact (Ap.app _ _).more _
  have lS0:S0.length=s.length+2:=by rw[hS0];simp
  have g0:S0[s.length]? =some (some (Ob.row 5 [[.p (.v (.int .i64 kd)),.p (.v (.int .i64 nn)),.p (.sl 1 (encB key)),.p (.v (.int .i64 pg)),.p (.v (.int .i64 sl))]])):=by rw[hS0];simp
  have g1:S0[s.length+1]? =some (some (Ob.row 3 [[.p (.v (.string (strS key))),.p (.v (.int .i64 pg)),.p (.v (.int .i64 sl))]])):=by rw[hS0];simp
  have y0:=at_lt g0
  have y1:=at_lt g1
  have hx0:=hx.ap aS0
  have hways:(kd=3∧lx≠[])∨kd=1∨kd=2∨kd=5∨kd=6∨(kd=3∧lx=[])∨(kd≠1∧kd≠2∧kd≠3∧kd≠5∧kd≠6):=by
   by_cases h:lx=[]
   ·by_cases h3:kd=3
    ·exact .inr (.inr (.inr (.inr (.inr (.inl ⟨h3,h⟩)))))
    ·by_cases h1:kd=1
     ·exact .inr (.inl h1)
     ·by_cases h2:kd=2
      ·exact .inr (.inr (.inl h2))
      ·by_cases h5:kd=5
       ·exact .inr (.inr (.inr (.inl h5)))
       ·by_cases h6:kd=6
        ·exact .inr (.inr (.inr (.inr (.inl h6))))
        ·exact .inr (.inr (.inr (.inr (.inr (.inr ⟨h1,h2,h3,h5,h6⟩)))))
   ·by_cases h3:kd=3
    ·exact .inl ⟨h3,h⟩
    ·by_cases h1:kd=1
     ·exact .inr (.inl h1)
     ·by_cases h2:kd=2
      ·exact .inr (.inr (.inl h2))
      ·by_cases h5:kd=5
       ·exact .inr (.inr (.inr (.inl h5)))
       ·by_cases h6:kd=6
        ·exact .inr (.inr (.inr (.inr (.inl h6))))
        ·exact .inr (.inr (.inr (.inr (.inr (.inr ⟨h1,h2,h3,h5,h6⟩)))))
  rcases hways with⟨rfl,hne⟩|rfl|rfl|rfl|rfl|⟨rfl,hnil⟩|⟨k1,k2,k3,k5,k6⟩
  ·obtain⟨m,hm⟩:∃ m:Nat,IntKind.u64.wrap nn=(m:Int):=⟨(IntKind.u64.wrap nn).toNat,by rw[IntKind.wrap_u64];omega⟩
   have hpos:0<lx.length:=List.length_pos_iff.2 hne
   have ep:decide ((lx.length:Int)>0)=true:=by simp only[decide_eq_true_eq];omega
   have hw64:IntKind.u64.wrap (lx.length:Int)=(lx.length:Int):=by rw[IntKind.wrap_u64];omega
   have hl0:((lx.length:Int)=0)=False:=eq_false (by omega)
   have hl0':((lx.length:Int)==0)=false:=by simp;omega
   have hmm:m % lx.length<lx.length:=Nat.mod_lt _ hpos
   have hr1:(m:Int).tmod (lx.length:Int)=((m % lx.length:Nat):Int):=by rw[Int.tmod_eq_emod_of_nonneg (by omega)];omega
   have hr2:IntKind.u64.wrap ((m % lx.length:Nat):Int)=((m % lx.length:Nat):Int):=by rw[IntKind.wrap_u64];omega
   have hr3:IntKind.i64.wrap ((m % lx.length:Nat):Int)=((m % lx.length:Nat):Int):=wrap_i64 (by omega) (by omega)
   obtain⟨e,hme⟩:∃ e,lx[m % lx.length]? =some e:=⟨lx[m % lx.length],by simp⟩
   have hlsx:=lsX_ne hne
   have hge:=rowX_get hme
   have hge0:=nnI (m % lx.length)
   have hge1:(((m % lx.length:Nat):Int)<((lx.map rowX).length:Int))=True:=eq_true (by rw[length_map];omega)
   have hge1':(((m % lx.length:Nat):Int)<(lx.length:Int))=True:=eq_true (by omega)
   have hek:e.k.length≤140737488351232:=by have:=(hx.ix.ok e (List.mem_of_getElem? hme)).1;omega
   have hcbe:=conv_back e.k
   obtain⟨S1,hS1⟩:∃ S1,S1=(S0.set (s.length+1) (some (Ob.row 3 [[.p (.v (.string (strS e.k))),.p (.v (.int .i64 (e.p:Nat))),.p (.v (.int .i64 (e.s:Nat)))]]))).set s.length (some (Ob.row 5 [[.p (.v (.int .i64 2)),.p (.v (.int .i64 nn)),.p (.sl 1 (encB key)),.p (.v (.int .i64 pg)),.p (.v (.int .i64 sl))]])):=⟨_,rfl⟩
   have lS1:S1.length=s.length+2:=by rw[hS1];simp[lS0]
   have G0:S1[s.length]? =some (some (Ob.row 5 [[.p (.v (.int .i64 2)),.p (.v (.int .i64 nn)),.p (.sl 1 (encB key)),.p (.v (.int .i64 pg)),.p (.v (.int .i64 sl))]])):=by rw[hS1];exact List.getElem?_set_self (by simp;omega)
   have G1:S1[s.length+1]? =some (some (Ob.row 3 [[.p (.v (.string (strS e.k))),.p (.v (.int .i64 (e.p:Nat))),.p (.v (.int .i64 (e.s:Nat)))]])):=by rw[hS1,getElem?_set_ne (by omega)];exact List.getElem?_set_self (by omega)
   have Y0:=at_lt G0
   have Y1:=at_lt G1
   have hgs:(S0.set (s.length+1) (some (Ob.row 3 [[.p (.v (.string (strS e.k))),.p (.v (.int .i64 (e.p:Nat))),.p (.v (.int .i64 (e.s:Nat)))]])))[s.length]? =some (some (Ob.row 5 [[.p (.v (.int .i64 3)),.p (.v (.int .i64 nn)),.p (.sl 1 (encB key)),.p (.v (.int .i64 pg)),.p (.v (.int .i64 sl))]])):=by rw[getElem?_set_ne (by omega)];exact g0
   have hxs1:HxS S1 b p dd lg kh root U PP v T bs lx 1100 i:=by
    have f1:Fr S0 S1 (fun t=>t=s.length∨t=s.length+1) (fun t=>t=s.length∨t=s.length+1):=⟨by omega,fun t _ hn=>by rw[hS1,getElem?_set_ne (fun e=>hn (.inl e.symm)),getElem?_set_ne (fun e=>hn (.inr e.symm))],fun t h=>.inl h⟩
    exact hx0.frame f1 fun t h1 h2=>h2.elim (fun e=>nU t (by omega) h1) fun e=>nU t (by omega) h1
   have i1:=ahxDel hxs1 (by omega) (hb.mono (by omega)) e.k (e.p:Nat) (e.s:Nat)
   obtain⟨q1,q2,hs7⟩:=rDel_same (List.Perm.refl lx) hsx hx.ix.ok e.k (e.p:Nat) (e.s:Nat)
   have hri:=aref7Del lx (by omega) e.k (e.p:Nat) (e.s:Nat)
   simp only[entS]at hri
   rw[q1]at i1
   obtain⟨er,her⟩:∃ er,er=(rDel lx e.k (e.p:Nat) (e.s:Nat)).2:=⟨_,rfl⟩
   obtain⟨l7,hl7⟩:∃ l7,l7=(rDel lx e.k (e.p:Nat) (e.s:Nat)).1:=⟨_,rfl⟩
   rw[← her]at i1 hri
   rw[← hl7]at hri q2 hs7
   rw[hlsx]at hri
   repeat' first|((with_reducible first|apply cs|apply ws)<;>intro h<;>try simp only[h])|simp only[↓wBA,tXz,convA,seval,wH,wHl,hlo,hln,e1,e2,hget,hi0,hif,hif',hcs,hcb,hS0.symm,g0,g1,y0,y1,beq_self_eq_true,ep,hm,hw64,hl0,hl0',hr1,hr2,hr3,hlsx,hge,hge0,hge1,hge1',hgs,hcbe,hS1.symm,G0,G1,Y0,Y1]
   refine i1.mono ?_
   rintro _ S7 ⟨rfl,U7,P7,v7,f7,k7,h7⟩
   have l7':=f7.len
   have go7:=f7.get G0 (nU _ (Nat.le_refl _))
   have gx7:=f7.get G1 (nU _ (by omega))
   have yo7:=at_lt go7
   have yx7:=at_lt gx7
   have n7:¬ U7 s.length:=fun e=>(f7.own _ e).elim (nU _ (Nat.le_refl _)) fun e=>by omega
   replace h7:=(h7.perm q2.symm).more (i2:=i+1) (by omega)
   have hv7:HxV P7.view Td 1100 root bsd dx (i+1):=by rw[kp_view k7];exact hv.more (by omega)
   have hb7:Bud P7 (40000000 - 300000*(i+1)):=(hb.kp0 k7).mono (by omega)
   have hls7:=k7.ls.trans hls
   have hd7:=hsd
   repeat' first|((with_reducible first|apply cs|apply ws)<;>intro h<;>try simp only[h])|simp only[↓wBA,tXz,convA,seval,wH,wHl,go7,gx7,yo7,yx7]|((with_reducible show ACalls _ _ _ _ _);refine (hri _).eq ?_)
   refine (ahxFind h7 (by omega) (hb7.mono (by omega)) key hkl).mono ?_
   rintro _ s8 ⟨av,R,U8,P8,rfl,hm8,hp8,ho8,f8,k8,h8,hms⟩
   have l8:=f8.len
   have go8:=f8.get go7 n7
   have y8:=at_lt go8
   have n8:¬ U8 s.length:=fun e=>(f8.own _ e).elim n7 fun e=>by omega
   repeat' first|((with_reducible first|apply cs|apply ws)<;>intro h<;>try simp only[h])|simp only[↓wBA,tXz,convA,seval,wH,wHl,go8,y8]
   refine (ahxBuckets h8 (by omega) ((hb7.kp0 k8).mono (by omega))).mono ?_
   rintro _ s9 ⟨rfl,U9,P9,f9,k9,h9⟩
   have l9:=f9.len
   have go9:=f9.get go8 n8
   have y9:=at_lt go9
   have m9:MutR s9 av 2 (R.map ridC):=hm8.same fun t ht=>f9.keep t (hm8.lt ht) (hms t ht).2
   have hR:R=rFind l7 key:=rFind_eq (List.Perm.refl l7) hs7 hp8 ho8
   have hl7l:=(h7.lens (by omega)).2
   have hRl:R.length≤1000:=by
    have:=hp8.length_eq
    rw[length_map]at this
    have h88:=length_filter_le (fun e:HEn=>e.k==key) l7
    omega
   have hrf:=aref8Find l7 (by omega) key
   have hsm:=asame (σ:=s9) (mut_rd m9) (.inl (.inl rfl):Rd s9 1 (.p (ridV (rFind l7 key))) (ridV (rFind l7 key))) hRl
   rw[← hR]at hsm hrf
   simp only[decide_true]at hsm
   have c1v:leaf av=true∧cellsA av=some [av]:=by rcases m9 with⟨rfl,_⟩|⟨t,rfl,_⟩<;>exact⟨rfl,rfl⟩
   have enb:decide (((bs.length:Nat):Int)<(bk:Int))=false:=by simp only[decide_eq_false_iff_not];omega
   repeat' first|((with_reducible first|apply cs|apply ws)<;>intro h<;>try simp only[h])|simp only[↓wBA,tXz,convA,seval,wH,wHl,go9,y9,hcs,enb,bne_self_eq_false,c1v.1,c1v.2,hwi]|((with_reducible show ACalls _ _ _ _ _);first|refine (hrf _).eq ?_|refine hsm.eq ?_)
   exact⟨⟨(i+1,b,l7,dx,bs.length),by show i+1≤120∧i+1≤ops.length;omega⟩,by show 120 - (i+1)<120 - i;omega,⟨by omega,U9,P9,v7,T,bs,Td,bsd,h9,by rw[kp_view k9,kp_view k8];exact hv7,hs7,hd7,Nat.le_refl _,(hb7.kp0 k8).kp0 k9,k9.ls.trans (k8.ls.trans hls7)⟩,by simp only[wHl,wHf]⟩
  ·have i1:=ahxIns hx0 (by omega) (by omega) hrm (hb.mono (by omega)) key pg sl
   obtain⟨q1,q2,hs7⟩:=rIns_same (List.Perm.refl lx) hsx key pg sl
   have hri:=aref7Ins lx (by omega) hx.ix.ok key hkl pg sl
   simp only[entS]at hri
   rw[q1]at i1
   obtain⟨er,her⟩:∃ er,er=(rIns lx key pg sl).2:=⟨_,rfl⟩
   obtain⟨l7,hl7⟩:∃ l7,l7=(rIns lx key pg sl).1:=⟨_,rfl⟩
   rw[← her]at i1 hri
   rw[← hl7]at hri q2 hs7
   repeat' first|((with_reducible first|apply cs|apply ws)<;>intro h<;>try simp only[h])|simp only[↓wBA,tXz,convA,seval,wH,wHl,hlo,hln,e1,e2,hget,hi0,hif,hif',hcs,hcb,hS0.symm,g0,g1,y0,y1]
   refine i1.mono ?_
   rintro _ S7 ⟨rfl,U7,P7,v7,T7,bs7,f7,k7,hble,h7⟩
   have l7':=f7.len
   have go7:=f7.get g0 (nU _ (Nat.le_refl _))
   have gx7:=f7.get g1 (nU _ (by omega))
   have yo7:=at_lt go7
   have yx7:=at_lt gx7
   have n7:¬ U7 s.length:=fun e=>(f7.own _ e).elim (nU _ (Nat.le_refl _)) fun e=>by omega
   replace h7:=h7.perm q2.symm
   have hv7:HxV P7.view Td 1100 root bsd dx (i+1):=by rw[kp_view k7];exact hv.more (by omega)
   have hb7:Bud P7 (40000000 - 300000*(i+1)):=(hb.kp0 k7).mono (by omega)
   have hls7:=k7.ls.trans hls
   have hd7:=hsd
   repeat' first|((with_reducible first|apply cs|apply ws)<;>intro h<;>try simp only[h])|simp only[↓wBA,tXz,convA,seval,wH,wHl,go7,gx7,yo7,yx7]|((with_reducible show ACalls _ _ _ _ _);refine (hri _).eq ?_)
   refine (ahxFind h7 (by omega) (hb7.mono (by omega)) key hkl).mono ?_
   rintro _ s8 ⟨av,R,U8,P8,rfl,hm8,hp8,ho8,f8,k8,h8,hms⟩
   have l8:=f8.len
   have go8:=f8.get go7 n7
   have y8:=at_lt go8
   have n8:¬ U8 s.length:=fun e=>(f8.own _ e).elim n7 fun e=>by omega
   repeat' first|((with_reducible first|apply cs|apply ws)<;>intro h<;>try simp only[h])|simp only[↓wBA,tXz,convA,seval,wH,wHl,go8,y8]
   refine (ahxBuckets h8 (by omega) ((hb7.kp0 k8).mono (by omega))).mono ?_
   rintro _ s9 ⟨rfl,U9,P9,f9,k9,h9⟩
   have l9:=f9.len
   have go9:=f9.get go8 n8
   have y9:=at_lt go9
   have m9:MutR s9 av 2 (R.map ridC):=hm8.same fun t ht=>f9.keep t (hm8.lt ht) (hms t ht).2
   have hR:R=rFind l7 key:=rFind_eq (List.Perm.refl l7) hs7 hp8 ho8
   have hl7l:=(h7.lens (by omega)).2
   have hRl:R.length≤1000:=by
    have:=hp8.length_eq
    rw[length_map]at this
    have h88:=length_filter_le (fun e:HEn=>e.k==key) l7
    omega
   have hrf:=aref8Find l7 (by omega) key
   have hsm:=asame (σ:=s9) (mut_rd m9) (.inl (.inl rfl):Rd s9 1 (.p (ridV (rFind l7 key))) (ridV (rFind l7 key))) hRl
   rw[← hR]at hsm hrf
   simp only[decide_true]at hsm
   have c1v:leaf av=true∧cellsA av=some [av]:=by rcases m9 with⟨rfl,_⟩|⟨t,rfl,_⟩<;>exact⟨rfl,rfl⟩
   have enb:decide (((bs7.length:Nat):Int)<(bk:Int))=false:=by simp only[decide_eq_false_iff_not];omega
   repeat' first|((with_reducible first|apply cs|apply ws)<;>intro h<;>try simp only[h])|simp only[↓wBA,tXz,convA,seval,wH,wHl,go9,y9,hcs,enb,bne_self_eq_false,c1v.1,c1v.2,hwi]|((with_reducible show ACalls _ _ _ _ _);first|refine (hrf _).eq ?_|refine hsm.eq ?_)
   exact⟨⟨(i+1,b,l7,dx,bs7.length),by show i+1≤120∧i+1≤ops.length;omega⟩,by show 120 - (i+1)<120 - i;omega,⟨by omega,U9,P9,v7,T7,bs7,Td,bsd,h9,by rw[kp_view k9,kp_view k8];exact hv7,hs7,hd7,Nat.le_refl _,(hb7.kp0 k8).kp0 k9,k9.ls.trans (k8.ls.trans hls7)⟩,by simp only[wHl,wHf]⟩
  ·have i1:=ahxDel hx0 (by omega) (hb.mono (by omega)) key pg sl
   obtain⟨q1,q2,hs7⟩:=rDel_same (List.Perm.refl lx) hsx hx.ix.ok key pg sl
   have hri:=aref7Del lx (by omega) key pg sl
   simp only[entS]at hri
   rw[q1]at i1
   obtain⟨er,her⟩:∃ er,er=(rDel lx key pg sl).2:=⟨_,rfl⟩
   obtain⟨l7,hl7⟩:∃ l7,l7=(rDel lx key pg sl).1:=⟨_,rfl⟩
   rw[← her]at i1 hri
   rw[← hl7]at hri q2 hs7
   skip
   repeat' first|((with_reducible first|apply cs|apply ws)<;>intro h<;>try simp only[h])|simp only[↓wBA,tXz,convA,seval,wH,wHl,hlo,hln,e1,e2,hget,hi0,hif,hif',hcs,hcb,hS0.symm,g0,g1,y0,y1]
   refine i1.mono ?_
   rintro _ S7 ⟨rfl,U7,P7,v7,f7,k7,h7⟩
   have l7':=f7.len
   have go7:=f7.get g0 (nU _ (Nat.le_refl _))
   have gx7:=f7.get g1 (nU _ (by omega))
   have yo7:=at_lt go7
   have yx7:=at_lt gx7
   have n7:¬ U7 s.length:=fun e=>(f7.own _ e).elim (nU _ (Nat.le_refl _)) fun e=>by omega
   replace h7:=(h7.perm q2.symm).more (i2:=i+1) (by omega)
   have hv7:HxV P7.view Td 1100 root bsd dx (i+1):=by rw[kp_view k7];exact hv.more (by omega)
   have hb7:Bud P7 (40000000 - 300000*(i+1)):=(hb.kp0 k7).mono (by omega)
   have hls7:=k7.ls.trans hls
   have hd7:=hsd
   repeat' first|((with_reducible first|apply cs|apply ws)<;>intro h<;>try simp only[h])|simp only[↓wBA,tXz,convA,seval,wH,wHl,go7,gx7,yo7,yx7]|((with_reducible show ACalls _ _ _ _ _);refine (hri _).eq ?_)
   refine (ahxFind h7 (by omega) (hb7.mono (by omega)) key hkl).mono ?_
   rintro _ s8 ⟨av,R,U8,P8,rfl,hm8,hp8,ho8,f8,k8,h8,hms⟩
   have l8:=f8.len
   have go8:=f8.get go7 n7
   have y8:=at_lt go8
   have n8:¬ U8 s.length:=fun e=>(f8.own _ e).elim n7 fun e=>by omega
   repeat' first|((with_reducible first|apply cs|apply ws)<;>intro h<;>try simp only[h])|simp only[↓wBA,tXz,convA,seval,wH,wHl,go8,y8]
   refine (ahxBuckets h8 (by omega) ((hb7.kp0 k8).mono (by omega))).mono ?_
   rintro _ s9 ⟨rfl,U9,P9,f9,k9,h9⟩
   have l9:=f9.len
   have go9:=f9.get go8 n8
   have y9:=at_lt go9
   have m9:MutR s9 av 2 (R.map ridC):=hm8.same fun t ht=>f9.keep t (hm8.lt ht) (hms t ht).2
   have hR:R=rFind l7 key:=rFind_eq (List.Perm.refl l7) hs7 hp8 ho8
   have hl7l:=(h7.lens (by omega)).2
   have hRl:R.length≤1000:=by
    have:=hp8.length_eq
    rw[length_map]at this
    have h88:=length_filter_le (fun e:HEn=>e.k==key) l7
    omega
   have hrf:=aref8Find l7 (by omega) key
   have hsm:=asame (σ:=s9) (mut_rd m9) (.inl (.inl rfl):Rd s9 1 (.p (ridV (rFind l7 key))) (ridV (rFind l7 key))) hRl
   rw[← hR]at hsm hrf
   simp only[decide_true]at hsm
   have c1v:leaf av=true∧cellsA av=some [av]:=by rcases m9 with⟨rfl,_⟩|⟨t,rfl,_⟩<;>exact⟨rfl,rfl⟩
   have enb:decide (((bs.length:Nat):Int)<(bk:Int))=false:=by simp only[decide_eq_false_iff_not];omega
   repeat' first|((with_reducible first|apply cs|apply ws)<;>intro h<;>try simp only[h])|simp only[↓wBA,tXz,convA,seval,wH,wHl,go9,y9,hcs,enb,bne_self_eq_false,c1v.1,c1v.2,hwi]|((with_reducible show ACalls _ _ _ _ _);first|refine (hrf _).eq ?_|refine hsm.eq ?_)
   exact⟨⟨(i+1,b,l7,dx,bs.length),by show i+1≤120∧i+1≤ops.length;omega⟩,by show 120 - (i+1)<120 - i;omega,⟨by omega,U9,P9,v7,T,bs,Td,bsd,h9,by rw[kp_view k9,kp_view k8];exact hv7,hs7,hd7,Nat.le_refl _,(hb7.kp0 k8).kp0 k9,k9.ls.trans (k8.ls.trans hls7)⟩,by simp only[wHl,wHf]⟩
  ·skip
   repeat' first|((with_reducible first|apply cs|apply ws)<;>intro h<;>try simp only[h])|simp only[↓wBA,tXz,convA,seval,wH,wHl,hlo,hln,e1,e2,hget,hi0,hif,hif',hcs,hcb,hS0.symm,g0,g1,y0,y1]
   refine (abDone hx0.bt (by rw[hx0.pg,hls];omega) (hb.mono (by omega))).mono ?_
   rintro _ S7 ⟨rfl,U7,P7,f7,h7b,k7⟩
   have l7':=f7.len
   have go7:=f7.get g0 (nU _ (Nat.le_refl _))
   have yo7:=at_lt go7
   have n7:¬ U7 s.length:=fun e=>(f7.own _ e).elim (nU _ (Nat.le_refl _)) fun e=>by omega
   have h7:HxS S7 b p dd lg kh root U7 P7 v T bs lx 1100 (i+1):=(hx0.v.s h7b (k7.pages.trans hx.pg)).more (by omega)
   have hvv:P7.view=v:=funext fun n=>k7.view n
   have hv7:HxV P7.view T 1100 root bs lx (i+1):=by rw[hvv];exact hx.v.more (by omega)
   have hb7:Bud P7 (40000000 - 300000*(i+1)):=hb.kb k7 (by omega)
   have hls7:=k7.ls.trans hls
   have hd7:=hsx
   have hs7:=hsx
   repeat' first|((with_reducible first|apply cs|apply ws)<;>intro h<;>try simp only[h])|simp only[↓wBA,tXz,convA,seval,wH,wHl,go7,yo7]
   refine (ahxFind h7 (by omega) (hb7.mono (by omega)) key hkl).mono ?_
   rintro _ s8 ⟨av,R,U8,P8,rfl,hm8,hp8,ho8,f8,k8,h8,hms⟩
   have l8:=f8.len
   have go8:=f8.get go7 n7
   have y8:=at_lt go8
   have n8:¬ U8 s.length:=fun e=>(f8.own _ e).elim n7 fun e=>by omega
   repeat' first|((with_reducible first|apply cs|apply ws)<;>intro h<;>try simp only[h])|simp only[↓wBA,tXz,convA,seval,wH,wHl,go8,y8]
   refine (ahxBuckets h8 (by omega) ((hb7.kp0 k8).mono (by omega))).mono ?_
   rintro _ s9 ⟨rfl,U9,P9,f9,k9,h9⟩
   have l9:=f9.len
   have go9:=f9.get go8 n8
   have y9:=at_lt go9
   have m9:MutR s9 av 2 (R.map ridC):=hm8.same fun t ht=>f9.keep t (hm8.lt ht) (hms t ht).2
   have hR:R=rFind lx key:=rFind_eq (List.Perm.refl lx) hs7 hp8 ho8
   have hl7l:=(h7.lens (by omega)).2
   have hRl:R.length≤1000:=by
    have:=hp8.length_eq
    rw[length_map]at this
    have h88:=length_filter_le (fun e:HEn=>e.k==key) lx
    omega
   have hrf:=aref8Find lx (by omega) key
   have hsm:=asame (σ:=s9) (mut_rd m9) (.inl (.inl rfl):Rd s9 1 (.p (ridV (rFind lx key))) (ridV (rFind lx key))) hRl
   rw[← hR]at hsm hrf
   simp only[decide_true]at hsm
   have c1v:leaf av=true∧cellsA av=some [av]:=by rcases m9 with⟨rfl,_⟩|⟨t,rfl,_⟩<;>exact⟨rfl,rfl⟩
   have enb:decide (((bs.length:Nat):Int)<(bk:Int))=false:=by simp only[decide_eq_false_iff_not];omega
   repeat' first|((with_reducible first|apply cs|apply ws)<;>intro h<;>try simp only[h])|simp only[↓wBA,tXz,convA,seval,wH,wHl,go9,y9,hcs,enb,bne_self_eq_false,c1v.1,c1v.2,hwi]|((with_reducible show ACalls _ _ _ _ _);first|refine (hrf _).eq ?_|refine hsm.eq ?_)
   exact⟨⟨(i+1,b,lx,lx,bs.length),by show i+1≤120∧i+1≤ops.length;omega⟩,by show 120 - (i+1)<120 - i;omega,⟨by omega,U9,P9,v,T,bs,T,bs,h9,by rw[kp_view k9,kp_view k8];exact hv7,hs7,hd7,Nat.le_refl _,(hb7.kp0 k8).kp0 k9,k9.ls.trans (k8.ls.trans hls7)⟩,by simp only[wHl,wHf]⟩
  ·obtain⟨B,G',ch,hin,hU'⟩:=id hx0.bt
   repeat' first|((with_reducible first|apply cs|apply ws)<;>intro h<;>try simp only[h])|simp only[↓wBA,tXz,convA,seval,wH,wHl,hlo,hln,e1,e2,hget,hi0,hif,hif',hcs,hcb,hS0.symm,g0,g1,y0,y1]
   refine (abBatch hin.pl).mono ?_
   rintro _ S7 ⟨rfl,a7,h7b⟩
   have l7':=a7.len
   have go7:=a7.get g0
   have yo7:=at_lt go7
   have n7:¬ (s.length=S0.length∨G' s.length):=fun e=>e.elim (fun e=>by omega) fun e=>nU _ (Nat.le_refl _) ((hU' _).2 (.inr e))
   have h7:=(hv.s h7b hx.pg).more (i2:=i+1) (by omega)
   have hv7:=hv.more (i2:=i+1) (by omega)
   have hb7:Bud PP (40000000 - 300000*(i+1)):=hb.mono (by omega)
   have hls7:=hls
   have hbk1:=hv.ix.n1
   have hd7:=hsd
   have hs7:=hsd
   repeat' first|((with_reducible first|apply cs|apply ws)<;>intro h<;>try simp only[h])|simp only[↓wBA,tXz,convA,seval,wH,wHl,go7,yo7]
   refine (ahxFind h7 (by omega) (hb7.mono (by omega)) key hkl).mono ?_
   rintro _ s8 ⟨av,R,U8,P8,rfl,hm8,hp8,ho8,f8,k8,h8,hms⟩
   have l8:=f8.len
   have go8:=f8.get go7 n7
   have y8:=at_lt go8
   have n8:¬ U8 s.length:=fun e=>(f8.own _ e).elim n7 fun e=>by omega
   repeat' first|((with_reducible first|apply cs|apply ws)<;>intro h<;>try simp only[h])|simp only[↓wBA,tXz,convA,seval,wH,wHl,go8,y8]
   refine (ahxBuckets h8 (by omega) ((hb7.kp0 k8).mono (by omega))).mono ?_
   rintro _ s9 ⟨rfl,U9,P9,f9,k9,h9⟩
   have l9:=f9.len
   have go9:=f9.get go8 n8
   have y9:=at_lt go9
   have m9:MutR s9 av 2 (R.map ridC):=hm8.same fun t ht=>f9.keep t (hm8.lt ht) (hms t ht).2
   have hR:R=rFind dx key:=rFind_eq (List.Perm.refl dx) hs7 hp8 ho8
   have hl7l:=(h7.lens (by omega)).2
   have hRl:R.length≤1000:=by
    have:=hp8.length_eq
    rw[length_map]at this
    have h88:=length_filter_le (fun e:HEn=>e.k==key) dx
    omega
   have hrf:=aref8Find dx (by omega) key
   have hsm:=asame (σ:=s9) (mut_rd m9) (.inl (.inl rfl):Rd s9 1 (.p (ridV (rFind dx key))) (ridV (rFind dx key))) hRl
   rw[← hR]at hsm hrf
   simp only[decide_true]at hsm
   have c1v:leaf av=true∧cellsA av=some [av]:=by rcases m9 with⟨rfl,_⟩|⟨t,rfl,_⟩<;>exact⟨rfl,rfl⟩
   have enb:decide (((bsd.length:Nat):Int)<(1:Int))=false:=by simp only[decide_eq_false_iff_not];omega
   repeat' first|((with_reducible first|apply cs|apply ws)<;>intro h<;>try simp only[h])|simp only[↓wBA,tXz,convA,seval,wH,wHl,go9,y9,hcs,enb,bne_self_eq_false,c1v.1,c1v.2,hwi]|((with_reducible show ACalls _ _ _ _ _);first|refine (hrf _).eq ?_|refine hsm.eq ?_)
   exact⟨⟨(i+1,S0.length,dx,dx,bsd.length),by show i+1≤120∧i+1≤ops.length;omega⟩,by show 120 - (i+1)<120 - i;omega,⟨by omega,U9,P9,PP.view,Td,bsd,Td,bsd,h9,by rw[kp_view k9,kp_view k8];exact hv7,hs7,hd7,Nat.le_refl _,(hb7.kp0 k8).kp0 k9,k9.ls.trans (k8.ls.trans hls7)⟩,by simp only[wHl,wHf]⟩
  ·have ep:decide ((lx.length:Int)>0)=false:=by rw[hnil];rfl
   have go7:=g0
   have n7:=nU _ (Nat.le_refl s.length)
   have h7:=hx0.more (i2:=i+1) (by omega)
   have hv7:=hv.more (i2:=i+1) (by omega)
   have hb7:Bud PP (40000000 - 300000*(i+1)):=hb.mono (by omega)
   have hls7:=hls
   have hd7:=hsd
   have hs7:=hsx
   repeat' first|((with_reducible first|apply cs|apply ws)<;>intro h<;>try simp only[h])|simp only[↓wBA,tXz,convA,seval,wH,wHl,hlo,hln,e1,e2,hget,hi0,hif,hif',hcs,hcb,hS0.symm,g0,g1,y0,y1,beq_self_eq_true,ep]
   refine (ahxFind h7 (by omega) (hb7.mono (by omega)) key hkl).mono ?_
   rintro _ s8 ⟨av,R,U8,P8,rfl,hm8,hp8,ho8,f8,k8,h8,hms⟩
   have l8:=f8.len
   have go8:=f8.get go7 n7
   have y8:=at_lt go8
   have n8:¬ U8 s.length:=fun e=>(f8.own _ e).elim n7 fun e=>by omega
   repeat' first|((with_reducible first|apply cs|apply ws)<;>intro h<;>try simp only[h])|simp only[↓wBA,tXz,convA,seval,wH,wHl,go8,y8]
   refine (ahxBuckets h8 (by omega) ((hb7.kp0 k8).mono (by omega))).mono ?_
   rintro _ s9 ⟨rfl,U9,P9,f9,k9,h9⟩
   have l9:=f9.len
   have go9:=f9.get go8 n8
   have y9:=at_lt go9
   have m9:MutR s9 av 2 (R.map ridC):=hm8.same fun t ht=>f9.keep t (hm8.lt ht) (hms t ht).2
   have hR:R=rFind lx key:=rFind_eq (List.Perm.refl lx) hs7 hp8 ho8
   have hl7l:=(h7.lens (by omega)).2
   have hRl:R.length≤1000:=by
    have:=hp8.length_eq
    rw[length_map]at this
    have h88:=length_filter_le (fun e:HEn=>e.k==key) lx
    omega
   have hrf:=aref8Find lx (by omega) key
   have hsm:=asame (σ:=s9) (mut_rd m9) (.inl (.inl rfl):Rd s9 1 (.p (ridV (rFind lx key))) (ridV (rFind lx key))) hRl
   rw[← hR]at hsm hrf
   simp only[decide_true]at hsm
   have c1v:leaf av=true∧cellsA av=some [av]:=by rcases m9 with⟨rfl,_⟩|⟨t,rfl,_⟩<;>exact⟨rfl,rfl⟩
   have enb:decide (((bs.length:Nat):Int)<(bk:Int))=false:=by simp only[decide_eq_false_iff_not];omega
   repeat' first|((with_reducible first|apply cs|apply ws)<;>intro h<;>try simp only[h])|simp only[↓wBA,tXz,convA,seval,wH,wHl,go9,y9,hcs,enb,bne_self_eq_false,c1v.1,c1v.2,hwi]|((with_reducible show ACalls _ _ _ _ _);first|refine (hrf _).eq ?_|refine hsm.eq ?_)
   exact⟨⟨(i+1,b,lx,dx,bs.length),by show i+1≤120∧i+1≤ops.length;omega⟩,by show 120 - (i+1)<120 - i;omega,⟨by omega,U9,P9,v,T,bs,Td,bsd,h9,by rw[kp_view k9,kp_view k8];exact hv7,hs7,hd7,Nat.le_refl _,(hb7.kp0 k8).kp0 k9,k9.ls.trans (k8.ls.trans hls7)⟩,by simp only[wHl,wHf]⟩
  ·have b1:(kd==1)=false:=by simpa using k1
   have b2:(kd==2)=false:=by simpa using k2
   have b3:(kd==3)=false:=by simpa using k3
   have b5:(kd==5)=false:=by simpa using k5
   have b6:(kd==6)=false:=by simpa using k6
   have go7:=g0
   have n7:=nU _ (Nat.le_refl s.length)
   have h7:=hx0.more (i2:=i+1) (by omega)
   have hv7:=hv.more (i2:=i+1) (by omega)
   have hb7:Bud PP (40000000 - 300000*(i+1)):=hb.mono (by omega)
   have hls7:=hls
   have hd7:=hsd
   have hs7:=hsx
   repeat' first|((with_reducible first|apply cs|apply ws)<;>intro h<;>try simp only[h])|simp only[↓wBA,tXz,convA,seval,wH,wHl,hlo,hln,e1,e2,hget,hi0,hif,hif',hcs,hcb,hS0.symm,g0,g1,y0,y1,b1,b2,b3,b5,b6]
   refine (ahxFind h7 (by omega) (hb7.mono (by omega)) key hkl).mono ?_
   rintro _ s8 ⟨av,R,U8,P8,rfl,hm8,hp8,ho8,f8,k8,h8,hms⟩
   have l8:=f8.len
   have go8:=f8.get go7 n7
   have y8:=at_lt go8
   have n8:¬ U8 s.length:=fun e=>(f8.own _ e).elim n7 fun e=>by omega
   repeat' first|((with_reducible first|apply cs|apply ws)<;>intro h<;>try simp only[h])|simp only[↓wBA,tXz,convA,seval,wH,wHl,go8,y8]
   refine (ahxBuckets h8 (by omega) ((hb7.kp0 k8).mono (by omega))).mono ?_
   rintro _ s9 ⟨rfl,U9,P9,f9,k9,h9⟩
   have l9:=f9.len
   have go9:=f9.get go8 n8
   have y9:=at_lt go9
   have m9:MutR s9 av 2 (R.map ridC):=hm8.same fun t ht=>f9.keep t (hm8.lt ht) (hms t ht).2
   have hR:R=rFind lx key:=rFind_eq (List.Perm.refl lx) hs7 hp8 ho8
   have hl7l:=(h7.lens (by omega)).2
   have hRl:R.length≤1000:=by
    have:=hp8.length_eq
    rw[length_map]at this
    have h88:=length_filter_le (fun e:HEn=>e.k==key) lx
    omega
   have hrf:=aref8Find lx (by omega) key
   have hsm:=asame (σ:=s9) (mut_rd m9) (.inl (.inl rfl):Rd s9 1 (.p (ridV (rFind lx key))) (ridV (rFind lx key))) hRl
   rw[← hR]at hsm hrf
   simp only[decide_true]at hsm
   have c1v:leaf av=true∧cellsA av=some [av]:=by rcases m9 with⟨rfl,_⟩|⟨t,rfl,_⟩<;>exact⟨rfl,rfl⟩
   have enb:decide (((bs.length:Nat):Int)<(bk:Int))=false:=by simp only[decide_eq_false_iff_not];omega
   repeat' first|((with_reducible first|apply cs|apply ws)<;>intro h<;>try simp only[h])|simp only[↓wBA,tXz,convA,seval,wH,wHl,go9,y9,hcs,enb,bne_self_eq_false,c1v.1,c1v.2,hwi]|((with_reducible show ACalls _ _ _ _ _);first|refine (hrf _).eq ?_|refine hsm.eq ?_)
   exact⟨⟨(i+1,b,lx,dx,bs.length),by show i+1≤120∧i+1≤ops.length;omega⟩,by show 120 - (i+1)<120 - i;omega,⟨by omega,U9,P9,v,T,bs,Td,bsd,h9,by rw[kp_view k9,kp_view k8];exact hv7,hs7,hd7,Nat.le_refl _,(hb7.kp0 k8).kp0 k9,k9.ls.trans (k8.ls.trans hls7)⟩,by simp only[wHl,wHf]⟩
theorem opX_sh {c:List PV}(h:HasShL [.int .i64,.int .i64,.sl 1 [.int .u8],.int .i64,.int .i64] c):∃ o:OpX,c=opX o∧o.2.2.1.length≤140737488351232:=by
 simp only[HasShL]at h
 obtain⟨x1,c1,rfl,h1,x2,c2,rfl,h2,x3,c3,rfl,h3,x4,c4,rfl,h4,x5,c5,rfl,h5,rfl⟩:=h
 obtain⟨r,rfl,hr⟩:=bytes_sh2 h3
 simp only[HasSh]at h1 h2 h4 h5
 obtain⟨n1,rfl,_⟩:=h1
 obtain⟨n2,rfl,_⟩:=h2
 obtain⟨n4,rfl,_⟩:=h4
 obtain⟨n5,rfl,_⟩:=h5
 exact⟨(n1,n2,r,n4,n5),rfl,hr⟩
theorem opsX_sh {x:PV}(h:HasSh (.sl 56 [.int .i64,.int .i64,.sl 1 [.int .u8],.int .i64,.int .i64]) x):∃ ops:List OpX,x= .sl 5 (ops.map opX)∧ops.length≤140737488351232∧∀ o∈ops,o.2.2.1.length≤140737488351232:=by
 rw[HasSh]at h
 obtain⟨ls,rfl,hl,hc⟩:=h
 have key:∀ ls:List (List PV),(∀ c∈ls,HasShL [.int .i64,.int .i64,.sl 1 [.int .u8],.int .i64,.int .i64] c)→∃ ops:List OpX,ls=ops.map opX∧∀ o∈ops,o.2.2.1.length≤140737488351232:=by
  intro ls
  induction ls with
  |nil=>intro _;exact⟨[],rfl,by simp⟩
  |cons c ls ih=>
   intro hc
   obtain⟨o,rfl,ho⟩:=opX_sh (hc c (by simp))
   obtain⟨os,rfl,hs⟩:=ih fun c h=>hc c (by simp[h])
   exact⟨o::os,rfl,fun q hq=>by rcases List.mem_cons.1 hq with rfl|hq;exact ho;exact hs q hq⟩
 obtain⟨ops,rfl,ho⟩:=key ls hc
 exact⟨ops,rfl,by simp at hl;omega,ho⟩
theorem finds_law (fr:Int)(x:PV)(v:Value)(W:World)(hx:HasSh (.sl 56 [.int .i64,.int .i64,.sl 1 [.int .u8],.int .i64,.int .i64]) x)(hr:PRep W (inH W) x v):
 Calls Tryz.prog 6 #[.int .i64 fr,v] W fun e W'=>e= .returned (.bool true)∧Below W.heap.size W W':=by
 obtain⟨ops,rfl,h1,h2⟩:=opsX_sh hx
 exact law_calls2 (W:=W) (vs:=[.int .i64 fr,v]) (ahashFinds fr ops h1 h2 []) (by
  simp only[ARepL]
  exact⟨_,_,rfl,rep_mk rfl,_,_,rfl,(by simp only[ARep];exact hr),rfl⟩)
end Go.Proofs.YthhbnenaihkggaaGreat
