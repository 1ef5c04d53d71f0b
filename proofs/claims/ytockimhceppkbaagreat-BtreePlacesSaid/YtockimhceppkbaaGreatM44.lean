/- BtreePlaces, the empty key. What stands in the variables, whatever it is. The law of one key with many places. -/
import Derived.Test.YtockimhceppkbaaGreatM43
import Derived.Test.YtockimhceppkbaaGreatM38
import Derived.Shelf.Vars
set_option linter.unusedSimpArgs false
set_option linter.unusedVariables false
set_option linter.defProp false
set_option maxRecDepth 100000
set_option maxHeartbeats 32000000
namespace Go.Proofs.YtockimhceppkbaaGreat
open Go.RowKit
open List (length_append length_map mem_append)
def pl4_12Uh:Plan:=(.det 0 (.det 1 (.det 2 (.det 3 (.det 4 (.det 5 (.det 6 (.det 7 (.det 8 (.det 9 (.det 10 (.det 11 (.fin 12 (.fin 13 .done))))))))))))))
def pl4_21Uh:Plan:=(.det 0 (.det 1 (.det 2 (.det 3 (.det 4 (.det 5 (.det 6 (.det 7 (.det 8 (.det 9 (.det 10 (.det 11 (.det 12 (.det 13 (.det 14 (.det 15 (.det 16 (.det 17 (.det 18 (.det 19 (.det 20 (.det 21 (.det 22 (.det 23 (.det 24 (.det 25 (.det 26 (.det 27 (.det 28 (.det 29 (.det 30 (.det 31 (.det 32 (.det 33 (.det 34 (.det 35 (.det 36 (.det 37 (.det 38 (.det 39 (.det 40 (.det 41 (.det 42 (.det 43 (.det 44 (.det 45 (.det 46 (.det 47 (.det 48 (.det 49 (.det 50 (.det 51 (.det 52 (.det 53 (.det 54 (.det 55 (.det 56 (.det 57 (.det 58 .done)))))))))))))))))))))))))))))))))))))))))))))))))))))))))))
def pl4_28Uh:Plan:=(.det 0 (.det 1 (.det 2 (.det 3 (.det 4 (.det 5 (.det 6 (.det 7 (.det 8 (.det 9 (.det 10 (.det 11 (.det 12 (.det 13 (.det 14 (.det 15 (.det 16 (.det 17 (.det 19 (.two 18 (.act 20 (.det 21 (.det 22 (.det 23 (.det 24 .done))))) 20 (.fin 18 (.det 21 (.det 22 (.det 23 (.det 24 .done)))))))))))))))))))))))))
def tUh:=aa wX <| aa wbu <| aa T3 <| aa T4 <| aa T5 <| aa T9 <| aa T22 <| aa T25 <| aa T30 <| aa T35 <| aa T37 <| aa T40 T48
theorem aplaces7E (key:List UInt8)(hk0:key=[])(hkey:key.length≤140737488351232)(n k:Nat)(hn:n<256)(hk:k<256)(σ:St):ACalls Tryz.prog 4 [.p (.sl 1 (encB key)),intV .u8 (n:Nat),intV .u8 (k:Nat)] σ fun r σ'=>r=boolV true:=by
 have hkl:=encB_len' key
 refine acalls_of cx_ok dr_ok Tryz.func4 (by kernel_rfl) rfl (nt:=204) (rs:=[.tmp 6]) rfl rfl ?_
 repeat' first|((with_reducible first|apply cs|apply ws|apply wd|apply wu)<;>intro h<;>try simp only[h])|simp only[↓wBA,tUh,convA,seval,pl4_12Uh,pl4_21Uh,pl4_28Uh,wH]|((with_reducible show ACalls _ _ _ _ _);refine (aawake7 _).mono ?_;rintro _ s0 ⟨a0,rfl⟩)|(with_reducible first|refine dQ pl4_12Uh 14 (some 52) ?_|refine dQ pl4_21Uh 59 (some 101) ?_|refine dQ pl4_28Uh 25 (some 183) ?_)|with_reducible refine And.intro ?_ ?_
 refine (atTreeNil _).mono ?_
 rintro _ s1 ⟨b,root,p,dd,l,kh,U1,P1,v1,T1,rfl,a1,hB1,hU1,hpg,hb1,hR1,hT1,hT10,ho1⟩
 have l0:=a0.len
 have l1:=a1.len
 have hk4:key.length≤140:=by rw[hk0];simp
 have hd4:decide ((key.length:Int)>140)=false:=by simp;omega
 have hd4':=dF (i:=140) (n:=key.length) (by omega)
 obtain⟨c,hc⟩:∃ c,c=n % 60+1:=⟨_,rfl⟩
 have hc60:1≤c∧c≤60:=by omega
 have hc0:((n:Int)).tmod 60=((n % 60:Nat):Int):=tmodN n 60
 have hc1:IntKind.i64.wrap ((n % 60:Nat):Int)=((n % 60:Nat):Int):=wrap_i64 (by omega) (by omega)
 have hc2:IntKind.i64.wrap (((n % 60:Nat):Int)+1)=((c:Nat):Int):=by rw[wrap_i64 (by omega) (by omega)];omega
 have hcz:(((c:Nat):Int)==0)=false:=by simp;omega
 have hcz':(((c:Nat):Int)=0)=False:=eq_false (by omega)
 simp only[↓wBA,tUh,convA,seval,wH,hkl,hd4,hd4',hc0,hc1,hc2]
 refine awp_loopS (X:={ i:Nat // i≤c }) (fun i=>c - i.1) (fun i=>[(10,intV .i64 (i.1:Nat))]) [6,36,37,38,39,40,41,42,43,44,45,46,47,48,49,50,51] (fun i s=>∃ U' P' v' T' h t,Fr s1 s U1 U'∧Bt s b p dd l kh U' P' v'∧P'.pages=800∧Bud P' 1000∧RootOk v' T' 800 root h t∧Tk (v' 0) 800 T'∧T' 0=true∧OnlyW T' 800 root h t i.1∧NeT h t∧(entsT h t).length=i.1∧∀ e∈entsT h t,∃ j,j<i.1∧e=entJ key c j) (⟨0,by omega⟩) ?_ ?_ ?_ ?_
 ·simp only[wHl,wHf]
 ·exact⟨U1,P1,v1,T1,0,_,Fr.refl _ _,hB1,hpg,hb1,hR1,hT1,hT10,ho1,trivial,rfl,fun e he=>by simp[entsT]at he⟩
 ·rintro _ _ ⟨_,_,_,_,_,_,h,_⟩;exact h.len
 ·intro y J q hI
  simp only[wHl]
  obtain⟨i,hi⟩:=y
  obtain⟨U6,P6,v6,T6,h6,t6,f6,hB6,hp6,hb6,hR6,hT6,h06,ho6,hN6,hl6,he6⟩:=hI
  dsimp only at*
  have q6:=f6.len
  have hi0:=nnI i
  have hwi:=wI i (by omega)
  by_cases hlt:i<c
  ·have e1:=dT (i:=i) (n:=c) hlt
   have hw7:IntKind.i64.wrap ((i:Int)*7)=((i*7:Nat):Int):=by rw[wrap_i64 (by omega) (by omega)];omega
   have hm7:(((i*7:Nat):Int)).tmod ((c:Nat):Int)=((i*7 % c:Nat):Int):=tmodN (i*7) c
   have hmc:i*7 % c<c:=Nat.mod_lt _ (by omega)
   have hw8:IntKind.i64.wrap ((i*7 % c:Nat):Int)=((i*7 % c:Nat):Int):=wrap_i64 (by omega) (by omega)
   have hI:=atIns (e:=entJ key c i) hB6 (by rw[hp6];exact hT6) (by omega) h06 (hb6.mono (by omega)) (by rw[hp6];exact hR6) ⟨hk4,by show i*7 % c<65536;omega,by show i<65536;omega⟩
   simp only[entJ]at hI
   repeat' first|((with_reducible first|apply cs|apply ws|apply wd|apply wu)<;>intro h<;>try simp only[h])|simp only[↓wBA,tUh,convA,seval,pl4_12Uh,pl4_21Uh,pl4_28Uh,wH,wHl,e1,hw7,hm7,hw8,hcz,hcz']|(with_reducible first|refine dQ pl4_12Uh 14 (some 52) ?_|refine dQ pl4_21Uh 59 (some 101) ?_|refine dQ pl4_28Uh 25 (some 183) ?_)|with_reducible refine And.intro ?_ ?_
   refine hI.mono ?_
   rintro rx s7 ⟨U7,P7,v7,T7,h7',t7,f7,h7,k7,hR7,hW7,hc7⟩
   rw[hp6]at hR7 hW7 hc7
   have l7:=f7.len
   rcases hc7 with⟨rfl,hr7,hx7⟩|⟨_,hm7',_⟩|⟨_,hf7,hl7⟩
   rotate_left
   ·obtain⟨j,hj,e⟩:=he6 _ hm7'
    have:i=j:=congrArg Ent.s e
    omega
   ·exact (ho6.hasRoom (by omega) hR6.tr.szT hk4 hl7 fun q hq=>hf7 q (by omega)).elim
   repeat' first|((with_reducible first|apply cs|apply ws|apply wd|apply wu)<;>intro h<;>try simp only[h])|simp only[↓wBA,tUh,convA,seval,pl4_12Uh,pl4_21Uh,pl4_28Uh,wH,wHl,hwi]|(with_reducible first|refine dQ pl4_12Uh 14 (some 52) ?_|refine dQ pl4_21Uh 59 (some 101) ?_|refine dQ pl4_28Uh 25 (some 183) ?_)|with_reducible refine And.intro ?_ ?_
   have hlen7:=(pgI_step ho6.pi hR6.tr.szT hk4 hr7).2
   refine⟨⟨i+1,by omega⟩,by show c - (i+1)<c - i;omega,?_,by simp only[wHl,wHf]⟩
   refine⟨U7,P7,v7,T7,h7',t7,f6.trans f7,h7,by rw[k7.pages];exact hp6,hb6.kp k7 (by omega),hR7,hW7.tkk,hW7.t0,ho6.goesOn hR6.tr.szT hk4 hr7 hx7,root_ne hr7 hN6,by rw[hlen7,hl6],fun e he=> ?_⟩
   rcases root_mem hr7 e he with rfl|he
   ·exact⟨i,by show i<i+1;omega,rfl⟩
   ·obtain⟨j,hj,rfl⟩:=he6 e he
    exact⟨j,by show j<i+1;omega,rfl⟩
  ·obtain rfl:i=c:=by omega
   have e1:=dF (i:=i) (n:=i) hlt
   simp only[↓wBA,tUh,convA,seval,wH,wHl,e1]
   obtain⟨j0,hj0⟩:∃ j0,j0=k % i:=⟨_,rfl⟩
   have hj0i:j0<i:=by rw[hj0];exact Nat.mod_lt _ (by omega)
   have hk1:IntKind.i64.wrap (k:Int)=(k:Int):=wrap_i64 (by omega) (by omega)
   have hk2:((k:Int)).tmod ((i:Nat):Int)=((j0:Nat):Int):=by rw[hj0];exact tmodN k i
   have hk3:IntKind.i64.wrap ((j0:Nat):Int)=((j0:Nat):Int):=wrap_i64 (by omega) (by omega)
   have hk4':IntKind.i64.wrap (((j0:Nat):Int)*7)=((j0*7:Nat):Int):=by rw[wrap_i64 (by omega) (by omega)];omega
   have hk5:(((j0*7:Nat):Int)).tmod ((i:Nat):Int)=((j0*7 % i:Nat):Int):=tmodN (j0*7) i
   have hjm:j0*7 % i<i:=Nat.mod_lt _ (by omega)
   have hk6:IntKind.i64.wrap ((j0*7 % i:Nat):Int)=((j0*7 % i:Nat):Int):=wrap_i64 (by omega) (by omega)
   obtain⟨hD6,hO6⟩:=hR6.toD hN6
   have hs6:=entsD_ok hO6
   have hin6:=has_all hs6.1 he6 hl6 hj0i
   obtain⟨S,hS⟩:∃ S,S=q++[some (Ob.row 2 [[intV .i64 (j0*7 % i:Nat),intV .i64 (j0:Nat)]])]:=⟨_,rfl⟩
   have aS:Ap q S:=⟨_,hS⟩
   have hSl:S.length=q.length+1:=by rw[hS];simp
   have bg:S[q.length]? =some (some (Ob.row 2 [[intV .i64 (j0*7 % i:Nat),intV .i64 (j0:Nat)]])):=by rw[hS];simp
   have yg:=at_lt bg
   have hgU:¬ U6 q.length:=fun e=>by have:=hB6.lt _ e;omega
   have hDel:=atDelete (e:=entJ key i j0) (hB6.ap aS) (by rw[hp6];exact hT6) (by omega) (hb6.mono (by omega)) (by rw[hp6];exact hD6) hO6
   simp only[entJ]at hDel
   simp only[intV]at hS bg
   repeat' first|((with_reducible first|apply cs|apply ws|apply wd|apply wu)<;>intro h<;>try simp only[h])|simp only[↓wBA,tUh,convA,seval,pl4_12Uh,pl4_21Uh,pl4_28Uh,wH,wHl,hk1,hk2,hk3,hk4',hk5,hk6,hcz,hcz',hS.symm,bg,yg]|(with_reducible first|refine dQ pl4_12Uh 14 (some 52) ?_|refine dQ pl4_21Uh 59 (some 101) ?_|refine dQ pl4_28Uh 25 (some 183) ?_)|with_reducible refine And.intro ?_ ?_
   refine hDel.mono ?_
   rintro r s8 (⟨_,hno,_⟩|⟨rfl,U8,P8,v8,T8,h8,t8,f8,hB8,k8,hT8,hD8,hO8,A,B,hA,hA'⟩)
   ·exact absurd hin6 hno
   rw[hp6]at hT8 hD8
   have hp8:P8.pages=800:=by rw[k8.pages];exact hp6
   have hb8:=hb6.kp (k:=1000) k8 (by omega)
   have hsA:=hs6.1
   rw[hA]at hsA
   have hno8:entJ key i j0∉entsT h8 t8:=fun h=>by
    rw[hA']at h
    obtain⟨w1,w2,w3⟩:=List.pairwise_append.1 hsA
    rcases mem_append.1 h with h|h
    ·exact ltE_irrefl _ (w3 _ h _ (by simp[entJ]))
    ·exact ltE_irrefl _ ((List.pairwise_cons.1 w2).1 _ h)
   have bg8:=f8.get bg hgU
   have yg8:=at_lt bg8
   have hDel2:=atDelete (e:=entJ key i j0) hB8 (by rw[hp8];exact hT8) (by omega) (hb8.mono (by omega)) (by rw[hp8];exact hD8) hO8
   simp only[entJ]at hDel2
   repeat' first|((with_reducible first|apply cs|apply ws|apply wd|apply wu)<;>intro h<;>try simp only[h])|simp only[↓wBA,tUh,convA,seval,pl4_12Uh,pl4_21Uh,pl4_28Uh,wH,wHl,bg8,yg8]|(with_reducible first|refine dQ pl4_12Uh 14 (some 52) ?_|refine dQ pl4_21Uh 59 (some 101) ?_|refine dQ pl4_28Uh 25 (some 183) ?_)|with_reducible refine And.intro ?_ ?_
   refine hDel2.mono ?_
   rintro r s9 (⟨rfl,_,U9,P9,f9,hB9,k9⟩|⟨_,_,_,_,_,_,_,_,_,_,_,_,_,A2,B2,hA2,_⟩)
   rotate_left
   ·exact absurd (by rw[hA2];simp[entJ]) hno8
   have hp9:P9.pages=800:=by rw[k9.pages];exact hp8
   have hb9:=hb8.kp (k:=1000) k9 (by omega)
   have hgU8:¬ U8 q.length:=fun e=>(f8.own _ e).elim hgU fun e=>by omega
   have bg9:=f9.get bg8 hgU8
   have yg9:=at_lt bg9
   have hgU9:¬ U9 q.length:=fun e=>(f9.own _ e).elim hgU8 fun e=>by omega
   have hl8:(entsT h8 t8).length=i - 1:=by
    have:=congrArg List.length hA
    rw[hl6,length_append,List.length_cons]at this
    rw[hA',length_append];omega
   have he8:∀ e∈entsT h8 t8,e.k=key∧e≠entJ key i j0:=fun e he=>by
    refine⟨?_,fun h=>hno8 (h▸he)⟩
    have:e∈entsT h6 t6:=by
     rw[hA',mem_append]at he
     rw[hA]
     rcases he with h|h<;>simp[h]
    obtain⟨j,_,rfl⟩:=he6 e this
    rfl
   have hs8:=entsD_ok hO8
   simp only[↓wBA,tUh,convA,seval,wH,wHl]
   have hcs:Lib.compareBytes key key=0:=cb_self key
   have htell:∀ e∈entsT h8 t8,tellE key (fun k=>decide (Lib.compareBytes k key≤0)) e=true:=fun e he=>by
    unfold tellE
    rw[(he8 e he).1];simp[hcs]
   have hfr8:fromF key (fun k=>decide (Lib.compareBytes k key≤0)) h8 t8=entsT h8 t8:=by
    rw[fromF_eq (le_down key) hO8.toT]
    exact List.filter_eq_self.2 htell
   have hwl:IntKind.i64.wrap ((i:Int) - 1)=((i - 1:Nat):Int):=by rw[wrap_i64 (by omega) (by omega)];omega
   subst hk0
   have hRD:=atRangeD (lo:=[]) (hi:=[]) (lox:=.sl 1 (encB [])) (hix:=.sl 1 (encB [])) hB9 (hb9.mono (by omega)) (by rw[hp9];exact hD8) (.inl rfl) (.inl rfl)
   refine hRD.mono ?_
   rintro r s10 ⟨U10,P10,av,rfl,f10,hB10,k10,hE⟩
   rw[hfr8]at hE
   have hp10:P10.pages=800:=by rw[k10.pages];exact hp9
   have hb10:=hb9.kp (k:=1000) k10 (by omega)
   have bg10:=f10.get bg9 hgU9
   have yg10:=at_lt bg10
   have hl10:=f10.len
   have lfE:leaf av=true:=by rcases hE with⟨_,rfl⟩|⟨_,rfl⟩<;>rfl
   have ccE:cellsA av=some [av]:=by rcases hE with⟨_,rfl⟩|⟨_,rfl⟩<;>rfl
   have hla:lenA cx 40 av=some (i - 1):=by
    rcases hE with⟨h0,rfl⟩|⟨_,rfl⟩
    ·rw[h0]at hl8
     rw[← hl8];rfl
    ·unfold lenA
     rw[ck_40]
     simp[elemsA,hl8]
   have hne1:(((i - 1:Nat):Int) != ((i - 1:Nat):Int))=false:=by simp
   repeat' first|((with_reducible first|apply cs|apply ws|apply wd|apply wu)<;>intro h<;>try simp only[h])|simp only[↓wBA,tUh,convA,seval,pl4_12Uh,pl4_21Uh,pl4_28Uh,wH,wHl,lfE,ccE,hla,hwl,hne1]|(with_reducible first|refine dQ pl4_12Uh 14 (some 52) ?_|refine dQ pl4_21Uh 59 (some 101) ?_|refine dQ pl4_28Uh 25 (some 183) ?_)|with_reducible refine And.intro ?_ ?_
   refine awp_loopS (X:={ x:Nat // x≤i - 1 }) (fun x=>(i - 1) - x.1) (fun x=>[(14,intV .i64 (x.1:Nat))]) [6,15,95,96,97,98,99,100,101,102,103,104,105,106,107,108,109,110,111,112,113,114,115,116,117,118,119,120,121,122,123,124,125,126,127,128,129,130,131,132,133,134,135,136,137,138,139,140,141,142,143,144,145,146,147,148,149,150,151,152,153,154,155,156,157,158,159,160,161,162,163,164,165,166,167,168,169,170,171,172,173,174,175,176] (fun x s=>s=s10) (⟨0,by omega⟩) ?_ ?_ ?_ ?_
   ·simp only[wHl,wHf]
   ·rfl
   ·rintro _ _ rfl;exact Nat.le_refl _
   ·intro y J2 s hI2
    simp only[wHl]
    obtain⟨x,hx⟩:=y
    subst hI2
    dsimp only at*
    have hx0:=nnI x
    have hwx:=wI x (by omega)
    by_cases hxl:x<i - 1
    ·have e1:=dT (i:=x) (n:=i - 1) hxl
     rcases hE with⟨h0,_⟩|⟨h0,rfl⟩
     ·rw[h0]at hl8;simp at hl8;omega
     obtain⟨z,hz⟩:∃ z,(entsT h8 t8)[x]? =some z:=⟨(entsT h8 t8)[x]'(by omega),by simp⟩
     have hzm:=List.mem_of_getElem? hz
     have hzk:=(he8 z hzm).1
     have hgz:((entsT h8 t8).map entP)[x]? =some [.sl 1 (encB []),.v (.int .i64 (z.p:Nat)),.v (.int .i64 (z.s:Nat))]:=by rw[List.getElem?_map,hz,←hzk];rfl
     have hif:((x:Int)<(((entsT h8 t8).map entP).length:Int))=True:=eq_true (by rw[length_map,hl8];omega)
     have hif':((x:Int)<((entsT h8 t8).length:Int))=True:=eq_true (by rw[hl8];omega)
     obtain⟨jz,hjz,hze⟩:∃ j,j≠j0∧z=entJ [] i j:=by
      have:z∈entsT h6 t6:=by
       have h1:=hzm
       rw[hA',mem_append]at h1
       rw[hA]
       rcases h1 with h|h<;>simp[h]
      obtain⟨j,_,e⟩:=he6 _ this
      exact⟨j,fun h=>(he8 _ hzm).2 (by rw[e,h]),e⟩
     have hsne:(((z.s:Nat):Int)==((j0:Nat):Int))=false:=by
      rw[hze];show (((jz:Nat):Int)==((j0:Nat):Int))=false
      simp;omega
     have hkb:lenA cx 35 (.p (.sl 1 (encB [])))=some 0:=rfl
     have hkb':lenA cx 35 (.p (.sl 1 []))=some 0:=rfl
     by_cases hx00:x=0
     ·have hd0:decide ((x:Int)>0)=false:=by simp;omega
      have hd0':=dF (i:=0) (n:=x) (by omega)
      repeat' first|((with_reducible first|apply cs|apply ws|apply wd|apply wu)<;>intro h<;>try simp only[h])|simp only[↓wBA,tUh,convA,seval,pl4_12Uh,pl4_21Uh,pl4_28Uh,wH,wHl,hla,e1,hgz,hif,hif',hx0,bg10,yg10,hsne,Bool.and_false,Bool.false_and,hd0,hd0',intV]|(with_reducible first|refine dQ pl4_12Uh 14 (some 52) ?_|refine dQ pl4_21Uh 59 (some 101) ?_|refine dQ pl4_28Uh 25 (some 183) ?_)|with_reducible refine And.intro ?_ ?_
      refine awp_loopS (X:=Unit) (fun y=>0) (fun y=>[(15,intV .i64 0)]) [160,161,162,163,164,165,166,167,168,169,170,171,172,173,174,175,176] (fun y u=>u=s) (()) ?_ ?_ ?_ ?_
      ·simp only[wHl,wHf]
      ·rfl
      ·rintro _ _ rfl;exact Nat.le_refl _
      ·intro w J3 u hI3
       simp only[wHl]
       subst hI3
       repeat' first|((with_reducible first|apply cs|apply ws|apply wd|apply wu)<;>intro h<;>try simp only[h])|simp only[↓wBA,tUh,convA,seval,pl4_12Uh,pl4_21Uh,pl4_28Uh,wH,wHl,hla,hgz,hif,hif',hx0,hkb,hkb',intV,hwx]|(with_reducible first|refine dQ pl4_12Uh 14 (some 52) ?_|refine dQ pl4_21Uh 59 (some 101) ?_|refine dQ pl4_28Uh 25 (some 183) ?_)|with_reducible refine And.intro ?_ ?_
       exact⟨⟨x+1,by omega⟩,by show i - 1 - (x+1)<i - 1 - x;omega,by simp only[wHl,wHf]⟩
     ·have hd0:decide ((x:Int)>0)=true:=by simp;omega
      have hd0':=dT (i:=0) (n:=x) (by omega)
      obtain⟨y,hy⟩:∃ y,(entsT h8 t8)[x - 1]? =some y:=⟨(entsT h8 t8)[x - 1]'(by omega),by simp⟩
      have hym:=List.mem_of_getElem? hy
      have hyk:=(he8 y hym).1
      have hgy:((entsT h8 t8).map entP)[x - 1]? =some [.sl 1 (encB []),.v (.int .i64 (y.p:Nat)),.v (.int .i64 (y.s:Nat))]:=by rw[List.getElem?_map,hy,←hyk];rfl
      have hlt':ltE y z:=by
       have hss:=hs8.1
       obtain⟨g1,g2⟩:=List.getElem?_eq_some_iff.1 hy
       obtain⟨g3,g4⟩:=List.getElem?_eq_some_iff.1 hz
       have:=List.pairwise_iff_getElem.1 hss (x - 1) x g1 g3 (by omega)
       simpa [g2,g4]using this
      have hpq:y.p<z.p∨(y.p=z.p∧y.s<z.s):=by
       rcases ltE_iff.1 hlt' with h|h
       ·rw[hyk,hzk,hcs]at h;omega
       ·exact h.2
      have hwx1:IntKind.i64.wrap ((x:Int) - 1)=((x - 1:Nat):Int):=by rw[wrap_i64 (by omega) (by omega)];omega
      have hif2:(((x - 1:Nat):Int)<(((entsT h8 t8).map entP).length:Int))=True:=eq_true (by rw[length_map,hl8];omega)
      have hif2':(((x - 1:Nat):Int)<((entsT h8 t8).length:Int))=True:=eq_true (by rw[hl8];omega)
      have hx1:=nnI (x - 1)
      have ht1:=dF (i:=z.p) (n:=y.p) (by omega)
      by_cases hpe:y.p=z.p
      ·have ht2:(((z.p:Nat):Int)==((y.p:Nat):Int))=true:=by simp;omega
       have ht3:decide ((z.s:Int)≤(y.s:Int))=false:=by simp;omega
       repeat' first|((with_reducible first|apply cs|apply ws|apply wd|apply wu)<;>intro h<;>try simp only[h])|simp only[↓wBA,tUh,convA,seval,pl4_12Uh,pl4_21Uh,pl4_28Uh,wH,wHl,hla,e1,hgz,hif,hif',hx0,bg10,yg10,hsne,Bool.and_false,Bool.false_and,hd0,hd0',intV,hgy,hwx1,hif2,hif2',hx1,ht1,ht2,ht3]|(with_reducible first|refine dQ pl4_12Uh 14 (some 52) ?_|refine dQ pl4_21Uh 59 (some 101) ?_|refine dQ pl4_28Uh 25 (some 183) ?_)|with_reducible refine And.intro ?_ ?_
       refine awp_loopS (X:=Unit) (fun y=>0) (fun y=>[(15,intV .i64 0)]) [160,161,162,163,164,165,166,167,168,169,170,171,172,173,174,175,176] (fun y u=>u=s) (()) ?_ ?_ ?_ ?_
       ·simp only[wHl,wHf]
       ·rfl
       ·rintro _ _ rfl;exact Nat.le_refl _
       ·intro w J3 u hI3
        simp only[wHl]
        subst hI3
        repeat' first|((with_reducible first|apply cs|apply ws|apply wd|apply wu)<;>intro h<;>try simp only[h])|simp only[↓wBA,tUh,convA,seval,pl4_12Uh,pl4_21Uh,pl4_28Uh,wH,wHl,hla,hgz,hif,hif',hx0,hkb,hkb',intV,hwx]|(with_reducible first|refine dQ pl4_12Uh 14 (some 52) ?_|refine dQ pl4_21Uh 59 (some 101) ?_|refine dQ pl4_28Uh 25 (some 183) ?_)|with_reducible refine And.intro ?_ ?_
        exact⟨⟨x+1,by omega⟩,by show i - 1 - (x+1)<i - 1 - x;omega,by simp only[wHl,wHf]⟩
      ·have ht2:(((z.p:Nat):Int)==((y.p:Nat):Int))=false:=by simp;omega
       repeat' first|((with_reducible first|apply cs|apply ws|apply wd|apply wu)<;>intro h<;>try simp only[h])|simp only[↓wBA,tUh,convA,seval,pl4_12Uh,pl4_21Uh,pl4_28Uh,wH,wHl,hla,e1,hgz,hif,hif',hx0,bg10,yg10,hsne,Bool.and_false,Bool.false_and,hd0,hd0',intV,hgy,hwx1,hif2,hif2',hx1,ht1,ht2]|(with_reducible first|refine dQ pl4_12Uh 14 (some 52) ?_|refine dQ pl4_21Uh 59 (some 101) ?_|refine dQ pl4_28Uh 25 (some 183) ?_)|with_reducible refine And.intro ?_ ?_
       refine awp_loopS (X:=Unit) (fun y=>0) (fun y=>[(15,intV .i64 0)]) [160,161,162,163,164,165,166,167,168,169,170,171,172,173,174,175,176] (fun y u=>u=s) (()) ?_ ?_ ?_ ?_
       ·simp only[wHl,wHf]
       ·rfl
       ·rintro _ _ rfl;exact Nat.le_refl _
       ·intro w J3 u hI3
        simp only[wHl]
        subst hI3
        repeat' first|((with_reducible first|apply cs|apply ws|apply wd|apply wu)<;>intro h<;>try simp only[h])|simp only[↓wBA,tUh,convA,seval,pl4_12Uh,pl4_21Uh,pl4_28Uh,wH,wHl,hla,hgz,hif,hif',hx0,hkb,hkb',intV,hwx]|(with_reducible first|refine dQ pl4_12Uh 14 (some 52) ?_|refine dQ pl4_21Uh 59 (some 101) ?_|refine dQ pl4_28Uh 25 (some 183) ?_)|with_reducible refine And.intro ?_ ?_
        exact⟨⟨x+1,by omega⟩,by show i - 1 - (x+1)<i - 1 - x;omega,by simp only[wHl,wHf]⟩
    ·have e1:=dF (i:=x) (n:=i - 1) hxl
     simp only[↓wBA,tUh,convA,seval,wH,wHl,hla,e1]
     refine (atAllD hB10 (hb10.mono (by omega)) (by rw[hp10];exact hD8)).mono ?_
     rintro _ s11 ⟨U11,P11,ea,rfl,f11,hB11,k11,hEa⟩
     have ls11:=f11.len
     rw[all_eq hO8.toT]at hEa
     have heq1:(((i - 1:Nat):Int)==((i - 1:Nat):Int))=true:=by simp
     rcases hEa with⟨h0,rfl⟩|⟨h0,rfl⟩
     ·rw[h0]at hl8
      have hi1:i - 1=0:=by rw[← hl8];rfl
      have hla2:lenA cx 40 (.p (.v (.slice none 0 0)))=some 0:=rfl
      rw[hi1]at hwl heq1
      repeat' first|((with_reducible first|apply cs|apply ws|apply wd|apply wu)<;>intro h<;>try simp only[h])|simp only[↓wBA,tUh,convA,seval,pl4_12Uh,pl4_21Uh,pl4_28Uh,wH,wHl,hwl,heq1,hla2]|(with_reducible first|refine dQ pl4_12Uh 14 (some 52) ?_|refine dQ pl4_21Uh 59 (some 101) ?_|refine dQ pl4_28Uh 25 (some 183) ?_)|with_reducible refine And.intro ?_ ?_
      all_goals refine ret_st ?_ (by first|exact Nat.le_refl _|(simp only[List.length_set,length_append];omega)|omega)
      all_goals simp only[resA.eq_1,resL.eq_1,resL.eq_2,resV.eq_1,resV.eq_2,↓wBA,tUh,convA,seval,wH]
     ·obtain⟨ee,es,hes⟩:∃ ee es,entsT h8 t8=ee::es:=by
       cases hq:entsT h8 t8 with
       |nil=>exact absurd hq h0
       |cons a b=>exact⟨a,b,rfl⟩
      have hek:=(he8 ee (by rw[hes];simp)).1
      have hla2:lenA cx 40 (.p (.sl 3 ((entsT h8 t8).map entP)))=some (i - 1):=by
       unfold lenA
       rw[ck_40]
       simp[elemsA,hl8]
      have hip:1≤i - 1:=by rw[← hl8,hes];simp
      have hz0:(((i - 1:Nat):Int)==0)=false:=by simp;omega
      have hcv:=convB_bx (y:=.sl 1 (encB [])) (r:=[]) (.inl rfl)
      have hg0:((entsT h8 t8).map entP)[0]? =some (entP ⟨[],ee.p,ee.s⟩):=by rw[hes,←hek];rfl
      have hif0:((0:Int)<(((entsT h8 t8).map entP).length:Int))=True:=eq_true (by rw[length_map,hl8];omega)
      have hif1:((0:Int)<(((entsT h8 t8)).length:Int))=True:=eq_true (by rw[hl8];omega)
      have hse:binStr .eql (strS []) (strS [])=some (.bool true):=by simp[binStr]
      repeat' first|((with_reducible first|apply cs|apply ws|apply wd|apply wu)<;>intro h<;>try simp only[h])|simp only[↓wBA,tUh,convA,seval,pl4_12Uh,pl4_21Uh,pl4_28Uh,wH,wHl,hwl,heq1,hla2,hz0,hcv,hg0,hif0,hif1,entP,beq_self_eq_true,hse]|(with_reducible first|refine dQ pl4_12Uh 14 (some 52) ?_|refine dQ pl4_21Uh 59 (some 101) ?_|refine dQ pl4_28Uh 25 (some 183) ?_)|with_reducible refine And.intro ?_ ?_
      all_goals refine ret_st ?_ (by first|exact Nat.le_refl _|(simp only[List.length_set,length_append];omega)|omega)
      all_goals simp only[resA.eq_1,resL.eq_1,resL.eq_2,resV.eq_1,resV.eq_2,↓wBA,tUh,convA,seval,wH]
theorem globW_open {W:World}(hsh:W.ShapedOpen Tryz.prog):GlobW W:=by
 intro x hx
 rcases mem_append.1 hx with hx|hx
 ·cases hx
 ·simp only[List.mem_singleton]at hx
  subst hx
  obtain⟨zero,t,h0,hz,hb,hc,hu⟩:∃ zero t,((begin Tryz.prog (fun _ _=>0) default).world.heap[0]?).bind Obj.row? =some (zero,t)∧zero.size=1∧Tryz.prog.buildable t=true∧Tryz.prog.cellTypes Tryz.prog.depth t=some [t]∧Tryz.prog.underlying t=some (.int .i64):=⟨#[.int .i64 0],3,by kernel_rfl,rfl,by kernel_rfl,by kernel_rfl,by kernel_rfl⟩
  obtain⟨cs,hh,hs,_⟩:=hsh.1 _ zero t (of_decide_eq_true (by kernel_rfl)) h0
  obtain⟨m,hm⟩:=cell_of_shapedOpen_int hsh (of_decide_eq_true (by kernel_rfl)) h0 hz hb hc hu
  refine⟨cs,t,hh,m,?_⟩
  rw[cell_of_row _ _ _ _ _ _ hh]at hm
  apply Array.ext_getElem?
  intro i
  rcases i with _|i
  ·rw[hm];rfl
  ·rw[Array.getElem?_eq_none (by omega)];rfl
theorem aplaces7 (key:List UInt8)(hkey:key.length≤140737488351232)(n k:Nat)(hn:n<256)(hk:k<256)(σ:St):ACalls Tryz.prog 4 [.p (.sl 1 (encB key)),intV .u8 (n:Nat),intV .u8 (k:Nat)] σ fun r σ'=>r=boolV true:=by
 by_cases hk0:key=[]
 ·exact aplaces7E key hk0 hkey n k hn hk σ
 ·exact aplaces7M key hk0 hkey n k hn hk σ
theorem places_law (x:PV)(c d:Int)(v:Value)(W:World)(hx:HasSh (.sl 1 [.int .u8]) x)(hr:PRep W (inH W) x v)(hw:(Lit.int .u8 c).wf=true)(hw':(Lit.int .u8 d).wf=true)(hG:GlobW W):
 Calls Tryz.prog 4 #[v,.int .u8 c,.int .u8 d] W fun e W'=>e= .returned (.bool true)∧Below W.heap.size W W':=by
 obtain⟨key,rfl,hk⟩:=bytes_sh2 hx
 have hb:0≤c∧c≤255:=by
  simp[Lit.wf,IntKind.min,IntKind.max,IntKind.signed,IntKind.bits]at hw
  omega
 have hd:0≤d∧d≤255:=by
  simp[Lit.wf,IntKind.min,IntKind.max,IntKind.signed,IntKind.bits]at hw'
  omega
 obtain⟨n,rfl⟩:∃ n:Nat,c=n:=⟨c.toNat,by omega⟩
 obtain⟨k,rfl⟩:∃ n:Nat,d=n:=⟨d.toNat,by omega⟩
 exact law_calls2 (W:=W) (vs:=[v,.int .u8 (n:Nat),.int .u8 (k:Nat)]) (aplaces7 key hk n k (by omega) (by omega) []) (by
  simp only[ARepL]
  exact⟨_,_,rfl,(by simp only[ARep];exact hr),_,_,rfl,rep_mk rfl,_,_,rfl,rep_mk rfl,rfl⟩) hG
end Go.Proofs.YtockimhceppkbaaGreat
