/- table.Find by a tree; a table's opening. Law 21: awake; the table that is tried. Calls on no batch. Loops: the ways out told together. TableFits: the rows of texts. TableFits: the law. -/
import Derived.Test.YtpoigihfeehehaaGreatDoorM47
import Derived.Test.YtpoigihfeehehaaGreatDoorM48
import Derived.Test.YtpoigihfeehehaaGreatDoorM20
import Derived.Test.YtpoigihfeehehaaGreatDoorM31
set_option linter.all false
set_option maxRecDepth 100000
set_option maxHeartbeats 32000000
namespace Go.Proofs.YtpoigihfeehehaaGreatDoor
open Go.RowKit
open List (length_append length_cons length_map length_nil length_take map_append map_cons map_nil mem_singleton)
section
variable {σ:St} {b p dd l kh first w ix:Nat} {U:Nat→Prop} {P:Al} {v:Nat→List UInt8} {T:Nat→Bool} {ns:List Nat} {E:List Ver} {X:List Ixx}
theorem Aka {x:Ixx}{lo hi:Va}(h:Bt σ b p dd l kh U P v)(ht:Tab v T P.pages first ns E X w)(hb:Bud P 1)(hE:E.length≤60)(hw:w≤255)(hx:X[ix]? =some x)(hxk:x.kd=H4)(hxh:x.x.2.2.2=false)(hlo:okW lo)(hhi:okW hi)(nm tn:ByteArray)(cols:List (List PV)):
 Aa Tryz.prog 17 [.mp b 2 0 0,Rb nm cols X first,Ad .i64 (ix:Nat),Aae tn (x.x.2.2.1:Nat) lo hi] σ fun r σ'=>∃ (av:AV) (L:List Ver) (U':Nat→Prop) (P':Al),r= .tup [av,Ad .i64 0]∧Qc σ' av 5 (L.map E0)∧(∀ y,y∈L↔y∈E∧(inR [0] [0] (Ra x.x.2.2.1 y)=true∨inR (Gk lo) (Gk hi) (Ra x.x.2.2.1 y)=true)∧covV lo hi (y.2.2.getD x.x.2.2.1 (0,0,emp))=true)∧L.Pairwise ltV∧Fr σ σ' U U'∧Bt σ' b p dd l kh U' P' v∧Kp P P' 0∧∀ t,N8 av=some t→σ.length≤t∧¬ U' t:=by
 have hxm:=List.mem_of_getElem? hx
 obtain⟨D,hDp,hDl⟩:=Acu (ht.ent x hxm) E rfl
 have hDE:∀ y,y∈D↔y∈E:=fun y=>hDp.mem_iff
 have hDlen:=hDp.length_eq
 obtain⟨G,hG⟩:∃ G,G=D.filter (fun y=>inR [0] [0] (Ra x.x.2.2.1 y))++D.filter (fun y=>inR (Gk lo) (Gk hi) (Ra x.x.2.2.1 y)):=⟨_,rfl⟩
 have hGm:∀ y,y∈G↔y∈E∧(inR [0] [0] (Ra x.x.2.2.1 y)=true∨inR (Gk lo) (Gk hi) (Ra x.x.2.2.1 y)=true):=fun y=>by
  rw[hG,List.mem_append,List.mem_filter,List.mem_filter,hDE]
  constructor
  ·rintro (⟨h1,h2⟩|⟨h1,h2⟩)
   ·exact⟨h1,.inl h2⟩
   ·exact⟨h1,.inr h2⟩
  ·rintro⟨h1,h2|h2⟩
   ·exact .inl ⟨h1,h2⟩
   ·exact .inr ⟨h1,h2⟩
 have hGl:G.length≤200:=by
  rw[hG,length_append]
  have h1:=List.length_filter_le (fun y=>inR [0] [0] (Ra x.x.2.2.1 y)) D
  have h2:=List.length_filter_le (fun y=>inR (Gk lo) (Gk hi) (Ra x.x.2.2.1 y)) D
  omega
 have hmap:(x.L.filter (inR [0] [0])++x.L.filter (inR (Gk lo) (Gk hi))).map Yo=G.map plcC:=by
  rw[hDl,hG,List.filter_map,List.filter_map,map_append,map_append,List.map_map,List.map_map]
  rfl
 refine (Aw9 (D:=G) (x:=x) h ht hb hw hx hxh nm tn cols (fun {s} a=> ?_) (fun y hy=>((hGm y).1 hy).1) hGl).mono ?_
 ·refine (A1z (h.ap a) ht hb hE hx hxk hxh hlo hhi nm tn (x.x.2.2.1:Nat) cols).mono ?_
  rintro r s' ⟨U',P',rfl,f,hB,kp⟩
  rw[hmap]
  exact⟨U',P',rfl,f,hB,kp⟩
 ·rintro r s' ⟨av,L,U',P',rfl,hm,hL,hp,f,hB,kp,hms⟩
  refine⟨av,L,U',P',rfl,hm,fun y=> ?_,hp,f,hB,kp,hms⟩
  rw[hL,hGm,and_assoc]
end
theorem Axb {L:List Ver}{e:Ver}(hp:L.Pairwise ltV)(hL:∀ y,y∈L↔y=e):L=[e]:=by
 cases L with
 |nil=>exact absurd ((hL e).2 rfl) (by simp)
 |cons a l=>
  have ha:=(hL a).1 (by simp)
  subst ha
  cases l with
  |nil=>rfl
  |cons c l=>
   have hc:=(hL c).1 (by simp)
   subst hc
   exact absurd rfl (Aj7 ((List.pairwise_cons.1 hp).1 _ (by simp)))
def Adc:Cv:=(.det 0 (.det 1 (.det 2 (.det 3 (.det 4 (.det 5 (.det 6 (.det 7 (.det 8 (.det 9 (.det 10 (.det 11 (.det 12 (.det 13 (.det 14 (.det 15 (.det 16 (.det 17 (.det 18 (.det 19 (.det 20 (.det 21 (.det 22 (.det 23 (.det 24 (.det 25 (.det 26 (.det 27 (.det 28 (.det 29 (.det 30 (.det 31 (.det 32 (.det 33 (.det 34 (.det 35 (.det 36 (.det 37 (.det 38 (.det 39 (.det 40 .done)))))))))))))))))))))))))))))))))))))))))
def tT11:=aa wX <| aa wbu <| aa T3 <| aa T24 <| aa T26 <| aa T28 <| aa T29 <| aa T32 <| aa T37 <| aa T38 <| aa T40 <| aa T42 <| aa T43 <| aa T46 <| aa T51 <| aa T54 <| aa T56 <| aa T62 T72
theorem Arf (σ:St):Aa Tryz.prog 13 [] σ fun r s=>s=σ∧∃ nm cols,r= .agg [.p (.v (.string nm)),.p (.sl 4 cols)]∧cols.length=3:=by
 refine Aa.pureF (R:=fun r=>∃ nm cols,r= .agg [.p (.v (.string nm)),.p (.sl 4 cols)]∧cols.length=3) ?_ rfl σ
 refine Ab Am Ao Tryz.func13 (by kernel_rfl) rfl (nt:=6) (rs:=[.cell 0 42]) rfl rfl ?_
 repeat' simp only[↓wBA,tT11,seval,wH]
 all_goals refine rtS ?_
 all_goals simp only[A1.eq_1,Ak.eq_1,Ak.eq_2,Ax.eq_2,tT11,seval]
 exact⟨rfl,_,_,rfl,rfl⟩
def i0x:Idx:=(⟨#[105]⟩,⟨#[116]⟩,0,false)
theorem Axc {X:List Ixx}{q:Idx×Kd}(h:X.map kxT=[q]):∃ x,X=[x]∧x.x=q.1∧x.kd=q.2:=by
 match X,h with
 |[x],h=>
  simp only[map_cons,map_nil,List.cons.injEq,and_true]at h
  exact⟨x,rfl,by rw[← h];rfl,by rw[← h];rfl⟩
theorem A15 {Y:List Ixx}{x:Ixx}(h:Y.map Rc=[x].map Rc):∃ y,Y=[y]∧Rc y=Rc x:=by
 cases Y with
 |nil=>simp at h
 |cons y Y=>cases Y with
  |nil=>exact⟨y,rfl,by simpa using h⟩
  |cons z Y=>simp at h
theorem Ys:∀ l:List UInt8,Op.bytesLess l l=false
 |[]=>by simp[Op.bytesLess]
 |a::l=>by simp[Op.bytesLess,Ys l]
theorem Am0 (e:Ent):inR e.k e.k e=true:=by unfold inR;rw[Jl];rfl
theorem Akb (v:Va):covV v v v=true:=by
 have:cmpV v v=0:=by simp[cmpV,cmpI,cmpS,Ys]
 unfold covV
 rw[this];simp
theorem Ao2 (x:Idx):∀ q∈[(x,H4)],KdOk q.2:=fun q hq=>by
 simp only[mem_singleton]at hq;subst hq;exact Aj4
theorem Ao3 {x:Idx}(h:x.2.2.2=false):∀ q∈[(x,H4)],∀ σ,Aa Tryz.prog 43 [idxA q.1] σ fun r s=>s=σ∧r=q.2.tool:=fun q hq σ=>by
 simp only[mem_singleton]at hq;subst hq;exact aof x h σ
theorem Am1 (σ:St):Aa Tryz.prog 7 [] σ fun r σ'=>Ap σ σ'∧r=Az true:=by
 have hu8:=ck_5
 refine Ab Am Ao Tryz.func7 (by kernel_rfl) rfl (nt:=92) (rs:=[.tmp 0]) rfl rfl ?_
 repeat' simp only[↓wBA,tT11,seval]
 refine (Ak5 800 (by omega) σ).mono ?_
 rintro _ s1 ⟨dd,Fd,rfl,a1,hd,hFd⟩
 repeat' simp only[↓wBA,tT11,seval]
 refine (Ak5 4000 (by omega) s1).mono ?_
 rintro _ s2 ⟨dl,Fl,rfl,a2,hl,hFl⟩
 have hd2:=hd.ap a2
 have l1:=a1.len
 have l2:=a2.len
 repeat' simp only[↓wBA,tT11,seval]
 refine (Aik hd2 hl (fun t h1 h2=>by have:=hd.lt t h1;have:=hFl t h2;omega) (by omega) (by omega) 8 (by omega) (by omega)).mono ?_
 rintro _ s3 ⟨p,l,kh,G,P,rfl,a3,hP,p1,p2,p3,p4,p5,p6,p7,p8,p9⟩
 have l3:=a3.len
 have hGσ:∀ t,G t→σ.length≤t:=fun t ht=>by
  rcases p9 t ht with h|h|h
  ·exact hFd t h
  ·have:=hFl t h;omega
  ·omega
 have hpg:P.pages=100:=by rw[p1];rfl
 have hbud:Bud P 1000000:=⟨by omega,by rw[p7];simp,by omega⟩
 repeat' first|simp only[↓wBA,tT11,seval]|((with_reducible show Aa _ _ _ _ _);refine (Aip hP).mono ?_;rintro _ s4 ⟨rfl,a4,h4⟩)
 have l4:=a4.len
 refine (Arf _).mono ?_
 rintro _ s4' ⟨rfl,nm,cols,rfl,hcl⟩
 have hc0:cols≠[]:=fun e=>by rw[e]at hcl;simp at hcl
 repeat' simp only[↓wBA,tT11,seval,wH]
 refine Aa.frzArgs ?_
 refine (Ao1 (w:=3) (T:=fun n=>n==0) (ks:=[(i0x,H4)]) (h4.ap (Ap.app _ _)) (by rw[p8];exact Aod (by omega)) (by omega) (by omega) rfl (fun q hq=>by simpa using hq) (hbud.mono (by omega)) (Ao2 _) (Ao3 rfl) (by simp[i0x]) (by simp[H4,Mu];omega) nm hc0 (by omega) (by simp)).mono ?_
 rintro _ s5 ⟨first,X,U5,P5,v5,T5,rfl,f5,h5,k5,hT5,ht05,hX5,ht5⟩
 obtain⟨x,rfl,hxx,hxk⟩:=Axc hX5
 have l5:=f5.len
 simp only[length_append,length_cons,length_nil]at l5
 have hlt5:=h5.lt
 have hsk:Mt [x] 1=3:=by simp[Mt,hxk,H4,Mu]
 have hI:=fun {s:St} (a:Ap s5 s)=>Axa (w:=3) (vs:=[(1,5,emp),(0,0,emp),(0,0,emp)]) (made:=1) (h5.ap a) (by rw[k5.pages];exact hT5) (by rw[k5.pages];omega) ht05 (by rw[k5.pages];exact ht5) (hbud.kp (k:=1) k5 (by omega)) (by simp) rfl (by omega) (by omega) (by simp[okW,okV]) (by decide) (by omega) (fun y hy σ=>by simp only[mem_singleton]at hy;subst hy;rw[hxx,hxk];exact aof _ rfl σ) (by rw[k5.pages,hpg,length_nil,Nat.zero_add,hsk];omega) nm hcl (by simp)
 obtain⟨z2,z4,hst⟩:∃ z2 z4,Rb nm cols [x] first= .agg [.p (.v (.string nm)),.p (.sl 4 cols),.p z2,.p (.v (.int .i64 (first:Nat))),.p z4]:=⟨_,_,rfl⟩
 rw[hst]at hI ⊢
 repeat' simp only[↓wBA,tT11,seval,wH]
 refine Aa.frzArgs ?_
 refine (hI (((Ap.app _ _).more _).more _)).mono ?_
 rintro _ s6 ⟨n,k,ns6,Y,U6,P6,v6,T6,rfl,f6,h6,k6,hT6,ht06,hY,hfr,ht6⟩
 have l6:=f6.len
 simp only[length_append,length_cons,length_nil]at l6
 rw[k5.pages]at ht6
 have x60:=f6.get (t:=s5.length) (x:=some (Ob.row 5 [[AV.p (.v (.string nm)),AV.p (.sl 4 cols),AV.p z2,AV.p (.v (.int .i64 (first:Nat))),AV.p z4]])) (by simp) (fun e=>Nat.lt_irrefl _ (hlt5 _ e))
 have x61:=f6.get (t:=s5.length+1) (x:=some (Ob.row 3 [[AV.p (.v (.int .i64 1)),AV.p (.v (.int .i64 5)),AV.p (.v (.string { data:= #[] }))]])) (by simp) (fun e=>by have:=hlt5 _ e;omega)
 have y60:=Ac x60
 have y61:=Ac x61
 have hE6:insV ((n,k),(1,0),[(1,5,emp),(0,0,emp),(0,0,emp)]) []=[((n,k),(1,0),[(1,5,emp),(0,0,emp),(0,0,emp)])]:=rfl
 rw[hE6]at ht6
 obtain⟨y,rfl,hyx⟩:=A15 hY
 have hyx1:y.x=x.x:=congrArg Prod.fst hyx
 have hyx2:y.kd=x.kd:=congrArg (fun q=>q.2.2) hyx
 rw[hxx]at hyx1
 rw[hxk]at hyx2
 have k56:=k5.trans k6
 have hlt6:=h6.lt
 have hF:=fun {s:St} (a:Ap s6 s)=>Aka (ix:=0) (x:=y) (lo:=(1,5,emp)) (hi:=(1,5,emp)) (h6.ap a) (by rw[k56.pages];exact ht6) (hbud.kp (k:=1) k56 (by omega)) (by simp) (by omega) rfl hyx2 (by rw[hyx1];rfl) (by simp[okW,okV]) (by simp[okW,okV]) nm ⟨#[116]⟩ cols
 have hst2:Rb nm cols [y] first= .agg [.p (.v (.string nm)),.p (.sl 4 cols),.p z2,.p (.v (.int .i64 (first:Nat))),.p z4]:=by rw[← hst];exact Amo (by simpa using hyx)
 rw[hst2]at hF
 rw[hyx1]at hF
 simp only[Aae,Amu,i0x,map_cons,map_nil]at hF
 repeat' simp only[↓wBA,tT11,seval,wH,x60,x61,y60,y61]
 refine (hF (Ap.app _ _)).mono ?_
 rintro _ s7 ⟨av,L,U7,P7,rfl,hm7,hL7,hp7,f7,h7,k7,hms7⟩
 obtain⟨e,he⟩:∃ e:Ver,e=((n,k),(1,0),[(1,5,emp),(0,0,emp),(0,0,emp)]):=⟨_,rfl⟩
 obtain rfl:L=[e]:=Axb hp7 fun y=>by
  rw[hL7,mem_singleton,←he]
  constructor
  ·exact fun h=>h.1
  ·rintro rfl
   rw[he]
   exact⟨rfl,.inr (Am0 (Ra 0 ((n,k),(1,0),[(1,5,emp),(0,0,emp),(0,0,emp)]))),Akb (1,5,emp)⟩
 obtain⟨tl,rfl,hrow⟩:∃ tl,av= .ms tl 5 0 1∧s7[tl]? =some (some (.row 5 [E0 e])):=by
  rcases hm7 with⟨_,e0⟩|⟨t',e0,_,hr⟩
  ·simp at e0
  ·exact⟨t',by simpa using e0,hr⟩
 have yrow:=Ac hrow
 have l7:=f7.len
 simp only[length_append,length_cons,length_nil]at l7
 have x70:=f7.get (t:=s6.length) (x:=some (Ob.row 2 [[AV.p (.v (.int .i64 (n:Nat))),AV.p (.v (.int .i64 (k:Nat)))]])) (by simp) (fun e=>Nat.lt_irrefl _ (hlt6 _ e))
 have x71:=f7.get ((Ap.app _ _).get x61) (fun e=>by
  rcases f6.own _ e with e|e
  ·have:=hlt5 _ e;omega
  ·simp only[length_append,length_cons,length_nil]at e;omega)
 have y70:=Ac x70
 have y71:=Ac x71
 subst he
 simp only[E0,verC,map_cons,map_nil]at hrow
 have hen:enV [(1,5,emp),(0,0,emp),(0,0,emp)]=[[PV.v (.int .i64 1),.v (.int .i64 5),.v (.string { data:= #[] })],[.v (.int .i64 0),.v (.int .i64 0),.v (.string { data:= #[] })],[.v (.int .i64 0),.v (.int .i64 0),.v (.string { data:= #[] })]]:=rfl
 rw[hen]at hrow
 repeat' first|simp only[↓wBA,tT11,seval,Adc,wH,hrow,x70,x71,Bool.and_self]|(with_reducible refine dQ Adc 41 (some 52) ?_)
 all_goals refine rtS ?_
 all_goals simp only[A1.eq_1,Ak.eq_1,Ak.eq_2,Ax.eq_1,tT11,seval]
 exact Ap.of_fr (((((a1.trans a2).trans a3).trans a4).trans (Ap.app _ _)).fr (F:=fun t=>t=s3.length∨G t) |>.trans (f5.trans ((((Ap.app s5 _).more _).more _).fr.trans (f6.trans ((Ap.app _ _).fr.trans f7))))) fun t ht=>ht.elim (fun e=>by omega) (hGσ t)
def Nw:=aa wX <| aa wbu <| aa T3 <| aa T4 <| aa T9 <| aa T24 <| aa T26 <| aa T29 <| aa T37 <| aa T38 <| aa T40 <| aa T42 <| aa T43 <| aa T44 <| aa T46 <| aa T51 <| aa T54 <| aa T56 <| aa T62 <| aa T70 <| aa T81 <| aa T111 <| aa T116 <| aa T120 <| aa T124 <| aa T129 <| aa W7 T165
abbrev nilB:AV:=.p (.v (.pointer none))
theorem Akc (σ:St):Aa Tryz.prog 33 [nilB] σ fun r s=>Ap σ s∧r= .tup [Ad .i64 0,Ad .i64 2]:=by
 refine Ab Am Ao Tryz.func33 (by kernel_rfl) rfl (nt:=30) (rs:=[.tmp 2,.tmp 3]) rfl rfl ?_
 repeat' simp only[↓wBA,Nw,seval]
 all_goals refine rtS ?_
 all_goals simp only[A1.eq_1,Ak.eq_1,Ak.eq_2,Ax.eq_1,Nw,seval]
 exact Ap.refl _
theorem Arh (a:AV)(n k:Int)(σ:St):Aa Tryz.prog 98 [nilB,.agg [Ad .i64 n,Ad .i64 k]] σ fun r s=>Ap σ s∧r= .tup [A9 C4,.p (.v (.slice none 0 0)),Ad .i64 2]:=by
 have z5:=Aq A7
 refine Ab Am Ao Tryz.func98 (by kernel_rfl) rfl (nt:=42) (rs:=[.cell 4 151,.tmp 5,.tmp 6]) rfl rfl ?_
 repeat' simp only[↓wBA,Nw,seval,wH,C5,z5]
 all_goals refine rtS ?_
 all_goals simp only[A1.eq_1,Ak.eq_1,Ak.eq_2,Ax.eq_1,Ax.eq_2,Nw,seval,wH,z5,A9]
 exact (Ap.app _ _).more _
theorem Ade (n k:Int)(σ:St):Aa Tryz.prog 51 [nilB,.agg [Ad .i64 n,Ad .i64 k]] σ fun r s=>Ap σ s∧r= .tup [.p (.v (.slice none 0 0)),Ad .i64 2]:=by
 have z5:=Aq A7
 refine Ab Am Ao Tryz.func51 (by kernel_rfl) rfl (nt:=16) (rs:=[.tmp 4,.tmp 5]) rfl rfl ?_
 repeat' simp only[↓wBA,Nw,seval,wH]
 refine (Arh nilB n k _).mono ?_
 rintro _ s1 ⟨a1,rfl⟩
 have l1:=a1.len
 simp only[length_append,length_cons,length_nil]at l1
 repeat' simp only[↓wBA,Nw,seval,wH,A9,C5,z5]
 all_goals refine rtS ?_
 all_goals simp only[A1.eq_1,Ak.eq_1,Ak.eq_2,Ax.eq_1,Nw,seval]
 exact ((Ap.app _ _).trans a1).more _
theorem Akd (n:Int)(σ:St):Aa Tryz.prog 47 [nilB,Ad .i64 n] σ fun r s=>Ap σ s∧r= .tup [.p (.v (.slice none 0 0)),Ad .i64 2]:=by
 have hea:∀ (s:St) (f:AV),Aa Tryz.prog 86 [nilB,Ad .i64 n,f] s fun r s'=>s'=s∧r=Ad .i64 2:=fun s f=>by
  refine Ab Am Ao Tryz.func86 (by kernel_rfl) rfl (nt:=32) (rs:=[.tmp 6]) rfl rfl ?_
  repeat' simp only[↓wBA,Nw,seval]
  all_goals refine rtS ?_
  all_goals simp only[A1.eq_1,Ak.eq_1,Ak.eq_2,Ax.eq_1,Nw,seval]
 refine Ab Am Ao Tryz.func47 (by kernel_rfl) rfl (nt:=14) (rs:=[.tmp 4,.tmp 5]) rfl rfl ?_
 repeat' first|simp only[↓wBA,Nw,seval,wH]|((with_reducible show Aa _ _ _ _ _);refine (hea _ _).eq ?_)
 all_goals refine rtS ?_
 all_goals simp only[A1.eq_1,Ak.eq_1,Ak.eq_2,Ax.eq_1,Nw,seval]
 exact Ap.app _ _
def stoZ:AV:=.agg [.p (.v (.string { data:= #[] })),.p (.v (.slice none 0 0)),.p (.v (.slice none 0 0)),.p (.v (.int .i64 0)),.p (.v (.slice none 0 0))]
theorem Adf (x y z:PV)(σ:St):Aa Tryz.prog 12 [nilB,.agg [.p x,.p y],.p z] σ fun r s=>Ap σ s∧r= .tup [stoZ,Ad .i64 2]:=by
 unfold stoZ
 refine Ab Am Ao Tryz.func12 (by kernel_rfl) rfl (nt:=46) (rs:=[.cell 6 46,.tmp 7]) rfl rfl ?_
 repeat' first|simp only[↓wBA,Nw,seval,wH]|((with_reducible show Aa _ _ _ _ _);refine (Akc _).mono ?_;rintro _ s1 ⟨a1,rfl⟩;have l1:=a1.len;simp only[length_append,length_cons,length_nil]at l1;have y1:=a1.get (t:=σ.length+1) (x:=some (Ob.row 5 [[.p (.v (.string { data:= #[] })),.p (.v (.slice none 0 0)),.p (.v (.slice none 0 0)),.p (.v (.int .i64 0)),.p (.v (.slice none 0 0))]])) (by simp);have z1:=Ac y1)|with_reducible refine And.intro ?_ ?_
 repeat' first|simp only[↓wBA,Nw,seval,wH,y1]|with_reducible refine And.intro ?_ ?_
 all_goals refine rtS ?_
 all_goals simp only[A1.eq_1,Ak.eq_1,Ak.eq_2,Ax.eq_1,Ax.eq_2,Nw,seval,y1]
 exact ((Ap.app _ _).more _).trans a1
theorem Yt (x0 x1 x2 x4:PV)(n:Int)(σ:St):Aa Tryz.prog 16 [nilB,.agg [.p x0,.p x1,.p x2,.p (.v (.int .i64 n)),.p x4]] σ fun r s=>Ap σ s∧r= .tup [.p (.v (.slice none 0 0)),Ad .i64 2]:=by
 refine Ab Am Ao Tryz.func16 (by kernel_rfl) rfl (nt:=42) (rs:=[.tmp 4,.tmp 5]) rfl rfl ?_
 repeat' simp only[↓wBA,Nw,seval,wH]
 refine (Akd n _).mono ?_
 rintro _ s1 ⟨a1,rfl⟩
 have l1:=a1.len
 simp only[length_append,length_cons,length_nil]at l1
 repeat' simp only[↓wBA,Nw,seval]
 all_goals refine rtS ?_
 all_goals simp only[A1.eq_1,Ak.eq_1,Ak.eq_2,Ax.eq_1,Nw,seval]
 exact (Ap.app _ _).trans a1
theorem Adg (x0 x1 x2 x3 x4:PV)(r0 r1 r2 r3 r4 r5 r6 r7:PV)(n:Int)(σ:St):Aa Tryz.prog 17 [nilB,.agg [.p x0,.p x1,.p x2,.p x3,.p x4],Ad .i64 n,.agg [.p r0,.p r1,.p r2,.p r3,.p r4,.p r5,.p r6,.p r7]] σ fun r s=>Ap σ s∧r= .tup [.p (.v (.slice none 0 0)),Ad .i64 2]:=by
 refine Ab Am Ao Tryz.func17 (by kernel_rfl) rfl (nt:=104) (rs:=[.tmp 8,.tmp 9]) rfl rfl ?_
 repeat' simp only[↓wBA,Nw,seval,wH]
 all_goals refine rtS ?_
 all_goals simp only[A1.eq_1,Ak.eq_1,Ak.eq_2,Ax.eq_1,Nw,seval]
 exact (Ap.app _ _).more _
theorem Ake (x0 x1 x2 x3 x4:PV)(n k:Int)(σ:St):Aa Tryz.prog 23 [nilB,.agg [.p x0,.p x1,.p x2,.p x3,.p x4],.agg [Ad .i64 n,Ad .i64 k]] σ fun r s=>Ap σ s∧r=Ad .i64 2:=by
 refine Ab Am Ao Tryz.func23 (by kernel_rfl) rfl (nt:=60) (rs:=[.tmp 6]) rfl rfl ?_
 repeat' simp only[↓wBA,Nw,seval,wH]
 refine (Ade n k _).mono ?_
 rintro _ s1 ⟨a1,rfl⟩
 have l1:=a1.len
 simp only[length_append,length_cons,length_nil]at l1
 repeat' simp only[↓wBA,Nw,seval]
 all_goals refine rtS ?_
 all_goals simp only[A1.eq_1,Ak.eq_1,Ak.eq_2,Ax.eq_1,Nw,seval]
 exact ((Ap.app _ _).more _).trans a1
theorem Akf (x0 x1 x2 x3 x4:PV)(n k m t:Int)(σ:St):Aa Tryz.prog 20 [nilB,.agg [.p x0,.p x1,.p x2,.p x3,.p x4],.agg [Ad .i64 n,Ad .i64 k],Ad .i64 m,Ad .i64 t] σ fun r s=>Ap σ s∧r=Ad .i64 2:=by
 refine Ab Am Ao Tryz.func20 (by kernel_rfl) rfl (nt:=40) (rs:=[.tmp 10]) rfl rfl ?_
 repeat' simp only[↓wBA,Nw,seval,wH]
 refine (Ade n k _).mono ?_
 rintro _ s1 ⟨a1,rfl⟩
 have l1:=a1.len
 simp only[length_append,length_cons,length_nil]at l1
 repeat' simp only[↓wBA,Nw,seval]
 all_goals refine rtS ?_
 all_goals simp only[A1.eq_1,Ak.eq_1,Ak.eq_2,Ax.eq_1,Nw,seval]
 exact ((Ap.app _ _).more _).trans a1
def outS {X:Type}(fr:List AV)(D:X→List (Nat×AV))(Js:List Nat)(I:X→St→Prop)(id:Nat)(Q:Exit→List AV→St→Prop)(e:Exit)(f:List AV)(s:St):Prop:=match e with
 | .exit id'=>if id'=id then ∃ x,I x s∧f=fS fr (D x) Js fun t=>f.getD t .any else Q (.exit id') f s
 |e=>Q e f s
section
variable {P:Program} {C:Ctx} {fr f:List AV} {σ s:St} {Q:Exit→List AV→St→Prop} {c:Code} {X:Type} {D:X→List (Nat×AV)} {Js:List Nat} {I:X→St→Prop} {id:Nat}
theorem Qs {id':Nat}:outS fr D Js I id Q (.exit id') f s=if id'=id then ∃ x,I x s∧f=fS fr (D x) Js fun t=>f.getD t .any else Q (.exit id') f s:=nr rfl
theorem Adh:outS fr D Js I id Q .ret f s=Q .ret f s:=nr rfl
theorem Qt:outS fr D Js I id Q .normal f s=Q .normal f s:=nr rfl
theorem Am2 (D:X→List (Nat×AV))(Js:List Nat)(I:X→St→Prop)(id:Nat){d:Array Oper→List AV→St→(List AV→St→Prop)→Prop}(hd:d=E4 P C)(h:AWp P C d c fr σ (outS fr D Js I id Q))(hk:∀ x J s,I x s→Q (.exit id) (fS fr (D x) Js J) s):AWp P C d c fr σ Q:=by
 subst hd
 refine Fh (fun e f s g=> ?_) h
 cases e with
 |exit id'=>
  rw[Qs]at g
  by_cases e:id'=id
  ·rw[if_pos e]at g
   obtain⟨x,g1,g2⟩:=g
   rw[e,g2];exact hk x _ s g1
  ·rw[if_neg e]at g;exact g
 |_=>exact g
end
theorem wOu:(type_of% @Qs)∧(type_of% @Adh)∧(type_of% @Qt):=⟨@Qs,@Adh,@Qt⟩
def Jq:=aa wX <| aa wbu <| aa T3 <| aa T4 <| aa T5 <| aa T9 <| aa T24 <| aa T26 <| aa T28 <| aa T29 <| aa T32 <| aa T37 <| aa T38 <| aa T40 <| aa T42 <| aa T43 <| aa T46 <| aa T51 <| aa T54 <| aa T70 T72
def zK (b:UInt8):Nat:=b.toNat % 65
def zS (k:Nat):ByteArray:=⟨(List.replicate k (0:UInt8)).toArray⟩
def zV (b:UInt8):Va:=(3,0,zS (zK b))
def szR (r:List UInt8):Nat:=1+(r.map fun b=>2+zK b).sum
theorem Ari (b:UInt8):zK b≤64:=by unfold zK;omega
theorem Arj (k:Nat):(zS k).size=k:=by simp[zS,ByteArray.size]
theorem A16 (b:UInt8):okW (zV b):=by
 have:=Ari b
 have h2:=Arj (zK b)
 refine⟨?_,by show (-9223372036854775808:Int)≤0;decide,by show (0:Int)≤9223372036854775807;decide⟩
 simp[zV,okV,h2]
 omega
theorem Axd (b:UInt8):(valB (zV b)).length=2+zK b:=by
 have h2:(zS (zK b)).data.toList.length=zK b:=by simp[zS]
 show (_::(_::(zS (zK b)).data.toList)).length=_
 simp only[length_cons,h2];omega
theorem Axe (r:List UInt8):(rwB (r.map zV)).length=szR r:=by
 unfold rwB szR
 rw[length_cons]
 have:((r.map zV).flatMap valB).length=(r.map fun b=>2+zK b).sum:=by
  induction r with
  |nil=>rfl
  |cons b r ih=>rw[map_cons,List.flatMap_cons,length_append,Axd,ih,map_cons,List.sum_cons]
 rw[this];omega
theorem Am3 (r:List UInt8)(b:UInt8):szR (r++[b])=szR r+2+zK b:=by
 unfold szR;rw[map_append,List.sum_append];simp;omega
theorem Axf (r:List UInt8):szR r≤1+66*r.length:=by
 unfold szR
 induction r with
 |nil=>simp
 |cons b r ih=>
  have:=Ari b
  simp only[map_cons,List.sum_cons,length_cons];omega
theorem Ae5 (t k:Nat):Qv cx 70 9 (.own t 1 (List.replicate k [.v (.int .u8 0)]))=some (.p (.v (.string (zS k)))):=by
 have h:Dp (List.replicate k [PV.v (.int .u8 0)])=some (List.replicate k 0):=by
  have:=Jc (List.replicate k (0:UInt8))
  rw[Ay,List.map_replicate]at this
  exact this
 unfold Qv
 rw[En,ck_9]
 simp only[ck_5,Br,h]
 rfl
theorem Am4 (t:Nat)(d:UInt8):Qv cx 70 9 (.own t 1 [[.v (.int .u8 97)],[.v (.int .u8 (d.toNat:Int))]])=some (.p (.v (.string ⟨#[97,d]⟩))):=by
 have h:Dp [[PV.v (.int .u8 97)],[.v (.int .u8 (d.toNat:Int))]]=some [97,d]:=Jc [97,d]
 unfold Qv
 rw[En,ck_9]
 simp only[ck_5,Br,h]
 rfl
theorem A17 (b:UInt8):((b.toNat:Int).tmod 65)=(zK b:Int):=by
 unfold zK
 rw[Int.tmod_eq_emod_of_nonneg (by omega)]
 omega
def FitI (s3 s:St)(r:List UInt8)(i:Nat)(av:AV):Prop:=s3.length+1≤s.length∧(∀ t,t<s3.length→s[t]? =s3[t]?)∧∃ ac cs,s[s3.length]? =some (some (Ob.row 2 [[AV.p (.v (.string { data:= #[116] })),ac]]))∧It s av 24 3 (enV ((r.take i).map zV))∧It s ac 72 4 cs∧cs.length=i∧(∀ t,B0 av=some t→s3.length+1≤t)∧∀ t,B0 ac=some t→s3.length+1≤t∧B0 av≠some t
theorem It.lfO {q:St}{av:AV}{E:TypeId}{e:Nat}{ls:List (List PV)}(h:It q av E e ls):leaf av=true∧Ct av=some [av]:=by
 rcases h with⟨rfl,_⟩|⟨t,rfl,_⟩<;>exact⟨rfl,rfl⟩
theorem szR0 (r:List UInt8):((szR (r.take 0):Nat):Int)=1:=by simp[szR]
theorem Ark (r:List UInt8)(hrl:r.length≤140737488351232)(σ:St):Aa Tryz.prog 5 [.p (.sl 1 (Ay r))] σ fun q _=>q=Az true:=by
 have hla:=H2 r
 refine Ab Am Ao Tryz.func5 (by kernel_rfl) rfl (nt:=168) (rs:=[.tmp 2]) rfl rfl ?_
 repeat' simp only[↓wBA,Jq,seval]
 refine (Am1 _).mono ?_
 rintro _ s0 ⟨a0,rfl⟩
 have l0:=a0.len
 repeat' simp only[↓wBA,Jq,seval]
 refine (Ak5 1600 (by omega) s0).mono ?_
 rintro _ s1 ⟨dd,Fd,rfl,a1,hd,hFd⟩
 repeat' simp only[↓wBA,Jq,seval]
 refine (Ak5 40000 (by omega) s1).mono ?_
 rintro _ s2 ⟨dl,Fl,rfl,a2,hl,hFl⟩
 have hd2:=hd.ap a2
 have l1:=a1.len
 have l2:=a2.len
 repeat' simp only[↓wBA,Jq,seval]
 refine (Aik hd2 hl (fun t h1 h2=>by have:=hd.lt t h1;have:=hFl t h2;omega) (by omega) (by omega) 8 (by omega) (by omega)).mono ?_
 rintro _ s3 ⟨p,l,kh,G,P,rfl,a3,hP,p1,p2,p3,p4,p5,p6,p7,p8,p9⟩
 have l3:=a3.len
 have hpg:P.pages=200:=by rw[p1];rfl
 have hbud:Bud P 1000000:=⟨by omega,by rw[p7];simp,by omega⟩
 have hlt3:=hP.lt
 repeat' simp only[↓wBA,Jq,seval,wH]
 obtain⟨S,hS⟩:∃ S,S=s3++[some (Ob.row 2 [[AV.p (.v (.string { data:= #[116] })),AV.p (.v (.slice none 0 0))]])]:=⟨_,rfl⟩
 have aS:Ap s3 S:=⟨_,hS⟩
 have lS:S.length=s3.length+1:=by rw[hS];simp
 rw[← hS]
 refine Am2 (X:={ q:Nat×AV // q.1≤r.length∧q.1≤16 }) (fun q=>[(5,q.1.2),(7,Ad .i64 (szR (r.take q.1.1):Nat)),(8,Ad .i64 (q.1.1:Nat))]) [9,10,34,35,36,37,38,39,40,41,42,43,44,45,46,47,48,49,50,51,52,53,54,55,56,57,58,59,60,61,62,63,64,65,66,67,68,69,70,71,72] (fun q s=>FitI s3 s r q.1.1 q.1.2∧(q.1.1=r.length∨q.1.1=16)) 0 rfl ?_ ?_
 ·skip
  refine As (X:={ q:Nat×AV // q.1≤r.length∧q.1≤16 }) (fun q=>r.length - q.1.1) (fun q=>[(5,q.1.2),(7,Ad .i64 (szR (r.take q.1.1):Nat)),(8,Ad .i64 (q.1.1:Nat))]) [9,10,34,35,36,37,38,39,40,41,42,43,44,45,46,47,48,49,50,51,52,53,54,55,56,57,58,59,60,61,62,63,64,65,66,67,68,69,70,71,72] (fun q s=>S.length≤s.length∧FitI s3 s r q.1.1 q.1.2) (⟨(0,.p (.v (.slice none 0 0))),by simp⟩) ?_ ?_ ?_ ?_
  ·simp only[wHl,wHf,szR0]
  ·refine⟨Nat.le_refl _,by omega,fun t ht=>by rw[hS,List.getElem?_append_left ht],.p (.v (.slice none 0 0)),[],by rw[hS];simp,.inl ⟨rfl,rfl⟩,.inl ⟨rfl,rfl⟩,rfl,by simp[B0],by simp[B0]⟩
  ·rintro _ _ ⟨h,_⟩;exact h
  ·intro y J s hI
   simp only[wHl]
   obtain⟨⟨i,av⟩,hi,hi16⟩:=y
   obtain⟨ls,hF⟩:=hI
   obtain⟨lss,hk,ac,cs,ht,ow,oc,hcl,on,onc⟩:=hF
   dsimp only at*
   have hi0:=nnI i
   have hwi:=wI i (by omega)
   have yt:=Ac ht
   by_cases hlt:i<r.length
   ·have e1:=dT (i:=i) (n:=r.length) hlt
    by_cases hl16:i<16
    ·have e2:decide ((i:Int)<16)=true:=decide_eq_true (by omega)
     obtain⟨c,hc⟩:∃ c,r[i]? =some c:=⟨r[i],by simp⟩
     have hg:(Ay r)[i]? =some [.v (.int .u8 (c.toNat:Int))]:=by rw[Ay,List.getElem?_map,hc];rfl
     have hif:((i:Int)<(r.length:Int))=True:=eq_true (by omega)
     have hr65:=A17 c
     have hzk:=Ari c
     have hk0:=nnI (zK c)
     have hwk:IntKind.i64.wrap ((zK c:Nat):Int)=(zK c:Int):=wrap_i64 (by omega) (by omega)
     have htk:r.take (i+1)=r.take i++[c]:=by rw[List.take_add_one,hc];rfl
     have hsl:=Axf (r.take i)
     have hsi:(r.take i).length≤16:=by rw[length_take];omega
     have hm1:((zK c:Nat):Int)*1=(zK c:Int):=Int.mul_one _
     have hmk:(1*((zK c:Nat):Int)≤140737488355328)=True:=eq_true (by omega)
     have hml:(((zK c:Nat):Int)≤(maxLen:Int))=True:=eq_true (by unfold maxLen;omega)
     have hcz:=Ae5 s.length (zK c)
     repeat' simp only[↓wBA,Jq,Bl,seval,wH,wHl,hla,e2,hg,hif,hi0,hr65,hwk,hk0,hmk,hml,hcz]
     obtain⟨Q1,hQ1⟩:∃ Q1,Q1=s++[some (Ob.right 5 (zK c*1))]++[some (Ob.right 24 3)]:=⟨_,rfl⟩
     have lQ1:Q1.length=s.length+2:=by rw[hQ1];simp
     have kQ1:∀ t,t<s.length→Q1[t]? =s[t]? :=fun t ht=>by rw[hQ1,List.append_assoc,List.getElem?_append_left ht]
     have ow1:=ow.same (q':=Q1) fun t h=>kQ1 t (ow.lt h)
     have hel:(enV ((r.take i).map zV)).length≤16:=by rw[Fb,length_map];omega
     obtain⟨av1,q1,g1,g2,g3,g4,g5⟩:=E7 (q:=Q1) (y:=.own (s.length+1) 3 [vaC (zV c)]) (m:=[vaC (zV c)]) Q6 ow1 rfl (by simp) (by simp only[length_cons,length_nil];omega) (by simp only[length_cons,length_nil];omega)
     rw[lQ1]at g1 g3 g4 g5
     rw[hQ1]at g1
     simp only[vaC,zV]at g1
     have hk1:∀ t,t<s.length→B0 av≠some t→q1[t]? =s[t]? :=fun t h1 h2=>(g4 t (by omega) h2).trans (kQ1 t h1)
     have ht1:q1[s3.length]? =some (some (Ob.row 2 [[AV.p (.v (.string { data:= #[116] })),ac]])):=(hk1 _ yt (fun e=>by have:=on _ e;omega)).trans ht
     have yt1:=Ac ht1
     obtain⟨d,hd0⟩:∃ d,d=UInt8.ofNat (97+i):=⟨_,rfl⟩
     have hd1:IntKind.i64.wrap (97+(i:Int))=((97+i:Nat):Int):=by rw[wrap_i64 (by omega) (by omega)];omega
     have hd2:IntKind.u8.wrap ((97+i:Nat):Int)=(d.toNat:Int):=by rw[hd0,Eb (by omega),Of (by omega) (by omega)]
     have hcv:=Am4 q1.length d
     have hlc:=oc.lfO
     obtain⟨Q2,hQ2⟩:∃ Q2,Q2=q1++[some (Ob.right 5 2)]++[some (Ob.right 72 4)]:=⟨_,rfl⟩
     have lQ2:Q2.length=q1.length+2:=by rw[hQ2];simp
     have kQ2:∀ t,t<q1.length→Q2[t]? =q1[t]? :=fun t ht=>by rw[hQ2,List.append_assoc,List.getElem?_append_left ht]
     have oc2:=oc.same (q':=Q2) fun t h=>by
      have h1:=oc.lt h
      rw[kQ2 t (by omega),hk1 t h1 (onc t h).2]
     obtain⟨ac1,q2,f1,f2,f3,f4,f5⟩:=E7 (q:=Q2) (y:=.own (q1.length+1) 4 [[.v (.string ⟨#[97,d]⟩),.v (.int .i64 3),.v (.bool false),.v (.bool false)]]) (m:=[[.v (.string ⟨#[97,d]⟩),.v (.int .i64 3),.v (.bool false),.v (.bool false)]]) W6 oc2 rfl (by simp) (by simp only[length_cons,length_nil];omega) (by simp only[length_cons,length_nil];omega)
     rw[lQ2]at f1 f3 f4 f5
     rw[hQ2]at f1
     have hk2:∀ t,t<q1.length→B0 ac≠some t→q2[t]? =q1[t]? :=fun t h1 h2=>(f4 t (by omega) h2).trans (kQ2 t h1)
     have ht2:q2[s3.length]? =some (some (Ob.row 2 [[AV.p (.v (.string { data:= #[116] })),ac]])):=(hk2 _ yt1 (fun e=>by have:=(onc _ e).1;omega)).trans ht1
     have yt2:=Ac ht2
     have hlc1:=f2.lfO
     have hs1:IntKind.i64.wrap (((szR (r.take i):Nat):Int)+2)=((szR (r.take i)+2:Nat):Int):=by rw[wrap_i64 (by omega) (by omega)];omega
     have hs2:IntKind.i64.wrap (((szR (r.take i)+2:Nat):Int)+((zK c:Nat):Int))=((szR (r.take (i+1)):Nat):Int):=by rw[htk,Am3,wrap_i64 (by omega) (by omega)];omega
     repeat' simp only[↓wBA,Jq,Bl,seval,wH,wHl,g1,ht1,hd1,hd2,hcv,f1,ht2,hlc1.2,hs1,hs2,hwi]
     have hav1:∀ t,B0 av1=some t→s3.length+1≤t∧t<q1.length∧B0 ac≠some t:=fun t h=>by
      have h1:=g2.lt h
      rcases g5 t h with h2|h2
      ·exact⟨on t h2,h1,fun e=>(onc t e).2 h2⟩
      ·exact⟨by omega,h1,fun e=>by have:=oc.lt e;omega⟩
     refine⟨⟨(i+1,av1),by show i+1≤r.length;omega,by show i+1≤16;omega⟩,by show r.length - (i+1)<r.length - i;omega,⟨by omega,⟨by rw[List.length_set];omega,fun t h=> ?_,ac1,_,List.getElem?_set_self yt2,?_,f2.same fun t h=> ?_,by simp[hcl],fun t h=>(hav1 t h).1,fun t h=> ?_⟩⟩,by simp only[]⟩
     ·rw[List.getElem?_set_ne (by omega),hk2 t (by omega) (fun e=>by have:=(onc t e).1;omega),hk1 t (by omega) (fun e=>by have:=on t e;omega),hk t h]
     ·dsimp only
      rw[htk,map_append,Aji]
      refine g2.same fun t h=> ?_
      obtain⟨h1,h2,h3⟩:=hav1 t h
      rw[List.getElem?_set_ne (by omega),hk2 t h2 h3]
     ·have h1:s3.length+1≤t:=(f5 t h).elim (fun e=>(onc t e).1) fun e=>by omega
      rw[List.getElem?_set_ne (by omega)]
     ·rcases f5 t h with h1|h1
      ·exact⟨(onc t h1).1,fun e=>(hav1 t e).2.2 h1⟩
      ·exact⟨by omega,fun e=>by have:=(hav1 t e).2.1;omega⟩
    ·have e2:decide ((i:Int)<16)=false:=decide_eq_false (by omega)
     repeat' simp only[↓wBA,Jq,seval,wHl,hla,e1,e2,wOu]
     exact⟨⟨(i,av),hi,hi16⟩,⟨⟨lss,hk,ac,cs,ht,ow,oc,hcl,on,onc⟩,.inr (by show i=16;omega)⟩,by simp only[]⟩
   ·have e1:=dF (i:=i) (n:=r.length) hlt
    repeat' simp only[↓wBA,Jq,seval,wHl,hla,e1,wOu]
    exact⟨⟨(i,av),hi,hi16⟩,⟨⟨lss,hk,ac,cs,ht,ow,oc,hcl,on,onc⟩,.inl (by show i=r.length;have:i≤r.length:=hi;omega)⟩,by simp only[]⟩
 ·intro x J s hI
  simp only[wHl]
  obtain⟨⟨i,av⟩,hi,hi16⟩:=x
  obtain⟨hF,hiq⟩:=hI
  dsimp only at*
  obtain⟨lss,hk,ac,cs,ht,ow,oc,hcl,on,onc⟩:=hF
  have yt:=Ac ht
  have hlav:Bf cx 54 av=some i:=by
   have hl:(enV ((r.take i).map zV)).length=i:=by rw[Fb,length_map,length_take];omega
   unfold Bf
   rw[Q6]
   rcases ow with⟨rfl,e⟩|⟨t,rfl,_⟩
   ·rw[e]at hl;simp at hl;subst hl;rfl
   ·simp only[Br];rw[hl]
  have hlac:=oc.lfO
  by_cases hr0:i=0
  ·subst hr0
   repeat' simp only[↓wBA,Jq,seval,wHl,hlav]
   all_goals refine rtS ?_
   all_goals simp only[A1.eq_1,Ak.eq_1,Ak.eq_2,Ax.eq_1,Jq,seval]
  ·have hi0:((i:Int)==0)=false:=by simp;omega
   have hi1:((i:Int)=0)=False:=by simp;omega
   have hPs:=hP.same (s:=s) fun t ht=>hk t (hlt3 t ht)
   repeat' simp only[↓wBA,Jq,seval,wHl,hlav,hi0]
   obtain⟨ta,rfl,hcne,hca⟩:∃ t,ac= .own t 4 cs∧cs≠[]∧s[t]? =some (some (.right 72 (cs.length*4))):=by
    rcases oc with⟨_,e⟩|h
    ·rw[e]at hcl;simp at hcl;omega
    ·exact h
   obtain⟨vs,hvs⟩:∃ vs,vs=(r.take i).map zV:=⟨_,rfl⟩
   have hvl:vs.length=i:=by rw[hvs,length_map,length_take];omega
   have hvok:∀ v∈vs,okW v:=fun v hv=>by
    rw[hvs]at hv
    obtain⟨b,_,rfl⟩:=List.mem_map.1 hv
    exact A16 b
   have hsz:(rwB vs).length=szR (r.take i):=by rw[hvs,Axe]
   rw[← hvs]at ow
   have hvne:vs≠[]:=fun e=>by rw[e]at hvl;simp at hvl;omega
   obtain⟨tv,rfl,_,hva⟩:∃ t,av= .own t 3 (enV vs)∧enV vs≠[]∧s[t]? =some (some (.right 24 ((enV vs).length*3))):=by
    rcases ow with⟨_,e⟩|h
    ·have:=congrArg List.length e
     rw[Fb,hvl]at this;simp at this;omega
    ·exact h
   have hw1:IntKind.i64.wrap ((i:Int) - 1)=((i - 1:Nat):Int):=by rw[wrap_i64 (by omega) (by omega)];omega
   have hi16':i≤16:=hi16
   refine (Aip hPs).mono ?_
   rintro _ s4 ⟨rfl,a4,h4⟩
   have l4:=a4.len
   have ht4:=a4.get ht
   have yt4:=Ac ht4
   repeat' simp only[↓wBA,Jq,seval,wH,wHl,hlav,hw1,ht4]
   refine Aa.frzArgs ?_
   refine (Ao1 (w:=i) (T:=fun n=>n==0) (ks:=[((⟨#[105]⟩,⟨#[116]⟩,i - 1,false),H4)]) (h4.ap (Ap.app _ _)) (by rw[p8];exact Aod (by omega)) (by omega) (by omega) rfl (fun q hq=>by simpa using hq) (hbud.mono (by omega)) (Ao2 _) (Ao3 rfl) (by simp;omega) (by simp[H4,Mu];omega) ⟨#[116]⟩ hcne (by omega) (by simp)).mono ?_
   rintro _ s5 ⟨first,X,U5,P5,v5,T5,rfl,f5,h5,k5,hT5,ht05,hX5,htb5⟩
   obtain⟨x,rfl,hxx,hxk⟩:=Axc hX5
   have l5:=f5.len
   simp only[length_append,length_cons,length_nil]at l5
   have hlt5:=h5.lt
   have hG3:¬ (s3.length=s.length∨G s3.length):=fun e=>e.elim (fun e=>by omega) fun e=>Nat.lt_irrefl _ (hlt3 _ e)
   have ht5:=f5.get ((Ap.app _ _).get ht4) hG3
   have yt5:=Ac ht5
   have u5:¬ U5 s3.length:=fun e=>(f5.own _ e).elim hG3 fun e=>by simp only[length_append,length_cons,length_nil]at e;omega
   have hsk:Mt [x] 1=3:=by simp[Mt,hxk,H4,Mu]
   have hft:=Aqr vs
   rw[Ux hvok (by omega),hsz]at hft
   obtain⟨z2,z4,hst⟩:∃ z2 z4,Rb ⟨#[116]⟩ cs [x] first= .agg [.p (.v (.string ⟨#[116]⟩)),.p (.sl 4 cs),.p z2,.p (.v (.int .i64 (first:Nat))),.p z4]:=⟨_,_,rfl⟩
   have hbad:=fun (s':St)=>Ard (σ:=s') (b:=s.length) (vs:=vs) (cols:=cs) (made:=16777217) (by omega) (fun e=>by have:=e.2.2;simp[wiN]at this) (.v (.string ⟨#[116]⟩)) z2 (.v (.int .i64 (first:Nat))) z4
   by_cases hfit:szR (r.take i)≤392
   ·rw[decide_eq_true hfit]at hft
    have hI:=fun {s':St} (a:Ap s5 s')=>Axa (w:=i) (vs:=vs) (made:=16777216) (h5.ap a) (by rw[k5.pages];exact hT5) (by rw[k5.pages];omega) ht05 (by rw[k5.pages];exact htb5) (hbud.kp (k:=1) k5 (by omega)) (by simp) hvl (by omega) (by omega) hvok (by omega) (by omega) (fun y hy σ=>by simp only[mem_singleton]at hy;subst hy;rw[hxx,hxk];exact aof _ rfl σ) (by rw[k5.pages,hpg,length_nil,Nat.zero_add,hsk];omega) ⟨#[116]⟩ hcl (by simp)
    rw[hst]at hI ⊢
    repeat' simp only[↓wBA,Jq,seval,wH,wHl]
    refine Aa.frzArgs ?_
    refine (hI (Ap.app _ _)).mono ?_
    rintro _ s6 ⟨n,k,ns6,Y,U6,P6,v6,T6,rfl,f6,h6,k6,_⟩
    have x6t:=f6.get ((Ap.app _ _).get ht5) u5
    have x6s:=f6.get (t:=s5.length) (x:=some (Ob.row 5 [[AV.p (.v (.string ⟨#[116]⟩)),AV.p (.sl 4 cs),AV.p z2,AV.p (.v (.int .i64 (first:Nat))),AV.p z4]])) (by simp) (fun e=>Nat.lt_irrefl _ (hlt5 _ e))
    have y6t:=Ac x6t
    have y6s:=Ac x6s
    have hd:decide (((szR (r.take i):Nat):Int)≤392)=true:=by simp;omega
    repeat' simp only[↓wBA,Jq,seval,wH,wHl,x6s,y6s]
    refine Aa.frzArgs ?_
    refine (hbad _).mono ?_
    rintro _ s7 ⟨rfl,a7⟩
    have x7t:=a7.get ((Ap.app _ _).get x6t)
    have x7s:=a7.get ((Ap.app _ _).get x6s)
    have y7t:=Ac x7t
    have y7s:=Ac x7s
    repeat' simp only[↓wBA,Jq,seval,wH,wHl,x7t,y7t]
    refine Aa.frzArgs ?_
    refine (Adf _ _ _ _).mono ?_
    rintro _ s8 ⟨a8,rfl⟩
    have x8t:=a8.get ((Ap.app _ _).get x7t)
    have x8s:=a8.get ((Ap.app _ _).get x7s)
    have y8t:=Ac x8t
    have y8s:=Ac x8s
    simp only[stoZ]
    repeat' simp only[↓wBA,Jq,seval,wH,wHl,x8s,y8s]
    refine (Yt _ _ _ _ _ _).mono ?_
    rintro _ s9 ⟨a9,rfl⟩
    have x9s:=a9.get ((Ap.app _ _).get x8s)
    have y9s:=Ac x9s
    repeat' simp only[↓wBA,Jq,seval,wHl,x9s]
    refine (Adg _ _ _ _ _ _ _ _ _ _ _ _ _ _ _).mono ?_
    rintro _ s10 ⟨a10,rfl⟩
    have x10s:=a10.get x9s
    have y10s:=Ac x10s
    repeat' first|simp only[↓wBA,Jq,seval,wHl,x10s,hd]|((with_reducible show Aa _ _ _ _ _);refine Aa.frzArgs ?_;refine (hft _).eq ?_)
    refine (Ake _ _ _ _ _ _ _ _).mono ?_
    rintro _ s11 ⟨a11,rfl⟩
    have x11s:=a11.get x10s
    have y11s:=Ac x11s
    repeat' simp only[↓wBA,Jq,seval,wHl,x11s]
    refine (Akf _ _ _ _ _ _ _ _ _ _).mono ?_
    rintro _ s12 ⟨a12,rfl⟩
    have y12s:=Ac (a12.get x11s)
    repeat' simp only[↓wBA,Jq,seval,wHl]
    all_goals refine rtS ?_
    all_goals simp only[A1.eq_1,Ak.eq_1,Ak.eq_2,Ax.eq_1,Jq,seval]
   ·rw[decide_eq_false hfit]at hft
    have hI:=fun (s':St)=>Are (σ:=s') (b:=s.length) (vs:=vs) (cols:=cs) (made:=16777216) (by omega) (by omega) hvok (by simp[wiN]) (by omega) (.v (.string ⟨#[116]⟩)) z2 (.v (.int .i64 (first:Nat))) z4
    rw[hst]
    repeat' simp only[↓wBA,Jq,seval,wH,wHl]
    refine Aa.frzArgs ?_
    refine (hI _).mono ?_
    rintro _ s6 ⟨rfl,a6⟩
    have x6t:=a6.get ((Ap.app _ _).get ht5)
    have x6s:=a6.get (t:=s5.length) (x:=some (Ob.row 5 [[AV.p (.v (.string ⟨#[116]⟩)),AV.p (.sl 4 cs),AV.p z2,AV.p (.v (.int .i64 (first:Nat))),AV.p z4]])) (by simp)
    have y6t:=Ac x6t
    have y6s:=Ac x6s
    have hd:decide (((szR (r.take i):Nat):Int)≤392)=false:=by simp;omega
    repeat' simp only[↓wBA,Jq,seval,wH,wHl,x6s,y6s]
    refine Aa.frzArgs ?_
    refine (hbad _).mono ?_
    rintro _ s7 ⟨rfl,a7⟩
    have x7t:=a7.get ((Ap.app _ _).get x6t)
    have x7s:=a7.get ((Ap.app _ _).get x6s)
    have y7t:=Ac x7t
    have y7s:=Ac x7s
    repeat' simp only[↓wBA,Jq,seval,wH,wHl,x7t,y7t]
    refine Aa.frzArgs ?_
    refine (Adf _ _ _ _).mono ?_
    rintro _ s8 ⟨a8,rfl⟩
    have x8t:=a8.get ((Ap.app _ _).get x7t)
    have x8s:=a8.get ((Ap.app _ _).get x7s)
    have y8t:=Ac x8t
    have y8s:=Ac x8s
    simp only[stoZ]
    repeat' simp only[↓wBA,Jq,seval,wH,wHl,x8s,y8s]
    refine (Yt _ _ _ _ _ _).mono ?_
    rintro _ s9 ⟨a9,rfl⟩
    have x9s:=a9.get ((Ap.app _ _).get x8s)
    have y9s:=Ac x9s
    repeat' simp only[↓wBA,Jq,seval,wHl,x9s]
    refine (Adg _ _ _ _ _ _ _ _ _ _ _ _ _ _ _).mono ?_
    rintro _ s10 ⟨a10,rfl⟩
    have x10s:=a10.get x9s
    have y10s:=Ac x10s
    repeat' first|simp only[↓wBA,Jq,seval,wHl,x10s,hd]|((with_reducible show Aa _ _ _ _ _);refine Aa.frzArgs ?_;refine (hft _).eq ?_)
    refine (Ake _ _ _ _ _ _ _ _).mono ?_
    rintro _ s11 ⟨a11,rfl⟩
    have x11s:=a11.get x10s
    have y11s:=Ac x11s
    repeat' simp only[↓wBA,Jq,seval,wHl,x11s]
    refine (Akf _ _ _ _ _ _ _ _ _ _).mono ?_
    rintro _ s12 ⟨a12,rfl⟩
    have y12s:=Ac (a12.get x11s)
    repeat' simp only[↓wBA,Jq,seval,wHl]
    all_goals refine rtS ?_
    all_goals simp only[A1.eq_1,Ak.eq_1,Ak.eq_2,Ax.eq_1,Jq,seval]
theorem Am5 (x:PV)(u:Value)(W:World)(hx:Nu (.sl 1 [.int .u8]) x)(hr:Ce W (inH W) x u)(hG:Ail W):
 Calls Tryz.prog 5 #[u] W fun e W'=>e= .returned (.bool true)∧Below W.heap.size W W':=by
 obtain⟨r,rfl,h1⟩:=Ain hx
 exact Aew (W:=W) (vs:=[u]) (Ark r h1 []) (by
  simp only[Af]
  exact⟨_,_,rfl,(by simp only[Ag];exact hr),rfl⟩) hG
end Go.Proofs.YtpoigihfeehehaaGreatDoor
