/- Pools: a frame goes, another one comes. Pools: load. -/
import Derived.Test.YtpoigihfeehehaaGreatDoorM25
set_option linter.all false
set_option maxRecDepth 100000
set_option maxHeartbeats 32000000
namespace Go.Proofs.YtpoigihfeehehaaGreatDoor
open Go.RowKit
open List (getElem?_set_ne length_set mem_of_getElem?)
theorem Ord.congr {σ:St}{V V':Nat→Cb}{a:AV}{w:Option Nat}{fs:List Nat}(h:Ord σ V a w fs)(hV:∀ g∈fs,V' g=V g):Ord σ V' a w fs:=by
 cases h with
 |nil=>exact .nil
 |hp h=>exact .hp ⟨h.o,fun i g hg=>by rw[hV g (mem_of_getElem? hg)];exact h.f i g hg,h.nd,fun g hg=>by rw[hV g hg];exact h.pg g hg,h.big⟩
def rowP (dd l kh:Nat)(P:Al)(a:AV):Option Ob:=some (.row 6 [[.mp dd 6 0 0,.mp l 5 0 0,Ad .i64 (P.most:Nat),a,.mmap kh,Ad .i64 P.tick]])
def mapP (hm:List (Nat×Nat)):Option Ob:=some (.map (Nh (fun f=>.mp f 516 0 0) hm))
theorem Avl {q:St}{p dd l kh f n:Nat}{G:Nat→Prop}{P:Al}(h:Bj q p dd l kh G P)(v:Cb)(i0:Nat)(hf:q[f]? =some (Gf v i0))(hv:v.pg.length=512)(hvn:v.n=n)(hz:pgz v.pg=v.pg)(hcl:pgz (Bw P.data.now n)=v.pg)(hn:n<P.pages)(hfG:¬ G f)(hnone:lkM P.hm n=none)(hlen:P.fs.length<P.most)(hvd:v.dirty=false):
 Aa Tryz.prog 111 [.dyn 208 (.mp p 6 0 3),.dyn 154 (.mp f 516 0 0)] q fun r q'=>r= .tup []∧(∃ a,q'[p]? =some (rowP dd l kh P a))∧q'[kh]? =some (mapP P.hm)∧∃ G' P',Bj (q'.set kh (mapP (Dt P.hm n f))) p dd l kh G' P'∧Fr q (q'.set kh (mapP (Dt P.hm n f))) (fun t=>t=f∨G t) G'∧P'.hm=Dt P.hm n f∧Kp P P' 0:=by
 obtain⟨hk,Fd,Gl,w,a,h,hG⟩:=h
 have hog:¬ oG w P.fs f:=fun e=>hfG ((hG f).2 (.inr (.inr (.inr (.inr e)))))
 have hfs:f∉P.fs:=fun e=>hog (.inr e)
 have hup:∀ g∈P.fs,Dl P.V f v g=P.V g:=fun g hg=>if_neg fun e=>by subst e;exact hfs hg
 have huf:Dl P.V f v f=v:=if_pos rfl
 have ho:=h.ord.congr (V':=Dl P.V f v) hup
 have hb:=hk.mb
 refine (A0u ho h.o (i0:=i0) (by rw[huf];exact hf) hfs (by rw[huf];exact hv) (by omega)).mono ?_
 rintro _ q' ⟨rfl,o',fs',hP,h1,h2,hF⟩
 have hmem:∀ g,g∈fs'↔g∈P.fs∨g=f:=fun g=>by rw[hP.mem_iff];simp
 have hcnt:fs'.countP (fun g=>(Dl P.V f v g).dirty)=P.fs.countP fun g=>(P.V g).dirty:=by
  rw[hP.countP_eq,List.countP_append,List.countP_congr (q:=fun g=>(P.V g).dirty) fun g hg=>by rw[hup g hg]]
  simp[huf,hvd]
 have hpf:p≠f:=fun e=>hfG (e▸(hG p).2 (.inl rfl))
 have hkf:kh≠f:=fun e=>hfG (e▸(hG kh).2 (.inr (.inl rfl)))
 have hno:∀ t,Fd t∨Gl t∨t=kh→t<q.length→q'[t]? =q[t]? :=fun t ht hl=>hF.keep t hl (by
  rintro (rfl|rfl|e)
  ·rcases ht with e|e|e
   ·exact h.pd e
   ·exact h.pl e
   ·exact h.pk e
  ·rcases ht with e|e|e
   ·exact hfG ((hG t).2 (.inr (.inr (.inl e))))
   ·exact hfG ((hG t).2 (.inr (.inr (.inr (.inl e)))))
   ·exact hkf e.symm
  ·rcases ht with e'|e'|rfl
   ·exact h.od t e e'
   ·exact h.ol t e e'
   ·exact h.nk e)
 have hk':=(hno kh (.inr (.inr rfl)) (Ac h.has)).trans h.has
 have lk:=Ac hk'
 have hpk:=h.pk
 have hnk':¬ oG (some o') fs' kh:=fun e=>by
  rcases hF.own kh (.inr (e.imp (fun e=>by simpa using e.symm) id))with e|e
  ·rcases e with rfl|rfl|e
   ·exact hpk rfl
   ·exact hkf rfl
   ·exact h.nk e
  ·have:=Ac h.has;omega
 have hs:∀ t,t≠kh→(q'.set kh (mapP (Dt P.hm n f)))[t]? =q'[t]? :=fun t ht=>getElem?_set_ne fun e=>ht e.symm
 refine⟨rfl,⟨_,h2⟩,hk',fun t=>t=p∨t=kh∨Fd t∨Gl t∨oG (some o') fs' t,{ P with fs:=fs',V:=Dl P.V f v,hm:=Dt P.hm n f },⟨⟨fun m g=> ?_,K3 _ _ _ hk.kn,hk.m1,hk.mb,?_,fun g hg=> ?_,fun g hg=> ?_,fun g hg hd=> ?_,hk.secs,hk.size⟩,Fd,Gl,some o',_,h.re (by rw[hs p hpk];exact h2) rfl rfl (by simp[lk,mapP]) (fun t ht=> ?_) (.hp (h1.same fun t ht=>hs t fun e=>hnk' (by subst e;exact ht.imp (fun e=>by rw[e]) id))) fun t ht=> ?_,fun t=>Iff.rfl⟩,?_,rfl,⟨rfl,rfl,rfl,rfl,rfl,Nat.le_refl _,Ak7 rfl _,by show P.data.wait.length+8*fs'.countP (fun g=>(Dl P.V f v g).dirty)≤P.data.wait.length+8*P.fs.countP (fun g=>(P.V g).dirty)+8*0;rw[hcnt];exact Nat.le_refl _,fun m=> ?_,rfl⟩⟩
 ·show lkM (Dt P.hm n f) m=some g↔g∈fs'∧(Dl P.V f v g).n=m
  rw[Je,hmem]
  by_cases hm:m=n
  ·subst hm
   rw[if_pos rfl]
   constructor
   ·intro e;cases e;exact⟨.inr rfl,by rw[huf];exact hvn⟩
   ·rintro⟨e|e,e2⟩
    ·rw[hup g e]at e2
     have:=(hk.keys m g).2 ⟨e,e2⟩
     rw[hnone]at this;cases this
    ·rw[e]
  ·rw[if_neg hm,hk.keys]
   constructor
   ·rintro⟨e,e2⟩;exact⟨.inl e,by rw[hup g e];exact e2⟩
   ·rintro⟨e|e,e2⟩
    ·exact⟨e,by rw[hup g e]at e2;exact e2⟩
    ·subst e;rw[huf,hvn]at e2;exact absurd e2.symm hm
 ·show fs'.length≤P.most
  rw[hP.length_eq];simp;omega
 ·show (Dl P.V f v g).n<P.pages
  rcases (hmem g).1 hg with e|e
  ·rw[hup g e];exact hk.fn g e
  ·subst e;rw[huf,hvn];exact hn
 ·show pgz (Dl P.V f v g).pg=(Dl P.V f v g).pg
  rcases (hmem g).1 hg with e|e
  ·rw[hup g e];exact hk.nz g e
  ·subst e;rw[huf];exact hz
 ·show pgz (Bw P.data.now (Dl P.V f v g).n)=(Dl P.V f v g).pg
  have hd':(Dl P.V f v g).dirty=false:=hd
  rcases (hmem g).1 hg with e|e
  ·rw[hup g e]at hd' ⊢;exact hk.cl g e hd'
  ·subst e;rw[huf,hvn];exact hcl
 ·have e:t≠kh:=fun e=>by subst e;exact ht.elim h.kd h.kl
  rw[hs t e]
  exact hno t (ht.imp id .inl) (ht.elim (h.data.lt t) (h.log.lt t))
 ·rcases hF.own t (.inr (ht.imp (fun e=>by simpa using e.symm) id))with e|e
  ·rcases e with rfl|rfl|e
   ·exfalso
    exact (Ord.hp h1).not h2 (by simp[]) (by simp[]) ht
   ·exact⟨fun e=>hfG ((hG t).2 (.inr (.inr (.inl e)))),fun e=>hfG ((hG t).2 (.inr (.inr (.inr (.inl e)))))⟩
   ·exact h.no (.inl e)
  ·exact h.no (.inr e)
 ·refine (hF.sub (fun t ht=> ?_) (fun t ht=> ?_)).set _ (.inr ((hG kh).2 (.inr (.inl rfl))))
  ·rcases ht with rfl|rfl|e
   ·exact .inr ((hG _).2 (.inl rfl))
   ·exact .inl rfl
   ·exact .inr ((hG _).2 (.inr (.inr (.inr (.inr e)))))
  ·rcases ht with rfl|rfl|e|e|e
   ·exact .inl (.inr ((hG _).2 (.inl rfl)))
   ·exact .inl (.inr ((hG _).2 (.inr (.inl rfl))))
   ·exact .inl (.inr ((hG _).2 (.inr (.inr (.inl e)))))
   ·exact .inl (.inr ((hG _).2 (.inr (.inr (.inr (.inl e))))))
   ·rcases hF.own t (.inr (e.imp (fun e=>by simpa using e.symm) id))with e|e
    ·rcases e with rfl|rfl|e
     ·exact .inl (.inr ((hG _).2 (.inl rfl)))
     ·exact .inl (.inl rfl)
     ·exact .inl (.inr ((hG _).2 (.inr (.inr (.inr (.inr e))))))
    ·exact .inr e
 ·unfold Al.view
  show (match lkM (Dt P.hm n f) m with|some g=>(Dl P.V f v g).pg|none=>pgz (Bw P.data.now m))=_
  rw[Je]
  by_cases hm:m=n
  ·subst hm
   rw[if_pos rfl,hnone]
   simp only[huf,hcl]
  ·rw[if_neg hm]
   cases hl:lkM P.hm m with
   |none=>rfl
   |some g=>simp only[hup g ((hk.keys m g).1 hl).1]
theorem A0y {q:St}{p dd l kh o f0:Nat}{G Fd Gl:Nat→Prop}{P:Al}(hk:Py P)(h:Mh q p dd l kh Fd Gl (some o) (.ms o 1 0 P.fs.length) P)(hp:Hh q o P.fs P.V)(hG:∀ t,G t↔(t=p∨t=kh∨Fd t∨Gl t∨oG (some o) P.fs t))(hf0:P.fs[0]? =some f0)(hd:(P.V f0).dirty=false):
 Aa Tryz.prog 110 [.dyn 208 (.mp p 6 0 3)] q fun r q'=>r= .dyn 154 (.mp f0 516 0 0)∧(∃ i,q'[f0]? =some (Gf (P.V f0) i))∧(∃ a,q'[p]? =some (rowP dd l kh P a))∧q'[kh]? =some (mapP P.hm)∧∃ G' P',Bj (q'.set kh (mapP (Q8 P.hm (P.V f0).n))) p dd l kh G' P'∧Fr q (q'.set kh (mapP (Q8 P.hm (P.V f0).n))) G G'∧P'.hm=Q8 P.hm (P.V f0).n∧P'.fs.length<P.fs.length∧P'.tick=P.tick∧Kp P P' 0∧P'.data=P.data:=by
 refine (apop hp h.o hf0).mono ?_
 rintro _ q' ⟨rfl,⟨j,hj⟩,fs',hP,h1,h2,hF⟩
 have hm0:f0∈P.fs:=mem_of_getElem? hf0
 have hnd:=(hP.nodup_iff.2 hp.nd)
 rw[List.nodup_cons]at hnd
 have hmem:∀ g,g∈fs'↔g∈P.fs∧g≠f0:=fun g=>by
  rw[← hP.mem_iff,List.mem_cons]
  constructor
  ·intro e;exact⟨.inr e,fun e'=>hnd.1 (e'▸e)⟩
  ·rintro⟨e|e,e'⟩
   ·exact absurd e e'
   ·exact e
 have hog:∀ t,oG (some o) fs' t→oG (some o) P.fs t:=fun t ht=>ht.imp id fun e=>((hmem t).1 e).1
 have hoF:∀ t,oF o P.fs t→oG (some o) P.fs t:=fun t ht=>ht.imp (fun e=>by rw[e]) id
 have hpk:=h.pk
 have hno:∀ t,Fd t∨Gl t∨t=kh→t<q.length→q'[t]? =q[t]? :=fun t ht hl=>hF.keep t hl (by
  rintro (rfl|e)
  ·rcases ht with e|e|e
   ·exact h.pd e
   ·exact h.pl e
   ·exact h.pk e
  ·rcases ht with e'|e'|rfl
   ·exact h.od t (hoF t e) e'
   ·exact h.ol t (hoF t e) e'
   ·exact h.nk (hoF _ e))
 have hk':=(hno kh (.inr (.inr rfl)) (Ac h.has)).trans h.has
 have lk:=Ac hk'
 have hs:∀ t,t≠kh→(q'.set kh (mapP (Q8 P.hm (P.V f0).n)))[t]? =q'[t]? :=fun t ht=>getElem?_set_ne fun e=>ht e.symm
 have hlk0:lkM P.hm (P.V f0).n=some f0:=(hk.keys _ _).2 ⟨hm0,rfl⟩
 have hlen:=hP.length_eq
 simp only[List.length_cons]at hlen
 refine⟨rfl,⟨j,hj⟩,⟨_,h2⟩,hk',fun t=>t=p∨t=kh∨Fd t∨Gl t∨oG (some o) fs' t,{ P with fs:=fs',hm:=Q8 P.hm (P.V f0).n },⟨⟨fun m g=> ?_,Ah6 _ _ hk.kn,hk.m1,hk.mb,?_,fun g hg=>hk.fn g ((hmem g).1 hg).1,fun g hg=>hk.nz g ((hmem g).1 hg).1,fun g hg hd=>hk.cl g ((hmem g).1 hg).1 hd,hk.secs,hk.size⟩,Fd,Gl,some o,_,h.re (by rw[hs p hpk];exact h2) rfl rfl (by simp[lk,mapP]) (fun t ht=> ?_) (.hp (h1.same fun t ht=>hs t fun e=>h.nk (by subst e;exact hog _ (ht.imp (fun e=>by rw[e]) id)))) fun t ht=>h.no (.inl (hog t ht)),fun t=>Iff.rfl⟩,?_,rfl,?_,rfl,⟨rfl,rfl,rfl,rfl,rfl,Nat.le_refl _,Ak7 rfl _,by show P.data.wait.length+8*fs'.countP (fun g=>(P.V g).dirty)≤P.data.wait.length+8*P.fs.countP (fun g=>(P.V g).dirty)+8*0;rw[← hP.countP_eq,List.countP_cons];omega,fun m=> ?_,rfl⟩,rfl⟩
 ·show lkM (Q8 P.hm (P.V f0).n) m=some g↔g∈fs'∧(P.V g).n=m
  rw[Ui _ _ _ hk.kn,hmem]
  by_cases hm:m=(P.V f0).n
  ·rw[if_pos hm]
   constructor
   ·intro e;cases e
   ·rintro⟨⟨e,e2⟩,e3⟩
    have:=(hk.keys m g).2 ⟨e,e3⟩
    rw[hm,hlk0]at this
    exact absurd (by simpa using this.symm) e2
  ·rw[if_neg hm,hk.keys]
   constructor
   ·rintro⟨e,e2⟩;exact⟨⟨e,fun e'=>hm (by rw[← e2,e'])⟩,e2⟩
   ·rintro⟨⟨e,_⟩,e2⟩;exact⟨e,e2⟩
 ·show fs'.length≤P.most
  have:=hk.len;omega
 ·have e:t≠kh:=fun e=>by subst e;exact ht.elim h.kd h.kl
  rw[hs t e]
  exact hno t (ht.imp id .inl) (ht.elim (h.data.lt t) (h.log.lt t))
 ·refine (hF.sub (fun t ht=> ?_) (fun t ht=> ?_)).set _ ((hG kh).2 (.inr (.inl rfl)))
  ·rcases ht with rfl|e
   ·exact (hG _).2 (.inl rfl)
   ·exact (hG _).2 (.inr (.inr (.inr (.inr (hoF t e)))))
  ·rw[hG t]
   exact .inl (ht.imp id (.imp id (.imp id (.imp id (hog t)))))
 ·show fs'.length<P.fs.length
  omega
 ·unfold Al.view
  show (match lkM (Q8 P.hm (P.V f0).n) m with|some g=>(P.V g).pg|none=>pgz (Bw P.data.now m))=_
  rw[Ui _ _ _ hk.kn]
  by_cases hm:m=(P.V f0).n
  ·subst hm
   rw[if_pos rfl,hlk0]
   exact hk.cl f0 hm0 hd
  ·rw[if_neg hm]
   cases lkM P.hm m<;>rfl
theorem Bj.tick {σ:St}{p dd l kh:Nat}{G:Nat→Prop}{P:Al}{a:AV}(h:Bj σ p dd l kh G P)(hp:σ[p]? =some (rowP dd l kh P a))(tk:Int):Bj (σ.set p (some (.row 6 [[.mp dd 6 0 0,.mp l 5 0 0,Ad .i64 (P.most:Nat),a,.mmap kh,Ad .i64 tk]]))) p dd l kh G { P with tick:=tk }:=by
 obtain⟨hk,Fd,Gl,w,a',h,hG⟩:=h
 have h0:=h.o
 rw[hp]at h0
 simp only[rowP,Option.some.injEq,Ob.row.injEq,List.cons.injEq,true_and,and_true]at h0
 subst h0
 have l0:=Ac hp
 have hs:∀ t,t≠p→(σ.set p (some (.row 6 [[.mp dd 6 0 0,.mp l 5 0 0,Ad .i64 (P.most:Nat),a,.mmap kh,Ad .i64 tk]])))[t]? =σ[t]? :=fun t ht=>getElem?_set_ne fun e=>ht e.symm
 exact⟨hk.re rfl rfl rfl rfl (fun _=>Iff.rfl) hk.len fun _=>⟨rfl,rfl,rfl⟩,Fd,Gl,w,a,h.re (by simp[l0]) rfl rfl (by rw[hs kh h.pk.symm];exact h.has) (fun t ht=>hs t fun e=>by subst e;exact ht.elim h.pd h.pl) (h.ord.same fun t ht=>hs t fun e=>h.np (e▸ht)) fun t ht=>h.no (.inl ht),hG⟩
def K4:Cv:=(.det 0 (.det 1 (.det 2 (.det 3 (.det 4 (.det 5 (.det 6 (.det 7 (.det 8 (.det 9 .done))))))))))
def Sk:Cv:=(.det 0 (.det 1 (.det 2 (.det 3 (.det 4 (.det 5 (.det 6 (.det 7 (.fin 8 .done)))))))))
def Ij:Cv:=(.det 0 (.det 1 (.det 2 (.det 3 (.det 4 (.det 5 (.det 6 (.fin 7 (.det 8 .done)))))))))
def tPle:=aa wX <| aa wbu <| aa T3 <| aa T28 <| aa T29 <| aa T84 <| aa T86 <| aa T88 <| aa W7 <| aa T154 <| aa T158 T208
theorem Kp.mono {P P':Al}{k k':Nat}(h:Kp P P' k)(hk:k≤k'):Kp P P' k':=⟨h.size,h.most,h.ls,h.ld,h.str,h.wait,by have:=h.ctr;omega,by have:=h.dw;omega,h.view,h.kept⟩
theorem Avm {σ:St}{p dd l kh f:Nat}{G:Nat→Prop}{P:Al}(h:Bj σ p dd l kh G P)(hf:f∈P.fs)(hc:P.ct+1<18446744073709551616)(hw:P.dq+8≤1000000000000):
 Aa Tryz.prog 66 [.mp p 6 0 0,.mp f 516 0 0] σ fun r σ'=>r=Ad .i64 0∧∃ G' P',Fr σ σ' G G'∧Bj σ' p dd l kh G' P'∧Kp P P' 0∧P'.fs=P.fs∧P'.hm=P.hm∧(P'.V f).dirty=false∧(∀ g,(P'.V g).n=(P.V g).n∧(P'.V g).pg=(P.V g).pg∧((P.V g).dirty=false→(P'.V g).dirty=false)):=by
 cases hd:(P.V f).dirty with
 |false=>
  refine (Apz h hf hd).mono ?_
  rintro _ _ ⟨rfl,rfl⟩
  exact⟨rfl,G,P,Fr.refl _ _,h,Kp.refl P 0,rfl,rfl,hd,fun g=>⟨rfl,rfl,id⟩⟩
 |true=>
  refine (Ap0 h hf hd hc hw).mono ?_
  rintro _ s ⟨rfl,G',P',h1,h2,h3,h4,h5,h6⟩
  refine⟨rfl,G',P',h1,h2,h3,h4,h5,by rw[h6];simp[Dl],fun g=> ?_⟩
  rw[h6]
  unfold Dl
  split
  ·rename_i e;subst e;exact⟨rfl,rfl,fun _=>rfl⟩
  ·exact⟨rfl,rfl,id⟩
theorem Aia (l:List UInt8):pgz (pgz l)=pgz l:=by
 unfold pgz
 by_cases h:l=C4
 ·rw[if_pos h];split<;>rfl
 ·rw[if_neg h,if_neg h]
theorem Kp.tick {P P':Al}{k:Nat}(h:Kp P P' k)(tk:Int):Kp P { P' with tick:=tk } k:=⟨h.size,h.most,h.ls,h.ld,h.str,h.wait,h.ctr,h.dw,h.view,h.kept⟩
theorem A0z {σ:St}{p dd l kh n:Nat}{G:Nat→Prop}{P:Al}(h:Bj σ p dd l kh G P)(hn:n<P.pages)(hc:P.ct+1<18446744073709551616)(hw:P.dq+8≤1000000000000):
 Aa Tryz.prog 64 [.mp p 6 0 0,Ad .i64 (n:Nat)] σ fun r σ'=>∃ f G' P',r= .tup [.mp f 516 0 0,Ad .i64 0]∧Fr σ σ' G G'∧Bj σ' p dd l kh G' P'∧Kp P P' 0∧lkM P'.hm n=some f:=by
 have hP:=h
 obtain⟨hk,Fd,Gl,w,a,h,hG⟩:=h
 have h0:=h.o
 have l0:=Ac h0
 have h1:=h.has
 have l1:=Ac h1
 cases hlk:lkM P.hm n with
 |some f=>
  have hf:=((hk.keys n f).1 hlk).1
  have e1:=Ue (fun f=>AV.mp f 516 0 0) P.hm n (.pointer none) true
  simp only[hlk,if_true]at e1
  refine Ab Am Ao Tryz.func64 (by kernel_rfl) rfl (nt:=98) (rs:=[.tmp 4,.tmp 5]) rfl rfl ?_
  repeat' first|simp only[↓wBA,tPle,seval,h0,h1,e1]|((with_reducible show Aa _ _ _ _ _);refine (Avj hP hf).mono ?_;rintro _ s ⟨rfl,G',P',hF,h2,h3,h4⟩)
  have hlen:=hF.len
  all_goals refine rtS ?_
  all_goals simp only[A1.eq_1,Ak.eq_1,Ak.eq_2,Ax.eq_1,tPle,seval]
  exact⟨f,G',P',rfl,hF,h2,h3,by rw[h4];exact hlk⟩
 |none=>
  have e1:=Ue (fun f=>AV.mp f 516 0 0) P.hm n (.pointer none) true
  simp only[hlk,if_true]at e1
  have e2:zAV (.pointer none)=some (.p (.v (.pointer none))):=rfl
  rw[e2]at e1
  simp only[Option.map_some]at e1
  have hpl:(pgz (Bw P.data.now n)).length=512:=Ah7 (Mg hk.secs n)
  have hvn:P.view n=pgz (Bw P.data.now n):=by unfold Al.view;rw[hlk]
  have hzz:pgz (pgz (Bw P.data.now n))=pgz (Bw P.data.now n):=Aia _
  have htail:∀ (q:St) (tk:Int) (G2:Nat→Prop) (P2:Al) (f:Nat),Bj q p dd l kh G2 P2→q[f]? =some (some (.row 516 [frR n (pgz (Bw P.data.now n)) false tk 0]))→Fr σ q G G2→σ.length≤f→¬ G2 f→lkM P2.hm n=none→P2.fs.length<P2.most→Kp P P2 0→Aa Tryz.prog 111 [.dyn 208 (.mp p 6 0 3),.dyn 154 (.mp f 516 0 0)] q fun r q'=>r= .tup []∧(∃ a,q'[p]? =some (some (.row 6 [[.mp dd 6 0 0,.mp l 5 0 0,Ad .i64 (P2.most:Nat),a,.mmap kh,Ad .i64 P2.tick]])))∧q'[kh]? =some (some (.map (Nh (fun f=>.mp f 516 0 0) P2.hm)))∧∃ G' P',Bj (q'.set kh (mapP (Dt P2.hm n f))) p dd l kh G' P'∧Fr σ (q'.set kh (mapP (Dt P2.hm n f))) G G'∧Kp P P' 0∧lkM P'.hm n=some f:=fun q tk G2 P2 f t1 t2 t3 t4 t5 t6 t7 t8=>by
   have hv2:=t8.view n
   rw[hvn]at hv2
   have hv3:P2.view n=pgz (Bw P2.data.now n):=by unfold Al.view;rw[t6]
   rw[hv3]at hv2
   refine (Avl t1 ⟨n,pgz (Bw P.data.now n),false,tk⟩ 0 t2 hpl rfl hzz hv2 (by rw[t8.pages];exact hn) t5 t6 t7 rfl).mono ?_
   rintro _ q' ⟨rfl,u1,u2,G',P',u3,u4,u5,u6⟩
   refine⟨rfl,u1,u2,G',P',u3,⟨Nat.le_trans t3.len u4.len,fun t ht hn=> ?_,fun t ht=> ?_⟩,t8.trans u6,by rw[u5,Je,if_pos rfl]⟩
   ·rw[u4.keep t (Nat.lt_of_lt_of_le ht t3.len) ?_,t3.keep t ht hn]
    rintro (rfl|e)
    ·omega
    ·exact (t3.own t e).elim hn fun e=>by omega
   ·rcases u4.own t ht with (rfl|e)|e
    ·exact .inr t4
    ·exact t3.own t e
    ·exact .inr (Nat.le_trans t3.len e)
  generalize hpg:pgz (Bw P.data.now n)=pg at*
  have hcA:Ct (A9 pg)=some (Ar pg):=rfl
  have hpC:=Aq hpl
  have hmb:=hk.mb
  have zl:(zB 512).length=512:=by simp[zB]
  have hm1:=hk.m1
  refine Ab Am Ao Tryz.func64 (by kernel_rfl) rfl (nt:=98) (rs:=[.tmp 4,.tmp 5]) rfl rfl ?_
  repeat' first|simp only[↓wBA,tPle,seval,wH,h0,h1,e1]|((with_reducible show Aa _ _ _ _ _);refine (Avk hP hn).mono ?_;rintro _ s ⟨ha,rfl⟩)
  rw[hpg]
  have k0:=ha.get h0
  have q0:=Ac k0
  have hG0:=hP.lt
  by_cases hfull:P.fs.length=P.most
  ·have hord:=h.ord
   generalize hfs:P.fs=fs at*
   cases hord with
   |nil=>simp at hfull;omega
   |hp hh=>
    rename_i o
    have b1:((fs.length:Int)==(P.most:Int))=true:=by simp[hfull]
    obtain⟨ls,g1,g2,g3⟩:=hh.o
    obtain⟨f0,gf0⟩:∃ f0,fs[0]? =some f0:=⟨fs[0]'(by omega),by simp⟩
    have g4:=Jg g2 gf0
    have g5:=ha.get g1
    have g6:=Ac g5
    have b2:((0:Int)<(fs.length:Int))=True:=eq_true (by omega)
    repeat' first|simp only[↓wBA,tPle,seval,K4,wH,k0,q0,hcA,hpC,b1,b2,g4,g5,g6,zl]|(with_reducible refine dQ K4 10 (some 36) ?_)
    have hP1:=hP.ap (ha.more [some (.row 512 [Ar pg])])
    refine (Avm hP1 (f:=f0) (by rw[hfs];exact mem_of_getElem? gf0) hc hw).mono ?_
    rintro _ s2 ⟨rfl,G1,P1,hF1,hA1,hK1,hf1,hm1',hd1,hV1⟩
    have c1:(s++[some (.row 512 [Ar pg])])[s.length]? =some (some (.row 512 [Ar pg])):=by simp
    have ls':=ha.len
    have c2:=hF1.get c1 (fun e=>by have:=hG0 _ e;omega)
    have hAA:=hA1
    obtain⟨hk1,Fd1,Gl1,w1,a1,H1,hG1⟩:=hA1
    have hord1:=H1.ord
    rw[hf1,hfs]at hord1
    cases hord1 with
    |nil=>simp at hfull;omega
    |hp hh1=>
     rename_i o1
     have hf2:P1.fs=fs:=hf1.trans hfs
     subst hf2
     have j0:=H1.o
     have p0:=Ac j0
     have pf0:=hh1.pg f0 (mem_of_getElem? gf0)
     repeat' simp only[↓wBA,tPle,seval]
     refine (A0y hk1 H1 hh1 hG1 gf0 hd1).mono ?_
     rintro _ s3 ⟨rfl,⟨jj,i1⟩,⟨a3,i2⟩,i3,G2,P2,i4,i5,i6,i7,i8,i9,i10⟩
     simp only[rowP,mapP,Gf]at i1 i2 i3
     have r1:=Ac i1
     have r2:=Ac i2
     have r3:=Ac i3
     have e4:=Apv (fun f=>AV.mp f 516 0 0) P1.hm (P1.V f0).n
     have n0:(p=kh)=False:=nf H1.pk
     have n1:(kh=p)=False:=nf (Ne.symm H1.pk)
     have i5':=i5.len
     simp only[length_set]at i5'
     have hf1':=hF1.len
     simp only[List.length_append,List.length_cons,List.length_nil]at hf1'
     have c3:=i5.get c2 (fun e=>by
      rcases hF1.own _ e with e|e
      ·have:=hG0 _ e;omega
      ·simp at e;omega)
     have n2:s.length≠kh:=fun e=>by
      have:=hG0 kh ((hG kh).2 (.inr (.inl rfl)));omega
     rw[getElem?_set_ne (Ne.symm n2)]at c3
     have r4:=Ac c3
     have n3:(p=s.length)=False:=nf fun e=>by omega
     have n4:(kh=s.length)=False:=nf fun e=>n2 e.symm
     repeat' first|simp only[↓wBA,tPle,seval,Sk,Ij,wH,i1,i2,i3,r2,wFr,Lv,e4,n1,n3,n4,c3,hpC,wZt,hpl]|(with_reducible first|refine dQ Sk 9 (some 63) ?_|refine dQ Ij 9 (some 78) ?_)
     generalize IntKind.i64.wrap (P1.tick+1)=tk
     have hM2:P2.most=P1.most:=i9.most
     have hT:Bj ((s3.set kh (mapP (Q8 P1.hm (P1.V f0).n))).set p (some (.row 6 [[.mp dd 6 0 0,.mp l 5 0 0,Ad .i64 (P1.most:Nat),a3,.mmap kh,Ad .i64 tk]]))) p dd l kh G2 { P2 with tick:=tk }:=by
      rw[← hM2]
      exact i4.tick (a:=a3) (by rw[getElem?_set_ne (Ne.symm H1.pk),i2];simp[rowP,hM2,i8]) tk
     have hlt:=i4.lt
     simp only[length_set]at hlt
     refine (htail _ tk G2 { P2 with tick:=tk } s3.length (hT.ap (Ap.app _ _)) (by simp) (((((Ap.more ha _).fr.trans hF1).trans i5).set _ ((hG p).2 (.inl rfl))).app _) (by omega) (fun e=>Nat.lt_irrefl _ (hlt _ e)) ?_ ?_ ((hK1.trans i9).tick tk)).mono ?_
     ·show lkM P2.hm n=none
      rw[i6,Ui _ _ _ hk1.kn,hm1',hlk]
      split<;>rfl
     ·show P2.fs.length<P2.most
      rw[hM2,hK1.most,←hfull];exact i7
     ·rintro _ q' ⟨rfl,⟨a4,z1⟩,z2,G5,P5,z3,z4,z5,z6⟩
      have y1:=Ac z1
      have y2:=Ac z2
      have e5:=Ud (fun f=>AV.mp f 516 0 0) P2.hm n s3.length
      have hlen:=z4.len
      simp only[length_set]at hlen
      repeat' simp only[↓wBA,tPle,seval,z1,z2,e5]
      all_goals refine rtS ?_
      all_goals simp only[A1.eq_1,Ak.eq_1,Ak.eq_2,Ax.eq_1,tPle,seval]
      exact⟨s3.length,G5,P5,rfl,z4,z3,z5,z6⟩
  ·have la:Bf cx 86 a=some P.fs.length:=by
    have:=h.ord
    generalize P.fs=fs at*
    cases this with
    |nil=>rfl
    |hp _=>exact Asa
   have b1:((P.fs.length:Int)==(P.most:Int))=false:=by simp;omega
   have n3:(p=s.length)=False:=nf fun e=>by omega
   have n4:(s.length=p)=False:=nf fun e=>by omega
   repeat' first|simp only[↓wBA,tPle,seval,K4,Ij,wH,k0,q0,hcA,hpC,b1,la,zl,wFr,wZt,hpl]|(with_reducible first|refine dQ K4 10 (some 36) ?_|refine dQ Ij 9 (some 78) ?_)
   generalize IntKind.i64.wrap (P.tick+1)=tk
   have hT:=(hP.ap ha).tick (a:=a) k0 tk
   have hlt:=hP.lt
   have ls':=ha.len
   refine (htail _ tk G { P with tick:=tk } (s.length+1) ((hT.ap (Ap.app _ _)).ap (Ap.app _ _)) (by simp) (((ha.fr.set _ ((hG p).2 (.inl rfl))).app _).app _) (by omega) (fun e=>by have:=hlt _ e;omega) hlk ?_ ((Kp.refl P 0).tick tk)).mono ?_
   ·show P.fs.length<P.most
    have:=hk.len;omega
   ·rintro _ q' ⟨rfl,⟨a4,z1⟩,z2,G5,P5,z3,z4,z5,z6⟩
    have y1:=Ac z1
    have y2:=Ac z2
    have e5:=Ud (fun f=>AV.mp f 516 0 0) P.hm n (s.length+1)
    have hlen:=z4.len
    simp only[length_set]at hlen
    repeat' simp only[↓wBA,tPle,seval,z1,z2,e5]
    all_goals refine rtS ?_
    all_goals simp only[A1.eq_1,Ak.eq_1,Ak.eq_2,Ax.eq_1,tPle,seval]
    exact⟨s.length+1,G5,P5,rfl,z4,z3,z5,z6⟩
end Go.Proofs.YtpoigihfeehehaaGreatDoor
