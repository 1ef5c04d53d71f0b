/- Hash indexes: what is in them. Heaps are given back. -/
import Derived.Test.YthhbnenaihkggaaGreatM36
set_option linter.unusedSimpArgs false
set_option linter.unusedVariables false
set_option linter.defProp false
set_option maxRecDepth 100000
set_option maxHeartbeats 32000000
namespace Go.Proofs.YthhbnenaihkggaaGreat
open Go.RowKit
open List (filter_congr filter_cons filter_map flatten_append flatten_cons length_append length_cons length_map length_nil length_set map_cons mem_append mem_append_left mem_cons mem_flatten mem_map mem_of_getElem? nodup_append nodup_cons)
structure HEn where
 k:List UInt8
 p:Nat
 s:Nat
def HEn.Ok (e:HEn):Prop:=e.k.length≤140∧e.p<65536∧e.s<65536
def encX (e:HEn):List UInt8:=[UInt8.ofNat e.p,UInt8.ofNat (e.p / 256),UInt8.ofNat e.s,UInt8.ofNat (e.s / 256)]++e.k
def lo16 (a b:UInt8):Nat:=a.toNat+256*b.toNat
theorem lo16_dec {k:Nat}(h:k<65536):lo16 (UInt8.ofNat k) (UInt8.ofNat (k / 256))=k:=by
 simp only[lo16,UInt8.toNat_ofNat']
 omega
theorem encX_inj {e f:HEn}(he:e.Ok)(hf:f.Ok)(h:encX e=encX f):e=f:=by
 obtain⟨k,p,s⟩:=e
 obtain⟨k',p',s'⟩:=f
 simp only[encX,List.cons_append,List.nil_append,List.cons.injEq]at h
 obtain⟨h1,h2,h3,h4,h5⟩:=h
 have e1:=lo16_dec he.2.1
 have e2:=lo16_dec hf.2.1
 have e3:=lo16_dec he.2.2
 have e4:=lo16_dec hf.2.2
 simp only at e1 e2 e3 e4
 rw[h1,h2,e2]at e1
 rw[h3,h4,e4]at e3
 subst e1;subst e3;subst h5;rfl
theorem encX_len (e:HEn):(encX e).length=e.k.length+4:=by simp[encX]
def num3 (k:Nat):List UInt8:=[UInt8.ofNat k,UInt8.ofNat (k / 256),UInt8.ofNat (k / 65536)]
def fnvS (h:Nat)(c:UInt8):Nat:=((h ^^^ c.toNat)*16777619) % 4294967296
theorem fnvS_lt (h:Nat)(c:UInt8):fnvS h c<4294967296:=Nat.mod_lt _ (by omega)
def fnvL (key:List UInt8):Nat:=key.foldl fnvS 2166136261
theorem fnvL_lt (key:List UInt8):fnvL key<4294967296:=by
 have:∀ (l:List UInt8) (h:Nat),h<4294967296→l.foldl fnvS h<4294967296:=by
  intro l
  induction l with
  |nil=>intro h hh;exact hh
  |cons c l ih=>intro h hh;exact ih _ (fnvS_lt h c)
 exact this key _ (by omega)
theorem fnv_succ {key:List UInt8}{i:Nat}{c:UInt8}(h:key[i]? =some c):fnvL (key.take (i+1))=fnvS (fnvL (key.take i)) c:=by
 unfold fnvL
 rw[List.take_add_one,h,List.foldl_append,Option.toList_some,List.foldl_cons,List.foldl_nil]
def lvl (n:Nat):Nat:=2 ^ n.log2
theorem lvl_le {n:Nat}(h:1≤n):lvl n≤n:=Nat.log2_self_le (by omega)
theorem lt_lvl (n:Nat):n<2*lvl n:=by
 have:=Nat.lt_log2_self (n:=n)
 unfold lvl;rw[Nat.pow_succ]at this;omega
theorem lvl_pos (n:Nat):1≤lvl n:=Nat.one_le_two_pow
theorem lvl_eq {n j:Nat}(h1:2 ^ j≤n)(h2:n<2*2 ^ j):lvl n=2 ^ j:=by
 have hn:n≠0:=by have:=Nat.one_le_two_pow (n:=j);omega
 unfold lvl
 rw[(Nat.log2_eq_iff hn).2 ⟨h1,by rw[Nat.pow_succ];omega⟩]
theorem lvl_succ {n:Nat}(h:1≤n):lvl (n+1)=if n+1=2*lvl n then 2*lvl n else lvl n:=by
 have h1:=lvl_le h
 have h2:=lt_lvl n
 split
 ·rename_i e
  have:2*lvl n=2 ^ (n.log2+1):=by unfold lvl;rw[Nat.pow_succ];omega
  rw[this]
  exact lvl_eq (by omega) (by omega)
 ·exact lvl_eq (j:=n.log2) (by unfold lvl at *;omega) (by unfold lvl at *;omega)
def bktH (h n:Nat):Nat:=if n≤h % (2*lvl n)then h % (2*lvl n) - lvl n else h % (2*lvl n)
theorem bktH_lt {h n:Nat}(hn:1≤n):bktH h n<n:=by
 have h1:=lvl_le hn
 have h2:=lt_lvl n
 have h3:h % (2*lvl n)<2*lvl n:=Nat.mod_lt _ (by omega)
 unfold bktH
 split<;>omega
theorem bktH_succ {h n:Nat}(hn:1≤n):bktH h (n+1)=if h % (2*lvl n)=n then n else bktH h n:=by
 have h1:=lvl_le hn
 have h2:=lt_lvl n
 have h3:h % (2*lvl n)<2*lvl n:=Nat.mod_lt _ (by omega)
 have h4:=lvl_succ hn
 by_cases e:n+1=2*lvl n
 ·rw[if_pos e]at h4
  have h5:h % (2*(2*lvl n))=h % (2*lvl n)+2*lvl n*(h / (2*lvl n) % 2):=by
   rw[Nat.mul_comm 2 (2*lvl n),Nat.mod_mul]
  have h6:h / (2*lvl n) % 2=0∨h / (2*lvl n) % 2=1:=by omega
  unfold bktH
  rw[h4,h5]
  rcases h6 with h6|h6<;>rw[h6]<;>simp only[Nat.mul_zero,Nat.mul_one,Nat.add_zero]<;>(split<;>split<;>(try split)<;>omega)
 ·rw[if_neg e]at h4
  unfold bktH
  rw[h4]
  split<;>split<;>(try split)<;>omega
theorem bktH_from {h n:Nat}(hn:1≤n)(e:bktH h (n+1)=n):bktH h n=n - lvl n:=by
 have h1:=bktH_lt (h:=h) hn
 rw[bktH_succ hn]at e
 split at e
 ·rename_i h2
  unfold bktH
  rw[if_pos (by omega),h2]
 ·omega
theorem nodup_ofmap {α β:Type}(f:α→β):∀ l:List α,(l.map f).Nodup→l.Nodup
 |[],_=>List.nodup_nil
 |a::l,h=>by
  obtain⟨h1,h2⟩:=nodup_cons.1 h
  exact nodup_cons.2 ⟨fun hm=>h1 (mem_map.2 ⟨a,hm,rfl⟩),nodup_ofmap f l h2⟩
section
variable {v v':Nat→List UInt8} {T T':Nat→Bool} {np n k:Nat} {ns ns':List Nat} {r:List UInt8}
theorem entH_nd (h:Heap v T np ns):(entH v ns).Nodup:=nodup_ofmap _ _ (nodup_entH v ns h.nd)
theorem entH_ins (h:Heap v T np ns)(h':Heap v' T' np ns')(old:HRec v ns n k=none)(get:∀ n' k',HRec v' ns' n' k'=if n'=n∧k'=k then some r else HRec v ns n' k'):(entH v' ns').Perm ((n,k,r)::entH v ns):=by
 refine (List.perm_ext_iff_of_nodup (entH_nd h') (nodup_cons.2 ⟨fun hm=> ?_,entH_nd h⟩)).2 fun ⟨a,c,x⟩=> ?_
 ·rw[mem_entH h,old]at hm;cases hm
 ·rw[mem_entH h',get,mem_cons,mem_entH h]
  by_cases e:a=n∧c=k
  ·rw[if_pos e]
   obtain⟨rfl,rfl⟩:=e
   rw[old]
   simp[eq_comm]
  ·rw[if_neg e]
   constructor
   ·exact .inr
   ·rintro (h|h)
    ·simp only[Prod.mk.injEq]at h;exact absurd ⟨h.1,h.2.1⟩ e
    ·exact h
theorem entH_drop (h:Heap v T np ns)(h':Heap v' T' np ns')(old:HRec v ns n k=some r)(get:∀ n' k',HRec v' ns' n' k'=if n'=n∧k'=k then none else HRec v ns n' k'):(entH v ns).Perm ((n,k,r)::entH v' ns'):=by
 refine (List.perm_ext_iff_of_nodup (entH_nd h) (nodup_cons.2 ⟨fun hm=> ?_,entH_nd h'⟩)).2 fun ⟨a,c,x⟩=> ?_
 ·rw[mem_entH h',get,if_pos ⟨rfl,rfl⟩]at hm;cases hm
 ·rw[mem_entH h,mem_cons,mem_entH h',get]
  by_cases e:a=n∧c=k
  ·rw[if_pos e]
   obtain⟨rfl,rfl⟩:=e
   rw[old]
   simp[eq_comm]
  ·rw[if_neg e]
   constructor
   ·exact .inr
   ·rintro (h|h)
    ·simp only[Prod.mk.injEq]at h;exact absurd ⟨h.1,h.2.1⟩ e
    ·exact h
end
theorem entH_congr {v v':Nat→List UInt8}{ns:List Nat}(h:∀ n∈ns,v' n=v n):entH v' ns=entH v ns:=by
 unfold entH
 induction ns with
 |nil=>rfl
 |cons a ns ih=>rw[List.flatMap_cons,List.flatMap_cons,h a (by simp),ih fun n hn=>h n (by simp[hn])]
def recH (v:Nat→List UInt8)(ns:List Nat):List (List UInt8):=(entH v ns).map fun e=>e.2.2
def dirS (c:Nat)(bs:List (List Nat)):List (List UInt8):=num3 c::bs.map fun b=>num3 (b.headD 0)
def bkE (n:Nat)(e:HEn):Nat:=bktH (fnvL e.k) n
structure Ix (v:Nat→List UInt8)(T:Nat→Bool)(np root:Nat)(bs:List (List Nat))(E:List HEn)(c:Nat):Prop where
 rt:1≤root∧root<np∧T root=true
 dir:HPg (v root) 0 ((dirS c bs).map some)
 bk:∀ b∈bs,Heap v T np b
 dj:(root::bs.flatten).Nodup
 ok:∀ e∈E,e.Ok
 nd:E.Nodup
 pm:∀ i b,bs[i]? =some b→(recH v b).Perm ((E.filter fun e=>bkE bs.length e==i).map encX)
 n1:1≤bs.length
section
variable {v v':Nat→List UInt8} {T T':Nat→Bool} {np root n k q c:Nat} {bs:List (List Nat)} {b b':List Nat} {E E':List HEn} {e:HEn}
theorem Ix.perm (h:Ix v T np root bs E c)(hp:E'.Perm E):Ix v T np root bs E' c:=
 ⟨h.rt,h.dir,h.bk,h.dj,fun e he=>h.ok e (hp.mem_iff.1 he),hp.nodup_iff.2 h.nd,fun i b hb=>(h.pm i b hb).trans ((hp.symm.filter _).map _),h.n1⟩
theorem recH_congr {ns:List Nat}(h:∀ n∈ns,v' n=v n):recH v' ns=recH v ns:=by unfold recH;rw[entH_congr h]
theorem Ix.other (h:Ix v T np root bs E c)(hr:v' root=v root)(hv:∀ m∈bs.flatten,v' m=v m)(hTr:T' root=true)(hT:∀ m∈bs.flatten,T' m=T m):Ix v' T' np root bs E c:=
 ⟨⟨h.rt.1,h.rt.2.1,hTr⟩,by rw[hr];exact h.dir,fun b hb=>((h.bk b hb).other (fun n hn=>hv n (mem_flatten.2 ⟨b,hb,hn⟩)) (fun n hn=>hT n (mem_flatten.2 ⟨b,hb,hn⟩))).1,h.dj,h.ok,h.nd,fun i b hb=>by rw[recH_congr fun n hn=>hv n (mem_flatten.2 ⟨b,mem_of_getElem? hb,hn⟩)];exact h.pm i b hb,h.n1⟩
theorem Ix.bkt (h:Ix v T np root bs E c)(e:HEn):∃ b,bs[bkE bs.length e]? =some b:=by
 have:=bktH_lt (h:=fnvL e.k) h.n1
 exact⟨bs[bkE bs.length e]'this,by simp[bkE]⟩
theorem Ix.mem (h:Ix v T np root bs E c)(he:e.Ok)(hb:bs[bkE bs.length e]? =some b):encX e∈recH v b↔e∈E:=by
 rw[(h.pm _ b hb).mem_iff,mem_map]
 constructor
 ·rintro⟨f,hf,hx⟩
  have hf':=List.mem_filter.1 hf
  rw[← encX_inj (h.ok f hf'.1) he hx];exact hf'.1
 ·exact fun hm=>⟨e,List.mem_filter.2 ⟨hm,by simp⟩,rfl⟩
theorem encX_drop (e:HEn):(encX e).drop 4=e.k:=rfl
theorem Ix.key (h:Ix v T np root bs E c)(key:List UInt8)(hb:bs[bktH (fnvL key) bs.length]? =some b):((recH v b).filter fun r=>r.drop 4==key).Perm ((E.filter fun e=>e.k==key).map encX):=by
 refine ((h.pm _ b hb).filter _).trans ?_
 rw[filter_map,List.filter_filter]
 have:(E.filter fun e=>(((fun r=>List.drop 4 r==key)∘encX) e&&(bkE bs.length e==bktH (fnvL key) bs.length)))=E.filter fun e=>e.k==key:=by
  refine filter_congr fun e _=> ?_
  simp only[Function.comp,encX_drop]
  by_cases hk:e.k=key
  ·simp[hk,bkE]
  ·simp[hk]
 rw[this]
theorem cut_at {α:Type}:∀ {l:List α} {k:Nat} {x:α},l[k]? =some x→∃ L R,l=L++x::R∧L.length=k
 |[],k,x,h=>by simp at h
 |a::l,0,x,h=>by simp at h;subst h;exact⟨[],l,rfl,rfl⟩
 |a::l,k+1,x,h=>by
  obtain⟨L,R,h1,h2⟩:=cut_at (l:=l) (k:=k) (by simpa using h)
  exact⟨a::L,R,by rw[h1];rfl,by simp[h2]⟩
theorem set_cut {α:Type}{L R:List α}{x y:α}:(L++x::R).set L.length y=L++y::R:=by simp
theorem Ix.ne0 (h:Ix v T np root bs E c){b:List Nat}(hb:b∈bs){m:Nat}(hm:m∈b):m≠0:=by have:=((h.bk b hb).tk m hm).1;omega
theorem Ix.put (h:Ix v T np root bs E c)(hb:bs[k]? =some b)(hk:k=bkE bs.length e)(he:e.Ok)(hn:e∉E)(hi:InsR v v' T T' np b b' n q (encX e)):
 Ix v' T' np root (bs.set k b') (e::E) c∧(∀ m,T' m=true↔T m=true∨m∈(bs.set k b').flatten)∧(∀ m,m≠0→m≠root→m∉(bs.set k b').flatten→v' m=v m):=by
 have hbm:=mem_of_getElem? hb
 have hH:=h.bk b hbm
 obtain⟨L,R,hbs,hL⟩:=cut_at hb
 have hset:bs.set k b'=L++b'::R:=by rw[hbs,←hL];exact set_cut
 have hlen:(bs.set k b').length=bs.length:=by simp
 have hsub:∀ m∈b',m∈b∨T m=false:=fun m hm=>by
  rcases hi.pages with⟨rfl,_,_⟩|⟨m',h1,_,rfl,_⟩
  ·exact .inl hm
  ·rcases mem_append.1 hm with hm|hm
   ·exact .inl hm
   ·simp at hm;subst hm;exact .inr h1
 have hsup:∀ m∈b,m∈b':=fun m hm=>by
  rcases hi.pages with⟨rfl,_,_⟩|⟨m',h1,_,rfl,_⟩
  ·exact hm
  ·exact mem_append_left _ hm
 have hT:∀ m,T' m=true↔T m=true∨m∈b':=fun m=>by
  rcases hi.pages with⟨rfl,rfl,_⟩|⟨m',h1,_,rfl,rfl,_⟩
  ·exact⟨.inl,fun h=>h.elim id fun hm=>(hH.tk m hm).2.2⟩
  ·unfold updT
   split
   ·rename_i e;subst e;simp
   ·rename_i e
    simp only[mem_append,List.mem_singleton,e,or_false]
    exact⟨.inl,fun h=>h.elim id fun hm=>(hH.tk m hm).2.2⟩
 have hdj:=h.dj
 rw[hbs]at hdj
 simp only[flatten_append,flatten_cons,nodup_cons,mem_append,not_or]at hdj
 obtain⟨⟨hrL,hrb,hrR⟩,hdj⟩:=hdj
 obtain⟨dL,dbR,dx⟩:=nodup_append.1 hdj
 obtain⟨_,dR,dy⟩:=nodup_append.1 dbR
 have hTk:∀ b2∈bs,∀ m∈b2,T m=true:=fun b2 hb2 m hm=>((h.bk b2 hb2).tk m hm).2.2
 have hLb:∀ m∈L.flatten,m∉b':=fun m hm hm'=>by
  obtain⟨b2,hb2,hm2⟩:=mem_flatten.1 hm
  rcases hsub m hm' with h1|h1
  ·exact dx m hm m (mem_append_left _ h1) rfl
  ·have:=hTk b2 (by rw[hbs];simp[hb2]) m hm2;rw[h1]at this;cases this
 have hRb:∀ m∈R.flatten,m∉b':=fun m hm hm'=>by
  obtain⟨b2,hb2,hm2⟩:=mem_flatten.1 hm
  rcases hsub m hm' with h1|h1
  ·exact dy m h1 m hm rfl
  ·have:=hTk b2 (by rw[hbs];simp[hb2]) m hm2;rw[h1]at this;cases this
 have hrb':root∉b':=fun hm=>by
  rcases hsub _ hm with h1|h1
  ·exact hrb h1
  ·have:=h.rt.2.2;rw[h1]at this;cases this
 have hvr:v' root=v root:=hi.oth root hrb' (by have:=h.rt.1;omega)
 have hoth:∀ b2,b2∈L∨b2∈R→∀ m∈b2,v' m=v m:=fun b2 hb2 m hm=>hi.oth m (by
  rcases hb2 with hb2|hb2
  ·exact hLb m (mem_flatten.2 ⟨b2,hb2,hm⟩)
  ·exact hRb m (mem_flatten.2 ⟨b2,hb2,hm⟩)) (h.ne0 (b:=b2) (by rw[hbs];rcases hb2 with h|h<;>simp[h]) hm)
 have hhd:b'.headD 0=b.headD 0:=by
  rcases hi.pages with⟨rfl,_,_⟩|⟨m',h1,_,rfl,_⟩
  ·rfl
  ·cases b with
   |nil=>exact absurd rfl hH.ne
   |cons a b=>rfl
 refine⟨⟨⟨h.rt.1,h.rt.2.1,(hT root).2 (.inl h.rt.2.2)⟩,?_,fun b2 hb2=> ?_,?_,fun f hf=> ?_,nodup_cons.2 ⟨hn,h.nd⟩,fun i b2 hb2=> ?_,by rw[hlen];exact h.n1⟩,fun m=> ?_,fun m hm0 hmr hm=> ?_⟩
 ·have:dirS c (bs.set k b')=dirS c bs:=by
   unfold dirS;rw[hset,hbs];simp only[List.map_append,map_cons,hhd]
  rw[this,hvr];exact h.dir
 ·rw[hset]at hb2
  rcases mem_append.1 hb2 with h2|h2
  ·exact ((h.bk b2 (by rw[hbs];simp[h2])).other (hoth b2 (.inl h2)) fun m hm=>by rw[hTk b2 (by rw[hbs];simp[h2]) m hm];exact (hT m).2 (.inl (hTk b2 (by rw[hbs];simp[h2]) m hm))).1
  ·rcases mem_cons.1 h2 with rfl|h2
   ·exact hi.heap
   ·exact ((h.bk b2 (by rw[hbs];simp[h2])).other (hoth b2 (.inr h2)) fun m hm=>by rw[hTk b2 (by rw[hbs];simp[h2]) m hm];exact (hT m).2 (.inl (hTk b2 (by rw[hbs];simp[h2]) m hm))).1
 ·rw[hset]
  simp only[flatten_append,flatten_cons,nodup_cons,mem_append,not_or]
  refine⟨⟨hrL,hrb',hrR⟩,nodup_append.2 ⟨dL,nodup_append.2 ⟨hi.heap.nd,dR,fun a ha x hx e=>hRb x hx (e▸ha)⟩,fun a ha x hx e=> ?_⟩⟩
  rcases mem_append.1 hx with hx|hx
  ·exact hLb a ha (e▸hx)
  ·exact dx a ha x (List.mem_append_right _ hx) e
 ·rcases mem_cons.1 hf with rfl|hf
  ·exact he
  ·exact h.ok f hf
 ·rw[hlen]
  by_cases hik:i=k
  ·subst hik
   have hlt:=(List.getElem?_eq_some_iff.1 hb).1
   rw[List.getElem?_set_self hlt]at hb2
   simp only[Option.some.injEq]at hb2
   subst hb2
   have h1:=(entH_ins hH hi.heap hi.old hi.get).map fun e:Nat×Nat×List UInt8=>e.2.2
   have h2:=h.pm i b hb
   have hf:(bkE bs.length e==i)=true:=by rw[hk];simp
   rw[filter_cons,hf,if_pos rfl]
   exact h1.trans (h2.cons _)
  ·rw[List.getElem?_set_ne (fun e=>hik e.symm)]at hb2
   have hf:(bkE bs.length e==i)=false:=by rw[← hk];simp;omega
   rw[filter_cons,hf]
   have hm2:b2∈L∨b2∈R:=by
    rw[hbs]at hb2
    rcases Nat.lt_trichotomy i L.length with h1|h1|h1
    ·rw[List.getElem?_append_left h1]at hb2;exact .inl (mem_of_getElem? hb2)
    ·omega
    ·rw[List.getElem?_append_right (by omega)]at hb2
     obtain⟨j,hj⟩:∃ j,i - L.length=j+1:=⟨i - L.length - 1,by omega⟩
     rw[hj,List.getElem?_cons_succ]at hb2
     exact .inr (mem_of_getElem? hb2)
   rw[recH_congr (hoth b2 hm2)]
   exact h.pm i b2 hb2
 ·rw[hT,hset]
  simp only[flatten_append,flatten_cons,mem_append]
  constructor
  ·rintro (h1|h1)
   ·exact .inl h1
   ·exact .inr (.inr (.inl h1))
  ·rintro (h1|h1|h1|h1)
   ·exact .inl h1
   ·obtain⟨b2,hb2,hm2⟩:=mem_flatten.1 h1
    exact .inl (hTk b2 (by rw[hbs];simp[hb2]) m hm2)
   ·exact .inr h1
   ·obtain⟨b2,hb2,hm2⟩:=mem_flatten.1 h1
    exact .inl (hTk b2 (by rw[hbs];simp[hb2]) m hm2)
 ·refine hi.oth m (fun hm'=>hm ?_) hm0
  rw[hset];simp[hm']
theorem Ix.count {c':Nat}(h:Ix v T np root bs E c){pg:List UInt8}(hp:HPg pg 0 ((dirS c' bs).map some)):Ix (upV v root pg) T np root bs E c':=by
 have hne:∀ m∈bs.flatten,upV v root pg m=v m:=fun m hm=>by
  unfold upV;rw[if_neg (fun e:m=root=>(nodup_cons.1 h.dj).1 (by rw[← e];exact hm))]
 exact⟨h.rt,by unfold upV;rw[if_pos rfl];exact hp,fun b hb=>((h.bk b hb).other (fun n hn=>hne n (mem_flatten.2 ⟨b,hb,hn⟩)) (fun _ _=>rfl)).1,h.dj,h.ok,h.nd,fun i b hb=>by rw[recH_congr fun n hn=>hne n (mem_flatten.2 ⟨b,mem_of_getElem? hb,hn⟩)];exact h.pm i b hb,h.n1⟩
theorem Ix.cut (h:Ix v T np root bs E c)(hb:bs[bkE bs.length e]? =some b)(hE:E.Perm (e::E')){pg:List UInt8}(hm:n∈b)(hr:HRec v b n q=some (encX e))(hH':Heap (upV v n pg) T np b)(hget:∀ n' k',HRec (upV v n pg) b n' k'=if n'=n∧k'=q then none else HRec v b n' k'):
 Ix (upV v n pg) T np root bs E' c:=by
 have hbm:=mem_of_getElem? hb
 obtain⟨L,R,hbs,hL⟩:=cut_at hb
 have hdj:=h.dj
 rw[hbs]at hdj
 simp only[flatten_append,flatten_cons,nodup_cons,mem_append,not_or]at hdj
 obtain⟨⟨hrL,hrb,hrR⟩,hdj⟩:=hdj
 obtain⟨dL,dbR,dx⟩:=nodup_append.1 hdj
 obtain⟨_,dR,dy⟩:=nodup_append.1 dbR
 have hnd:=hE.nodup_iff.1 h.nd
 have hoth:∀ i b2,bs[i]? =some b2→i≠bkE bs.length e→∀ m∈b2,upV v n pg m=v m:=fun i b2 hb2 hi m hm2=>by
  unfold upV
  refine if_neg fun e2=> ?_
  subst e2
  rw[hbs]at hb2
  rcases Nat.lt_trichotomy i L.length with h1|h1|h1
  ·rw[List.getElem?_append_left h1]at hb2
   exact dx m (mem_flatten.2 ⟨b2,mem_of_getElem? hb2,hm2⟩) m (mem_append_left _ hm) rfl
  ·omega
  ·rw[List.getElem?_append_right (by omega)]at hb2
   obtain⟨j,hj⟩:∃ j,i - L.length=j+1:=⟨i - L.length - 1,by omega⟩
   rw[hj,List.getElem?_cons_succ]at hb2
   exact dy m hm m (mem_flatten.2 ⟨b2,mem_of_getElem? hb2,hm2⟩) rfl
 refine⟨h.rt,?_,fun b2 hb2=> ?_,h.dj,fun f hf=>h.ok f (hE.mem_iff.2 (List.mem_cons_of_mem _ hf)),(nodup_cons.1 hnd).2,fun i b2 hb2=> ?_,h.n1⟩
 ·unfold upV;rw[if_neg (fun e2:root=n=>hrb (by rw[e2];exact hm))];exact h.dir
 ·obtain⟨i,hi⟩:=List.getElem?_of_mem hb2
  by_cases hik:i=bkE bs.length e
  ·subst hik
   rw[hb]at hi;simp only[Option.some.injEq]at hi;subst hi;exact hH'
  ·exact ((h.bk b2 hb2).other (hoth i b2 hi hik) (fun _ _=>rfl)).1
 ·have hp:=(h.pm i b2 hb2).trans ((hE.filter _).map _)
  by_cases hik:i=bkE bs.length e
  ·subst hik
   rw[hb]at hb2;simp only[Option.some.injEq]at hb2;subst hb2
   have h1:=(entH_drop (h.bk b hbm) hH' hr hget).map fun e:Nat×Nat×List UInt8=>e.2.2
   rw[filter_cons,if_pos (by simp)]at hp
   exact List.Perm.cons_inv (h1.symm.trans hp)
  ·rw[filter_cons,if_neg (by simp;omega)]at hp
   rw[recH_congr (hoth i b2 hb2 hik)]
   exact hp
theorem Ix.split {to:List Nat}(h:Ix v T np root bs E c)(hb:bs[bs.length - lvl bs.length]? =some b)(hdir:HPg (v' root) 0 ((dirS c (bs++[to])).map some))(hHb:Heap v' T' np b)(hHt:Heap v' T' np to)
 (hrb:(recH v' b).Perm ((recH v b).filter fun r=> !(bktH (fnvL (r.drop 4)) (bs.length+1)==bs.length))) (hrt:(recH v' to).Perm ((recH v b).filter fun r=>bktH (fnvL (r.drop 4)) (bs.length+1)==bs.length))
 (hnew:∀ m∈to,T m=false) (hT:∀ m,T m=true→T' m=true) (hoth:∀ m,m≠0→m≠root→m∉to→m∉b→v' m=v m):Ix v' T' np root (bs++[to]) E c:=by
 have hbm:=mem_of_getElem? hb
 have hn1:=h.n1
 have hTk:∀ b2∈bs,∀ m∈b2,T m=true:=fun b2 hb2 m hm=>((h.bk b2 hb2).tk m hm).2.2
 have hto:∀ m∈bs.flatten,m∉to:=fun m hm hm'=>by
  obtain⟨b2,hb2,hm2⟩:=mem_flatten.1 hm
  have:=hTk b2 hb2 m hm2;rw[hnew m hm']at this;cases this
 obtain⟨L,R,hbs,hL⟩:=cut_at hb
 have hdj:=h.dj
 rw[hbs]at hdj
 simp only[flatten_append,flatten_cons,nodup_cons,mem_append,not_or]at hdj
 obtain⟨⟨hrL,hrb0,hrR⟩,hdj⟩:=hdj
 obtain⟨dL,dbR,dx⟩:=nodup_append.1 hdj
 obtain⟨_,dR,dy⟩:=nodup_append.1 dbR
 have hrf:root∉bs.flatten:=(nodup_cons.1 h.dj).1
 have hoth2:∀ i b2,bs[i]? =some b2→i≠bs.length - lvl bs.length→∀ m∈b2,v' m=v m:=fun i b2 hb2 hi m hm2=>by
  have hmf:m∈bs.flatten:=mem_flatten.2 ⟨b2,mem_of_getElem? hb2,hm2⟩
  refine hoth m (h.ne0 (mem_of_getElem? hb2) hm2) (fun e2=>hrf (e2▸hmf)) (hto m hmf) fun hm=> ?_
  rw[hbs]at hb2
  rcases Nat.lt_trichotomy i L.length with h1|h1|h1
  ·rw[List.getElem?_append_left h1]at hb2
   exact dx m (mem_flatten.2 ⟨b2,mem_of_getElem? hb2,hm2⟩) m (mem_append_left _ hm) rfl
  ·omega
  ·rw[List.getElem?_append_right (by omega)]at hb2
   obtain⟨j,hj⟩:∃ j,i - L.length=j+1:=⟨i - L.length - 1,by omega⟩
   rw[hj,List.getElem?_cons_succ]at hb2
   exact dy m hm m (mem_flatten.2 ⟨b2,mem_of_getElem? hb2,hm2⟩) rfl
 have hll:=lvl_le hn1
 have hlp:=lvl_pos bs.length
 refine⟨⟨h.rt.1,h.rt.2.1,hT _ h.rt.2.2⟩,hdir,fun b2 hb2=> ?_,?_,h.ok,h.nd,fun i b2 hb2=> ?_,by simp⟩
 ·rcases mem_append.1 hb2 with hb2|hb2
  ·obtain⟨i,hi⟩:=List.getElem?_of_mem hb2
   by_cases hik:i=bs.length - lvl bs.length
   ·subst hik
    rw[hb]at hi;simp only[Option.some.injEq]at hi;subst hi;exact hHb
   ·exact ((h.bk b2 hb2).other (hoth2 i b2 hi hik) fun m hm=>by rw[hTk b2 hb2 m hm];exact hT _ (hTk b2 hb2 m hm)).1
  ·simp at hb2;subst hb2;exact hHt
 ·rw[flatten_append,List.flatten_singleton]
  refine nodup_cons.2 ⟨fun hm=> ?_,nodup_append.2 ⟨(nodup_cons.1 h.dj).2,hHt.nd,fun a ha x hx e=>hto a ha (e▸hx)⟩⟩
  rcases mem_append.1 hm with hm|hm
  ·exact hrf hm
  ·have:=h.rt.2.2;rw[hnew _ hm]at this;cases this
 ·rw[length_append,List.length_singleton]
  have hs:=fun e:HEn=>bktH_succ (h:=fnvL e.k) hn1
  have hmv:∀ e∈E,(bkE (bs.length+1) e=bs.length→bkE bs.length e=bs.length - lvl bs.length)∧(bkE (bs.length+1) e≠bs.length→bkE (bs.length+1) e=bkE bs.length e):=fun e _=>⟨fun h1=>bktH_from hn1 h1,fun h1=>by
   unfold bkE at h1 ⊢
   rw[hs e]at h1 ⊢
   split
   ·rename_i h2;rw[if_pos h2]at h1;exact absurd rfl h1
   ·rfl⟩
  have hlt:∀ e:HEn,bkE bs.length e<bs.length:=fun e=>bktH_lt hn1
  by_cases hin:i<bs.length
  ·rw[List.getElem?_append_left hin]at hb2
   by_cases hik:i=bs.length - lvl bs.length
   ·subst hik
    rw[hb]at hb2;simp only[Option.some.injEq]at hb2;subst hb2
    refine hrb.trans (((h.pm _ b hb).filter _).trans ?_)
    rw[filter_map,List.filter_filter]
    refine List.Perm.of_eq (congrArg _ (filter_congr fun e he=> ?_))
    simp only[Function.comp,encX_drop]
    obtain⟨h1,h2⟩:=hmv e he
    show (!(bkE (bs.length+1) e==bs.length)&&(bkE bs.length e==bs.length - lvl bs.length))=(bkE (bs.length+1) e==bs.length - lvl bs.length)
    by_cases h3:bkE (bs.length+1) e=bs.length
    ·have h4:bs.length≠bs.length - lvl bs.length:=by omega
     simp[h3,h4]
    ·rw[h2 h3]
     have:(bkE bs.length e==bs.length)=false:=by have:=hlt e;simp;omega
     simp[this]
   ·rw[recH_congr (hoth2 i b2 hb2 hik)]
    refine (h.pm i b2 hb2).trans (List.Perm.of_eq (congrArg _ (filter_congr fun e he=> ?_)))
    obtain⟨h1,h2⟩:=hmv e he
    by_cases h3:bkE (bs.length+1) e=bs.length
    ·rw[h3,h1 h3]
     have h4:(bs.length - lvl bs.length==i)=false:=beq_eq_false_iff_ne.2 fun e=>hik e.symm
     have h5:(bs.length==i)=false:=beq_eq_false_iff_ne.2 (by omega)
     rw[h4,h5]
    ·rw[h2 h3]
  ·have hi:i=bs.length:=by
    have:=(List.getElem?_eq_some_iff.1 hb2).1
    simp at this;omega
   subst hi
   rw[List.getElem?_append_right (Nat.le_refl _),Nat.sub_self]at hb2
   simp at hb2;subst hb2
   refine hrt.trans (((h.pm _ b hb).filter _).trans ?_)
   rw[filter_map,List.filter_filter]
   refine List.Perm.of_eq (congrArg _ (filter_congr fun e he=> ?_))
   simp only[Function.comp,encX_drop]
   obtain⟨h1,h2⟩:=hmv e he
   show ((bkE (bs.length+1) e==bs.length)&&(bkE bs.length e==bs.length - lvl bs.length))=(bkE (bs.length+1) e==bs.length)
   by_cases h3:bkE (bs.length+1) e=bs.length
   ·simp[h3,h1 h3]
   ·simp[h3]
def dirE (root:Nat)(d:List (List UInt8)):List (Nat×Nat×List UInt8):=entL root 1 (d.map some)
theorem entL_get (n:Nat):∀ (d:List (List UInt8)) (k i:Nat),(entL n k (d.map some))[i]? =(d[i]?).map fun r=>(n,k+i,r)
 |[],k,i=>by simp[entL]
 |r::d,k,0=>by simp[entL]
 |r::d,k,i+1=>by
  have:=entL_get n d (k+1) i
  simp only[map_cons,entL,List.getElem?_cons_succ,this]
  cases d[i]? with
  |none=>rfl
  |some x=>simp;omega
theorem entL_some (n:Nat):∀ (d:List (List UInt8)) (k:Nat),(entL n k (d.map some)).length=d.length
 |[],_=>rfl
 |r::d,k=>by simp only[map_cons,entL,length_cons,entL_some n d (k+1)]
theorem dirE_get {root i:Nat}{d:List (List UInt8)}:(dirE root d)[i]? =(d[i]?).map fun r=>(root,1+i,r):=entL_get _ _ _ _
theorem dirE_len {root:Nat}{d:List (List UInt8)}:(dirE root d).length=d.length:=entL_some _ _ _
theorem dirS_len {c:Nat}{bs:List (List Nat)}:(dirS c bs).length=bs.length+1:=by simp[dirS]
theorem Ix.heapD (h:Ix v T np root bs E c):Heap v T np [root]∧entH v [root]=dirE root (dirS c bs):=by
 refine⟨⟨by simp,by simp,by simpa using h.rt,⟨_,by simpa using h.dir⟩,trivial⟩,?_⟩
 unfold entH entP dirE
 simp only[List.flatMap_cons,List.flatMap_nil,List.append_nil]
 rw[h.dir.pg.slots];rfl
theorem freeL_some:∀ d:List (List UInt8),freeL (d.map some)=d.length
 |[]=>rfl
 |r::d=>by rw[map_cons,freeL_cons,freeL_some d,length_cons]
theorem putL_end (ss:List (Option (List UInt8)))(r:List UInt8):putL ss ss.length r=ss++[some r]:=by
 unfold putL
 rw[if_pos rfl,List.set_append_right _ _ (Nat.le_refl _)];simp
theorem lens_some (m:Nat):∀ d:List (List UInt8),(∀ r∈d,r.length=m)→lens (d.map some)=m*d.length
 |[],_=>rfl
 |r::d,h=>by
  have:=lens_some m d fun x hx=>h x (by simp[hx])
  simp only[lens,map_cons,List.sum_cons,recLen,length_cons]at this ⊢
  rw[this,h r (by simp),Nat.mul_succ];omega
theorem dirS_three {c:Nat}{bs:List (List Nat)}:∀ r∈dirS c bs,r.length=3:=fun r hr=>by
 unfold dirS at hr
 rcases mem_cons.1 hr with rfl|hr
 ·rfl
 ·obtain⟨b,_,rfl⟩:=mem_map.1 hr;rfl
theorem dir_room {l r:List UInt8}(hp:HPg l 0 ((dirS c bs).map some))(hr:r.length=3)(hn:bs.length≤50):addL l r≠(zeroPage,0,false):=fun e=>by
 have hl:=dirS_len (c:=c) (bs:=bs)
 have hc:costL (putL (some (num2 0)::(dirS c bs).map some) (freeL (some (num2 0)::(dirS c bs).map some)) r)≤496:=by
  rw[freeL_cons,freeL_some,putL_cons,←length_map (f:=some),putL_end]
  have h1:=lens_some 3 (dirS c bs) dirS_three
  simp only[lens]at h1
  simp only[costL,lens,map_cons,List.map_append,List.sum_cons,List.sum_append,List.map_nil,List.sum_nil,length_cons,length_append,length_map,length_nil,recLen,num2_len,hr]
  rw[h1,hl];omega
 have:=(hp.pg.add r (by omega) hc).2.1
 rw[e]at this;cases this
theorem dir_add {l r:List UInt8}(hp:HPg l 0 (putL ((dirS c bs).map some) (freeL ((dirS c bs).map some)) (num3 n))){to:List Nat}(ht:to.headD 0=n):HPg l 0 ((dirS c (bs++[to])).map some):=by
 rw[freeL_some,←length_map (f:=some),putL_end]at hp
 have:(dirS c (bs++[to])).map some=(dirS c bs).map some++[some (num3 n)]:=by simp[dirS,←ht]
 rw[this];exact hp
theorem dir_set {l:List UInt8}{c':Nat}(hp:HPg l 0 ((dirS c bs).map some)):HPg (setL l 1 (num3 c')).1 0 ((dirS c' bs).map some):=by
 have:=(hp.set (k:=0) (o:=num3 c) rfl (num3 c') (Nat.le_refl _)).2
 exact this
end
def pl40_16Xb:Plan:=(.det 0 (.det 1 (.act 2 (.fin 3 (.det 4 (.det 5 (.det 6 (.fin 7 .done))))))))
def tXb:=aa wX <| aa wbu <| aa T3 <| aa T23 <| aa T25 <| aa T29 <| aa T45 <| aa T111 T120
section
variable {σ:St} {b p dd l kh n:Nat} {U:Nat→Prop} {P:PoolV} {v:Nat→List UInt8} {T:Nat→Bool} {ns:List Nat}
theorem abFree (h:Bt σ b p dd l kh U P v)(hT:Tk (v 0) P.pages T)(hnp:P.pages≤3200)(hn1:1≤n)(hn:n<P.pages)(hTn:T n=true)(hb:Bud P 1):
 ACalls Tryz.prog 83 [.mp b 2 0 0,intV .i64 (n:Nat)] σ fun r σ'=>r=intV .i64 0∧∃ U' P' v',Fr σ σ' U U'∧Bt σ' b p dd l kh U' P' v'∧Kp P P' 0∧(∀ m,m≠0→v' m=v m)∧Tk (v' 0) P.pages fun m=>if m=n then false else T m:=by
 obtain⟨B,G,ch,h,hU⟩:=h
 have:=h.chl
 refine (afree h.bt h.pl h.dj (by rw[h.vw];exact hT) hnp hn1 hn (by omega) hb.c hb.w).mono ?_
 rintro r s ⟨B',G',P',ch',hf,hB,hP,hd,hk,_,hc⟩
 rcases hc with⟨pg,_,rfl,rfl,hz,hT'⟩|⟨hno,_⟩
 ·refine⟨rfl,fun t=>B' t∨G' t,P',bview P'.view (setM ch 0 pg),fr_iff hf hU fun t=>Iff.rfl,⟨B',G',_,⟨hB,hP,hd,fun q hq=> ?_,fun m=>rfl⟩,fun t=>Iff.rfl⟩,hk,fun m hm0=> ?_,?_⟩
  ·rw[hk.pages]
   rcases mem_set q hq with rfl|hq
   ·exact⟨by show 0<_;omega,hz⟩
   ·exact h.ok q hq
  ·rw[bview_set,if_neg hm0,bview_congr hk.view];exact h.vw m
  ·rw[bview_set,if_pos rfl];exact hT'
 ·rw[hTn]at hno;cases hno
def FreeR (σ:St)(b p dd l kh:Nat)(U:Nat→Prop)(P:PoolV)(v:Nat→List UInt8)(T:Nat→Bool)(ps:List Nat)(r:AV)(σ':St):Prop:=
 r=intV .i64 0∧∃ U' P' v' T',Fr σ σ' U U'∧Bt σ' b p dd l kh U' P' v'∧Kp P P' 0∧(∀ m,m≠0→v' m=v m)∧Tk (v' 0) P.pages T'∧∀ m,T' m=(T m&& !decide (m∈ps))
theorem ahfree1 {tb:Nat}{pg:List UInt8}(hpl:pg.length=512)(h:Bt σ b p dd l kh U P v)(hT:Tk (v 0) P.pages T)(hnp:P.pages≤3200)(hn1:1≤n)(hn:n<P.pages)(hTn:T n=true)(hb:Bud P 1)(htb:σ[tb]? =some (some (Ob.row 1 [[AV.mp b 2 0 0]]))):
 ACalls Tryz.prog 82 [intV .i64 (n:Nat),pageA pg,.mp tb 1 0 0] σ fun r σ'=>FreeR σ b p dd l kh U P v T [n] r σ':=by
 have hpc:=pageC_512 hpl
 have a1:=Ap.app σ [some (Ob.row 512 [pageC pg])]
 have b1:=a1.get htb
 have y0:=at_lt htb
 have y1:=at_lt b1
 refine acalls_of cx_ok dr_ok Tryz.func82 (by kernel_rfl) rfl (nt:=6) (rs:=[.tmp 5]) rfl rfl ?_
 repeat' first|((with_reducible first|apply cs|apply ws)<;>intro h<;>try simp only[h])|simp only[↓wBA,tXb,convA,seval,wH,pageA,hpc,htb,y0,b1,y1]
 refine (abFree (h.ap a1) hT hnp hn1 hn hTn hb).mono ?_
 rintro _ s ⟨rfl,U',P',v',f1,h1,k1,hv,hT1⟩
 have q1:=f1.len
 simp only[length_append,length_cons,length_nil]at q1
 repeat' first|((with_reducible first|apply cs|apply ws)<;>intro h<;>try simp only[h])|simp only[↓wBA,tXb,convA,seval,wH,pageA]
 all_goals refine ret_st ?_ (by first|exact Nat.le_refl _|(simp only[length_set,length_append];omega)|omega)
 all_goals simp only[resA.eq_1,resL.eq_1,resL.eq_2,resV.eq_1,resV.eq_2,↓wBA,tXb,convA,seval,wH,pageA]
 refine⟨rfl,U',P',v',_,a1.fr.trans f1,h1,k1,hv,hT1,fun m=> ?_⟩
 by_cases e:m=n<;>simp[e]
theorem aeachF {first tb:Nat}(h:Bt σ b p dd l kh U P v)(hT:Tk (v 0) P.pages T)(hnp:P.pages≤3200)(hh:Heap v T P.pages ns)(hf:ns[0]? =some first)(hb:Bud P 1)(htb:σ[tb]? =some (some (Ob.row 1 [[AV.mp b 2 0 0]])))(htU:¬ U tb):
 ACalls Tryz.prog 55 [.mp b 2 0 0,intV .i64 (first:Nat),.fn 82 [] [.mp tb 1 0 0]] σ fun r σ'=>FreeR σ b p dd l kh U P v T ns r σ':=by
 have hnl:=hh.len
 have hl0:0<ns.length:=by have:=(List.getElem?_eq_some_iff.1 hf).1;omega
 have z5:=pageC_512 len_zero512
 have ytb:=at_lt htb
 refine acalls_of cx_ok dr_ok Tryz.func55 (by kernel_rfl) rfl (nt:=32) (rs:=[.tmp 6]) rfl rfl ?_
 repeat' first|((with_reducible first|apply cs|apply ws)<;>intro h<;>try simp only[h])|simp only[↓wBA,tXb,convA,seval,wH]
 refine awp_loopS (X:={ q:Nat×Nat // q.1<ns.length∧ns[q.1]? =some q.2 }) (fun q=>ns.length - q.1.1) (fun q=>[(7,intV .i64 (q.1.2:Nat))]) [6,8,9,10,14,15,16,17,18,19,20,21,22,23,24,25,26,27,28,29,30,31,32,33,34] (fun q s=>∃ U' P' v' T',Fr σ s U U'∧Bt s b p dd l kh U' P' v'∧Kp P P' 0∧(∀ m,m≠0→v' m=v m)∧Tk (v' 0) P.pages T'∧∀ m,T' m=(T m&& !decide (m∈ns.take q.1.1))) (⟨(0,first),hl0,hf⟩) ?_ ?_ ?_ ?_
 ·simp only[wHl,wHf]
 ·exact⟨U,P,v,T,Fr.refl _ _,h,Kp.refl P _,fun _ _=>rfl,hT,fun m=>by simp⟩
 ·rintro _ _ ⟨_,_,_,_,h,_⟩;exact h.len
 ·intro y J s hI
  simp only[wHl]
  obtain⟨⟨i,n⟩,hi,hni⟩:=y
  obtain⟨U1,P1,v1,T1,f1,h1,k1,hv1,hT1,hTt⟩:=hI
  dsimp only at*
  obtain⟨ss,hp⟩:=hh.ch.get hni
  obtain⟨n1,n2,n3⟩:=hh.tk n (mem_of_getElem? hni)
  rw[← hv1 n (by omega)]at hp
  have hpl:=hp.len
  have hpc:=pageC_512 hpl.1
  have t1:=f1.get htb htU
  have htU1:¬ U1 tb:=fun e=>(f1.own tb e).elim htU fun e=>by omega
  repeat' first|((with_reducible first|apply cs|apply ws)<;>intro h<;>try simp only[h])|simp only[↓wBA,tXb,convA,seval,wH,wHl]
  refine (ahread h1 (by rw[k1.pages];exact n2) hp (hb.kp k1 (by omega))).mono ?_
  rintro _ s2 ⟨rfl,U2,P2,f2,h2,k2⟩
  have t2:=f2.get t1 htU1
  have a3:=Ap.app s2 [some (.row 512 [pageC (v1 n)])]
  have l2:=f2.len
  have hnt:n∉ns.take i:=fun hm=>by
   obtain⟨j,hj⟩:=List.getElem?_of_mem hm
   rw[List.getElem?_take]at hj
   split at hj
   ·rename_i hlt
    obtain⟨g1,g2⟩:=List.getElem?_eq_some_iff.1 hj
    obtain⟨g3,g4⟩:=List.getElem?_eq_some_iff.1 hni
    exact List.pairwise_iff_getElem.1 hh.nd j i g1 g3 hlt (g2.trans g4.symm)
   ·cases hj
  have hTn:T1 n=true:=by rw[hTt,n3];simp[hnt]
  have k12:=k1.trans k2
  repeat' first|((with_reducible first|apply cs|apply ws)<;>intro h<;>try simp only[h])|simp only[↓wBA,tXb,convA,seval,wH,wHl,pageA,hpc,hpl.1,zl512,zB_512,len_zero512,z5]
  refine (ahfree1 (pg:=v1 n) (T:=T1) hpl.1 (h2.ap a3) (by rw[k12.pages];exact hT1) (by rw[k12.pages];exact hnp) n1 (by rw[k12.pages];exact n2) hTn (hb.kp k12 (by omega)) (a3.get t2)).mono ?_
  rintro _ s4 ⟨rfl,U4,P4,v4,T4,f4,h4,k4,hv4,hT4,hTt4⟩
  have l4:=f4.len
  simp only[length_append,length_cons,length_nil]at l4
  rw[k12.pages]at hT4
  have f14:Fr σ s4 U U4:=((f1.trans f2).trans a3.fr).trans f4
  have htk:ns.take (i+1)=ns.take i++[n]:=by rw[List.take_add_one,hni];rfl
  have hTn4:∀ m,T4 m=(T m&& !decide (m∈ns.take (i+1))):=fun m=>by
   rw[hTt4,hTt,htk]
   by_cases e1:m∈ns.take i<;>by_cases e2:m=n<;>simp[e1,e2]
  have hvn:∀ m,m≠0→v4 m=v m:=fun m hm=>(hv4 m hm).trans (hv1 m hm)
  by_cases hnx:i+1<ns.length
  ·obtain⟨n',hn'⟩:∃ n',ns[i+1]? =some n':=⟨ns[i+1],by simp⟩
   have hn1':=(hh.tk n' (mem_of_getElem? hn')).1
   have hgd:(ns[i+1]?).getD 0=n':=by rw[hn'];rfl
   have hnz:((n':Int)==0)=false:=by simp;omega
   repeat' first|((with_reducible first|apply cs|apply ws)<;>intro h<;>try simp only[h])|simp only[↓wBA,tXb,convA,seval,wH,wHl,hgd,hnz]
   exact⟨⟨(i+1,n'),hnx,hn'⟩,by show ns.length - (i+1)<ns.length - i;omega,⟨U4,P4,v4,T4,f14,h4,k12.trans k4,hvn,hT4,hTn4⟩,by simp only[wHl,wHf]⟩
  ·have hgd:(ns[i+1]?).getD 0=0:=by rw[List.getElem?_eq_none (by omega)];rfl
   repeat' first|((with_reducible first|apply cs|apply ws)<;>intro h<;>try simp only[h])|simp only[↓wBA,tXb,convA,seval,wH,wHl,hgd]
   have l14:=f14.len
   all_goals refine ret_st ?_ (by first|exact Nat.le_refl _|(simp only[length_set,length_append];omega)|omega)
   all_goals simp only[resA.eq_1,resL.eq_1,resL.eq_2,resV.eq_1,resV.eq_2,↓wBA,tXb,convA,seval,wH]
   rw[List.take_of_length_le (by omega)]at hTn4
   exact⟨rfl,U4,P4,v4,T4,f14,h4,k12.trans k4,hvn,hT4,hTn4⟩
theorem ahfree {first:Nat}(h:Bt σ b p dd l kh U P v)(hT:Tk (v 0) P.pages T)(hnp:P.pages≤3200)(hh:Heap v T P.pages ns)(hf:ns[0]? =some first)(hb:Bud P 1):
 ACalls Tryz.prog 47 [.mp b 2 0 0,intV .i64 (first:Nat)] σ fun r σ'=>FreeR σ b p dd l kh U P v T ns r σ':=by
 have hlt:=h.lt
 refine acalls_of cx_ok dr_ok Tryz.func47 (by kernel_rfl) rfl (nt:=7) (rs:=[.tmp 4]) rfl rfl ?_
 repeat' first|((with_reducible first|apply cs|apply ws)<;>intro h<;>try simp only[h])|simp only[↓wBA,tXb,convA,seval,wH]
 have aS:=Ap.app σ [some (Ob.row 1 [[AV.mp b 2 0 0]])]
 refine (aeachF (tb:=σ.length) (h.ap aS) hT hnp hh hf hb (by simp) (fun e=>Nat.lt_irrefl _ (hlt _ e))).mono ?_
 rintro _ s ⟨rfl,U',P',v',T',f1,h1,k1,hv,hT1,hTt⟩
 have q1:=f1.len
 simp only[length_append,length_cons,length_nil]at q1
 repeat' first|((with_reducible first|apply cs|apply ws)<;>intro h<;>try simp only[h])|simp only[↓wBA,tXb,convA,seval,wH]
 all_goals refine ret_st ?_ (by first|exact Nat.le_refl _|(simp only[length_set,length_append];omega)|omega)
 all_goals simp only[resA.eq_1,resL.eq_1,resL.eq_2,resV.eq_1,resV.eq_2,↓wBA,tXb,convA,seval,wH]
 exact⟨rfl,U',P',v',T',aS.fr.trans f1,h1,k1,hv,hT1,hTt⟩
theorem ahinsert1 {nx:Nat}{ss:List (Option (List UInt8))}{r:List UInt8}{x:PV}(h:Bt σ b p dd l kh U P v)(n1:1≤n)(n2:n<P.pages)(hp:HPg (v n) nx ss)(hroom:addL (v n) r≠(zeroPage,0,false))(hx:BX x r)(hr:r.length≤400)(hb:Bud P 1):
 ACalls Tryz.prog 40 [.mp b 2 0 0,intV .i64 (n:Nat),.p x] σ fun q σ'=>q= .tup [.agg [intV .i64 (n:Nat),intV .i64 (freeL ss+1:Nat)],intV .i64 0]∧∃ U' P',Fr σ σ' U U'∧Bt σ' b p dd l kh U' P' (upV v n (addL (v n) r).1)∧Kp P P' 0∧HPg (addL (v n) r).1 nx (putL ss (freeL ss) r):=by
 have ha:RecA σ (.p x) r:=.inl ⟨x,rfl,hx⟩
 have hlt:=h.lt
 have hla:=ha.len
 have e1:decide ((r.length:Int)>400)=false:=by simp;omega
 refine acalls_of cx_ok dr_ok Tryz.func40 (by kernel_rfl) rfl (nt:=76) (rs:=[.cell 6 45,.tmp 7]) rfl rfl ?_
 repeat' first|((with_reducible first|apply cs|apply ws|apply wd|apply wu)<;>intro h<;>try simp only[h])|simp only[↓wBA,tXb,convA,seval,pl40_16Xb,wH,hla,e1]|(with_reducible refine dQ pl40_16Xb 8 (some 64) ?_)
 obtain⟨S0,hS0⟩:∃ S0,S0=σ++[some (Ob.row 2 [[intV .i64 0,intV .i64 0]])]:=⟨_,rfl⟩
 have hb0:S0[σ.length]? =some (some (.row 2 [[intV .i64 0,intV .i64 0]])):=by rw[hS0];simp
 have hl0:S0.length=σ.length+1:=by rw[hS0];simp
 have h0:=h.ap (s:=S0) ⟨_,hS0⟩
 have f0:Fr σ S0 U U:=Ap.fr ⟨_,hS0⟩
 have hS1:σ++[some (Ob.row 2 [[AV.p (PV.v (Value.int IntKind.i64 0)),AV.p (PV.v (Value.int IntKind.i64 0))]])]=S0:=hS0.symm
 rw[hS1]
 refine awp_loopS (X:=Unit) (fun q=>0) (fun q=>[(8,intV .i64 (n:Nat))]) [7,9,10,11,12,13,14,15,26,27,28,29,30,31,32,33,34,35,36,37,38,39,40,41,42,43,44,45,46,47,48,49,50,51,52,53,54,55,56,57,58,59,60,61,62,63,64,65,66,67,68,69,70,71,72,73,74,75,76,77,78] (fun q s=>s=S0) (()) ?_ ?_ ?_ ?_
 ·simp only[wHl,wHf]
 ·rfl
 ·rintro _ _ rfl;exact Nat.le_refl _
 ·intro y J s hI
  simp only[wHl]
  subst hI
  have hbU:∀ {s':St} {U':Nat→Prop},Fr s s' U U'→¬ U' σ.length:=fun f e=>(f.own _ e).elim (fun e=>Nat.lt_irrefl _ (hlt _ e)) fun e=>by omega
  have hpl:=hp.len
  have hpc:=pageC_512 hpl.1
  have z5:=pageC_512 len_zero512
  repeat' first|((with_reducible first|apply cs|apply ws|apply wd|apply wu)<;>intro h<;>try simp only[h])|simp only[↓wBA,tXb,convA,seval,pl40_16Xb,wH,wHl]|(with_reducible refine dQ pl40_16Xb 8 (some 64) ?_)
  refine (ahread h0 n2 hp hb).mono ?_
  rintro _ s2 ⟨rfl,U2,P2,f2,h2,k2⟩
  have hQl:(addL (v n) r).1.length=512:=length_addL _ _
  have hQp:=pageC_512 hQl
  have x2:=f2.get hb0 fun e=>Nat.lt_irrefl _ (hlt _ e)
  have y2:=at_lt x2
  have hra:RecA (s2++[some (.row 512 [pageC (v n)])]) (.p x) r:=.inl ⟨x,rfl,hx⟩
  rcases hp.add r hr with hno|⟨hyes,hp'⟩
  ·exact absurd hno hroom
  repeat' first|((with_reducible first|apply cs|apply ws|apply wd|apply wu)<;>intro h<;>try simp only[h])|simp only[↓wBA,tXb,convA,seval,pl40_16Xb,wH,wHl,pageA,hpc,hpl.1,zl512,zB_512,len_zero512,z5,hQl,hQp,hyes,x2,y2]|((with_reducible show ACalls _ _ _ _ _);refine (aaddG (v n) r hpl.1 hra (by omega)).eq ?_)|(with_reducible refine dQ pl40_16Xb 8 (some 64) ?_)
  have ha2:Ap s2 (s2++[some (.row 512 [pageC (v n)])]++[some (.row 512 [pageC (addL (v n) r).1])]):=(Ap.app _ _).more _
  refine (abWrt (h2.ap ha2) n1 (by rw[k2.pages];exact n2) _ hQl hp'.len.2).mono ?_
  rintro _ s3 ⟨rfl,U3,f3,h3⟩
  have f13:=(f2.trans ha2.fr).trans f3
  have x3:=f13.get hb0 fun e=>Nat.lt_irrefl _ (hlt _ e)
  have y3:=at_lt x3
  repeat' first|((with_reducible first|apply cs|apply ws|apply wd|apply wu)<;>intro h<;>try simp only[h])|simp only[↓wBA,tXb,convA,seval,pl40_16Xb,wH,wHl,x3,y3]|(with_reducible refine dQ pl40_16Xb 8 (some 64) ?_)
  have l3:=f13.len
  all_goals refine ret_st ?_ (by first|exact Nat.le_refl _|(simp only[length_set,length_append];omega)|omega)
  all_goals simp only[resA.eq_1,resL.eq_1,resL.eq_2,resV.eq_1,resV.eq_2,↓wBA,tXb,convA,seval,wH,wHl,x3,y3]
  exact⟨U3,P2,(f0.trans f13).setN (Nat.le_refl _) _,h3.set (hbU f13) _,k2,hp'⟩
end
end Go.Proofs.YthhbnenaihkggaaGreat
