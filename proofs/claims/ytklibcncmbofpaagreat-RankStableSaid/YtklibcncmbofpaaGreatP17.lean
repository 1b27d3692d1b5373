/-
  Lemmas for RankSorts: SfP, ShP, DrP, Sf. Conditions: those of each lemma.
-/
import Derived.IntWalk
import Derived.Test.YtklibcncmbofpaaGreatP09
set_option maxHeartbeats 8000000
set_option maxRecDepth 10000
set_option linter.unusedVariables false
set_option linter.unusedSimpArgs false
namespace Go.Proofs.YtklibcncmbofpaaGreat
open Go Go.RowKit
def par (d i:Nat):Nat:=(i-1) / d
theorem cZ {d i:Nat} (hd:2≤d) (hi:0<i):par d i<i:=by
 unfold par;have:(i-1) / d≤(i-1) / 2:=Nat.div_le_div_left hd ω;omega
theorem qE {d i j:Nat} (hd:2≤d):(0<j∧par d j=i)↔d*i+1≤j∧j≤d*i+d:=by
 unfold par;have e:d*(i+1)=d*i+d:=by rw [Nat.mul_add,Nat.mul_one]
 constructor
 ·rintro ⟨h0,h⟩;have h1:=Nat.div_mul_le_self (j-1) d;have h2:=Nat.lt_mul_div_succ (j-1) (show 0<d by omega)
  rw [h] at h1 h2;rw [Nat.mul_comm] at h1;omega
 ·rintro ⟨h1,h2⟩;refine ⟨ω,?_⟩;rw [Nat.div_eq_iff ω];rw [Nat.mul_comm i d];omega
theorem bT (L:List Nat) (i x j:Nat):(L.set i x).getD j 0=if j=i∧i<L.length then x else L.getD j 0:=by
 simp only [φ,List.getElem?_set]
 by_cases h:i=j
 ·subst h
  by_cases h2:i<L.length
  ·simp [h2]
  ·simp [h2]
 ·have h':¬j=i:=fun e=>h e.symm
  simp [h,h']
section
variable {R:Nat→Nat→Prop} {d:Nat} {L:List Nat} {i x:Nat}
def Hp (R:Nat→Nat→Prop) (d:Nat) (L:List Nat):Prop:=∀j,0<j→j<L.length→R (L.getD (par d j) 0) (L.getD j 0)
structure dD (R:Nat→Nat→Prop) (d:Nat) (L:List Nat) (i:Nat):Prop where
 lt:i<L.length
 a:∀j,0<j→j<L.length→j≠i→par d j≠i→R (L.getD (par d j) 0) (L.getD j 0)
 b:∀j,0<j→j<L.length→par d j=i→0<i→R (L.getD (par d i) 0) (L.getD j 0)
def Below (R:Nat→Nat→Prop) (d:Nat) (L:List Nat) (i x:Nat):Prop:=∀j,0<j→j<L.length→par d j=i→R x (L.getD j 0)
theorem Hp.hole (ht:∀a b c,R a b→R b c→R a c) (hd:2≤d) (h:Hp R d L) (hi:i<L.length):dD R d L i:=
 ⟨hi,fun j h0 hj _ _=>h j h0 hj,fun j h0 hj hp hi0=>by
  have h1:=h j h0 hj;rw [hp] at h1
  exact ht _ _ _ (h i hi0 hi) h1⟩
theorem dD.fill (hd:2≤d) (h:dD R d L i) (hb:Below R d L i x) (hu:i=0∨R (L.getD (par d i) 0) x):Hp R d (L.set i x):=by
 intro j h0 hj;rw [List.length_set] at hj;have hl:=h.lt;rw [bT,bT]
 by_cases e:j=i
 ·subst e;have hp:=cZ hd h0;rw [if_neg ω,if_pos ⟨rfl,hj⟩];rcases hu with hu|hu
  ·omega
  ·exact hu
 ·rw [if_neg (show ¬ (j=i∧i<L.length) by omega)]
  by_cases ep:par d j=i
  ·rw [if_pos ⟨ep,hl⟩];exact hb j h0 hj ep
  ·rw [if_neg (show ¬ (par d j=i∧i<L.length) from fun e=>ep e.1)]
   exact h.a j h0 hj e ep
theorem dD.up (ht:∀a b c,R a b→R b c→R a c) (hd:2≤d) (h:dD R d L i) (h0:0<i) (hx:R x (L.getD (par d i) 0)) :
  dD R d (L.set i (L.getD (par d i) 0)) (par d i)∧Below R d (L.set i (L.getD (par d i) 0)) (par d i) x:=by
 have hp:=cZ hd h0;have hl:=h.lt;have hpp:∀j,0<j→par d j=par d i→par d j≠i:=fun j hj e=>ω
 refine ⟨⟨by rw [List.length_set];omega,fun j j0 hj hji hjp=>?_,fun j j0 hj hjp hp0=>?_⟩,fun j j0 hj hjp=>?_⟩
 ·rw [List.length_set] at hj;have e:j≠i:=fun e=>hjp (by rw [e])
  rw [bT,bT,if_neg (show ¬ (j=i∧i<L.length) by omega)]
  by_cases ep:par d j=i
  ·rw [if_pos ⟨ep,hl⟩];exact h.b j j0 hj ep h0
  ·rw [if_neg (show ¬ (par d j=i∧i<L.length) from fun e=>ep e.1)]
   exact h.a j j0 hj e ep
 ·rw [List.length_set] at hj;have hp2:=cZ hd hp0;rw [bT,bT,if_neg (show ¬ (par d (par d i)=i∧i<L.length) by omega)]
  have h1:=h.a (par d i) hp0 ω ω ω
  by_cases e:j=i
  ·rw [if_pos ⟨e,hl⟩];exact h1
  ·rw [if_neg (show ¬ (j=i∧i<L.length) by omega)]
   have h2:=h.a j j0 hj e ω;rw [hjp] at h2;exact ht _ _ _ h1 h2
 ·rw [List.length_set] at hj;rw [bT]
  by_cases e:j=i
  ·rw [if_pos ⟨e,hl⟩];exact hx
  ·rw [if_neg (show ¬ (j=i∧i<L.length) by omega)]
   have h2:=h.a j j0 hj e ω;rw [hjp] at h2;exact ht _ _ _ hx h2
structure om (R:Nat→Nat→Prop) (d:Nat) (L:List Nat) (i c:Nat):Prop where
 c0:0<c
 lt:c<L.length
 pc:par d c=i
 all:∀j,0<j→j<L.length→par d j=i→j≠c→R (L.getD c 0) (L.getD j 0)
theorem dD.down (ht:∀a b c,R a b→R b c→R a c) (hd:2≤d) (h:dD R d L i) {c:Nat} (hc:om R d L i c) (hx:R (L.getD c 0) x) :
  dD R d (L.set i (L.getD c 0)) c∧R ((L.set i (L.getD c 0)).getD (par d c) 0) x:=by
 have hl:=h.lt;have hci:i<c:=by have:=cZ hd hc.c0;have:=hc.pc;omega
 refine ⟨⟨by rw [List.length_set];exact hc.lt,fun j j0 hj hjc hjp=>?_,fun j j0 hj hjp _=>?_⟩,?_⟩
 ·rw [List.length_set] at hj;rw [bT,bT]
  by_cases e:j=i
  ·subst e;have:=cZ hd j0;rw [if_neg (show ¬ (par d j=j∧j<L.length) by omega),if_pos ⟨rfl,hl⟩]
   exact h.b c hc.c0 hc.lt hc.pc j0
  ·rw [if_neg (show ¬ (j=i∧i<L.length) by omega)]
   by_cases ep:par d j=i
   ·rw [if_pos ⟨ep,hl⟩];exact hc.all j j0 hj ep hjc
   ·rw [if_neg (show ¬ (par d j=i∧i<L.length) from fun e=>ep e.1)]
    exact h.a j j0 hj e ep
 ·rw [List.length_set] at hj;have hpj:=cZ hd j0;rw [hc.pc,bT,bT,if_pos ⟨rfl,hl⟩,if_neg (show ¬ (j=i∧i<L.length) by omega)]
  have h2:=h.a j j0 hj ω ω;rw [hjp] at h2;exact h2
 ·rw [hc.pc,bT,if_pos ⟨rfl,hl⟩];exact hx
theorem Hp.first (ht:∀a b c,R a b→R b c→R a c) (hd:2≤d) (h:Hp R d L):∀ (k j:Nat),j≤k→j<L.length→j=0∨R (L.getD 0 0) (L.getD j 0)
 | 0,j,hk,_=>Or.inl ω
 | k+1,j,hk,hj=>by
  by_cases j0:j=0
  ·exact Or.inl j0
  ·right;have hp:=cZ (i:=j) hd ω;have h1:=h j ω hj;rcases Hp.first ht hd h k (par d j) ω ω with e|e
   ·rw [e] at h1;exact h1
   ·exact ht _ _ _ e h1
theorem Hp.frame {R':Nat→Nat→Prop} (h:Hp R d L) (hR:∀a b,a∈L→b∈L→R a b→R' a b) (hd:2≤d):Hp R' d L:=fun j h0 hj=>by
 have hp:=cZ hd h0;have hm:∀q,q<L.length→L.getD q 0∈L:=fun q hq=>by
  rw [φ,List.getElem?_eq_getElem hq];exact List.getElem_mem hq
 exact hR _ _ (hm _ ω) (hm _ hj) (h j h0 hj)
theorem dD.frame {R':Nat→Nat→Prop} (h:dD R d L i) (hR:∀a b,a∈L.eraseIdx i→b∈L.eraseIdx i→R a b→R' a b) (hd:2≤d):dD R' d L i:=by
 have hm:∀q,q<L.length→q≠i→L.getD q 0∈L.eraseIdx i:=fun q hq hne=>by
  rw [φ,List.getElem?_eq_getElem hq,List.mem_eraseIdx_iff_getElem?];exact ⟨q,hne,by simp [List.getElem?_eq_getElem hq]⟩
 refine ⟨h.lt,fun j h0 hj hji hp=>?_,fun j h0 hj hp hi0=>?_⟩
 ·have:=cZ hd h0;exact hR _ _ (hm _ ω hp) (hm _ hj hji) (h.a j h0 hj hji hp)
 ·have h1:=cZ hd h0;have h2:=cZ hd hi0;have:=h.lt;exact hR _ _ (hm _ ω ω) (hm _ hj ω) (h.b j h0 hj hp hi0)
end
def qX (f:Int→Option Int) (L:List Nat):Prop:=∀z v,f z=some v↔∃ (y j:Nat),z=y∧v=j∧L[j]?=some y
def jW (f:Int→Option Int) (L:List Nat) (i x:Nat):Prop:=∀z v,z≠(x:Int)→(f z=some v↔∃ (y j:Nat),z=y∧v=j∧j≠i∧L[j]?=some y)
def LV (f:Int→Option Int) (k z:Int):Int→Option Int:=fun q=>if q=k then some z else f q
theorem jW.fill {f:Int→Option Int} {L:List Nat} {i x:Nat} (h:jW f L i x) (hi:i<L.length) (hn:(L.set i x).Nodup):qX (LV f x i) (L.set i x):=by
 intro z v;unfold LV
 by_cases hz:z=(x:Int)
 ·rw [if_pos hz];constructor
  ·intro e;cases e;exact ⟨x,i,hz,rfl,by simp [hi]⟩
  ·rintro ⟨y,j,rfl,rfl,hj⟩;have e:y=x:=ω;subst e;have h1:(L.set i y)[i]?=some y:=by simp [hi]
   obtain ⟨g1,e1⟩:=List.getElem?_eq_some_iff.1 hj;obtain ⟨g2,e2⟩:=List.getElem?_eq_some_iff.1 h1;have:j=i:=(List.getElem_inj hn).1 (e1.trans e2.symm);rw [this]
 ·rw [if_neg hz,h z v hz];constructor
  ·rintro ⟨y,j,rfl,rfl,hj,hg⟩;exact ⟨y,j,rfl,rfl,by rw [List.getElem?_set_ne (fun e=>hj e.symm)];exact hg⟩
  ·rintro ⟨y,j,rfl,rfl,hg⟩
   by_cases e:j=i
   ·subst e;rw [List.getElem?_set_self hi] at hg;cases hg;exact absurd rfl hz
   ·rw [List.getElem?_set_ne (fun e'=>e e'.symm)] at hg
    exact ⟨y,j,rfl,rfl,e,hg⟩
theorem jW.move {f:Int→Option Int} {L:List Nat} {i p x:Nat} (h:jW f L i x) (hi:i<L.length) (hp:p<L.length) (hpi:p≠i) (hn:(L.set i x).Nodup):jW (LV f (L.getD p 0) i) (L.set i (L.getD p 0)) p x:=by
 intro z v hz;have hLp:L[p]?=some (L.getD p 0):=by simp [φ,hp]
 have huni:∀j,j≠i→L[j]?=some (L.getD p 0)→j=p:=fun j hj hg=>by
  have h1:(L.set i x)[j]?=some (L.getD p 0):=by rw [List.getElem?_set_ne (fun e=>hj e.symm)];exact hg
  have h2:(L.set i x)[p]?=some (L.getD p 0):=by rw [List.getElem?_set_ne (fun e=>hpi e.symm)];exact hLp
  obtain ⟨g1,e1⟩:=List.getElem?_eq_some_iff.1 h1;obtain ⟨g2,e2⟩:=List.getElem?_eq_some_iff.1 h2;exact (List.getElem_inj hn).1 (e1.trans e2.symm)
 generalize hy:L.getD p 0=y at *
 unfold LV
 by_cases e:z=(y:Int)
 ·rw [if_pos e];constructor
  ·intro e2;cases e2;exact ⟨y,i,e,rfl,fun e=>hpi e.symm,by simp [hi]⟩
  ·rintro ⟨y',j,e1,rfl,hj,hg⟩;have:y'=y:=ω;subst this
   by_cases hji:j=i
   ·rw [hji]
   ·rw [List.getElem?_set_ne (fun e'=>hji e'.symm)] at hg
    exact absurd (huni j hji hg) hj
 ·rw [if_neg e,h z v hz];constructor
  ·rintro ⟨y',j,rfl,rfl,hj,hg⟩;refine ⟨y',j,rfl,rfl,?_,by rw [List.getElem?_set_ne (fun e'=>hj e'.symm)];exact hg⟩
   rintro rfl;rw [hLp] at hg;cases hg;exact e rfl
  ·rintro ⟨y',j,rfl,rfl,hj,hg⟩
   by_cases hji:j=i
   ·subst hji;rw [List.getElem?_set_self hi] at hg;cases hg;exact absurd rfl e
   ·rw [List.getElem?_set_ne (fun e'=>hji e'.symm)] at hg
    exact ⟨y',j,rfl,rfl,hji,hg⟩
theorem qX.hole {f:Int→Option Int} {L:List Nat} {i x:Nat} (h:qX f L) (hx:L[i]?=some x):jW f L i x:=fun z v hz=>by
 rw [h z v];constructor
 ·rintro ⟨y,j,rfl,rfl,hg⟩;refine ⟨y,j,rfl,rfl,?_,hg⟩;rintro rfl;rw [hx] at hg;cases hg;exact hz rfl
 ·rintro ⟨y,j,h1,h2,_,h3⟩;exact ⟨y,j,h1,h2,h3⟩
theorem uh {L:List Nat} {i p x:Nat} (hi:i<L.length) (hp:p<L.length) (hpi:p≠i):((L.set i (L.getD p 0)).set p x).Perm (L.set i x):=by
 have h:=@List.set_set_perm _ (L.set i x) i p (by simpa using hi) (by simpa using hp)
 have e1:(L.set i x)[p]'(by simpa using hp)=L.getD p 0:=by
  rw [List.getElem_set_ne (fun e=>hpi e.symm)];simp [φ,hp]
 have e2:(L.set i x)[i]'(by simpa using hi)=x:=σ
 rw [e1,e2,List.set_set] at h;exact h
def eO (L:List Nat) (i j:Nat):List Nat:=(L.set i (L.getD j 0)).set j (L.getD i 0)
theorem iP (L:List Nat) (i j:Nat):(eO L i j).length=L.length:=by unfold eO;simp
theorem jv {L:List Nat} {i j:Nat} (hi:i<L.length) (hj:j<L.length) (k:Nat):(eO L i j).getD k 0=if k=j then L.getD i 0 else if k=i then L.getD j 0 else L.getD k 0:=by
 unfold eO;rw [bT,bT]
 by_cases h1:k=j
 ·rw [if_pos ⟨h1,by simpa using hj⟩,if_pos h1]
 ·rw [if_neg (fun e=>h1 e.1),if_neg h1]
  by_cases h2:k=i
  ·rw [if_pos ⟨h2,hi⟩,if_pos h2]
  ·rw [if_neg (fun e=>h2 e.1),if_neg h2]
theorem EI {L:List Nat} {i j:Nat} (hi:i<L.length) (hj:j<L.length):eO L i j=eO L j i:=by
 apply List.ext_getElem
 ·rw [iP,iP]
 ·intro k h1 h2;have a:=jv hi hj k;have b:=jv hj hi k;rw [φ,List.getElem?_eq_getElem h1] at a;rw [φ,List.getElem?_eq_getElem h2] at b;simp only [Option.getD_some] at a b;rw [a,b]
  by_cases e1:k=j
  ·by_cases e2:k=i
   ·rw [if_pos e1,if_pos e2,←e1,←e2]
   ·rw [if_pos e1,if_neg e2,if_pos e1]
  ·by_cases e2:k=i
   ·rw [if_neg e1,if_pos e2,if_pos e2]
   ·rw [if_neg e1,if_neg e2,if_neg e2,if_neg e1]
theorem rM {L:List Nat} {i j:Nat} (hi:i<L.length) (hj:j<L.length) (hne:i≠j):(eO L i j).Perm L:=by
 have h:=uh (L:=L) (i:=i) (p:=j) (x:=L.getD i 0) hi hj (fun e=>hne e.symm)
 have e:L.set i (L.getD i 0)=L:=by
  rw [φ,List.getElem?_eq_getElem hi];simp
 rw [e] at h;exact h
section
variable {R:Nat→Nat→Prop} {L:List Nat} {i:Nat}
theorem dD.any {d:Nat} (hd:2≤d) (h:dD R d L i) (y:Nat):dD R d (L.set i y) i:=by
 have g:∀k,k≠i→(L.set i y).getD k 0=L.getD k 0:=fun k hk=>by rw [bT,if_neg (fun e=>hk e.1)]
 refine ⟨by rw [List.length_set];exact h.lt,fun j j0 hj hji hp=>?_,fun j j0 hj hp hi0=>?_⟩
 ·rw [List.length_set] at hj;rw [g _ hji,g _ hp];exact h.a j j0 hj hji hp
 ·rw [List.length_set] at hj;have h1:=cZ hd j0;have h2:=cZ hd hi0;rw [g _ ω,g _ ω];exact h.b j j0 hj hp hi0
theorem Below.any {d x:Nat} (hd:2≤d) (h:Below R d L i x) (y:Nat):Below R d (L.set i y) i x:=fun j j0 hj hp=>by
 rw [List.length_set] at hj;have h1:=cZ hd j0;rw [bT,if_neg (show ¬ (j=i∧i<L.length) by omega)]
 exact h j j0 hj hp
theorem dD.done {d:Nat} (hd:2≤d) (h:dD R d L i) (hb:Below R d L i (L.getD i 0)) (hu:i=0∨R (L.getD (par d i) 0) (L.getD i 0)):Hp R d L:=by
 have h1:=h.fill hd hb hu;have e:L.set i (L.getD i 0)=L:=by
  have:=h.lt;rw [φ,List.getElem?_eq_getElem this];simp
 rwa [e] at h1
theorem dD.Ob (ht:∀a b c,R a b→R b c→R a c) (h:dD R 2 L i) (h0:0<i) (hx:R (L.getD i 0) (L.getD (par 2 i) 0)) :
  dD R 2 (eO L (par 2 i) i) (par 2 i)∧Below R 2 (eO L (par 2 i) i) (par 2 i) ((eO L (par 2 i) i).getD (par 2 i) 0):=by
 have hp:=cZ (d:=2) ω h0;have hl:=h.lt;obtain ⟨h1,h2⟩:=h.up ht ω h0 hx;rw [jv ω hl,if_neg ω,if_pos rfl,EI ω hl];exact ⟨h1.any ω _,h2.any ω _⟩
theorem dD.xJ (ht:∀a b c,R a b→R b c→R a c) (h:dD R 2 L i) {c:Nat} (hc:om R 2 L i c) (hx:R (L.getD c 0) (L.getD i 0)) :
  dD R 2 (eO L i c) c∧R ((eO L i c).getD (par 2 c) 0) ((eO L i c).getD c 0):=by
 have hl:=h.lt;have hcl:=hc.lt;have hci:i<c:=by have:=cZ (d:=2) ω hc.c0;have:=hc.pc;omega
 obtain ⟨h1,h2⟩:=h.down ht ω hc hx;refine ⟨h1.any ω _,?_⟩;rw [jv hl hcl,jv hl hcl,if_pos rfl,hc.pc,if_neg ω,if_pos rfl];exact hx
theorem Io {n:Nat} (hn:L.length=n) (h1:2*i+1<n):(2*i+2<n→¬R (L.getD (2*i+2) 0) (L.getD (2*i+1) 0)→R (L.getD (2*i+1) 0) (L.getD (2*i+2) 0))→
  ((¬ (2*i+2<n∧R (L.getD (2*i+2) 0) (L.getD (2*i+1) 0)))→om R 2 L i (2*i+1))∧(2*i+2<n∧R (L.getD (2*i+2) 0) (L.getD (2*i+1) 0)→om R 2 L i (2*i+2)):=by
 intro ht;have hk:∀j,0<j→par 2 j=i→j=2*i+1∨j=2*i+2:=fun j j0 hj=>by
  have:=(qE (d:=2) (i:=i) (j:=j) ω).1 ⟨j0,hj⟩;omega
 have p1:=(qE (d:=2) (i:=i) (j:=2*i+1) ω).2 ω;have p2:=(qE (d:=2) (i:=i) (j:=2*i+2) ω).2 ω;constructor
 ·intro h;refine ⟨ω,ω,p1.2,fun j j0 hj hp hne=>?_⟩
  rcases hk j j0 hp with e|e
  ·exact absurd e hne
  ·subst e;exact ht ω (fun hr=>h ⟨ω,hr⟩)
 ·rintro ⟨h,hr⟩;refine ⟨ω,ω,p2.2,fun j j0 hj hp hne=>?_⟩
  rcases hk j j0 hp with e|e
  ·subst e;exact hr
  ·exact absurd e hne
theorem mg {d x c:Nat} (ht:∀a b c,R a b→R b c→R a c) (hc:om R d L i c) (hx:R x (L.getD c 0)):Below R d L i x:=fun j j0 hj hp=>by
 by_cases e:j=c
 ·rw [e];exact hx
 ·exact ht _ _ _ hx (hc.all j j0 hj hp e)
theorem xM {d x:Nat} (hd:2≤d) (h:L.length≤d*i+1):Below R d L i x:=fun j j0 hj hp=>by
 have:=(qE hd).1 ⟨j0,hp⟩;omega
theorem Hp.take {d n:Nat} (h:Hp R d L) (hd:2≤d):Hp R d (L.take n):=fun j j0 hj=>by
 simp only [List.length_take] at hj;have hp:=cZ hd j0;have g:∀k,k<n→(L.take n).getD k 0=L.getD k 0:=fun k hk=>by simp [φ,List.getElem?_take,hk]
 rw [g _ ω,g _ ω];exact h j j0 ω
theorem Hp.snoc {d x:Nat} (h:Hp R d L) (ht:∀a b c,R a b→R b c→R a c) (hd:2≤d):dD R d (L++[x]) L.length∧Below R d (L++[x]) L.length x:=by
 have g:∀k,k<L.length→(L++[x]).getD k 0=L.getD k 0:=fun k hk=>by simp [φ,List.getElem?_append_left,hk]
 have hno:∀j,0<j→j<(L++[x]).length→par d j=L.length→False:=fun j j0 hj hp=>by
  simp at hj;have:=cZ hd j0;omega
 refine ⟨⟨σ,fun j j0 hj hji hp=>?_,fun j j0 hj hp _=>(hno j j0 hj hp).elim⟩,fun j j0 hj hp=>(hno j j0 hj hp).elim⟩
 simp at hj;have:=cZ hd j0;rw [g _ ω,g _ ω];exact h j j0 ω
end
def lU (A:NS) (a b:Nat):Prop:=decide (bH A a b)=true
theorem dA {A:NS} {a b:Nat}:lU A a b↔bH A a b:=by unfold lU;simp
theorem fQ (A:NS):∀a b c,lU A a b→lU A b c→lU A a c:=fun a b c h1 h2=>dA.2 (bE (dA.1 h1) (dA.1 h2))
structure ow (d:Nat) (A:NS) (L:Nat→List Nat):Prop where
 hp:∀h:Nat,aY A h=true→Hp (lU A) d (L h)
 nd:∀h:Nat,aY A h=true→(L h).Nodup
 mem:∀h x:Nat,aY A h=true→(x∈L h↔x<A.cs.length∧(A.c x).i=h)
section
variable {d:Nat} {A:NS} {L:Nat→List Nat}
theorem ow.frame {A':NS} {l:List Nat} (h:Hp (lU A) d l) (hd:2≤d) (hs:∀y,y∈l→A'.c y=A.c y):Hp (lU A') d l:=
 h.frame (fun a b ha hb hab=>dA.2 ((dJ (hs a ha) (hs b hb)).2 (dA.1 hab))) hd
theorem ow.len (h:ow d A L) {g x:Nat} (hg:aY A g=true) (hx:x∈L g):x<A.cs.length∧bD A (x:Int)=true∧(A.c x).i=g:=by
 have h1:=(h.mem g x hg).1 hx;have h2:=(aK _ _).1 hg;exact ⟨h1.1,(af _ _).2 ⟨h1.1,ω⟩,h1.2⟩
theorem ow.many (h:ow d A L) {g:Nat} (hg:aY A g=true):(L g).length≤A.cs.length:=by
 have h1:=nodup_range A.cs.length ((L g).map (fun (x:Nat)=>(x:Int))) (by
  have hn:=h.nd g hg;unfold List.Nodup at hn ⊢;rw [List.pairwise_map];exact hn.imp (fun h e=>h ω)) (fun x hx=>by
  obtain ⟨y,hy,rfl⟩:=List.mem_map.1 hx
  have:=(h.mem g y hg).1 hy;omega)
 simpa using h1
theorem ow.first (h:ow d A L) (hd:2≤d) {g m:Nat} {l:List Nat} (hg:aY A g=true) (hl:L g=m::l):bL A g=some m:=by
 have h0:=(aK _ _).1 hg;have hm:=(h.mem g m hg).1 (by rw [hl];simp)
 refine (dM ω).2 ⟨hm.1,hm.2,fun y hy hyi=>?_⟩
 have hym:=(h.mem g y hg).2 ⟨hy,hyi⟩;have hH:=h.hp g hg;rw [hl] at hym hH;obtain ⟨j,hj,e⟩:=List.mem_iff_getElem.1 hym;rcases Hp.first (fQ A) hd hH j j (Nat.le_refl _) hj with e2|e2
 ·subst e2;left;rw [←e];rfl
 ·right;have e3:(m::l).getD j 0=y:=by rw [φ,List.getElem?_eq_getElem hj,e];rfl
  rw [e3] at e2;exact dA.1 e2
theorem ow.none (h:ow d A L) {g:Nat} (hg:aY A g=true) (hl:L g=[]):bL A g=none:=by
 refine (iB (by have:=(aK _ _).1 hg;omega)).2 ?_
 rcases Nat.eq_zero_or_pos (cu A (g:Int)) with e|e
 ·exact e
 ·obtain ⟨x,hx,hi,_⟩:=dG.1 e;have:=(h.mem g x hg).2 ⟨hx,hi⟩;rw [hl] at this;cases this
theorem ow.M8 (h:ow d A L) {g:Int} {m:Nat} (hm:bL A g=some m) (ok:A.Ok):∃q:Nat,g=q∧aY A q=true∧m∈L q:=by
 have hpos:0<g:=by
  rcases Int.lt_or_le 0 g with h|h
  ·exact h
  ·rw [mX ω] at hm;cases hm
 have h1:=(dM hpos).1 hm;have h2:=ok.nat m h1.1;obtain ⟨q,rfl⟩:∃q:Nat,g=q:=⟨g.toNat,ω⟩
 have hin:bD A (m:Int)=true:=(af _ _).2 ⟨h1.1,by rw [h1.2.1];exact hpos⟩
 have hh:=gN ok hin;rw [π,h1.2.1] at hh;exact ⟨q,rfl,hh,(h.mem q m hh).2 ⟨h1.1,h1.2.1⟩⟩
theorem ow.next {A':NS} {g:Nat} {l:List Nat} (h:ow d A L) (hd:2≤d) (hh:∀k:Nat,aY A' k=aY A k) (hc:A'.cs.length=A.cs.length)
  (k1:∀k:Nat,k≠g→∀x,x<A.cs.length→1≤k→((A'.c x).i=k↔(A.c x).i=k)) (k2:∀x,(A.c x).i≠g→(A'.c x).i≠g→A'.c x=A.c x)
  (n1:Hp (lU A') d l) (n2:l.Nodup) (n3:aY A g=true→∀x,x∈l↔x<A.cs.length∧(A'.c x).i=g):ow d A' (iE L g l):=by
 refine ⟨fun k hk=>?_,fun k hk=>?_,fun k x hk=>?_⟩
 all_goals rw [hh] at hk
 ·by_cases e:k=g
  ·subst e;rw [bW];exact n1
  ·rw [bq _ _ e];refine ow.frame (h.hp k hk) hd (fun y hy=>?_)
   have hy2:=(h.mem k y hk).1 hy;have hk0:=(aK _ _).1 hk;exact k2 y ω (by rw [(k1 k e y hy2.1 ω).2 hy2.2];omega)
 ·by_cases e:k=g
  ·subst e;rw [bW];exact n2
  ·rw [bq _ _ e];exact h.nd k hk
 ·rw [hc]
  by_cases e:k=g
  ·subst e;rw [bW];exact n3 hk x
  ·rw [bq _ _ e,h.mem k x hk];have hk0:=(aK _ _).1 hk;constructor
   ·rintro ⟨a,b⟩;exact ⟨a,(k1 k e x a ω).2 b⟩
   ·rintro ⟨a,b⟩;exact ⟨a,(k1 k e x a ω).1 b⟩
theorem ow.put (h:ow d A L) (hd:2≤d) (ok:A.Ok) {g x:Nat} {k s:Int} (hB:jy A g x=true) {l:List Nat} (hp:l.Perm (x::L g)) (hH:Hp (lU (aB A g x k s)) d l):ow d (aB A g x k s) (iE L g l)∧x∉L g:=by
 obtain ⟨b1,b2,b3⟩:=(cB _ _ _).1 hB;have hx:x<A.cs.length:=by have:=(dK _ _).1 b2;omega
 have h0:(A.c x).i=0:=by
  have:=(ok.nat x hx).1;have h3:¬ (0<(A.c x).i):=fun h'=>by rw [(af A x).2 ⟨hx,h'⟩] at b3;cases b3
  omega
 have hg0:=(aK _ _).1 b1;have hc:∀y,(aB A g x k s).c y=if y=x then ⟨g,k,s⟩ else A.c y:=fun y=>by
  unfold aB;rw [if_pos hB,π,iD]
  by_cases e:y=x
  ·rw [if_pos ⟨e,hx⟩,if_pos e]
  ·rw [if_neg (fun h=>e h.1),if_neg e]
 have hxL:x∉L g:=fun hm=>by have:=(h.mem g x b1).1 hm;omega
 refine ⟨h.next hd (fun q=>by unfold aB;rw [if_pos hB];rfl) (by unfold aB;rw [if_pos hB,dI]) (fun q hq y hy hq1=>?_) (fun y hy1 hy2=>?_) hH (hp.nodup_iff.2 (List.nodup_cons.2 ⟨hxL,h.nd g b1⟩)) (fun _ y=>?_),hxL⟩
 ·rw [hc]
  by_cases e:y=x
  ·rw [if_pos e,e];simp only;omega
  ·rw [if_neg e]
 ·rw [hc] at hy2 ⊢
  by_cases e:y=x
  ·rw [if_pos e] at hy2;exact absurd rfl hy2
  ·rw [if_neg e]
 ·rw [hp.mem_iff,List.mem_cons,h.mem g y b1,hc]
  by_cases e:y=x
  ·rw [if_pos e,e];simp [hx]
  ·rw [if_neg e];simp [e]
theorem ow.low (h:ow d A L) (hd:2≤d) {g x:Nat} {k s:Int} (hB:iy A x k s=true) (hg:aY A g=true) (hx:x∈L g) {l:List Nat} (hp:l.Perm (L g)) (hH:Hp (lU (ak A x k s)) d l):ow d (ak A x k s) (iE L g l):=by
 have hm:=(h.mem g x hg).1 hx;have hc:=pO hB hm.1;have hi:=fP hB hm.1;refine h.next hd (fun q=>by unfold aY;rw [jm]) (eB _ _ _ _) (fun q hq y hy hq1=>by rw [hi]) (fun y hy1 hy2=>?_) hH (hp.nodup_iff.2 (h.nd g hg)) (fun _ y=>by rw [hp.mem_iff,h.mem g y hg,hi])
 rw [hc,if_neg (fun e=>hy1 (by rw [e];exact hm.2))]
theorem ow.drop (h:ow d A L) (hd:2≤d) {g x:Nat} (hg:aY A g=true) (hx:x∈L g) {l:List Nat} (hp:(x::l).Perm (L g)) (hH:Hp (lU A) d l):ow d (aL A x) (iE L g l):=by
 have hm:=(h.mem g x hg).1 hx;have hg0:=(aK _ _).1 hg;have hin:bD A (x:Int)=true:=(af A x).2 ⟨hm.1,ω⟩;have hc:=rq hin;have hnd:(x::l).Nodup:=hp.nodup_iff.2 (h.nd g hg);have hxt:x∉l:=(List.nodup_cons.1 hnd).1;have hcy:∀y,y≠x→(aL A x).c y=A.c y:=fun y hy=>by rw [hc,if_neg hy]
 refine h.next hd (fun q=>by unfold aY;rw [fA]) (dw _ _) (fun q hq y hy hq1=>?_) (fun y hy1 hy2=>hcy y (fun e=>hy1 (by rw [e];exact hm.2))) (ow.frame hH hd (fun y hy=>hcy y (fun e=>hxt (by rw [←e];exact hy)))) (List.nodup_cons.1 hnd).2 (fun _ y=>?_)
 ·rw [hc]
  by_cases e:y=x
  ·rw [if_pos e,e];show (0:Int)=(q:Int)↔_;omega
  ·rw [if_neg e]
 ·have e1:=hp.mem_iff (a:=y);rw [List.mem_cons,h.mem g y hg] at e1;rw [hc]
  by_cases e:y=x
  ·rw [if_pos e,e];refine ⟨fun hh=>absurd hh hxt,fun hh=>?_⟩
   have:(0:Int)=(g:Int):=hh.2;omega
  ·rw [if_neg e,←e1];simp [e]
theorem sZ (A:NS) (hl:¬65536<A.hs.length) (hl0:1≤A.hs.length) (k:Nat):aY (aG A) k=(aY A k || k == A.hs.length):=by
 unfold aG aY;rw [if_neg hl];simp only [List.length_append,List.length_singleton,π,φ]
 by_cases e:k=A.hs.length
 ·subst e;simp;omega
 ·by_cases e2:k<A.hs.length
  ·rw [List.getElem?_append_left e2];have e3:(k:Int)<(A.hs.length:Int):=ω;have e4:(k:Int)<(A.hs.length:Int)+1:=ω;simp [e,e2,e3,e4]
  ·have e3:¬ (k:Int)<(A.hs.length:Int):=ω;have e4:¬ (k:Int)<(A.hs.length:Int)+1:=ω;simp [e,e2,e3,e4]
theorem ow.make (h:ow d A L) (hd:2≤d) (ok:A.Ok) (hl:¬65536<A.hs.length) (hl0:1≤A.hs.length):ow d (aG A) (iE L A.hs.length []):=by
 have hc:(aG A).cs=A.cs:=by unfold aG;rw [if_neg hl]
 have hcc:∀x,(aG A).c x=A.c x:=fun x=>by unfold NS.c;rw [hc]
 have hno:aY A (A.hs.length:Int)=false:=by
  cases hh:aY A (A.hs.length:Int) with
  | false=>rfl
  | true=>have:=(aK _ _).1 hh;omega
 have hcase:∀k:Nat,aY (aG A) k=true→k=A.hs.length∨(k≠A.hs.length∧aY A k=true):=fun k hk=>by
  rw [sZ A hl hl0] at hk
  by_cases e:k=A.hs.length
  ·exact Or.inl e
  ·right;simp [e] at hk;exact ⟨e,hk⟩
 refine ⟨fun k hk=>?_,fun k hk=>?_,fun k x hk=>?_⟩
 ·rcases hcase k hk with rfl|⟨e,hk'⟩
  ·rw [bW];intro j _ hj;simp at hj
  ·rw [bq _ _ e];exact (h.hp k hk').frame (fun a b _ _ hab=>dA.2 ((dJ (hcc a) (hcc b)).2 (dA.1 hab))) hd
 ·rcases hcase k hk with rfl|⟨e,hk'⟩
  ·rw [bW];exact List.nodup_nil
  ·rw [bq _ _ e];exact h.nd k hk'
 ·rw [hc,hcc];rcases hcase k hk with rfl|⟨e,hk'⟩
  ·rw [bW];simp only [List.not_mem_nil,false_iff,not_and];intro hx hi;have:=(ok.nat x hx).2;omega
  ·rw [bq _ _ e];exact h.mem k x hk'
end
structure eX where
 ty:TypeId
 p:Nat
 rd:List Nat
 wr:List Nat
 lt:Nat→Nat→Bool
 dom:Nat→Prop
 at_:World→Prop
 sub:∀x,x∈wr→x∈rd
 low:∀ {w:World},at_ w→∀x,x∈rd→x<w.heap.size
 upd:∀ {w w':World} {S:List Nat},at_ w→aa S w w'→(∀x,x∈S→x∉rd)→at_ w'
 trans:∀a b c,lt a b=true→lt b c=true→lt a c=true
 total:∀a b,a≠b→lt a b=true∨lt b a=true
 asym:∀a b,lt a b=true→lt b a=false
 fn:FuncId
 recv:Value
 PM:Enters fn
 MN:∀ {w:World},at_ w→(method 429 ty (.pointer (some ⟨p,0,none⟩)) "Ahead").run Tryz.prog w=.ok (fn,recv) w
 MJ:∀w:World,(nilAhead 429 ty (.pointer (some ⟨p,0,none⟩)) "Ahead").run Tryz.prog w=.ok (some false) w
 ask:∀ {w:World} (x y:Nat),at_ w→dom x→dom y→Calls Tryz.prog fn #[recv,.int .i64 (x:Int),.int .i64 (y:Int)] w fun e w'=>e=.returned (.bool (lt x y))∧at_ w'∧aa wr w w'
structure eX.On (O:eX) (w0 w:World):Prop where
 at_:O.at_ w
 upd:aa O.wr w0 w
theorem eX.On.start {O:eX} {w:World} (h:O.at_ w):O.On w w:=⟨h,aa.refl _ _⟩
theorem eX.On.drew {O:eX} {w0 w:World} (h:O.On w0 w):O.On w0 w.drew:=⟨O.upd h.at_ ((aa.refl [] w).drew) σ,h.upd.drew⟩
theorem eX.On.drewN {O:eX} {w0 w:World} (h:O.On w0 w) (n:Nat):O.On w0 (w.drewN n):=⟨O.upd h.at_ ((aa.refl [] w).drewN n) σ,h.upd.drewN n⟩
theorem eX.On.asked {O:eX} {w0 w w':World} (h:O.On w0 w) (ha:O.at_ w') (hu:aa O.wr w w'):O.On w0 w':=⟨ha,h.upd.trans hu⟩
def eX.R (O:eX) (a b:Nat):Prop:=O.lt a b=true
theorem eX.tr (O:eX):∀a b c,O.R a b→O.R b c→O.R a c:=O.trans
structure qW (w:World) (rp mb g cap d:Nat) (f:Int→Option Int) (L:List Nat):Prop where
 head:aI w rp 247 3 (fun j=>[Value.int .i64 (d:Int),.slice (some ⟨g,0,none⟩) L.length cap,.map (some mb)].getD j undef)
 row:IZ w g cap (bz L)
 map:dZ w mb f
 sep:rp≠mb∧rp≠g∧mb≠g
theorem bQ (L:List Nat):(bz L).length=L.length:=by unfold bz;simp
theorem pg {L:List Nat} {j:Nat}:(bz L).getD j 0=((L.getD j 0:Nat):Int):=by
 unfold bz;simp only [φ,List.getElem?_map];cases L[j]?<;>rfl
theorem kT (L:List Nat) (i x:Nat):bz (L.set i x)=(bz L).set i (x:Int):=by unfold bz;rw [List.map_set]
section
variable {w:World} {rp mb g cap d:Nat} {f:Int→Option Int} {L:List Nat}
theorem qW.upd {w':World} {S:List Nat} (h:qW w rp mb g cap d f L) (hu:aa S w w') (h1:rp∉S) (h2:mb∉S) (h3:g∉S):qW w' rp mb g cap d f L:=
 ⟨h.head.upd hu h1,h.row.upd hu h3,h.map.upd hu h2,h.sep⟩
theorem qW.aj {w':World} (h:qW w rp mb g cap d f L) (hu:aa [] w w'):qW w' rp mb g cap d f L:=h.upd hu σ σ σ
theorem qW.h0 (h:qW w rp mb g cap d f L):w.cell? ⟨rp,0,none⟩=some (.int .i64 (d:Int)):=h.head.cellAt 0 ω rfl
theorem qW.h1 (h:qW w rp mb g cap d f L):w.cell? ⟨rp,1,none⟩=some (.slice (some ⟨g,0,none⟩) L.length cap):=h.head.cellAt 1 ω rfl
theorem qW.h2 (h:qW w rp mb g cap d f L):w.cell? ⟨rp,2,none⟩=some (.map (some mb)):=h.head.cellAt 2 ω rfl
theorem qW.lt (h:qW w rp mb g cap d f L):rp<w.heap.size∧mb<w.heap.size∧g<w.heap.size:=⟨h.head.lt,h.map.lt,h.row.lt⟩
theorem qW.cell (h:qW w rp mb g cap d f L) (j:Nat) (hj:j<L.length):w.cell? ⟨g,j,none⟩=some (.int .i64 ((L.getD j 0:Nat):Int)):=by
 have:=h.row.cell j (by rw [bQ];exact hj)
 rwa [pg] at this
/-! ### places -/
theorem E5 (d i:Nat) (hd:2≤d∧d≤16) (hi:i≤65536) (w:World) :
  Calls Tryz.prog 165 #[.int .i64 (d:Int),.int .i64 (i:Int)] w fun e w'=>e=.returned (.tuple #[.int .i64 (if i=0 then 0 else (par d i:Int)),.bool (decide (0<i))])∧aa [] w w':=by
 have kf:∀W,Calls Tryz.prog 115 #[.int .i64 (d:Int)] W fun e w'=>e=.returned (.bool true)∧w'=W:=fun W=>by
  have h1:(d:Int)≥2:=ω;have h2:(d:Int)≤16:=ω
  go_enter Tryz.func115,Tryz.ntmps115
  go_wp2;go_ret;exact ⟨rfl,rfl⟩
 by_cases h0:i=0
 ·subst h0
  go_enter Tryz.func165,Tryz.ntmps165
  go_wp2_with (first|(go_at_call 115;(with_reducible refine (kf _).mono ?_);rintro e w9 ⟨rfl,hw9⟩;rw [hw9];clear hw9 w9)|fail)
  go_ret2;exact ⟨rfl,aa.refl _ _⟩
 ·have h1:¬ (i:Int)<1:=ω;have hd0:¬ (d:Int)=0:=ω;rw [if_neg h0,decide_eq_true (ω:0<i)];have hq:((i:Int)-1).tdiv (d:Int)=(par d i:Int):=by
   unfold par;rw [show (i:Int)-1=((i-1:Nat):Int) by omega]
   rfl
  go_enter Tryz.func165,Tryz.ntmps165
  go_wp2_with (first|(go_at_call 115;(with_reducible refine (kf _).mono ?_);rintro e w9 ⟨rfl,hw9⟩;rw [hw9];clear hw9 w9)|fail)
  go_ret2;have hp:=cZ hd.1 (show 0<i by omega)
  rw [IntWalk.wrap64_in _ ω];exact ⟨rfl,aa.refl _ _⟩
theorem G8 (d i k:Nat) (hd:2≤d∧d≤16) (hi:i≤65536) (hk:1≤k∧k≤d) (w:World) :
  Calls Tryz.prog 172 #[.int .i64 (d:Int),.int .i64 (i:Int),.int .i64 (k:Int)] w fun e w'=>e=.returned (.tuple #[.int .i64 ((d*i+k:Nat):Int),.bool true])∧aa [] w w':=by
 have kf:∀W,Calls Tryz.prog 115 #[.int .i64 (d:Int)] W fun e w'=>e=.returned (.bool true)∧w'=W:=fun W=>by
  have h1:(d:Int)≥2:=ω;have h2:(d:Int)≤16:=ω
  go_enter Tryz.func115,Tryz.ntmps115
  go_wp2;go_ret;exact ⟨rfl,rfl⟩
 have h1:¬ (i:Int)<0:=ω;have h2:¬ (i:Int) > 1099511627776:=ω;have h3:¬ (k:Int)<1:=ω;have h4:¬ (k:Int) > (d:Int):=ω;have hm:d*i≤16*65536:=Nat.mul_le_mul hd.2 hi;have hmul:(d:Int)*(i:Int)=((d*i:Nat):Int):=σ;generalize d * i=m at *
 have hw1:wrap64 (m:Int)=(m:Int):=IntWalk.wrap64_in _ ω;have hw2:wrap64 ((m:Int)+(k:Int))=(m:Int)+(k:Int):=IntWalk.wrap64_in _ ω
 go_enter Tryz.func172,Tryz.ntmps172
 go_wp2_with (first|(go_at_call 115;(with_reducible refine (kf _).mono ?_);rintro e w9 ⟨rfl,hw9⟩;rw [hw9];clear hw9 w9)|fail)
 go_ret2;exact ⟨by first|rfl|simp [hmul],aa.refl _ _⟩
theorem oU (h:qW w rp mb g cap d f L) (i x:Nat) (hi:i<L.length) (hx:x≤65536) (hl:L.length≤65536) :
  Calls Tryz.prog 166 #[.pointer (some ⟨rp,0,none⟩),.int .i64 (i:Int),.int .i64 (x:Int)] w fun e w'=>e=.returned (.tuple #[])∧qW w' rp mb g cap d (LV f x i) (L.set i x)∧aa [g,mb] w w':=by
 have c0:=h.h0;have c1:=h.h1;have c2:=h.h2;have hc:=h.row.cap;rw [bQ] at hc;have fg:=h.row.free i;have cg:=h.cell i hi;have hlt:=h.lt;have s:=h.sep;have hu1:aa [g] w (w.setCell ⟨g,i,none⟩ (.int .i64 (x:Int))):=β;have hM1:dZ (w.setCell ⟨g,i,none⟩ (.int .i64 (x:Int))) mb f:=h.map.upd hu1 ζ;have H1:aI (w.setCell ⟨g,i,none⟩ (.int .i64 (x:Int))) rp 247 3 (fun j=>[Value.int .i64 (d:Int),.slice (some ⟨g,0,none⟩) L.length cap,.map (some mb)].getD j undef):=h.head.upd hu1 ζ
 have H2:IZ (w.setCell ⟨g,i,none⟩ (.int .i64 (x:Int))) g cap (bz (L.set i x)):=by rw [kT];exact h.row.set i _
 have HH:=χ (ψ H1 (ψ H2 (ψ s hu1)));have hil:(i:Int)<(L.length:Int):=ω;have e1:rp≠g:=s.2.1;generalize hn:L.length=n at *
 have HN:=χ hn;clear h H1 H2 hu1 hn
 go_enter Tryz.func166,Tryz.ntmps166
 go_wp2_with (first
  | (at_mapUpdate;refine jI rfl _ _ _ rfl mb f rfl hM1 (x:Int) (i:Int) rfl rfl ω ω ?_;intro w2 hm2 hu2)
  | fail)
 go_end0;obtain ⟨H1,H2,s,hu1⟩:=HH.out;refine ⟨rfl,⟨?_,H2.upd hu2 ζ,hm2,s⟩,(hu1.mono σ).trans (hu2.mono σ)⟩;rw [List.length_set,HN.out];exact H1.upd hu2 ζ
end
end Go.Proofs.YtklibcncmbofpaaGreat
