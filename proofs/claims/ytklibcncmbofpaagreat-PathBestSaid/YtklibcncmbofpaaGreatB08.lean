/-
  Lemmas for PathBest: SfP, ShP, DrP, Sf, Sf2, Sd. Conditions: those of each lemma.
-/
import Derived.IntWalk
import Derived.Deep.RegionHeldLaw
import Derived.Test.YtklibcncmbofpaaGreatB05
set_option linter.all false
set_option maxHeartbeats 8000000
set_option maxRecDepth 10000
namespace Go.Proofs.YtklibcncmbofpaaGreat
open Go Go.RowKit
def par (d i:Nat):Nat:=(i-1) / d
theorem fB {d i:Nat} (hd:2<=d) (hi:0<i):par d i<i:=by
 unfold par;have:(i-1) / d<=(i-1) / 2:=Nat.div_le_div_left hd ω;omega
theorem uf {d i j:Nat} (hd:2<=d):(0<j/\par d j=i)↔d*i+1<=j/\j<=d*i+d:=by
 unfold par;have e:d*(i+1)=d*i+d:=by rw [Nat.mul_add,Nat.mul_one]
 constructor
 ·rintro ⟨h0,h⟩;have h1:=Nat.div_mul_le_self (j-1) d;have h2:=Nat.lt_mul_div_succ (j-1) (show 0<d by omega);rw [h] at h1 h2;rw [Nat.mul_comm] at h1;omega
 ·rintro ⟨h1,h2⟩;refine ⟨ω,?_⟩;rw [Nat.div_eq_iff ω];rw [Nat.mul_comm i d];omega
theorem dP (L:List Nat) (i x j:Nat):(L.set i x).getD j 0=if j=i/\i<L.length then x else L.getD j 0:=by
 simp only [φ,List.getElem?_set]
 by_cases h:i=j
 ·subst h
  by_cases h2:i<L.length
  ·simp [h2]
  ·simp [h2]
 ·have h':¬j=i:=fun e=>h e.symm;simp [h,h']
section
variable {R:Nat->Nat->Prop} {d:Nat} {L:List Nat} {i x:Nat}
def Hp (R:Nat->Nat->Prop) (d:Nat) (L:List Nat):Prop:=∀j,0<j->j<L.length->R (L.getD (par d j) 0) (L.getD j 0)
structure fH (R:Nat->Nat->Prop) (d:Nat) (L:List Nat) (i:Nat):Prop where
 lt:i<L.length
 a:∀j,0<j->j<L.length->j≠i->par d j≠i->R (L.getD (par d j) 0) (L.getD j 0)
 b:∀j,0<j->j<L.length->par d j=i->0<i->R (L.getD (par d i) 0) (L.getD j 0)
def Below (R:Nat->Nat->Prop) (d:Nat) (L:List Nat) (i x:Nat):Prop:=∀j,0<j->j<L.length->par d j=i->R x (L.getD j 0)
theorem Hp.hole (ht:∀a b c,R a b->R b c->R a c) (hd:2<=d) (h:Hp R d L) (hi:i<L.length):fH R d L i:=
 ⟨hi,fun j h0 hj _ _=>h j h0 hj,fun j h0 hj hp hi0=>by
  have h1:=h j h0 hj;rw [hp] at h1
  exact ht _ _ _ (h i hi0 hi) h1⟩
theorem fH.fill (hd:2<=d) (h:fH R d L i) (hb:Below R d L i x) (hu:i=0\/R (L.getD (par d i) 0) x):Hp R d (L.set i x):=by
 intro j h0 hj;rw [List.length_set] at hj;have hl:=h.lt;rw [dP,dP]
 by_cases e:j=i
 ·subst e;have hp:=fB hd h0;rw [if_neg ω,if_pos ⟨rfl,hj⟩];rcases hu with hu|hu
  ·omega
  ·exact hu
 ·rw [if_neg (show ¬ (j=i/\i<L.length) by omega)]
  by_cases ep:par d j=i
  ·rw [if_pos ⟨ep,hl⟩];exact hb j h0 hj ep
  ·rw [if_neg (show ¬ (par d j=i/\i<L.length) from fun e=>ep e.1)];exact h.a j h0 hj e ep
theorem fH.up (ht:∀a b c,R a b->R b c->R a c) (hd:2<=d) (h:fH R d L i) (h0:0<i) (hx:R x (L.getD (par d i) 0)) :
  fH R d (L.set i (L.getD (par d i) 0)) (par d i)/\Below R d (L.set i (L.getD (par d i) 0)) (par d i) x:=by
 have hp:=fB hd h0;have hl:=h.lt;have R7:∀j,0<j->par d j=par d i->par d j≠i:=fun j hj e=>ω;refine ⟨⟨by rw [List.length_set];omega,fun j j0 hj hji hjp=>?_,fun j j0 hj hjp hp0=>?_⟩,fun j j0 hj hjp=>?_⟩
 ·rw [List.length_set] at hj;have e:j≠i:=fun e=>hjp (by rw [e]);rw [dP,dP,if_neg (show ¬ (j=i/\i<L.length) by omega)]
  by_cases ep:par d j=i
  ·rw [if_pos ⟨ep,hl⟩];exact h.b j j0 hj ep h0
  ·rw [if_neg (show ¬ (par d j=i/\i<L.length) from fun e=>ep e.1)];exact h.a j j0 hj e ep
 ·rw [List.length_set] at hj;have hp2:=fB hd hp0;rw [dP,dP,if_neg (show ¬ (par d (par d i)=i/\i<L.length) by omega)];have h1:=h.a (par d i) hp0 ω ω ω
  by_cases e:j=i
  ·rw [if_pos ⟨e,hl⟩];exact h1
  ·rw [if_neg (show ¬ (j=i/\i<L.length) by omega)];have h2:=h.a j j0 hj e ω;rw [hjp] at h2;exact ht _ _ _ h1 h2
 ·rw [List.length_set] at hj;rw [dP]
  by_cases e:j=i
  ·rw [if_pos ⟨e,hl⟩];exact hx
  ·rw [if_neg (show ¬ (j=i/\i<L.length) by omega)];have h2:=h.a j j0 hj e ω;rw [hjp] at h2;exact ht _ _ _ hx h2
structure qP (R:Nat->Nat->Prop) (d:Nat) (L:List Nat) (i c:Nat):Prop where
 c0:0<c
 lt:c<L.length
 pc:par d c=i
 all:∀j,0<j->j<L.length->par d j=i->j≠c->R (L.getD c 0) (L.getD j 0)
theorem fH.down (ht:∀a b c,R a b->R b c->R a c) (hd:2<=d) (h:fH R d L i) {c:Nat} (hc:qP R d L i c) (hx:R (L.getD c 0) x) :
  fH R d (L.set i (L.getD c 0)) c/\R ((L.set i (L.getD c 0)).getD (par d c) 0) x:=by
 have hl:=h.lt;have hci:i<c:=by have:=fB hd hc.c0;have:=hc.pc;omega
 refine ⟨⟨by rw [List.length_set];exact hc.lt,fun j j0 hj hjc hjp=>?_,fun j j0 hj hjp _=>?_⟩,?_⟩
 ·rw [List.length_set] at hj;rw [dP,dP]
  by_cases e:j=i
  ·subst e;have:=fB hd j0;rw [if_neg (show ¬ (par d j=j/\j<L.length) by omega),if_pos ⟨rfl,hl⟩];exact h.b c hc.c0 hc.lt hc.pc j0
  ·rw [if_neg (show ¬ (j=i/\i<L.length) by omega)]
   by_cases ep:par d j=i
   ·rw [if_pos ⟨ep,hl⟩];exact hc.all j j0 hj ep hjc
   ·rw [if_neg (show ¬ (par d j=i/\i<L.length) from fun e=>ep e.1)];exact h.a j j0 hj e ep
 ·rw [List.length_set] at hj;have hpj:=fB hd j0;rw [hc.pc,dP,dP,if_pos ⟨rfl,hl⟩,if_neg (show ¬ (j=i/\i<L.length) by omega)];have h2:=h.a j j0 hj ω ω;rw [hjp] at h2;exact h2
 ·rw [hc.pc,dP,if_pos ⟨rfl,hl⟩];exact hx
theorem Hp.first (ht:∀a b c,R a b->R b c->R a c) (hd:2<=d) (h:Hp R d L):∀ (k j:Nat),j<=k->j<L.length->j=0\/R (L.getD 0 0) (L.getD j 0)
 | 0,j,hk,_=>Or.inl ω
 | k+1,j,hk,hj=>by
  by_cases j0:j=0
  ·exact Or.inl j0
  ·right;have hp:=fB (i:=j) hd ω;have h1:=h j ω hj;rcases Hp.first ht hd h k (par d j) ω ω with e|e
   ·rw [e] at h1;exact h1
   ·exact ht _ _ _ e h1
theorem Hp.frame {R':Nat->Nat->Prop} (h:Hp R d L) (hR:∀a b,a∈L->b∈L->R a b->R' a b) (hd:2<=d):Hp R' d L:=fun j h0 hj=>by
 have hp:=fB hd h0;have hm:∀q,q<L.length->L.getD q 0∈L:=fun q hq=>by
  rw [φ,ε hq];exact List.getElem_mem hq
 exact hR _ _ (hm _ ω) (hm _ hj) (h j h0 hj)
theorem fH.frame {R':Nat->Nat->Prop} (h:fH R d L i) (hR:∀a b,a∈L.eraseIdx i->b∈L.eraseIdx i->R a b->R' a b) (hd:2<=d):fH R' d L i:=by
 have hm:∀q,q<L.length->q≠i->L.getD q 0∈L.eraseIdx i:=fun q hq hne=>by
  rw [φ,ε hq,List.mem_eraseIdx_iff_getElem?];exact ⟨q,hne,by simp [ε hq]⟩
 refine ⟨h.lt,fun j h0 hj hji hp=>?_,fun j h0 hj hp hi0=>?_⟩
 ·have:=fB hd h0;exact hR _ _ (hm _ ω hp) (hm _ hj hji) (h.a j h0 hj hji hp)
 ·have h1:=fB hd h0;have h2:=fB hd hi0;have:=h.lt;exact hR _ _ (hm _ ω ω) (hm _ hj ω) (h.b j h0 hj hp hi0)
end
def vI (f:Int->Option Int) (L:List Nat):Prop:=∀z v,f z=some v↔∃ (y j:Nat),z=y/\v=j/\L[j]?=some y
def mZ (f:Int->Option Int) (L:List Nat) (i x:Nat):Prop:=∀z v,z≠(x:Int)->(f z=some v↔∃ (y j:Nat),z=y/\v=j/\j≠i/\L[j]?=some y)
def Sj (f:Int->Option Int) (k z:Int):Int->Option Int:=fun q=>if q=k then some z else f q
theorem mZ.fill {f:Int->Option Int} {L:List Nat} {i x:Nat} (h:mZ f L i x) (hi:i<L.length) (hn:(L.set i x).Nodup):vI (Sj f x i) (L.set i x):=by
 intro z v;unfold Sj
 by_cases hz:z=(x:Int)
 ·rw [if_pos hz];constructor
  ·intro e;cases e;exact ⟨x,i,hz,rfl,by simp [hi]⟩
  ·rintro ⟨y,j,rfl,rfl,hj⟩;have e:y=x:=ω;subst e;have h1:(L.set i y)[i]?=some y:=by simp [hi]
   obtain ⟨g1,e1⟩:=List.getElem?_eq_some_iff.1 hj;obtain ⟨g2,e2⟩:=List.getElem?_eq_some_iff.1 h1;have:j=i:=(List.getElem_inj hn).1 (e1.trans e2.symm);rw [this]
 ·rw [if_neg hz,h z v hz];constructor
  ·rintro ⟨y,j,rfl,rfl,hj,hg⟩;exact ⟨y,j,rfl,rfl,by rw [List.getElem?_set_ne (fun e=>hj e.symm)];exact hg⟩
  ·rintro ⟨y,j,rfl,rfl,hg⟩
   by_cases e:j=i
   ·subst e;rw [List.getElem?_set_self hi] at hg;cases hg;exact absurd rfl hz
   ·rw [List.getElem?_set_ne (fun e'=>e e'.symm)] at hg;exact ⟨y,j,rfl,rfl,e,hg⟩
theorem mZ.move {f:Int->Option Int} {L:List Nat} {i p x:Nat} (h:mZ f L i x) (hi:i<L.length) (hp:p<L.length) (hpi:p≠i) (hn:(L.set i x).Nodup):mZ (Sj f (L.getD p 0) i) (L.set i (L.getD p 0)) p x:=by
 intro z v hz;have Pz:L[p]?=some (L.getD p 0):=by simp [φ,hp]
 have huni:∀j,j≠i->L[j]?=some (L.getD p 0)->j=p:=fun j hj hg=>by
  have h1:(L.set i x)[j]?=some (L.getD p 0):=by rw [List.getElem?_set_ne (fun e=>hj e.symm)];exact hg
  have h2:(L.set i x)[p]?=some (L.getD p 0):=by rw [List.getElem?_set_ne (fun e=>hpi e.symm)];exact Pz
  obtain ⟨g1,e1⟩:=List.getElem?_eq_some_iff.1 h1;obtain ⟨g2,e2⟩:=List.getElem?_eq_some_iff.1 h2;exact (List.getElem_inj hn).1 (e1.trans e2.symm)
 generalize hy:L.getD p 0=y at *;unfold Sj
 by_cases e:z=(y:Int)
 ·rw [if_pos e];constructor
  ·intro e2;cases e2;exact ⟨y,i,e,rfl,fun e=>hpi e.symm,by simp [hi]⟩
  ·rintro ⟨y',j,e1,rfl,hj,hg⟩;have:y'=y:=ω;subst this
   by_cases hji:j=i
   ·rw [hji]
   ·rw [List.getElem?_set_ne (fun e'=>hji e'.symm)] at hg;exact absurd (huni j hji hg) hj
 ·rw [if_neg e,h z v hz];constructor
  ·rintro ⟨y',j,rfl,rfl,hj,hg⟩;refine ⟨y',j,rfl,rfl,?_,by rw [List.getElem?_set_ne (fun e'=>hj e'.symm)];exact hg⟩;rintro rfl;rw [Pz] at hg;cases hg;exact e rfl
  ·rintro ⟨y',j,rfl,rfl,hj,hg⟩
   by_cases hji:j=i
   ·subst hji;rw [List.getElem?_set_self hi] at hg;cases hg;exact absurd rfl e
   ·rw [List.getElem?_set_ne (fun e'=>hji e'.symm)] at hg;exact ⟨y',j,rfl,rfl,hji,hg⟩
theorem vI.hole {f:Int->Option Int} {L:List Nat} {i x:Nat} (h:vI f L) (hx:L[i]?=some x):mZ f L i x:=fun z v hz=>by
 rw [h z v];constructor
 ·rintro ⟨y,j,rfl,rfl,hg⟩;refine ⟨y,j,rfl,rfl,?_,hg⟩;rintro rfl;rw [hx] at hg;cases hg;exact hz rfl
 ·rintro ⟨y,j,h1,h2,_,h3⟩;exact ⟨y,j,h1,h2,h3⟩
theorem xJ {L:List Nat} {i p x:Nat} (hi:i<L.length) (hp:p<L.length) (hpi:p≠i):((L.set i (L.getD p 0)).set p x).Perm (L.set i x):=by
 have h:=@List.set_set_perm _ (L.set i x) i p (by simpa using hi) (by simpa using hp);have e1:(L.set i x)[p]'(by simpa using hp)=L.getD p 0:=by
  rw [List.getElem_set_ne (fun e=>hpi e.symm)];simp [φ,hp]
 have e2:(L.set i x)[i]'(by simpa using hi)=x:=σ;rw [e1,e2,List.set_set] at h;exact h
def gW (L:List Nat) (i j:Nat):List Nat:=(L.set i (L.getD j 0)).set j (L.getD i 0)
theorem lq (L:List Nat) (i j:Nat):(gW L i j).length=L.length:=by unfold gW;simp
theorem l9 {L:List Nat} {i j:Nat} (hi:i<L.length) (hj:j<L.length) (k:Nat):(gW L i j).getD k 0=if k=j then L.getD i 0 else if k=i then L.getD j 0 else L.getD k 0:=by
 unfold gW;rw [dP,dP]
 by_cases h1:k=j
 ·rw [if_pos ⟨h1,by simpa using hj⟩,if_pos h1]
 ·rw [if_neg (fun e=>h1 e.1),if_neg h1]
  by_cases h2:k=i
  ·rw [if_pos ⟨h2,hi⟩,if_pos h2]
  ·rw [if_neg (fun e=>h2 e.1),if_neg h2]
theorem KF {L:List Nat} {i j:Nat} (hi:i<L.length) (hj:j<L.length):gW L i j=gW L j i:=by
 apply List.ext_getElem
 ·rw [lq,lq]
 ·intro k h1 h2;have a:=l9 hi hj k;have b:=l9 hj hi k;rw [φ,ε h1] at a;rw [φ,ε h2] at b;simp only [Option.getD_some] at a b;rw [a,b]
  by_cases e1:k=j
  ·by_cases e2:k=i
   ·rw [if_pos e1,if_pos e2,←e1,←e2]
   ·rw [if_pos e1,if_neg e2,if_pos e1]
  ·by_cases e2:k=i
   ·rw [if_neg e1,if_pos e2,if_pos e2]
   ·rw [if_neg e1,if_neg e2,if_neg e2,if_neg e1]
theorem vz {L:List Nat} {i j:Nat} (hi:i<L.length) (hj:j<L.length) (hne:i≠j):(gW L i j).Perm L:=by
 have h:=xJ (L:=L) (i:=i) (p:=j) (x:=L.getD i 0) hi hj (fun e=>hne e.symm);have e:L.set i (L.getD i 0)=L:=by
  rw [φ,ε hi];simp
 rw [e] at h;exact h
section
variable {R:Nat->Nat->Prop} {L:List Nat} {i:Nat}
theorem fH.any {d:Nat} (hd:2<=d) (h:fH R d L i) (y:Nat):fH R d (L.set i y) i:=by
 have g:∀k,k≠i->(L.set i y).getD k 0=L.getD k 0:=fun k hk=>by rw [dP,if_neg (fun e=>hk e.1)]
 refine ⟨by rw [List.length_set];exact h.lt,fun j j0 hj hji hp=>?_,fun j j0 hj hp hi0=>?_⟩
 ·rw [List.length_set] at hj;rw [g _ hji,g _ hp];exact h.a j j0 hj hji hp
 ·rw [List.length_set] at hj;have h1:=fB hd j0;have h2:=fB hd hi0;rw [g _ ω,g _ ω];exact h.b j j0 hj hp hi0
theorem Below.any {d x:Nat} (hd:2<=d) (h:Below R d L i x) (y:Nat):Below R d (L.set i y) i x:=fun j j0 hj hp=>by
 rw [List.length_set] at hj;have h1:=fB hd j0;rw [dP,if_neg (show ¬ (j=i/\i<L.length) by omega)];exact h j j0 hj hp
theorem fH.done {d:Nat} (hd:2<=d) (h:fH R d L i) (hb:Below R d L i (L.getD i 0)) (hu:i=0\/R (L.getD (par d i) 0) (L.getD i 0)):Hp R d L:=by
 have h1:=h.fill hd hb hu;have e:L.set i (L.getD i 0)=L:=by
  have:=h.lt;rw [φ,ε this];simp
 rwa [e] at h1
theorem fH.XY (ht:∀a b c,R a b->R b c->R a c) (h:fH R 2 L i) (h0:0<i) (hx:R (L.getD i 0) (L.getD (par 2 i) 0)) :
  fH R 2 (gW L (par 2 i) i) (par 2 i)/\Below R 2 (gW L (par 2 i) i) (par 2 i) ((gW L (par 2 i) i).getD (par 2 i) 0):=by
 have hp:=fB (d:=2) ω h0;have hl:=h.lt;obtain ⟨h1,h2⟩:=h.up ht ω h0 hx;rw [l9 ω hl,if_neg ω,if_pos rfl,KF ω hl];exact ⟨h1.any ω _,h2.any ω _⟩
theorem fH.Bb (ht:∀a b c,R a b->R b c->R a c) (h:fH R 2 L i) {c:Nat} (hc:qP R 2 L i c) (hx:R (L.getD c 0) (L.getD i 0)) :
  fH R 2 (gW L i c) c/\R ((gW L i c).getD (par 2 c) 0) ((gW L i c).getD c 0):=by
 have hl:=h.lt;have hcl:=hc.lt;have hci:i<c:=by have:=fB (d:=2) ω hc.c0;have:=hc.pc;omega
 obtain ⟨h1,h2⟩:=h.down ht ω hc hx;refine ⟨h1.any ω _,?_⟩;rw [l9 hl hcl,l9 hl hcl,if_pos rfl,hc.pc,if_neg ω,if_pos rfl];exact hx
theorem MK {n:Nat} (hn:L.length=n) (h1:2*i+1<n):(2*i+2<n->¬R (L.getD (2*i+2) 0) (L.getD (2*i+1) 0)->R (L.getD (2*i+1) 0) (L.getD (2*i+2) 0))->
  ((¬ (2*i+2<n/\R (L.getD (2*i+2) 0) (L.getD (2*i+1) 0)))->qP R 2 L i (2*i+1))/\(2*i+2<n/\R (L.getD (2*i+2) 0) (L.getD (2*i+1) 0)->qP R 2 L i (2*i+2)):=by
 intro ht;have hk:∀j,0<j->par 2 j=i->j=2*i+1\/j=2*i+2:=fun j j0 hj=>by
  have:=(uf (d:=2) (i:=i) (j:=j) ω).1 ⟨j0,hj⟩;omega
 have p1:=(uf (d:=2) (i:=i) (j:=2*i+1) ω).2 ω;have p2:=(uf (d:=2) (i:=i) (j:=2*i+2) ω).2 ω;constructor
 ·intro h;refine ⟨ω,ω,p1.2,fun j j0 hj hp hne=>?_⟩;rcases hk j j0 hp with e|e
  ·exact absurd e hne
  ·subst e;exact ht ω (fun hr=>h ⟨ω,hr⟩)
 ·rintro ⟨h,hr⟩;refine ⟨ω,ω,p2.2,fun j j0 hj hp hne=>?_⟩;rcases hk j j0 hp with e|e
  ·subst e;exact hr
  ·exact absurd e hne
theorem oL {d x c:Nat} (ht:∀a b c,R a b->R b c->R a c) (hc:qP R d L i c) (hx:R x (L.getD c 0)):Below R d L i x:=fun j j0 hj hp=>by
 by_cases e:j=c
 ·rw [e];exact hx
 ·exact ht _ _ _ hx (hc.all j j0 hj hp e)
theorem zS {d x:Nat} (hd:2<=d) (h:L.length<=d*i+1):Below R d L i x:=fun j j0 hj hp=>by
 have:=(uf hd).1 ⟨j0,hp⟩;omega
theorem Hp.take {d n:Nat} (h:Hp R d L) (hd:2<=d):Hp R d (L.take n):=fun j j0 hj=>by
 simp only [List.length_take] at hj;have hp:=fB hd j0;have g:∀k,k<n->(L.take n).getD k 0=L.getD k 0:=fun k hk=>by simp [φ,List.getElem?_take,hk]
 rw [g _ ω,g _ ω];exact h j j0 ω
theorem Hp.snoc {d x:Nat} (h:Hp R d L) (ht:∀a b c,R a b->R b c->R a c) (hd:2<=d):fH R d (L++[x]) L.length/\Below R d (L++[x]) L.length x:=by
 have g:∀k,k<L.length->(L++[x]).getD k 0=L.getD k 0:=fun k hk=>by simp [φ,List.getElem?_append_left,hk]
 have hno:∀j,0<j->j<(L++[x]).length->par d j=L.length->False:=fun j j0 hj hp=>by
  simp at hj;have:=fB hd j0;omega
 refine ⟨⟨σ,fun j j0 hj hji hp=>?_,fun j j0 hj hp _=>(hno j j0 hj hp).elim⟩,fun j j0 hj hp=>(hno j j0 hj hp).elim⟩;simp at hj;have:=fB hd j0;rw [g _ ω,g _ ω];exact h j j0 ω
end
def oI (A:NS) (a b:Nat):Prop:=decide (cZ A a b)=true
theorem fC {A:NS} {a b:Nat}:oI A a b↔cZ A a b:=by unfold oI;simp
theorem iU (A:NS):∀a b c,oI A a b->oI A b c->oI A a c:=fun a b c h1 h2=>fC.2 (cz (fC.1 h1) (fC.1 h2))
structure rE (d:Nat) (A:NS) (L:Nat->List Nat):Prop where
 hp:∀h:Nat,bK A h=true->Hp (oI A) d (L h)
 nd:∀h:Nat,bK A h=true->(L h).Nodup
 mem:∀h x:Nat,bK A h=true->(x∈L h↔x<A.cs.length/\(A.c x).i=h)
section
variable {d:Nat} {A:NS} {L:Nat->List Nat}
theorem rE.frame {A':NS} {l:List Nat} (h:Hp (oI A) d l) (hd:2<=d) (hs:∀y,y∈l->A'.c y=A.c y):Hp (oI A') d l:=
 h.frame (fun a b ha hb hab=>fC.2 ((fP (hs a ha) (hs b hb)).2 (fC.1 hab))) hd
theorem rE.len (h:rE d A L) {g x:Nat} (hg:bK A g=true) (hx:x∈L g):x<A.cs.length/\bX A (x:Int)=true/\(A.c x).i=g:=by
 have h1:=(h.mem g x hg).1 hx;have h2:=(aT _ _).1 hg;exact ⟨h1.1,(ai _ _).2 ⟨h1.1,ω⟩,h1.2⟩
theorem rE.many (h:rE d A L) {g:Nat} (hg:bK A g=true):(L g).length<=A.cs.length:=by
 have h1:=nodup_range A.cs.length ((L g).map (fun (x:Nat)=>(x:Int))) (by
  have hn:=h.nd g hg;unfold List.Nodup at hn ⊢;rw [List.pairwise_map];exact hn.imp (fun h e=>h ω)) (fun x hx=>by
  obtain ⟨y,hy,rfl⟩:=List.mem_map.1 hx
  have:=(h.mem g y hg).1 hy;omega)
 simpa using h1
theorem rE.first (h:rE d A L) (hd:2<=d) {g m:Nat} {l:List Nat} (hg:bK A g=true) (hl:L g=m::l):dW A g=some m:=by
 have h0:=(aT _ _).1 hg;have hm:=(h.mem g m hg).1 (by rw [hl];simp);refine (iZ ω).2 ⟨hm.1,hm.2,fun y hy hyi=>?_⟩;have hym:=(h.mem g y hg).2 ⟨hy,hyi⟩;have hH:=h.hp g hg;rw [hl] at hym hH;obtain ⟨j,hj,e⟩:=List.mem_iff_getElem.1 hym;rcases Hp.first (iU A) hd hH j j (Nat.le_refl _) hj with e2|e2
 ·subst e2;left;rw [←e];rfl
 ·right;have e3:(m::l).getD j 0=y:=by rw [φ,ε hj,e];rfl
  rw [e3] at e2;exact fC.1 e2
theorem rE.none (h:rE d A L) {g:Nat} (hg:bK A g=true) (hl:L g=[]):dW A g=none:=by
 refine (jT (by have:=(aT _ _).1 hg;omega)).2 ?_;rcases Nat.eq_zero_or_pos (dZ A (g:Int)) with e|e
 ·exact e
 ·obtain ⟨x,hx,hi,_⟩:=fM.1 e;have:=(h.mem g x hg).2 ⟨hx,hi⟩;rw [hl] at this;cases this
theorem rE.UT (h:rE d A L) {g:Int} {m:Nat} (hm:dW A g=some m) (ok:A.Ok):∃q:Nat,g=q/\bK A q=true/\m∈L q:=by
 have hpos:0<g:=by
  rcases Int.lt_or_le 0 g with h|h
  ·exact h
  ·rw [qa ω] at hm;cases hm
 have h1:=(iZ hpos).1 hm;have h2:=ok.nat m h1.1;obtain ⟨q,rfl⟩:∃q:Nat,g=q:=⟨g.toNat,ω⟩;have hin:bX A (m:Int)=true:=(ai _ _).2 ⟨h1.1,by rw [h1.2.1];exact hpos⟩;have hh:=jf ok hin;rw [π,h1.2.1] at hh;exact ⟨q,rfl,hh,(h.mem q m hh).2 ⟨h1.1,h1.2.1⟩⟩
theorem rE.next {A':NS} {g:Nat} {l:List Nat} (h:rE d A L) (hd:2<=d) (hh:∀k:Nat,bK A' k=bK A k) (hc:A'.cs.length=A.cs.length)
  (k1:∀k:Nat,k≠g->∀x,x<A.cs.length->1<=k->((A'.c x).i=k↔(A.c x).i=k)) (k2:∀x,(A.c x).i≠g->(A'.c x).i≠g->A'.c x=A.c x)
  (n1:Hp (oI A') d l) (n2:l.Nodup) (n3:bK A g=true->∀x,x∈l↔x<A.cs.length/\(A'.c x).i=g):rE d A' (j3 L g l):=by
 refine ⟨fun k hk=>?_,fun k hk=>?_,fun k x hk=>?_⟩
 all_goals rw [hh] at hk
 ·by_cases e:k=g
  ·subst e;rw [dX];exact n1
  ·rw [bQ _ _ e];refine rE.frame (h.hp k hk) hd (fun y hy=>?_);have hy2:=(h.mem k y hk).1 hy;have hk0:=(aT _ _).1 hk;exact k2 y ω (by rw [(k1 k e y hy2.1 ω).2 hy2.2];omega)
 ·by_cases e:k=g
  ·subst e;rw [dX];exact n2
  ·rw [bQ _ _ e];exact h.nd k hk
 ·rw [hc]
  by_cases e:k=g
  ·subst e;rw [dX];exact n3 hk x
  ·rw [bQ _ _ e,h.mem k x hk];have hk0:=(aT _ _).1 hk;constructor
   ·rintro ⟨a,b⟩;exact ⟨a,(k1 k e x a ω).2 b⟩
   ·rintro ⟨a,b⟩;exact ⟨a,(k1 k e x a ω).1 b⟩
theorem rE.put (h:rE d A L) (hd:2<=d) (ok:A.Ok) {g x:Nat} {k s:Int} (hB:oF A g x=true) {l:List Nat} (hp:l.Perm (x::L g)) (hH:Hp (oI (aN A g x k s)) d l):rE d (aN A g x k s) (j3 L g l)/\x∉L g:=by
 obtain ⟨b1,b2,b3⟩:=(fE _ _ _).1 hB;have hx:x<A.cs.length:=by have:=(ic _ _).1 b2;omega
 have h0:(A.c x).i=0:=by
  have:=(ok.nat x hx).1;have h3:¬ (0<(A.c x).i):=fun h'=>by rw [(ai A x).2 ⟨hx,h'⟩] at b3;cases b3
  omega
 have hg0:=(aT _ _).1 b1;have hc:∀y,(aN A g x k s).c y=if y=x then ⟨g,k,s⟩ else A.c y:=fun y=>by
  unfold aN;rw [if_pos hB,π,kV]
  by_cases e:y=x
  ·rw [if_pos ⟨e,hx⟩,if_pos e]
  ·rw [if_neg (fun h=>e h.1),if_neg e]
 have hxL:x∉L g:=fun hm=>by have:=(h.mem g x b1).1 hm;omega
 refine ⟨h.next hd (fun q=>by unfold aN;rw [if_pos hB];rfl) (by unfold aN;rw [if_pos hB,fO]) (fun q hq y hy hq1=>?_) (fun y hy1 hy2=>?_) hH (hp.nodup_iff.2 (List.nodup_cons.2 ⟨hxL,h.nd g b1⟩)) (fun _ y=>?_),hxL⟩
 ·rw [hc]
  by_cases e:y=x
  ·rw [if_pos e,e];simp only;omega
  ·rw [if_neg e]
 ·rw [hc] at hy2 ⊢
  by_cases e:y=x
  ·rw [if_pos e] at hy2;exact absurd rfl hy2
  ·rw [if_neg e]
 ·rw [hp.mem_iff,ρ,h.mem g y b1,hc]
  by_cases e:y=x
  ·rw [if_pos e,e];simp [hx]
  ·rw [if_neg e];simp [e]
theorem rE.low (h:rE d A L) (hd:2<=d) {g x:Nat} {k s:Int} (hB:jo A x k s=true) (hg:bK A g=true) (hx:x∈L g) {l:List Nat} (hp:l.Perm (L g)) (hH:Hp (oI (aB A x k s)) d l):rE d (aB A x k s) (j3 L g l):=by
 have hm:=(h.mem g x hg).1 hx;have hc:=rA hB hm.1;have hi:=iR hB hm.1;refine h.next hd (fun q=>by unfold bK;rw [lN]) (fJ _ _ _ _) (fun q hq y hy hq1=>by rw [hi]) (fun y hy1 hy2=>?_) hH (hp.nodup_iff.2 (h.nd g hg)) (fun _ y=>by rw [hp.mem_iff,h.mem g y hg,hi]);rw [hc,if_neg (fun e=>hy1 (by rw [e];exact hm.2))]
theorem rE.drop (h:rE d A L) (hd:2<=d) {g x:Nat} (hg:bK A g=true) (hx:x∈L g) {l:List Nat} (hp:(x::l).Perm (L g)) (hH:Hp (oI A) d l):rE d (bz A x) (j3 L g l):=by
 have hm:=(h.mem g x hg).1 hx;have hg0:=(aT _ _).1 hg;have hin:bX A (x:Int)=true:=(ai A x).2 ⟨hm.1,ω⟩;have hc:=xR hin;have hnd:(x::l).Nodup:=hp.nodup_iff.2 (h.nd g hg);have hxt:x∉l:=(List.nodup_cons.1 hnd).1;have hcy:∀y,y≠x->(bz A x).c y=A.c y:=fun y hy=>by rw [hc,if_neg hy]
 refine h.next hd (fun q=>by unfold bK;rw [je]) (fT _ _) (fun q hq y hy hq1=>?_) (fun y hy1 hy2=>hcy y (fun e=>hy1 (by rw [e];exact hm.2))) (rE.frame hH hd (fun y hy=>hcy y (fun e=>hxt (by rw [←e];exact hy)))) (List.nodup_cons.1 hnd).2 (fun _ y=>?_)
 ·rw [hc]
  by_cases e:y=x
  ·rw [if_pos e,e];show (0:Int)=(q:Int)↔_;omega
  ·rw [if_neg e]
 ·have e1:=hp.mem_iff (a:=y);rw [ρ,h.mem g y hg] at e1;rw [hc]
  by_cases e:y=x
  ·rw [if_pos e,e];refine ⟨fun hh=>absurd hh hxt,fun hh=>?_⟩;have:(0:Int)=(g:Int):=hh.2;omega
  ·rw [if_neg e,←e1];simp [e]
theorem vW (A:NS) (hl:¬65536<A.hs.length) (hl0:1<=A.hs.length) (k:Nat):bK (aQ A) k=(bK A k || k == A.hs.length):=by
 unfold aQ bK;rw [if_neg hl];simp only [υ,List.length_singleton,π,φ]
 by_cases e:k=A.hs.length
 ·subst e;simp;omega
 ·by_cases e2:k<A.hs.length
  ·rw [List.getElem?_append_left e2];have e3:(k:Int)<(A.hs.length:Int):=ω;have e4:(k:Int)<(A.hs.length:Int)+1:=ω;simp [e,e2,e3,e4]
  ·have e3:¬ (k:Int)<(A.hs.length:Int):=ω;have e4:¬ (k:Int)<(A.hs.length:Int)+1:=ω;simp [e,e2,e3,e4]
theorem rE.make (h:rE d A L) (hd:2<=d) (ok:A.Ok) (hl:¬65536<A.hs.length) (hl0:1<=A.hs.length):rE d (aQ A) (j3 L A.hs.length []):=by
 have hc:(aQ A).cs=A.cs:=by unfold aQ;rw [if_neg hl]
 have hcc:∀x,(aQ A).c x=A.c x:=fun x=>by unfold NS.c;rw [hc]
 have hno:bK A (A.hs.length:Int)=false:=by
  cases hh:bK A (A.hs.length:Int) with
  | false=>rfl
  | true=>have:=(aT _ _).1 hh;omega
 have hcase:∀k:Nat,bK (aQ A) k=true->k=A.hs.length\/(k≠A.hs.length/\bK A k=true):=fun k hk=>by
  rw [vW A hl hl0] at hk
  by_cases e:k=A.hs.length
  ·exact Or.inl e
  ·right;simp [e] at hk;exact ⟨e,hk⟩
 refine ⟨fun k hk=>?_,fun k hk=>?_,fun k x hk=>?_⟩
 ·rcases hcase k hk with rfl|⟨e,hk'⟩
  ·rw [dX];intro j _ hj;simp at hj
  ·rw [bQ _ _ e];exact (h.hp k hk').frame (fun a b _ _ hab=>fC.2 ((fP (hcc a) (hcc b)).2 (fC.1 hab))) hd
 ·rcases hcase k hk with rfl|⟨e,hk'⟩
  ·rw [dX];exact List.nodup_nil
  ·rw [bQ _ _ e];exact h.nd k hk'
 ·rw [hc,hcc];rcases hcase k hk with rfl|⟨e,hk'⟩
  ·rw [dX];simp only [ς,false_iff,not_and];intro hx hi;have:=(ok.nat x hx).2;omega
  ·rw [bQ _ _ e];exact h.mem k x hk'
end
structure ik where
 ty:TypeId
 p:Nat
 rd:List Nat
 wr:List Nat
 lt:Nat->Nat->Bool
 dom:Nat->Prop
 at_:World->Prop
 sub:∀x,x∈wr->x∈rd
 low:∀ {w:World},at_ w->∀x,x∈rd->x<w.heap.size
 upd:∀ {w w':World} {S:List Nat},at_ w->aa S w w'->(∀x,x∈S->x∉rd)->at_ w'
 trans:∀a b c,lt a b=true->lt b c=true->lt a c=true
 total:∀a b,a≠b->lt a b=true\/lt b a=true
 asym:∀a b,lt a b=true->lt b a=false
 fn:FuncId
 recv:Value
 ent:Enters fn
 VE:∀ {w:World},at_ w->(method 429 ty (.pointer (some ⟨p,0,none⟩)) "Ahead").run Tryz.prog w=.ok (fn,recv) w
 VN:∀w:World,(nilAhead 429 ty (.pointer (some ⟨p,0,none⟩)) "Ahead").run Tryz.prog w=.ok (some false) w
 ask:∀ {w:World} (x y:Nat),at_ w->dom x->dom y->Calls Tryz.prog fn #[recv,.int .i64 (x:Int),.int .i64 (y:Int)] w fun e w'=>e=.returned (.bool (lt x y))/\at_ w'/\aa wr w w'
structure ik.On (O:ik) (w0 w:World):Prop where
 at_:O.at_ w
 upd:aa O.wr w0 w
theorem ik.On.start {O:ik} {w:World} (h:O.at_ w):O.On w w:=⟨h,aa.refl _ _⟩
theorem ik.On.drew {O:ik} {w0 w:World} (h:O.On w0 w):O.On w0 w.drew:=⟨O.upd h.at_ ((aa.refl [] w).drew) σ,h.upd.drew⟩
theorem ik.On.drewN {O:ik} {w0 w:World} (h:O.On w0 w) (n:Nat):O.On w0 (w.drewN n):=⟨O.upd h.at_ ((aa.refl [] w).drewN n) σ,h.upd.drewN n⟩
theorem ik.On.asked {O:ik} {w0 w w':World} (h:O.On w0 w) (ha:O.at_ w') (hu:aa O.wr w w'):O.On w0 w':=⟨ha,h.upd.trans hu⟩
def ik.R (O:ik) (a b:Nat):Prop:=O.lt a b=true
theorem ik.tr (O:ik):∀a b c,O.R a b->O.R b c->O.R a c:=O.trans
structure uV (w:World) (rp mb g cap d:Nat) (f:Int->Option Int) (L:List Nat):Prop where
 head:aO w rp 247 3 (fun j=>[Value.int .i64 (d:Int),.slice (some ⟨g,0,none⟩) L.length cap,.map (some mb)].getD j undef)
 row:IZ w g cap (bJ L)
 map:gN w mb f
 sep:rp≠mb/\rp≠g/\mb≠g
theorem dI (L:List Nat):(bJ L).length=L.length:=by unfold bJ;simp
theorem rX {L:List Nat} {j:Nat}:(bJ L).getD j 0=((L.getD j 0:Nat):Int):=by
 unfold bJ;simp only [φ,List.getElem?_map];cases L[j]?<;>rfl
theorem nK (L:List Nat) (i x:Nat):bJ (L.set i x)=(bJ L).set i (x:Int):=by unfold bJ;rw [List.map_set]
section
variable {w:World} {rp mb g cap d:Nat} {f:Int->Option Int} {L:List Nat}
theorem uV.upd {w':World} {S:List Nat} (h:uV w rp mb g cap d f L) (hu:aa S w w') (h1:rp∉S) (h2:mb∉S) (h3:g∉S):uV w' rp mb g cap d f L:=
 ⟨h.head.upd hu h1,h.row.upd hu h3,h.map.upd hu h2,h.sep⟩
theorem uV.aA {w':World} (h:uV w rp mb g cap d f L) (hu:aa [] w w'):uV w' rp mb g cap d f L:=h.upd hu σ σ σ
theorem uV.h0 (h:uV w rp mb g cap d f L):w.cell? ⟨rp,0,none⟩=some (.int .i64 (d:Int)):=h.head.cellAt 0 ω rfl
theorem uV.h1 (h:uV w rp mb g cap d f L):w.cell? ⟨rp,1,none⟩=some (.slice (some ⟨g,0,none⟩) L.length cap):=h.head.cellAt 1 ω rfl
theorem uV.h2 (h:uV w rp mb g cap d f L):w.cell? ⟨rp,2,none⟩=some (.map (some mb)):=h.head.cellAt 2 ω rfl
theorem uV.lt (h:uV w rp mb g cap d f L):rp<w.heap.size/\mb<w.heap.size/\g<w.heap.size:=⟨h.head.lt,h.map.lt,h.row.lt⟩
theorem uV.cell (h:uV w rp mb g cap d f L) (j:Nat) (hj:j<L.length):w.cell? ⟨g,j,none⟩=some (.int .i64 ((L.getD j 0:Nat):Int)):=by
 have:=h.row.cell j (by rw [dI];exact hj);rwa [rX] at this
/-! ### places -/
theorem Kt (d i:Nat) (hd:2<=d/\d<=16) (hi:i<=65536) (w:World) :
  Calls Tryz.prog 165 #[.int .i64 (d:Int),.int .i64 (i:Int)] w fun e w'=>e=.returned (.tuple #[.int .i64 (if i=0 then 0 else (par d i:Int)),.bool (decide (0<i))])/\aa [] w w':=by
 have kf:∀W,Calls Tryz.prog 115 #[.int .i64 (d:Int)] W fun e w'=>e=.returned (.bool true)/\w'=W:=fun W=>by
  have h1:(d:Int)≥2:=ω;have h2:(d:Int)<=16:=ω
  go_enter Tryz.func115,Tryz.ntmps115
  go_wp2;go_ret;exact ⟨rfl,rfl⟩
 by_cases h0:i=0
 ·subst h0
  go_enter Tryz.func165,Tryz.ntmps165
  go_wp2_with (first|(go_at_call 115;(with_reducible refine (kf _).mono ?_);rintro e w9 ⟨rfl,aM⟩;rw [aM];clear aM w9)|fail)
  go_ret2;exact ⟨rfl,aa.refl _ _⟩
 ·have h1:¬ (i:Int)<1:=ω;have hd0:¬ (d:Int)=0:=ω;rw [if_neg h0,decide_eq_true (ω:0<i)];have hq:((i:Int)-1).tdiv (d:Int)=(par d i:Int):=by
   unfold par;rw [show (i:Int)-1=((i-1:Nat):Int) by omega]
   rfl
  go_enter Tryz.func165,Tryz.ntmps165
  go_wp2_with (first|(go_at_call 115;(with_reducible refine (kf _).mono ?_);rintro e w9 ⟨rfl,aM⟩;rw [aM];clear aM w9)|fail)
  go_ret2;have hp:=fB hd.1 (show 0<i by omega);rw [IntWalk.wrap64_in _ ω];exact ⟨rfl,aa.refl _ _⟩
theorem Ph (d i k:Nat) (hd:2<=d/\d<=16) (hi:i<=65536) (hk:1<=k/\k<=d) (w:World) :
  Calls Tryz.prog 172 #[.int .i64 (d:Int),.int .i64 (i:Int),.int .i64 (k:Int)] w fun e w'=>e=.returned (.tuple #[.int .i64 ((d*i+k:Nat):Int),.bool true])/\aa [] w w':=by
 have kf:∀W,Calls Tryz.prog 115 #[.int .i64 (d:Int)] W fun e w'=>e=.returned (.bool true)/\w'=W:=fun W=>by
  have h1:(d:Int)≥2:=ω;have h2:(d:Int)<=16:=ω
  go_enter Tryz.func115,Tryz.ntmps115
  go_wp2;go_ret;exact ⟨rfl,rfl⟩
 have h1:¬ (i:Int)<0:=ω;have h2:¬ (i:Int) > 1099511627776:=ω;have h3:¬ (k:Int)<1:=ω;have h4:¬ (k:Int) > (d:Int):=ω;have hm:d*i<=16*65536:=Nat.mul_le_mul hd.2 hi;have hmul:(d:Int)*(i:Int)=((d*i:Nat):Int):=σ;generalize d * i=m at *;have hw1:wrap64 (m:Int)=(m:Int):=IntWalk.wrap64_in _ ω;have hw2:wrap64 ((m:Int)+(k:Int))=(m:Int)+(k:Int):=IntWalk.wrap64_in _ ω
 go_enter Tryz.func172,Tryz.ntmps172
 go_wp2_with (first|(go_at_call 115;(with_reducible refine (kf _).mono ?_);rintro e w9 ⟨rfl,aM⟩;rw [aM];clear aM w9)|fail)
 go_ret2;exact ⟨by first|rfl|simp [hmul],aa.refl _ _⟩
theorem sM (h:uV w rp mb g cap d f L) (i x:Nat) (hi:i<L.length) (hx:x<=65536) (hl:L.length<=65536) :
  Calls Tryz.prog 166 #[.pointer (some ⟨rp,0,none⟩),.int .i64 (i:Int),.int .i64 (x:Int)] w fun e w'=>e=.returned (.tuple #[])/\uV w' rp mb g cap d (Sj f x i) (L.set i x)/\aa [g,mb] w w':=by
 have c0:=h.h0;have c1:=h.h1;have c2:=h.h2;have hc:=h.row.cap;rw [dI] at hc;have fg:=h.row.free i;have cg:=h.cell i hi;have hlt:=h.lt;have s:=h.sep;have hu1:aa [g] w (w.setCell ⟨g,i,none⟩ (.int .i64 (x:Int))):=β;have hM1:gN (w.setCell ⟨g,i,none⟩ (.int .i64 (x:Int))) mb f:=h.map.upd hu1 ζ;have H1:aO (w.setCell ⟨g,i,none⟩ (.int .i64 (x:Int))) rp 247 3 (fun j=>[Value.int .i64 (d:Int),.slice (some ⟨g,0,none⟩) L.length cap,.map (some mb)].getD j undef):=h.head.upd hu1 ζ;have H2:IZ (w.setCell ⟨g,i,none⟩ (.int .i64 (x:Int))) g cap (bJ (L.set i x)):=by rw [nK];exact h.row.set i _
 have HH:=χ (ψ H1 (ψ H2 (ψ s hu1)));have hil:(i:Int)<(L.length:Int):=ω;have e1:rp≠g:=s.2.1;generalize hn:L.length=n at *;have HN:=χ hn;clear h H1 H2 hu1 hn
 go_enter Tryz.func166,Tryz.ntmps166
 go_wp2_with (first
  | (at_mapUpdate;refine mK rfl _ _ _ rfl mb f rfl hM1 (x:Int) (i:Int) rfl rfl ω ω ?_;intro w2 hm2 hu2)
  | fail)
 go_end0;obtain ⟨H1,H2,s,hu1⟩:=HH.out;refine ⟨rfl,⟨?_,H2.upd hu2 ζ,hm2,s⟩,(hu1.mono σ).trans (hu2.mono σ)⟩;rw [List.length_set,HN.out];exact H1.upd hu2 ζ
end
structure Ot (O:ik) (rp mb g:Nat):Prop where
 a:rp∉O.rd
 b:mb∉O.rd
 c:g∉O.rd
theorem Ot.wr {O:ik} {rp mb g:Nat} (h:Ot O rp mb g):rp∉O.wr/\mb∉O.wr/\g∉O.wr:=⟨fun hm=>h.a (O.sub _ hm),fun hm=>h.b (O.sub _ hm),fun hm=>h.c (O.sub _ hm)⟩
theorem qg {L:List Nat} {i x p:Nat} (hp:p<L.length) (hne:p≠i):L.getD p 0∈L.set i x:=by
 have h1:(L.set i x)[p]?=some (L.getD p 0):=by rw [List.getElem?_set_ne (fun e=>hne e.symm)];simp [φ,hp]
 exact List.mem_of_getElem? h1
theorem Lu {L:List Nat} {i x p:Nat} (hi:i<L.length) (hp:p<L.length) (hne:p≠i) (hn:(L.set i x).Nodup):L.getD p 0≠x:=fun e=>by
 have h1:(L.set i x)[p]?=some x:=by rw [List.getElem?_set_ne (fun e=>hne e.symm),←e];simp [φ,hp]
 have h2:(L.set i x)[i]?=some x:=by simp [hi]
 obtain ⟨g1,e1⟩:=List.getElem?_eq_some_iff.1 h1;obtain ⟨g2,e2⟩:=List.getElem?_eq_some_iff.1 h2;exact hne ((List.getElem_inj hn).1 (e1.trans e2.symm))
theorem Em (O:ik) {w:World} {rp mb g cap d:Nat} {f:Int->Option Int} {L:List Nat} (hO:O.at_ w) (h:uV w rp mb g cap d f L) (hd:2<=d/\d<=16) (hl:L.length<=65536) (i x:Nat) (hH:fH O.R d L i) (hP:mZ f L i x)
  (hn:(L.set i x).Nodup) (hdom:∀y,y∈L.set i x->O.dom y) (h16:∀y,y∈L.set i x->y<=65536) (hsep:Ot O rp mb g) :
  Calls Tryz.prog 159 #[.pointer (some ⟨rp,0,none⟩),.iface O.ty (.pointer (some ⟨O.p,0,none⟩)),.int .i64 (i:Int),.int .i64 (x:Int)] w fun e w'=>∃ (k:Nat) (f':Int->Option Int) (L':List Nat),e=.returned (.int .i64 (k:Int))/\uV w' rp mb g cap d f' L'/\vI f' L'/\L'.Perm (L.set i x)/\O.at_ w'/\aa (g::mb::O.wr) w w'/\
   (k=i->L'=L.set i x/\(i=0\/O.R (L.getD (par d i) 0) x))/\(k≠i\/Below O.R d L i x->Hp O.R d L'):=by
 have hi0:=hH.lt;have hxm:x∈L.set i x:=List.mem_of_getElem? (show (L.set i x)[i]?=some x by simp [hi0]);have hdx:=hdom x hxm;have hxl:=h16 x hxm;have HX:=χ (ψ hn (ψ hdom (ψ h16 (ψ hsep hd))));have hwr:=hsep.wr
 go_enter Tryz.func159,Tryz.ntmps159
 go_wp2
 go_loopw [2,9,10] (fun iv _ _ wr=>∃ (i':Nat) (f':Int->Option Int) (L':List Nat),iv=.int .i64 (i':Int)/\uV wr rp mb g cap d f' L'/\fH O.R d L' i'/\mZ f' L' i' x/\L'.length=L.length/\(L'.set i' x).Perm (L.set i x)/\O.at_ wr/\aa (g::mb::O.wr) w wr/\((i'=i/\L'=L)\/(i'<i/\Below O.R d L' i' x))) (fun iv _ _ _=>(intOf iv).toNat)
 case atStart=>exact ⟨i,f,L,rfl,h,hH,hP,rfl,List.Perm.refl _,hO,aa.refl _ _,Or.inl ⟨rfl,rfl⟩⟩
 case round=>
  clear h hH hP hO;obtain ⟨i1,f1,L1,rfl,h,hH,hP,hl1,hpm,hO,hu,hst⟩:=hrel;rename World=>wr;have hi1:=hH.lt;have hn1:(L1.set i1 x).Nodup:=hpm.nodup_iff.2 HX.out.1;have kp:=fun W=>Kt d i1 hd ω W;have c0:=h.h0;have c1:=h.h1;have hlt:=h.lt
  by_cases hz:i1=0
  ·have ks:=fun W (hW:aa [] wr W)=>sM (h.aA hW) i1 x hi1 hxl ω;have e1:(if i1=0 then (0:Int) else (par d i1:Int))=0:=if_pos hz;have e2:decide (0<i1)=false:=by simp [hz]
   simp only [e1,e2] at kp;have HF:=χ (ψ hH (ψ hP (ψ hn1 (ψ hpm (ψ hO (ψ hst (ψ hu (ψ hl1 hz))))))));clear hH hP hn1 hpm hO hst hu hl1 h hz e1 e2
   go_upto_region 2 with (first
    | ((go_at_call 165;(with_reducible refine (kp _).mono ?_));rintro e w1 ⟨rfl,hu1⟩)
    | fail)
   go_quiet (fail)
   have ks1:=ks _ (hu1.drewN nq)
   go_wp2_with (first
    | ((go_at_call 166;(with_reducible refine (ks1).mono ?_));rintro e w2 ⟨rfl,hR,hu2⟩)
    | fail)
   go_ret;obtain ⟨hH,hP,hn1,hpm,hO,hst,hu,hl1,hz⟩:=HF.out;have hu3:aa [g,mb] wr w2:=(hu1.drewN nq).mono σ |>.trans hu2;refine ⟨i1,_,_,rfl,hR,hP.fill hi1 hn1,hpm,O.upd hO hu3 (fun y hy=>by have:=HX.out.2.2.2.1;simp at hy;rcases hy with rfl|rfl;exact this.c;exact this.b),hu.trans (hu3.mono (by simp +contextual)),fun e=>?_,fun e=>?_⟩
   ·rcases hst with ⟨_,rfl⟩|⟨h1,_⟩
    ·subst e;exact ⟨rfl,Or.inl hz⟩
    ·omega
   ·have hb:Below O.R d L1 i1 x:=by
     rcases hst with ⟨e1,e2⟩|⟨_,h2⟩
     ·rcases e with e|e
      ·exact absurd e1 e
      ·rw [e1,e2];exact e
     ·exact h2
    exact hH.fill hd.1 hb (Or.inl hz)
  ·obtain ⟨p,hp⟩:∃p,p=par d i1:=⟨_,rfl⟩;have hpl:p<i1:=by rw [hp];exact fB hd.1 ω
   have e1:(if i1=0 then (0:Int) else (par d i1:Int))=(p:Int):=by rw [if_neg hz,hp]
   have e2:decide (0<i1)=true:=ζ;simp only [e1,e2] at kp;have hcp:=h.cell p ω;have hcg:=h.h1;have hdp:=HX.out.2.1 (L1.getD p 0) (hpm.mem_iff.1 (qg ω ω));have hpx:=Lu hi1 (show p<L1.length by omega) ω hn1;have Yv:=fun W (hW:aa O.wr wr W)=>sM (h.upd hW hwr.1 hwr.2.1 hwr.2.2) i1 (L1.getD p 0) hi1 (HX.out.2.2.1 _ (hpm.mem_iff.1 (qg ω ω))) ω;have ks:=fun W (hW:aa O.wr wr W)=>sM (h.upd hW hwr.1 hwr.2.1 hwr.2.2) i1 x hi1 hxl ω;have HF:=χ (ψ hH (ψ hP (ψ hn1 (ψ hpm (ψ hO (ψ hst (ψ hu (ψ hl1 (ψ hz (ψ hp (ψ hpx h)))))))))));have hi1L:(p:Int)<(L1.length:Int):=ω;have Nz:=hwr.1;have hgw:=hwr.2.2
   clear hH hP hn1 hpm hst hu hl1 h hz e1 e2 hp hpx hpl hwr;generalize hy:L1.getD p 0=y at *
   go_upto_region 2 with (first
    | ((go_at_call 165;(with_reducible refine (kp _).mono ?_));rintro e w1 ⟨rfl,hu1⟩)
    | fail)
   have tL:O.On w1 w1:=.start (O.upd hO hu1 σ);have YM:∀W,O.On w1 W->W.cell? ⟨g,p,none⟩=some (.int .i64 (y:Int)):=fun W hW=>hW.upd.kept (hu1.was hcp) hgw;have Ya:∀W,O.On w1 W->W.cell? ⟨rp,1,none⟩=some (.slice (some ⟨g,0,none⟩) L1.length cap):=fun W hW=>hW.upd.kept (hu1.was hcg) Nz;have hm:∀W,O.On w1 W->_:=fun W hW=>O.VE hW.at_;have hnl:=O.VN;have hen:=O.ent;unfold Enters at hen
   go_region_held3 (O.On w1) (first|assumption|exact tL|(refine ik.On.drew ?_;first|assumption|exact tL)|(refine ik.On.drewN ?_ _;first|assumption|exact tL))
    (first
     | ((with_reducible refine (O.ask x y (ik.On.at_ (w0:=w1) (by first|assumption|exact tL|(refine ik.On.drew ?_;first|assumption|exact tL)|(refine ik.On.drewN ?_ _;first|assumption|exact tL))) hdx hdp).mono ?_);rintro e w5 ⟨rfl,BO,cu⟩;(have vF:O.On w1 w5:=ik.On.asked (by first|assumption|exact tL|(refine ik.On.drew ?_;first|assumption|exact tL)|(refine ik.On.drewN ?_ _;first|assumption|exact tL)) BO cu)))
   have qI:aa O.wr wr w5:=(hu1.mono σ).trans vF.upd;have Yf:=ks w5 qI;have ks6:=Yv w5 qI;have HY:=χ (ψ hy (ψ vF.at_ qI));have cp5:=YM w5 vF;have cg5:=Ya w5 vF;clear ks Yv YM Ya hm tL vF cu BO hO hcp hcg;cases hxy:O.lt x y with
   | false=>
    clear ks6
    go_wp2_with (first
     | ((go_at_call 166;(with_reducible refine (Yf).mono ?_));rintro e w2 ⟨rfl,hR,hu2⟩)
     | fail)
    go_ret;obtain ⟨hH,hP,hn1,hpm,hO,hst,hu,hl1,hz,hp,hpx,h⟩:=HF.out;obtain ⟨hy,hat,cu⟩:=HY.out;have hup:O.R (L1.getD (par d i1) 0) x:=by
     rw [←hp,hy];rcases O.total x y (fun e=>hpx e.symm) with e|e
     ·rw [e] at hxy;cases hxy
     ·exact e
    refine ⟨i1,_,_,rfl,hR,hP.fill hi1 hn1,hpm,O.upd hat hu2 (fun y hy=>by have:=HX.out.2.2.2.1;simp at hy;rcases hy with rfl|rfl;exact this.c;exact this.b),(hu.trans (cu.mono (by simp +contextual))).trans (hu2.mono (by simp +contextual)),fun e=>?_,fun e=>?_⟩
    ·rcases hst with ⟨_,e2⟩|⟨h1,_⟩
     ·rw [e2] at hup ⊢;rw [e] at hup ⊢;exact ⟨rfl,Or.inr hup⟩
     ·omega
    ·have hb:Below O.R d L1 i1 x:=by
      rcases hst with ⟨e1,e2⟩|⟨_,h2⟩
      ·rcases e with e|e
       ·exact absurd e1 e
       ·rw [e1,e2];exact e
      ·exact h2
     exact hH.fill hd.1 hb (Or.inr hup)
   | true=>
    clear Yf
    go_wp2_with (first
     | ((go_at_call 166;(with_reducible refine (ks6).mono ?_));rintro e w2 ⟨rfl,hR,hu2⟩)
     | fail)
    go_roundw
    case rel=>
     obtain ⟨hH,hP,hn1,hpm,hO,hst,hu,hl1,hz,hp,hpx,h⟩:=HF.out;obtain ⟨hy,hat,cu⟩:=HY.out;have hpl:p<i1:=by rw [hp];exact fB hd.1 ω
     have hup:=hH.up O.tr hd.1 ω (x:=x) (by rw [←hp,hy];exact hxy);rw [←hp,hy] at hup;have hmv:=hP.move hi1 (p:=p) ω ω hn1;rw [hy] at hmv;have hpr:=xJ (L:=L1) (i:=i1) (p:=p) (x:=x) hi1 ω ω;rw [hy] at hpr;refine ⟨p,_,_,rfl,hR,hup.1,hmv,by rw [List.length_set];exact hl1,hpr.trans hpm,O.upd hat hu2 (fun y hy=>by have:=HX.out.2.2.2.1;simp at hy;rcases hy with rfl|rfl;exact this.c;exact this.b),(hu.trans (cu.mono (by simp +contextual))).trans (hu2.mono (by simp +contextual)),Or.inr ⟨?_,hup.2⟩⟩;rcases hst with ⟨e,_⟩|⟨e,_⟩<;>omega
    case measure=>
     have hpl:p<i1:=by rw [HF.out.2.2.2.2.2.2.2.2.2.1];exact fB hd.1 (by have:=HF.out.2.2.2.2.2.2.2.2.1;omega)
     simp [intOf];omega
structure HB where
 n0:Nat
 c:Nat
 ga:Nat
def QX (B:HB) (v:Value) (j:Nat):Value:=[Value.pointer (some ⟨B.n0,0,none⟩),v].getD j undef
structure nT (w:World) (B:HB) (F:List Nat) (A:NS) (rp g cap:Nat) (L T:List Nat):Prop where
 hd:aO w rp 321 2 (QX B (.slice (some ⟨g,0,none⟩) L.length cap))
 row:IZ w g cap (bJ L)
 zD:IZ w B.ga T.length (bJ T)
 SF:w.cell? ⟨B.n0,0,none⟩=some (.pointer (some ⟨B.c,0,none⟩))
 QY:w.cell? ⟨B.n0,2,none⟩=some (.slice (some ⟨B.ga,0,none⟩) T.length T.length)
 OE:∃st,aG w B.c F A st
 s1:rp≠g/\rp≠B.ga/\rp≠B.n0
 s2:g≠B.ga/\g≠B.n0/\B.ga≠B.n0
 s3:rp∉F/\g∉F/\B.ga∉F/\B.n0∉F
 dom:∀x,x∈L->bX A (x:Int)=true/\x<T.length
 nd:L.Nodup
 Be:∀j x,L[j]?=some x->T.getD x 0=j
 tl:T.length<=65536
section
variable {w:World} {B:HB} {F:List Nat} {A:NS} {rp g cap:Nat} {L T:List Nat}
theorem nT.mem (h:nT w B F A rp g cap L T):B.c∈F:=by obtain ⟨st,hC⟩:=h.OE;exact hC.mem
theorem nT.cne (h:nT w B F A rp g cap L T):rp≠B.c/\g≠B.c/\B.ga≠B.c/\B.n0≠B.c:=by
 have hm:=h.mem;have h3:=h.s3;exact ⟨fun e=>h3.1 (by rw [e];exact hm),fun e=>h3.2.1 (by rw [e];exact hm),fun e=>h3.2.2.1 (by rw [e];exact hm),fun e=>h3.2.2.2 (by rw [e];exact hm)⟩
theorem nT.h0 (h:nT w B F A rp g cap L T):w.cell? ⟨rp,0,none⟩=some (.pointer (some ⟨B.n0,0,none⟩)):=h.hd.cellAt 0 ω rfl
theorem nT.h1 (h:nT w B F A rp g cap L T):w.cell? ⟨rp,1,none⟩=some (.slice (some ⟨g,0,none⟩) L.length cap):=h.hd.cellAt 1 ω rfl
theorem nT.Ic (h:nT w B F A rp g cap L T) (j:Nat) (hj:j<L.length):w.cell? ⟨g,j,none⟩=some (.int .i64 ((L.getD j 0:Nat):Int)):=by
 have:=h.row.cell j (by rw [dI];exact hj);rwa [rX] at this
theorem nT.G5 (h:nT w B F A rp g cap L T) (j:Nat) (hj:j<T.length):w.cell? ⟨B.ga,j,none⟩=some (.int .i64 ((T.getD j 0:Nat):Int)):=by
 have:=h.zD.cell j (by rw [dI];exact hj);rwa [rX] at this
theorem nT.len (h:nT w B F A rp g cap L T):L.length<=65536:=by
 have h1:=nodup_range T.length (L.map (fun (x:Nat)=>(x:Int))) (by
  have hn:=h.nd;unfold List.Nodup at hn ⊢;rw [List.pairwise_map];exact hn.imp (fun h e=>h ω)) (fun x hx=>by
  obtain ⟨y,hy,rfl⟩:=List.mem_map.1 hx
  have:=(h.dom y hy).2;omega)
 have:=h.tl;simp at h1;omega
theorem nT.Hu (h:nT w B F A rp g cap L T):L.length<=cap/\cap<=9223372036854775807:=by
 have:=h.row.cap;rwa [dI] at this
theorem nT.upd {w':World} {S:List Nat} (h:nT w B F A rp g cap L T) (hu:aa S w w') (hS:∀x,x∈S->x∉rp::g::B.ga::B.n0::F):nT w' B F A rp g cap L T:=by
 have h1:∀x,x∈rp::g::B.ga::B.n0::F->x∉S:=fun x hx hg=>hS x hg hx;refine ⟨h.hd.upd hu (h1 _ σ),h.row.upd hu (h1 _ σ),h.zD.upd hu (h1 _ σ),hu.kept h.SF (h1 _ σ),hu.kept h.QY (h1 _ σ),?_,h.s1,h.s2,h.s3,h.dom,h.nd,h.Be,h.tl⟩;obtain ⟨st,hC⟩:=h.OE;exact ⟨st,hC.upd hu (fun x hx hm=>hS x hx (by simp [hm]))⟩
theorem nT.aA {w':World} (h:nT w B F A rp g cap L T) (hu:aa [] w w'):nT w' B F A rp g cap L T:=h.upd hu σ
theorem nT.counted {w':World} {st:Nat} (h:nT w B F A rp g cap L T) (hu:aa [B.c] w w') (hC:aG w' B.c F A st):nT w' B F A rp g cap L T:=by
 have h1:=h.cne;exact ⟨h.hd.upd hu (by simp;exact h1.1),h.row.upd hu (by simp;exact h1.2.1),h.zD.upd hu (by simp;exact h1.2.2.1),hu.kept h.SF (by simp;exact h1.2.2.2),hu.kept h.QY (by simp;exact h1.2.2.2),⟨st,hC⟩,h.s1,h.s2,h.s3,h.dom,h.nd,h.Be,h.tl⟩
theorem xY (h:nT w B F A rp g cap L T) :
  Calls Tryz.prog 285 #[.pointer (some ⟨rp,0,none⟩)] w fun e w'=>e=.returned (.int .i64 (L.length:Int))/\w'=w:=by
 have c1:=h.h1;have hl:=h.len;clear h;generalize L.length=n at *
 go_enter Tryz.func285,Tryz.ntmps285
 go_wp2;go_ret;exact ⟨rfl,rfl⟩
theorem Jt (h:nT w B F A rp g cap L T) (i j:Nat) (hi:i<L.length) (hj:j<L.length) :
  Calls Tryz.prog 286 #[.pointer (some ⟨rp,0,none⟩),.int .i64 (i:Int),.int .i64 (j:Int)] w fun e w'=>e=.returned (.bool (decide (cZ A (L.getD i 0) (L.getD j 0))))/\nT w' B F A rp g cap L T/\aa [B.c] w w':=by
 have hm:∀k,k<L.length->L.getD k 0∈L:=fun k hk=>by
  rw [φ,ε hk];exact List.getElem_mem hk
 have d1:=(h.dom _ (hm i hi)).1;have d2:=(h.dom _ (hm j hj)).1;have hce:=h.cne;have c0:∀X,aa [B.c] w X->_:=fun X hX=>hX.kept h.h0 (by simp;exact hce.1);have c1:∀X,aa [B.c] w X->_:=fun X hX=>hX.kept h.h1 (by simp;exact hce.1);have n0:∀X,aa [B.c] w X->_:=fun X hX=>hX.kept h.SF (by simp;exact hce.2.2.2);have ci:∀X,aa [B.c] w X->_:=fun X hX=>hX.kept (h.Ic i hi) (by simp;exact hce.2.1);have cj:∀X,aa [B.c] w X->_:=fun X hX=>hX.kept (h.Ic j hj) (by simp;exact hce.2.1);have hl:=h.len;clear hce
 have ka:∀W,aa [] w W->Calls Tryz.prog 174 #[.pointer (some ⟨B.c,0,none⟩),.int .i64 ((L.getD i 0:Nat):Int),.int .i64 ((L.getD j 0:Nat):Int)] W fun e w'=>e=.returned (.bool (decide (cZ A (L.getD i 0) (L.getD j 0))))/\nT w' B F A rp g cap L T/\aa [B.c] W w':=fun W hW=>by
  obtain ⟨st,hC⟩:=h.OE;refine (fF (hC.aA hW) _ _ d1 d2).mono ?_;rintro e w' ⟨rfl,hC',hu⟩;exact ⟨rfl,(h.aA hW).counted hu hC',hu⟩
 clear h hm d1 d2;generalize L.getD i 0=x at *;generalize L.getD j 0=y at *;generalize hn:L.length=n at *;clear hn;generalize decide (cZ A x y)=b at *;have hiI:(i:Int)<(n:Int):=ω;have Xi:(j:Int)<(n:Int):=ω
 go_enter Tryz.func286,Tryz.ntmps286
 go_upto_region 1 with (fail)
 go_region_held3 (aa [B.c] w) (exact ν)
  (first
   | ((go_at_call 174;(with_reducible refine (ka _ β).mono ?_));rintro e w1 ⟨rfl,hP1,hu1⟩;(have hv1:aa [B.c] w w1:=aa.trans ν hu1)))
 go_wp2;go_ret;exact ⟨rfl,hP1,hv1⟩
end
end Go.Proofs.YtklibcncmbofpaaGreat
