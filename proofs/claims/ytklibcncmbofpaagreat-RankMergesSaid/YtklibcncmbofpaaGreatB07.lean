/-
  Lemmas for RankMerges: SfP, ShP, DrP, Sf, Sf2, Sd, Sd2, Sd3, Sd4, Sd5, Sd6, Sf3, Sf4, Sf5, Sf6, Dr, Sd7, Dr2, Sd8, Dr3, Sd9. Conditions: those of each lemma.
-/
import Derived.Deep.RegionHeldLaw
import Derived.Deep.OwnRows
import Derived.Test.YtklibcncmbofpaaGreatB02
import Derived.Test.YtklibcncmbofpaaGreatB05
set_option linter.all false
set_option maxHeartbeats 8000000
set_option maxRecDepth 10000
namespace Go.Proofs.YtklibcncmbofpaaGreat
open Go Go.RowKit
def par (d i:Nat):Nat:=(i-1) / d
theorem dO {d i:Nat} (hd:2<=d) (hi:0<i):par d i<i:=by
 unfold par;have:(i-1) / d<=(i-1) / 2:=Nat.div_le_div_left hd ω;omega
theorem qK {d i j:Nat} (hd:2<=d):(0<j/\par d j=i)↔d*i+1<=j/\j<=d*i+d:=by
 unfold par;have e:d*(i+1)=d*i+d:=by rw [Nat.mul_add,Nat.mul_one]
 constructor
 ·rintro ⟨h0,h⟩;have h1:=Nat.div_mul_le_self (j-1) d;have h2:=Nat.lt_mul_div_succ (j-1) (show 0<d by omega);rw [h] at h1 h2;rw [Nat.mul_comm] at h1;omega
 ·rintro ⟨h1,h2⟩;refine ⟨ω,?_⟩;rw [Nat.div_eq_iff ω];rw [Nat.mul_comm i d];omega
theorem bW (L:List Nat) (i x j:Nat):(L.set i x).getD j 0=if j=i/\i<L.length then x else L.getD j 0:=by
 simp only [φ,ύ]
 by_cases h:i=j
 ·subst h
  by_cases h2:i<L.length
  ·simp [h2]
  ·simp [h2]
 ·have h':¬j=i:=fun e=>h e.symm;simp [h,h']
section
variable {R:Nat->Nat->Prop} {d:Nat} {L:List Nat} {i x:Nat}
def Hp (R:Nat->Nat->Prop) (d:Nat) (L:List Nat):Prop:=∀j,0<j->j<L.length->R (L.getD (par d j) 0) (L.getD j 0)
structure eH (R:Nat->Nat->Prop) (d:Nat) (L:List Nat) (i:Nat):Prop where
 lt:i<L.length
 a:∀j,0<j->j<L.length->j≠i->par d j≠i->R (L.getD (par d j) 0) (L.getD j 0)
 b:∀j,0<j->j<L.length->par d j=i->0<i->R (L.getD (par d i) 0) (L.getD j 0)
def Below (R:Nat->Nat->Prop) (d:Nat) (L:List Nat) (i x:Nat):Prop:=∀j,0<j->j<L.length->par d j=i->R x (L.getD j 0)
theorem Hp.hole (ht:∀a b c,R a b->R b c->R a c) (hd:2<=d) (h:Hp R d L) (hi:i<L.length):eH R d L i:=
 ⟨hi,fun j h0 hj _ _=>h j h0 hj,fun j h0 hj hp hi0=>by
  have h1:=h j h0 hj;rw [hp] at h1
  exact ht _ _ _ (h i hi0 hi) h1⟩
theorem eH.fill (hd:2<=d) (h:eH R d L i) (hb:Below R d L i x) (hu:i=0\/R (L.getD (par d i) 0) x):Hp R d (L.set i x):=by
 intro j h0 hj;rw [Ι] at hj;have hl:=h.lt;rw [bW,bW]
 by_cases e:j=i
 ·subst e;have hp:=dO hd h0;rw [Γ ω,Δ ⟨rfl,hj⟩];rcases hu with hu|hu
  ·omega
  ·exact hu
 ·rw [Γ (show ¬ (j=i/\i<L.length) by omega)]
  by_cases ep:par d j=i
  ·rw [Δ ⟨ep,hl⟩];exact hb j h0 hj ep
  ·rw [Γ (show ¬ (par d j=i/\i<L.length) from fun e=>ep e.1)];exact h.a j h0 hj e ep
theorem eH.up (ht:∀a b c,R a b->R b c->R a c) (hd:2<=d) (h:eH R d L i) (h0:0<i) (hx:R x (L.getD (par d i) 0)) :
  eH R d (L.set i (L.getD (par d i) 0)) (par d i)/\Below R d (L.set i (L.getD (par d i) 0)) (par d i) x:=by
 have hp:=dO hd h0;have hl:=h.lt;have Wv:∀j,0<j->par d j=par d i->par d j≠i:=fun j hj e=>ω;refine ⟨⟨by rw [Ι];omega,fun j j0 hj hji hjp=>?_,fun j j0 hj hjp hp0=>?_⟩,fun j j0 hj hjp=>?_⟩
 ·rw [Ι] at hj;have e:j≠i:=fun e=>hjp (by rw [e]);rw [bW,bW,Γ (show ¬ (j=i/\i<L.length) by omega)]
  by_cases ep:par d j=i
  ·rw [Δ ⟨ep,hl⟩];exact h.b j j0 hj ep h0
  ·rw [Γ (show ¬ (par d j=i/\i<L.length) from fun e=>ep e.1)];exact h.a j j0 hj e ep
 ·rw [Ι] at hj;have hp2:=dO hd hp0;rw [bW,bW,Γ (show ¬ (par d (par d i)=i/\i<L.length) by omega)];have h1:=h.a (par d i) hp0 ω ω ω
  by_cases e:j=i
  ·rw [Δ ⟨e,hl⟩];exact h1
  ·rw [Γ (show ¬ (j=i/\i<L.length) by omega)];have h2:=h.a j j0 hj e ω;rw [hjp] at h2;exact ht _ _ _ h1 h2
 ·rw [Ι] at hj;rw [bW]
  by_cases e:j=i
  ·rw [Δ ⟨e,hl⟩];exact hx
  ·rw [Γ (show ¬ (j=i/\i<L.length) by omega)];have h2:=h.a j j0 hj e ω;rw [hjp] at h2;exact ht _ _ _ hx h2
structure oC (R:Nat->Nat->Prop) (d:Nat) (L:List Nat) (i c:Nat):Prop where
 c0:0<c
 lt:c<L.length
 pc:par d c=i
 all:∀j,0<j->j<L.length->par d j=i->j≠c->R (L.getD c 0) (L.getD j 0)
theorem eH.down (ht:∀a b c,R a b->R b c->R a c) (hd:2<=d) (h:eH R d L i) {c:Nat} (hc:oC R d L i c) (hx:R (L.getD c 0) x) :
  eH R d (L.set i (L.getD c 0)) c/\R ((L.set i (L.getD c 0)).getD (par d c) 0) x:=by
 have hl:=h.lt;have hci:i<c:=by have:=dO hd hc.c0;have:=hc.pc;omega
 refine ⟨⟨by rw [Ι];exact hc.lt,fun j j0 hj hjc hjp=>?_,fun j j0 hj hjp _=>?_⟩,?_⟩
 ·rw [Ι] at hj;rw [bW,bW]
  by_cases e:j=i
  ·subst e;have:=dO hd j0;rw [Γ (show ¬ (par d j=j/\j<L.length) by omega),Δ ⟨rfl,hl⟩];exact h.b c hc.c0 hc.lt hc.pc j0
  ·rw [Γ (show ¬ (j=i/\i<L.length) by omega)]
   by_cases ep:par d j=i
   ·rw [Δ ⟨ep,hl⟩];exact hc.all j j0 hj ep hjc
   ·rw [Γ (show ¬ (par d j=i/\i<L.length) from fun e=>ep e.1)];exact h.a j j0 hj e ep
 ·rw [Ι] at hj;have hpj:=dO hd j0;rw [hc.pc,bW,bW,Δ ⟨rfl,hl⟩,Γ (show ¬ (j=i/\i<L.length) by omega)];have h2:=h.a j j0 hj ω ω;rw [hjp] at h2;exact h2
 ·rw [hc.pc,bW,Δ ⟨rfl,hl⟩];exact hx
theorem Hp.first (ht:∀a b c,R a b->R b c->R a c) (hd:2<=d) (h:Hp R d L):∀ (k j:Nat),j<=k->j<L.length->j=0\/R (L.getD 0 0) (L.getD j 0)
 | 0,j,hk,_=>Α ω
 | k+1,j,hk,hj=>by
  by_cases j0:j=0
  ·exact Α j0
  ·right;have hp:=dO (i:=j) hd ω;have h1:=h j ω hj;rcases Hp.first ht hd h k (par d j) ω ω with e|e
   ·rw [e] at h1;exact h1
   ·exact ht _ _ _ e h1
theorem Hp.frame {R':Nat->Nat->Prop} (h:Hp R d L) (hR:∀a b,a∈L->b∈L->R a b->R' a b) (hd:2<=d):Hp R' d L:=fun j h0 hj=>by
 have hp:=dO hd h0;have hm:∀q,q<L.length->L.getD q 0∈L:=fun q hq=>by
  rw [φ,ε hq];exact ϛ hq
 exact hR _ _ (hm _ ω) (hm _ hj) (h j h0 hj)
end
def tu (f:Int->Option Int) (L:List Nat):Prop:=∀z v,f z=some v↔∃ (y j:Nat),z=y/\v=j/\L[j]?=some y
def kQ (f:Int->Option Int) (L:List Nat) (i x:Nat):Prop:=∀z v,z≠(x:Int)->(f z=some v↔∃ (y j:Nat),z=y/\v=j/\j≠i/\L[j]?=some y)
def Pn (f:Int->Option Int) (k z:Int):Int->Option Int:=fun q=>if q=k then some z else f q
theorem kQ.fill {f:Int->Option Int} {L:List Nat} {i x:Nat} (h:kQ f L i x) (hi:i<L.length) (hn:(L.set i x).Nodup):tu (Pn f x i) (L.set i x):=by
 intro z v;unfold Pn
 by_cases hz:z=(x:Int)
 ·rw [Δ hz];constructor
  ·intro e;cases e;exact ⟨x,i,hz,rfl,by simp [hi]⟩
  ·rintro ⟨y,j,rfl,rfl,hj⟩;have e:y=x:=ω;subst e;have h1:(L.set i y)[i]?=some y:=by simp [hi]
   obtain ⟨g1,e1⟩:=List.getElem?_eq_some_iff.1 hj;obtain ⟨g2,e2⟩:=List.getElem?_eq_some_iff.1 h1;have:j=i:=(List.getElem_inj hn).1 (e1.trans e2.symm);rw [this]
 ·rw [Γ hz,h z v hz];constructor
  ·rintro ⟨y,j,rfl,rfl,hj,hg⟩;exact ⟨y,j,rfl,rfl,by rw [Ϗ (fun e=>hj e.symm)];exact hg⟩
  ·rintro ⟨y,j,rfl,rfl,hg⟩
   by_cases e:j=i
   ·subst e;rw [ώ hi] at hg;cases hg;exact absurd rfl hz
   ·rw [Ϗ (fun e'=>e e'.symm)] at hg;exact ⟨y,j,rfl,rfl,e,hg⟩
theorem kQ.move {f:Int->Option Int} {L:List Nat} {i p x:Nat} (h:kQ f L i x) (hi:i<L.length) (hp:p<L.length) (hpi:p≠i) (hn:(L.set i x).Nodup):kQ (Pn f (L.getD p 0) i) (L.set i (L.getD p 0)) p x:=by
 intro z v hz;have Mw:L[p]?=some (L.getD p 0):=by simp [φ,hp]
 have huni:∀j,j≠i->L[j]?=some (L.getD p 0)->j=p:=fun j hj hg=>by
  have h1:(L.set i x)[j]?=some (L.getD p 0):=by rw [Ϗ (fun e=>hj e.symm)];exact hg
  have h2:(L.set i x)[p]?=some (L.getD p 0):=by rw [Ϗ (fun e=>hpi e.symm)];exact Mw
  obtain ⟨g1,e1⟩:=List.getElem?_eq_some_iff.1 h1;obtain ⟨g2,e2⟩:=List.getElem?_eq_some_iff.1 h2;exact (List.getElem_inj hn).1 (e1.trans e2.symm)
 generalize hy:L.getD p 0=y at *;unfold Pn
 by_cases e:z=(y:Int)
 ·rw [Δ e];constructor
  ·intro e2;cases e2;exact ⟨y,i,e,rfl,fun e=>hpi e.symm,by simp [hi]⟩
  ·rintro ⟨y',j,e1,rfl,hj,hg⟩;have:y'=y:=ω;subst this
   by_cases hji:j=i
   ·rw [hji]
   ·rw [Ϗ (fun e'=>hji e'.symm)] at hg;exact absurd (huni j hji hg) hj
 ·rw [Γ e,h z v hz];constructor
  ·rintro ⟨y',j,rfl,rfl,hj,hg⟩;refine ⟨y',j,rfl,rfl,?_,by rw [Ϗ (fun e'=>hj e'.symm)];exact hg⟩;rintro rfl;rw [Mw] at hg;cases hg;exact e rfl
  ·rintro ⟨y',j,rfl,rfl,hj,hg⟩
   by_cases hji:j=i
   ·subst hji;rw [ώ hi] at hg;cases hg;exact absurd rfl e
   ·rw [Ϗ (fun e'=>hji e'.symm)] at hg;exact ⟨y',j,rfl,rfl,hji,hg⟩
theorem tu.hole {f:Int->Option Int} {L:List Nat} {i x:Nat} (h:tu f L) (hx:L[i]?=some x):kQ f L i x:=fun z v hz=>by
 rw [h z v];constructor
 ·rintro ⟨y,j,rfl,rfl,hg⟩;refine ⟨y,j,rfl,rfl,?_,hg⟩;rintro rfl;rw [hx] at hg;cases hg;exact hz rfl
 ·rintro ⟨y,j,h1,h2,_,h3⟩;exact ⟨y,j,h1,h2,h3⟩
theorem vI {L:List Nat} {i p x:Nat} (hi:i<L.length) (hp:p<L.length) (hpi:p≠i):((L.set i (L.getD p 0)).set p x).Perm (L.set i x):=by
 have h:=@List.set_set_perm _ (L.set i x) i p (by simpa using hi) (by simpa using hp);have e1:(L.set i x)[p]'(by simpa using hp)=L.getD p 0:=by
  rw [List.getElem_set_ne (fun e=>hpi e.symm)];simp [φ,hp]
 have e2:(L.set i x)[i]'(by simpa using hi)=x:=σ;rw [e1,e2,List.set_set] at h;exact h
def fw (L:List Nat) (i j:Nat):List Nat:=(L.set i (L.getD j 0)).set j (L.getD i 0)
theorem jc (L:List Nat) (i j:Nat):(fw L i j).length=L.length:=by unfold fw;simp
theorem jQ {L:List Nat} {i j:Nat} (hi:i<L.length) (hj:j<L.length) (k:Nat):(fw L i j).getD k 0=if k=j then L.getD i 0 else if k=i then L.getD j 0 else L.getD k 0:=by
 unfold fw;rw [bW,bW]
 by_cases h1:k=j
 ·rw [Δ ⟨h1,by simpa using hj⟩,Δ h1]
 ·rw [Γ (fun e=>h1 e.1),Γ h1]
  by_cases h2:k=i
  ·rw [Δ ⟨h2,hi⟩,Δ h2]
  ·rw [Γ (fun e=>h2 e.1),Γ h2]
theorem Gz {L:List Nat} {i j:Nat} (hi:i<L.length) (hj:j<L.length):fw L i j=fw L j i:=by
 apply List.ext_getElem
 ·rw [jc,jc]
 ·intro k h1 h2;have a:=jQ hi hj k;have b:=jQ hj hi k;rw [φ,ε h1] at a;rw [φ,ε h2] at b;simp only [Option.getD_some] at a b;rw [a,b]
  by_cases e1:k=j
  ·by_cases e2:k=i
   ·rw [Δ e1,Δ e2,←e1,←e2]
   ·rw [Δ e1,Γ e2,Δ e1]
  ·by_cases e2:k=i
   ·rw [Γ e1,Δ e2,Δ e2]
   ·rw [Γ e1,Γ e2,Γ e2,Γ e1]
theorem sJ {L:List Nat} {i j:Nat} (hi:i<L.length) (hj:j<L.length) (hne:i≠j):(fw L i j).Perm L:=by
 have h:=vI (L:=L) (i:=i) (p:=j) (x:=L.getD i 0) hi hj (fun e=>hne e.symm);have e:L.set i (L.getD i 0)=L:=by
  rw [φ,ε hi];simp
 rw [e] at h;exact h
section
variable {R:Nat->Nat->Prop} {L:List Nat} {i:Nat}
theorem eH.any {d:Nat} (hd:2<=d) (h:eH R d L i) (y:Nat):eH R d (L.set i y) i:=by
 have g:∀k,k≠i->(L.set i y).getD k 0=L.getD k 0:=fun k hk=>by rw [bW,Γ (fun e=>hk e.1)]
 refine ⟨by rw [Ι];exact h.lt,fun j j0 hj hji hp=>?_,fun j j0 hj hp hi0=>?_⟩
 ·rw [Ι] at hj;rw [g _ hji,g _ hp];exact h.a j j0 hj hji hp
 ·rw [Ι] at hj;have h1:=dO hd j0;have h2:=dO hd hi0;rw [g _ ω,g _ ω];exact h.b j j0 hj hp hi0
theorem Below.any {d x:Nat} (hd:2<=d) (h:Below R d L i x) (y:Nat):Below R d (L.set i y) i x:=fun j j0 hj hp=>by
 rw [Ι] at hj;have h1:=dO hd j0;rw [bW,Γ (show ¬ (j=i/\i<L.length) by omega)];exact h j j0 hj hp
theorem eH.done {d:Nat} (hd:2<=d) (h:eH R d L i) (hb:Below R d L i (L.getD i 0)) (hu:i=0\/R (L.getD (par d i) 0) (L.getD i 0)):Hp R d L:=by
 have h1:=h.fill hd hb hu;have e:L.set i (L.getD i 0)=L:=by
  have:=h.lt;rw [φ,ε this];simp
 rwa [e] at h1
theorem eH.UQ (ht:∀a b c,R a b->R b c->R a c) (h:eH R 2 L i) (h0:0<i) (hx:R (L.getD i 0) (L.getD (par 2 i) 0)) :
  eH R 2 (fw L (par 2 i) i) (par 2 i)/\Below R 2 (fw L (par 2 i) i) (par 2 i) ((fw L (par 2 i) i).getD (par 2 i) 0):=by
 have hp:=dO (d:=2) ω h0;have hl:=h.lt;obtain ⟨h1,h2⟩:=h.up ht ω h0 hx;rw [jQ ω hl,Γ ω,Δ rfl,Gz ω hl];exact ⟨h1.any ω _,h2.any ω _⟩
theorem eH.yo (ht:∀a b c,R a b->R b c->R a c) (h:eH R 2 L i) {c:Nat} (hc:oC R 2 L i c) (hx:R (L.getD c 0) (L.getD i 0)) :
  eH R 2 (fw L i c) c/\R ((fw L i c).getD (par 2 c) 0) ((fw L i c).getD c 0):=by
 have hl:=h.lt;have hcl:=hc.lt;have hci:i<c:=by have:=dO (d:=2) ω hc.c0;have:=hc.pc;omega
 obtain ⟨h1,h2⟩:=h.down ht ω hc hx;refine ⟨h1.any ω _,?_⟩;rw [jQ hl hcl,jQ hl hcl,Δ rfl,hc.pc,Γ ω,Δ rfl];exact hx
theorem LU {n:Nat} (hn:L.length=n) (h1:2*i+1<n):(2*i+2<n->¬R (L.getD (2*i+2) 0) (L.getD (2*i+1) 0)->R (L.getD (2*i+1) 0) (L.getD (2*i+2) 0))->
  ((¬ (2*i+2<n/\R (L.getD (2*i+2) 0) (L.getD (2*i+1) 0)))->oC R 2 L i (2*i+1))/\(2*i+2<n/\R (L.getD (2*i+2) 0) (L.getD (2*i+1) 0)->oC R 2 L i (2*i+2)):=by
 intro ht;have hk:∀j,0<j->par 2 j=i->j=2*i+1\/j=2*i+2:=fun j j0 hj=>by
  have:=(qK (d:=2) (i:=i) (j:=j) ω).1 ⟨j0,hj⟩;omega
 have p1:=(qK (d:=2) (i:=i) (j:=2*i+1) ω).2 ω;have p2:=(qK (d:=2) (i:=i) (j:=2*i+2) ω).2 ω;constructor
 ·intro h;refine ⟨ω,ω,p1.2,fun j j0 hj hp hne=>?_⟩;rcases hk j j0 hp with e|e
  ·exact absurd e hne
  ·subst e;exact ht ω (fun hr=>h ⟨ω,hr⟩)
 ·rintro ⟨h,hr⟩;refine ⟨ω,ω,p2.2,fun j j0 hj hp hne=>?_⟩;rcases hk j j0 hp with e|e
  ·subst e;exact hr
  ·exact absurd e hne
theorem mZ {d x c:Nat} (ht:∀a b c,R a b->R b c->R a c) (hc:oC R d L i c) (hx:R x (L.getD c 0)):Below R d L i x:=fun j j0 hj hp=>by
 by_cases e:j=c
 ·rw [e];exact hx
 ·exact ht _ _ _ hx (hc.all j j0 hj hp e)
theorem yQ {d x:Nat} (hd:2<=d) (h:L.length<=d*i+1):Below R d L i x:=fun j j0 hj hp=>by
 have:=(qK hd).1 ⟨j0,hp⟩;omega
theorem Hp.take {d n:Nat} (h:Hp R d L) (hd:2<=d):Hp R d (L.take n):=fun j j0 hj=>by
 simp only [ϑ] at hj;have hp:=dO hd j0;have g:∀k,k<n->(L.take n).getD k 0=L.getD k 0:=fun k hk=>by simp [φ,List.getElem?_take,hk]
 rw [g _ ω,g _ ω];exact h j j0 ω
theorem Hp.snoc {d x:Nat} (h:Hp R d L) (ht:∀a b c,R a b->R b c->R a c) (hd:2<=d):eH R d (L++[x]) L.length/\Below R d (L++[x]) L.length x:=by
 have g:∀k,k<L.length->(L++[x]).getD k 0=L.getD k 0:=fun k hk=>by simp [φ,Ρ,hk]
 have hno:∀j,0<j->j<(L++[x]).length->par d j=L.length->False:=fun j j0 hj hp=>by
  simp at hj;have:=dO hd j0;omega
 refine ⟨⟨σ,fun j j0 hj hji hp=>?_,fun j j0 hj hp _=>(hno j j0 hj hp).elim⟩,fun j j0 hj hp=>(hno j j0 hj hp).elim⟩;simp at hj;have:=dO hd j0;rw [g _ ω,g _ ω];exact h j j0 ω
end
def oP (A:NS) (a b:Nat):Prop:=decide (eB A a b)=true
theorem ed {A:NS} {a b:Nat}:oP A a b↔eB A a b:=by unfold oP;simp
theorem gU (A:NS):∀a b c,oP A a b->oP A b c->oP A a c:=fun a b c h1 h2=>ed.2 (dE (ed.1 h1) (ed.1 h2))
structure rU (d:Nat) (A:NS) (L:Nat->List Nat):Prop where
 hp:∀h:Nat,bf A h=true->Hp (oP A) d (L h)
 nd:∀h:Nat,bf A h=true->(L h).Nodup
 mem:∀h x:Nat,bf A h=true->(x∈L h↔x<A.cs.length/\(A.c x).i=h)
section
variable {d:Nat} {A:NS} {L:Nat->List Nat}
theorem rU.frame {A':NS} {l:List Nat} (h:Hp (oP A) d l) (hd:2<=d) (hs:∀y,y∈l->A'.c y=A.c y):Hp (oP A') d l:=
 h.frame (fun a b ha hb hab=>ed.2 ((fV (hs a ha) (hs b hb)).2 (ed.1 hab))) hd
theorem rU.len (h:rU d A L) {g x:Nat} (hg:bf A g=true) (hx:x∈L g):x<A.cs.length/\bP A (x:Int)=true/\(A.c x).i=g:=by
 have h1:=(h.mem g x hg).1 hx;have h2:=(aK _ _).1 hg;exact ⟨h1.1,(aj _ _).2 ⟨h1.1,ω⟩,h1.2⟩
theorem rU.many (h:rU d A L) {g:Nat} (hg:bf A g=true):(L g).length<=A.cs.length:=by
 have h1:=nodup_range A.cs.length ((L g).map (fun (x:Nat)=>(x:Int))) (by
  have hn:=h.nd g hg;unfold List.Nodup at hn ⊢;rw [List.pairwise_map];exact hn.imp (fun h e=>h ω)) (fun x hx=>by
  obtain ⟨y,hy,rfl⟩:=List.mem_map.1 hx
  have:=(h.mem g y hg).1 hy;omega)
 simpa using h1
theorem rU.first (h:rU d A L) (hd:2<=d) {g m:Nat} {l:List Nat} (hg:bf A g=true) (hl:L g=m::l):bu A g=some m:=by
 have h0:=(aK _ _).1 hg;have hm:=(h.mem g m hg).1 (by rw [hl];simp);refine (dD ω).2 ⟨hm.1,hm.2,fun y hy hyi=>?_⟩;have hym:=(h.mem g y hg).2 ⟨hy,hyi⟩;have hH:=h.hp g hg;rw [hl] at hym hH;obtain ⟨j,hj,e⟩:=List.mem_iff_getElem.1 hym;rcases Hp.first (gU A) hd hH j j (Θ _) hj with e2|e2
 ·subst e2;left;rw [←e];rfl
 ·right;have e3:(m::l).getD j 0=y:=by rw [φ,ε hj,e];rfl
  rw [e3] at e2;exact ed.1 e2
theorem rU.none (h:rU d A L) {g:Nat} (hg:bf A g=true) (hl:L g=[]):bu A g=none:=by
 refine (iI (by have:=(aK _ _).1 hg;omega)).2 ?_;rcases Nat.eq_zero_or_pos (dA A (g:Int)) with e|e
 ·exact e
 ·obtain ⟨x,hx,hi,_⟩:=dL.1 e;have:=(h.mem g x hg).2 ⟨hx,hi⟩;rw [hl] at this;cases this
theorem rU.Rv (h:rU d A L) {g:Int} {m:Nat} (hm:bu A g=some m) (ok:A.Ok):∃q:Nat,g=q/\bf A q=true/\m∈L q:=by
 have hpos:0<g:=by
  rcases Int.lt_or_le 0 g with h|h
  ·exact h
  ·rw [nI ω] at hm;cases hm
 have h1:=(dD hpos).1 hm;have h2:=ok.nat m h1.1;obtain ⟨q,rfl⟩:∃q:Nat,g=q:=⟨g.toNat,ω⟩;have hin:bP A (m:Int)=true:=(aj _ _).2 ⟨h1.1,by rw [h1.2.1];exact hpos⟩;have hh:=iH ok hin;rw [π,h1.2.1] at hh;exact ⟨q,rfl,hh,(h.mem q m hh).2 ⟨h1.1,h1.2.1⟩⟩
theorem rU.next {A':NS} {g:Nat} {l:List Nat} (h:rU d A L) (hd:2<=d) (hh:∀k:Nat,bf A' k=bf A k) (hc:A'.cs.length=A.cs.length)
  (k1:∀k:Nat,k≠g->∀x,x<A.cs.length->1<=k->((A'.c x).i=k↔(A.c x).i=k)) (k2:∀x,(A.c x).i≠g->(A'.c x).i≠g->A'.c x=A.c x)
  (n1:Hp (oP A') d l) (n2:l.Nodup) (n3:bf A g=true->∀x,x∈l↔x<A.cs.length/\(A'.c x).i=g):rU d A' (jq L g l):=by
 refine ⟨fun k hk=>?_,fun k hk=>?_,fun k x hk=>?_⟩
 all_goals rw [hh] at hk
 ·by_cases e:k=g
  ·subst e;rw [bY];exact n1
  ·rw [bB _ _ e];refine rU.frame (h.hp k hk) hd (fun y hy=>?_);have hy2:=(h.mem k y hk).1 hy;have hk0:=(aK _ _).1 hk;exact k2 y ω (by rw [(k1 k e y hy2.1 ω).2 hy2.2];omega)
 ·by_cases e:k=g
  ·subst e;rw [bY];exact n2
  ·rw [bB _ _ e];exact h.nd k hk
 ·rw [hc]
  by_cases e:k=g
  ·subst e;rw [bY];exact n3 hk x
  ·rw [bB _ _ e,h.mem k x hk];have hk0:=(aK _ _).1 hk;constructor
   ·rintro ⟨a,b⟩;exact ⟨a,(k1 k e x a ω).2 b⟩
   ·rintro ⟨a,b⟩;exact ⟨a,(k1 k e x a ω).1 b⟩
theorem rU.put (h:rU d A L) (hd:2<=d) (ok:A.Ok) {g x:Nat} {k s:Int} (hB:iX A g x=true) {l:List Nat} (hp:l.Perm (x::L g)) (hH:Hp (oP (au A g x k s)) d l):rU d (au A g x k s) (jq L g l)/\x∉L g:=by
 obtain ⟨b1,b2,b3⟩:=(bV _ _ _).1 hB;have hx:x<A.cs.length:=by have:=(dB _ _).1 b2;omega
 have h0:(A.c x).i=0:=by
  have:=(ok.nat x hx).1;have h3:¬ (0<(A.c x).i):=fun h'=>by rw [(aj A x).2 ⟨hx,h'⟩] at b3;cases b3
  omega
 have hg0:=(aK _ _).1 b1;have hc:∀y,(au A g x k s).c y=if y=x then ⟨g,k,s⟩ else A.c y:=fun y=>by
  unfold au;rw [Δ hB,π,iy]
  by_cases e:y=x
  ·rw [Δ ⟨e,hx⟩,Δ e]
  ·rw [Γ (fun h=>e h.1),Γ e]
 have WT:x∉L g:=fun hm=>by have:=(h.mem g x b1).1 hm;omega
 refine ⟨h.next hd (fun q=>by unfold au;rw [Δ hB];rfl) (by unfold au;rw [Δ hB,dK]) (fun q hq y hy hq1=>?_) (fun y hy1 hy2=>?_) hH (hp.nodup_iff.2 (List.nodup_cons.2 ⟨WT,h.nd g b1⟩)) (fun _ y=>?_),WT⟩
 ·rw [hc]
  by_cases e:y=x
  ·rw [Δ e,e];simp only;omega
  ·rw [Γ e]
 ·rw [hc] at hy2 ⊢
  by_cases e:y=x
  ·rw [Δ e] at hy2;exact absurd rfl hy2
  ·rw [Γ e]
 ·rw [hp.mem_iff,ρ,h.mem g y b1,hc]
  by_cases e:y=x
  ·rw [Δ e,e];simp [hx]
  ·rw [Γ e];simp [e]
theorem rU.drop (h:rU d A L) (hd:2<=d) {g x:Nat} (hg:bf A g=true) (hx:x∈L g) {l:List Nat} (hp:(x::l).Perm (L g)) (hH:Hp (oP A) d l):rU d (aL A x) (jq L g l):=by
 have hm:=(h.mem g x hg).1 hx;have hg0:=(aK _ _).1 hg;have hin:bP A (x:Int)=true:=(aj A x).2 ⟨hm.1,ω⟩;have hc:=pO hin;have hnd:(x::l).Nodup:=hp.nodup_iff.2 (h.nd g hg);have hxt:x∉l:=(List.nodup_cons.1 hnd).1;have hcy:∀y,y≠x->(aL A x).c y=A.c y:=fun y hy=>by rw [hc,Γ hy]
 refine h.next hd (fun q=>by unfold bf;rw [fJ]) (cK _ _) (fun q hq y hy hq1=>?_) (fun y hy1 hy2=>hcy y (fun e=>hy1 (by rw [e];exact hm.2))) (rU.frame hH hd (fun y hy=>hcy y (fun e=>hxt (by rw [←e];exact hy)))) (List.nodup_cons.1 hnd).2 (fun _ y=>?_)
 ·rw [hc]
  by_cases e:y=x
  ·rw [Δ e,e];show (0:Int)=(q:Int)↔_;omega
  ·rw [Γ e]
 ·have e1:=hp.mem_iff (a:=y);rw [ρ,h.mem g y hg] at e1;rw [hc]
  by_cases e:y=x
  ·rw [Δ e,e];refine ⟨fun hh=>absurd hh hxt,fun hh=>?_⟩;have:(0:Int)=(g:Int):=hh.2;omega
  ·rw [Γ e,←e1];simp [e]
theorem tO (A:NS) (hl:¬65536<A.hs.length) (hl0:1<=A.hs.length) (k:Nat):bf (aD A) k=(bf A k || k == A.hs.length):=by
 unfold aD bf;rw [Γ hl];simp only [υ,List.length_singleton,π,φ]
 by_cases e:k=A.hs.length
 ·subst e;simp;omega
 ·by_cases e2:k<A.hs.length
  ·rw [Ρ e2];have e3:(k:Int)<(A.hs.length:Int):=ω;have e4:(k:Int)<(A.hs.length:Int)+1:=ω;simp [e,e2,e3,e4]
  ·have e3:¬ (k:Int)<(A.hs.length:Int):=ω;have e4:¬ (k:Int)<(A.hs.length:Int)+1:=ω;simp [e,e2,e3,e4]
theorem rU.make (h:rU d A L) (hd:2<=d) (ok:A.Ok) (hl:¬65536<A.hs.length) (hl0:1<=A.hs.length):rU d (aD A) (jq L A.hs.length []):=by
 have hc:(aD A).cs=A.cs:=by unfold aD;rw [Γ hl]
 have hcc:∀x,(aD A).c x=A.c x:=fun x=>by unfold NS.c;rw [hc]
 have hno:bf A (A.hs.length:Int)=false:=by
  cases hh:bf A (A.hs.length:Int) with
  | false=>rfl
  | true=>have:=(aK _ _).1 hh;omega
 have hcase:∀k:Nat,bf (aD A) k=true->k=A.hs.length\/(k≠A.hs.length/\bf A k=true):=fun k hk=>by
  rw [tO A hl hl0] at hk
  by_cases e:k=A.hs.length
  ·exact Α e
  ·right;simp [e] at hk;exact ⟨e,hk⟩
 refine ⟨fun k hk=>?_,fun k hk=>?_,fun k x hk=>?_⟩
 ·rcases hcase k hk with rfl|⟨e,hk'⟩
  ·rw [bY];intro j _ hj;simp at hj
  ·rw [bB _ _ e];exact (h.hp k hk').frame (fun a b _ _ hab=>ed.2 ((fV (hcc a) (hcc b)).2 (ed.1 hab))) hd
 ·rcases hcase k hk with rfl|⟨e,hk'⟩
  ·rw [bY];exact ϧ
  ·rw [bB _ _ e];exact h.nd k hk'
 ·rw [hc,hcc];rcases hcase k hk with rfl|⟨e,hk'⟩
  ·rw [bY];simp only [ς,false_iff,not_and];intro hx hi;have:=(ok.nat x hx).2;omega
  ·rw [bB _ _ e];exact h.mem k x hk'
end
structure fH where
 ty:TypeId
 p:Nat
 rd:List Nat
 wr:List Nat
 lt:Nat->Nat->Bool
 dom:Nat->Prop
 at_:World->Prop
 sub:∀x,x∈wr->x∈rd
 low:∀ {w:World},at_ w->∀x,x∈rd->x<w.heap.size
 upd:∀ {w w':World} {S:List Nat},at_ w->aa S w w'->(∀x,x∈S->x∉rd)->at_ w'
 trans:∀a b c,lt a b=true->lt b c=true->lt a c=true
 total:∀a b,a≠b->lt a b=true\/lt b a=true
 asym:∀a b,lt a b=true->lt b a=false
 fn:FuncId
 recv:Value
 ent:Enters fn
 Su:∀ {w:World},at_ w->(method 429 ty (.pointer (some ⟨p,0,none⟩)) "Ahead").run Tryz.prog w=.ok (fn,recv) w
 Te:∀w:World,(nilAhead 429 ty (.pointer (some ⟨p,0,none⟩)) "Ahead").run Tryz.prog w=.ok (some false) w
 ask:∀ {w:World} (x y:Nat),at_ w->dom x->dom y->Calls Tryz.prog fn #[recv,.int .i64 (x:Int),.int .i64 (y:Int)] w fun e w'=>e=.returned (.bool (lt x y))/\at_ w'/\aa wr w w'
structure fH.On (O:fH) (w0 w:World):Prop where
 at_:O.at_ w
 upd:aa O.wr w0 w
theorem fH.On.start {O:fH} {w:World} (h:O.at_ w):O.On w w:=⟨h,aa.refl _ _⟩
theorem fH.On.drew {O:fH} {w0 w:World} (h:O.On w0 w):O.On w0 w.drew:=⟨O.upd h.at_ ((aa.refl [] w).drew) σ,h.upd.drew⟩
theorem fH.On.drewN {O:fH} {w0 w:World} (h:O.On w0 w) (n:Nat):O.On w0 (w.drewN n):=⟨O.upd h.at_ ((aa.refl [] w).drewN n) σ,h.upd.drewN n⟩
theorem fH.On.asked {O:fH} {w0 w w':World} (h:O.On w0 w) (ha:O.at_ w') (hu:aa O.wr w w'):O.On w0 w':=⟨ha,h.upd.trans hu⟩
def fH.R (O:fH) (a b:Nat):Prop:=O.lt a b=true
theorem fH.tr (O:fH):∀a b c,O.R a b->O.R b c->O.R a c:=O.trans
structure rZ (w:World) (rp mb g cap d:Nat) (f:Int->Option Int) (L:List Nat):Prop where
 head:aF w rp 247 3 (fun j=>[Value.int .i64 (d:Int),.slice (some ⟨g,0,none⟩) L.length cap,.map (some mb)].getD j undef)
 row:IZ w g cap (bC L)
 map:eO w mb f
 sep:rp≠mb/\rp≠g/\mb≠g
theorem bO (L:List Nat):(bC L).length=L.length:=by unfold bC;simp
theorem qw {L:List Nat} {j:Nat}:(bC L).getD j 0=((L.getD j 0:Nat):Int):=by
 unfold bC;simp only [φ,ϓ];cases L[j]?<;>rfl
theorem lI (L:List Nat) (i x:Nat):bC (L.set i x)=(bC L).set i (x:Int):=by unfold bC;rw [List.map_set]
section
variable {w:World} {rp mb g cap d:Nat} {f:Int->Option Int} {L:List Nat}
theorem rZ.upd {w':World} {S:List Nat} (h:rZ w rp mb g cap d f L) (hu:aa S w w') (h1:rp∉S) (h2:mb∉S) (h3:g∉S):rZ w' rp mb g cap d f L:=
 ⟨h.head.upd hu h1,h.row.upd hu h3,h.map.upd hu h2,h.sep⟩
theorem rZ.ae {w':World} (h:rZ w rp mb g cap d f L) (hu:aa [] w w'):rZ w' rp mb g cap d f L:=h.upd hu σ σ σ
theorem rZ.h0 (h:rZ w rp mb g cap d f L):w.cell? ⟨rp,0,none⟩=some (.int .i64 (d:Int)):=h.head.cellAt 0 ω rfl
theorem rZ.h1 (h:rZ w rp mb g cap d f L):w.cell? ⟨rp,1,none⟩=some (.slice (some ⟨g,0,none⟩) L.length cap):=h.head.cellAt 1 ω rfl
theorem rZ.h2 (h:rZ w rp mb g cap d f L):w.cell? ⟨rp,2,none⟩=some (.map (some mb)):=h.head.cellAt 2 ω rfl
theorem rZ.lt (h:rZ w rp mb g cap d f L):rp<w.heap.size/\mb<w.heap.size/\g<w.heap.size:=⟨h.head.lt,h.map.lt,h.row.lt⟩
theorem rZ.cell (h:rZ w rp mb g cap d f L) (j:Nat) (hj:j<L.length):w.cell? ⟨g,j,none⟩=some (.int .i64 ((L.getD j 0:Nat):Int)):=by
 have:=h.row.cell j (by rw [bO];exact hj);rwa [qw] at this
/-! ### places -/
theorem GU (d i:Nat) (hd:2<=d/\d<=16) (hi:i<=65536) (w:World) :
  Calls Tryz.prog 165 #[.int .i64 (d:Int),.int .i64 (i:Int)] w fun e w'=>e=.returned (.tuple #[.int .i64 (if i=0 then 0 else (par d i:Int)),.bool (decide (0<i))])/\aa [] w w':=by
 have kf:∀W,Calls Tryz.prog 115 #[.int .i64 (d:Int)] W fun e w'=>e=.returned (.bool true)/\w'=W:=fun W=>by
  have h1:(d:Int)≥2:=ω;have h2:(d:Int)<=16:=ω
  go_enter Tryz.func115,Tryz.ntmps115
  go_wp2;go_ret;exact ⟨rfl,rfl⟩
 by_cases h0:i=0
 ·subst h0
  go_enter Tryz.func165,Tryz.ntmps165
  go_wp2_with (first|(go_at_call 115;(with_reducible refine (kf _).mono ?_);rintro e w9 ⟨rfl,aO⟩;rw [aO];clear aO w9)|fail)
  go_ret2;exact ⟨rfl,aa.refl _ _⟩
 ·have h1:¬ (i:Int)<1:=ω;have hd0:¬ (d:Int)=0:=ω;rw [Γ h0,Ν (ω:0<i)];have hq:((i:Int)-1).tdiv (d:Int)=(par d i:Int):=by
   unfold par;rw [show (i:Int)-1=((i-1:Nat):Int) by omega]
   rfl
  go_enter Tryz.func165,Tryz.ntmps165
  go_wp2_with (first|(go_at_call 115;(with_reducible refine (kf _).mono ?_);rintro e w9 ⟨rfl,aO⟩;rw [aO];clear aO w9)|fail)
  go_ret2;have hp:=dO hd.1 (show 0<i by omega);rw [IntWalk.wrap64_in _ ω];exact ⟨rfl,aa.refl _ _⟩
theorem JR (d i k:Nat) (hd:2<=d/\d<=16) (hi:i<=65536) (hk:1<=k/\k<=d) (w:World) :
  Calls Tryz.prog 172 #[.int .i64 (d:Int),.int .i64 (i:Int),.int .i64 (k:Int)] w fun e w'=>e=.returned (.tuple #[.int .i64 ((d*i+k:Nat):Int),.bool true])/\aa [] w w':=by
 have kf:∀W,Calls Tryz.prog 115 #[.int .i64 (d:Int)] W fun e w'=>e=.returned (.bool true)/\w'=W:=fun W=>by
  have h1:(d:Int)≥2:=ω;have h2:(d:Int)<=16:=ω
  go_enter Tryz.func115,Tryz.ntmps115
  go_wp2;go_ret;exact ⟨rfl,rfl⟩
 have h1:¬ (i:Int)<0:=ω;have h2:¬ (i:Int) > 1099511627776:=ω;have h3:¬ (k:Int)<1:=ω;have h4:¬ (k:Int) > (d:Int):=ω;have hm:d*i<=16*65536:=Nat.mul_le_mul hd.2 hi;have hmul:(d:Int)*(i:Int)=((d*i:Nat):Int):=σ;generalize d * i=m at *;have hw1:wrap64 (m:Int)=(m:Int):=IntWalk.wrap64_in _ ω;have hw2:wrap64 ((m:Int)+(k:Int))=(m:Int)+(k:Int):=IntWalk.wrap64_in _ ω
 go_enter Tryz.func172,Tryz.ntmps172
 go_wp2_with (first|(go_at_call 115;(with_reducible refine (kf _).mono ?_);rintro e w9 ⟨rfl,aO⟩;rw [aO];clear aO w9)|fail)
 go_ret2;exact ⟨by first|rfl|simp [hmul],aa.refl _ _⟩
theorem ql (h:rZ w rp mb g cap d f L) (i x:Nat) (hi:i<L.length) (hx:x<=65536) (hl:L.length<=65536) :
  Calls Tryz.prog 166 #[.pointer (some ⟨rp,0,none⟩),.int .i64 (i:Int),.int .i64 (x:Int)] w fun e w'=>e=.returned (.tuple #[])/\rZ w' rp mb g cap d (Pn f x i) (L.set i x)/\aa [g,mb] w w':=by
 have c0:=h.h0;have c1:=h.h1;have c2:=h.h2;have hc:=h.row.cap;rw [bO] at hc;have fg:=h.row.free i;have cg:=h.cell i hi;have hlt:=h.lt;have s:=h.sep;have hu1:aa [g] w (w.setCell ⟨g,i,none⟩ (.int .i64 (x:Int))):=β;have hM1:eO (w.setCell ⟨g,i,none⟩ (.int .i64 (x:Int))) mb f:=h.map.upd hu1 ζ;have H1:aF (w.setCell ⟨g,i,none⟩ (.int .i64 (x:Int))) rp 247 3 (fun j=>[Value.int .i64 (d:Int),.slice (some ⟨g,0,none⟩) L.length cap,.map (some mb)].getD j undef):=h.head.upd hu1 ζ;have H2:IZ (w.setCell ⟨g,i,none⟩ (.int .i64 (x:Int))) g cap (bC (L.set i x)):=by rw [lI];exact h.row.set i _
 have HH:=χ (ψ H1 (ψ H2 (ψ s hu1)));have hil:(i:Int)<(L.length:Int):=ω;have e1:rp≠g:=s.2.1;generalize hn:L.length=n at *;have HN:=χ hn;clear h H1 H2 hu1 hn
 go_enter Tryz.func166,Tryz.ntmps166
 go_wp2_with (first
  | (at_mapUpdate;refine kG rfl _ _ _ rfl mb f rfl hM1 (x:Int) (i:Int) rfl rfl ω ω ?_;intro w2 hm2 hu2)
  | fail)
 go_end0;obtain ⟨H1,H2,s,hu1⟩:=HH.out;refine ⟨rfl,⟨?_,H2.upd hu2 ζ,hm2,s⟩,(hu1.mono σ).trans (hu2.mono σ)⟩;rw [Ι,HN.out];exact H1.upd hu2 ζ
end
structure LK (O:fH) (rp mb g:Nat):Prop where
 a:rp∉O.rd
 b:mb∉O.rd
 c:g∉O.rd
theorem LK.wr {O:fH} {rp mb g:Nat} (h:LK O rp mb g):rp∉O.wr/\mb∉O.wr/\g∉O.wr:=⟨fun hm=>h.a (O.sub _ hm),fun hm=>h.b (O.sub _ hm),fun hm=>h.c (O.sub _ hm)⟩
theorem nV {L:List Nat} {i x p:Nat} (hp:p<L.length) (hne:p≠i):L.getD p 0∈L.set i x:=by
 have h1:(L.set i x)[p]?=some (L.getD p 0):=by rw [Ϗ (fun e=>hne e.symm)];simp [φ,hp]
 exact Η h1
theorem Jr {L:List Nat} {i x p:Nat} (hi:i<L.length) (hp:p<L.length) (hne:p≠i) (hn:(L.set i x).Nodup):L.getD p 0≠x:=fun e=>by
 have h1:(L.set i x)[p]?=some x:=by rw [Ϗ (fun e=>hne e.symm),←e];simp [φ,hp]
 have h2:(L.set i x)[i]?=some x:=by simp [hi]
 obtain ⟨g1,e1⟩:=List.getElem?_eq_some_iff.1 h1;obtain ⟨g2,e2⟩:=List.getElem?_eq_some_iff.1 h2;exact hne ((List.getElem_inj hn).1 (e1.trans e2.symm))
theorem Bl (O:fH) {w:World} {rp mb g cap d:Nat} {f:Int->Option Int} {L:List Nat} (hO:O.at_ w) (h:rZ w rp mb g cap d f L) (hd:2<=d/\d<=16) (hl:L.length<=65536) (i x:Nat) (hH:eH O.R d L i) (hP:kQ f L i x)
  (hn:(L.set i x).Nodup) (hdom:∀y,y∈L.set i x->O.dom y) (h16:∀y,y∈L.set i x->y<=65536) (hsep:LK O rp mb g) :
  Calls Tryz.prog 159 #[.pointer (some ⟨rp,0,none⟩),.iface O.ty (.pointer (some ⟨O.p,0,none⟩)),.int .i64 (i:Int),.int .i64 (x:Int)] w fun e w'=>∃ (k:Nat) (f':Int->Option Int) (L':List Nat),e=.returned (.int .i64 (k:Int))/\rZ w' rp mb g cap d f' L'/\tu f' L'/\L'.Perm (L.set i x)/\O.at_ w'/\aa (g::mb::O.wr) w w'/\
   (k=i->L'=L.set i x/\(i=0\/O.R (L.getD (par d i) 0) x))/\(k≠i\/Below O.R d L i x->Hp O.R d L'):=by
 have hi0:=hH.lt;have hxm:x∈L.set i x:=Η (show (L.set i x)[i]?=some x by simp [hi0]);have hdx:=hdom x hxm;have hxl:=h16 x hxm;have HX:=χ (ψ hn (ψ hdom (ψ h16 (ψ hsep hd))));have hwr:=hsep.wr
 go_enter Tryz.func159,Tryz.ntmps159
 go_wp2
 go_loopw [2,9,10] (fun iv _ _ wr=>∃ (i':Nat) (f':Int->Option Int) (L':List Nat),iv=.int .i64 (i':Int)/\rZ wr rp mb g cap d f' L'/\eH O.R d L' i'/\kQ f' L' i' x/\L'.length=L.length/\(L'.set i' x).Perm (L.set i x)/\O.at_ wr/\aa (g::mb::O.wr) w wr/\((i'=i/\L'=L)\/(i'<i/\Below O.R d L' i' x))) (fun iv _ _ _=>(intOf iv).toNat)
 case atStart=>exact ⟨i,f,L,rfl,h,hH,hP,rfl,ό _,hO,aa.refl _ _,Α ⟨rfl,rfl⟩⟩
 case round=>
  clear h hH hP hO;obtain ⟨i1,f1,L1,rfl,h,hH,hP,hl1,hpm,hO,hu,hst⟩:=hrel;rename World=>wr;have hi1:=hH.lt;have hn1:(L1.set i1 x).Nodup:=hpm.nodup_iff.2 HX.out.1;have kp:=fun W=>GU d i1 hd ω W;have c0:=h.h0;have c1:=h.h1;have hlt:=h.lt
  by_cases hz:i1=0
  ·have ks:=fun W (hW:aa [] wr W)=>ql (h.ae hW) i1 x hi1 hxl ω;have e1:(if i1=0 then (0:Int) else (par d i1:Int))=0:=Δ hz;have e2:decide (0<i1)=false:=by simp [hz]
   simp only [e1,e2] at kp;have HF:=χ (ψ hH (ψ hP (ψ hn1 (ψ hpm (ψ hO (ψ hst (ψ hu (ψ hl1 hz))))))));clear hH hP hn1 hpm hO hst hu hl1 h hz e1 e2
   go_upto_region 2 with (first
    | ((go_at_call 165;(with_reducible refine (kp _).mono ?_));rintro e w1 ⟨rfl,hu1⟩)
    | fail)
   go_quiet (fail)
   have ks1:=ks _ (hu1.drewN nq)
   go_wp2_with (first
    | ((go_at_call 166;(with_reducible refine (ks1).mono ?_));rintro e w2 ⟨rfl,hR,hu2⟩)
    | fail)
   go_ret;obtain ⟨hH,hP,hn1,hpm,hO,hst,hu,hl1,hz⟩:=HF.out;have hu3:aa [g,mb] wr w2:=(hu1.drewN nq).mono σ |>.trans hu2;refine ⟨i1,_,_,rfl,hR,hP.fill hi1 hn1,hpm,O.upd hO hu3 (fun y hy=>by have:=HX.out.2.2.2.1;simp at hy;rcases hy with rfl|rfl;exact this.c;exact this.b),hu.trans (hu3.mono (by simp +contextual)),fun e=>?_,fun e=>?_⟩
   ·rcases hst with ⟨_,rfl⟩|⟨h1,_⟩
    ·subst e;exact ⟨rfl,Α hz⟩
    ·omega
   ·have hb:Below O.R d L1 i1 x:=by
     rcases hst with ⟨e1,e2⟩|⟨_,h2⟩
     ·rcases e with e|e
      ·exact absurd e1 e
      ·rw [e1,e2];exact e
     ·exact h2
    exact hH.fill hd.1 hb (Α hz)
  ·obtain ⟨p,hp⟩:∃p,p=par d i1:=⟨_,rfl⟩;have hpl:p<i1:=by rw [hp];exact dO hd.1 ω
   have e1:(if i1=0 then (0:Int) else (par d i1:Int))=(p:Int):=by rw [Γ hz,hp]
   have e2:decide (0<i1)=true:=ζ;simp only [e1,e2] at kp;have hcp:=h.cell p ω;have hcg:=h.h1;have hdp:=HX.out.2.1 (L1.getD p 0) (hpm.mem_iff.1 (nV ω ω));have hpx:=Jr hi1 (show p<L1.length by omega) ω hn1;have VW:=fun W (hW:aa O.wr wr W)=>ql (h.upd hW hwr.1 hwr.2.1 hwr.2.2) i1 (L1.getD p 0) hi1 (HX.out.2.2.1 _ (hpm.mem_iff.1 (nV ω ω))) ω;have ks:=fun W (hW:aa O.wr wr W)=>ql (h.upd hW hwr.1 hwr.2.1 hwr.2.2) i1 x hi1 hxl ω;have HF:=χ (ψ hH (ψ hP (ψ hn1 (ψ hpm (ψ hO (ψ hst (ψ hu (ψ hl1 (ψ hz (ψ hp (ψ hpx h)))))))))));have hi1L:(p:Int)<(L1.length:Int):=ω;have K9:=hwr.1;have hgw:=hwr.2.2
   clear hH hP hn1 hpm hst hu hl1 h hz e1 e2 hp hpx hpl hwr;generalize hy:L1.getD p 0=y at *
   go_upto_region 2 with (first
    | ((go_at_call 165;(with_reducible refine (kp _).mono ?_));rintro e w1 ⟨rfl,hu1⟩)
    | fail)
   have om:O.On w1 w1:=.start (O.upd hO hu1 σ);have UM:∀W,O.On w1 W->W.cell? ⟨g,p,none⟩=some (.int .i64 (y:Int)):=fun W hW=>hW.upd.kept (hu1.was hcp) hgw;have UU:∀W,O.On w1 W->W.cell? ⟨rp,1,none⟩=some (.slice (some ⟨g,0,none⟩) L1.length cap):=fun W hW=>hW.upd.kept (hu1.was hcg) K9;have hm:∀W,O.On w1 W->_:=fun W hW=>O.Su hW.at_;have hnl:=O.Te;have hen:=O.ent;unfold Enters at hen
   go_region_held3 (O.On w1) (first|assumption|exact om|(refine fH.On.drew ?_;first|assumption|exact om)|(refine fH.On.drewN ?_ _;first|assumption|exact om))
    (first
     | ((with_reducible refine (O.ask x y (fH.On.at_ (w0:=w1) (by first|assumption|exact om|(refine fH.On.drew ?_;first|assumption|exact om)|(refine fH.On.drewN ?_ _;first|assumption|exact om))) hdx hdp).mono ?_);rintro e w5 ⟨rfl,zx,dF⟩;(have sK:O.On w1 w5:=fH.On.asked (by first|assumption|exact om|(refine fH.On.drew ?_;first|assumption|exact om)|(refine fH.On.drewN ?_ _;first|assumption|exact om)) zx dF)))
   have sW:aa O.wr wr w5:=(hu1.mono σ).trans sK.upd;have VJ:=ks w5 sW;have Ze:=VW w5 sW;have HY:=χ (ψ hy (ψ sK.at_ sW));have cp5:=UM w5 sK;have cg5:=UU w5 sK;clear ks VW UM UU hm om sK dF zx hO hcp hcg;cases hxy:O.lt x y with
   | false=>
    clear Ze
    go_wp2_with (first
     | ((go_at_call 166;(with_reducible refine (VJ).mono ?_));rintro e w2 ⟨rfl,hR,hu2⟩)
     | fail)
    go_ret;obtain ⟨hH,hP,hn1,hpm,hO,hst,hu,hl1,hz,hp,hpx,h⟩:=HF.out;obtain ⟨hy,hat,dF⟩:=HY.out;have hup:O.R (L1.getD (par d i1) 0) x:=by
     rw [←hp,hy];rcases O.total x y (fun e=>hpx e.symm) with e|e
     ·rw [e] at hxy;cases hxy
     ·exact e
    refine ⟨i1,_,_,rfl,hR,hP.fill hi1 hn1,hpm,O.upd hat hu2 (fun y hy=>by have:=HX.out.2.2.2.1;simp at hy;rcases hy with rfl|rfl;exact this.c;exact this.b),(hu.trans (dF.mono (by simp +contextual))).trans (hu2.mono (by simp +contextual)),fun e=>?_,fun e=>?_⟩
    ·rcases hst with ⟨_,e2⟩|⟨h1,_⟩
     ·rw [e2] at hup ⊢;rw [e] at hup ⊢;exact ⟨rfl,Β hup⟩
     ·omega
    ·have hb:Below O.R d L1 i1 x:=by
      rcases hst with ⟨e1,e2⟩|⟨_,h2⟩
      ·rcases e with e|e
       ·exact absurd e1 e
       ·rw [e1,e2];exact e
      ·exact h2
     exact hH.fill hd.1 hb (Β hup)
   | true=>
    clear VJ
    go_wp2_with (first
     | ((go_at_call 166;(with_reducible refine (Ze).mono ?_));rintro e w2 ⟨rfl,hR,hu2⟩)
     | fail)
    go_roundw
    case rel=>
     obtain ⟨hH,hP,hn1,hpm,hO,hst,hu,hl1,hz,hp,hpx,h⟩:=HF.out;obtain ⟨hy,hat,dF⟩:=HY.out;have hpl:p<i1:=by rw [hp];exact dO hd.1 ω
     have hup:=hH.up O.tr hd.1 ω (x:=x) (by rw [←hp,hy];exact hxy);rw [←hp,hy] at hup;have hmv:=hP.move hi1 (p:=p) ω ω hn1;rw [hy] at hmv;have hpr:=vI (L:=L1) (i:=i1) (p:=p) (x:=x) hi1 ω ω;rw [hy] at hpr;refine ⟨p,_,_,rfl,hR,hup.1,hmv,by rw [Ι];exact hl1,hpr.trans hpm,O.upd hat hu2 (fun y hy=>by have:=HX.out.2.2.2.1;simp at hy;rcases hy with rfl|rfl;exact this.c;exact this.b),(hu.trans (dF.mono (by simp +contextual))).trans (hu2.mono (by simp +contextual)),Β ⟨?_,hup.2⟩⟩;rcases hst with ⟨e,_⟩|⟨e,_⟩<;>omega
    case measure=>
     have hpl:p<i1:=by rw [HF.out.2.2.2.2.2.2.2.2.2.1];exact dO hd.1 (by have:=HF.out.2.2.2.2.2.2.2.2.1;omega)
     simp [intOf];omega
structure HB where
 n0:Nat
 c:Nat
 ga:Nat
def NH (B:HB) (v:Value) (j:Nat):Value:=[Value.pointer (some ⟨B.n0,0,none⟩),v].getD j undef
structure mq (w:World) (B:HB) (F:List Nat) (A:NS) (rp g cap:Nat) (L T:List Nat):Prop where
 hd:aF w rp 321 2 (NH B (.slice (some ⟨g,0,none⟩) L.length cap))
 row:IZ w g cap (bC L)
 yE:IZ w B.ga T.length (bC T)
 OQ:w.cell? ⟨B.n0,0,none⟩=some (.pointer (some ⟨B.c,0,none⟩))
 Pb:w.cell? ⟨B.n0,2,none⟩=some (.slice (some ⟨B.ga,0,none⟩) T.length T.length)
 J7:∃st,aB w B.c F A st
 s1:rp≠g/\rp≠B.ga/\rp≠B.n0
 s2:g≠B.ga/\g≠B.n0/\B.ga≠B.n0
 s3:rp∉F/\g∉F/\B.ga∉F/\B.n0∉F
 dom:∀x,x∈L->bP A (x:Int)=true/\x<T.length
 nd:L.Nodup
 C9:∀j x,L[j]?=some x->T.getD x 0=j
 tl:T.length<=65536
section
variable {w:World} {B:HB} {F:List Nat} {A:NS} {rp g cap:Nat} {L T:List Nat}
theorem mq.mem (h:mq w B F A rp g cap L T):B.c∈F:=by obtain ⟨st,hC⟩:=h.J7;exact hC.mem
theorem mq.cne (h:mq w B F A rp g cap L T):rp≠B.c/\g≠B.c/\B.ga≠B.c/\B.n0≠B.c:=by
 have hm:=h.mem;have h3:=h.s3;exact ⟨fun e=>h3.1 (by rw [e];exact hm),fun e=>h3.2.1 (by rw [e];exact hm),fun e=>h3.2.2.1 (by rw [e];exact hm),fun e=>h3.2.2.2 (by rw [e];exact hm)⟩
theorem mq.h0 (h:mq w B F A rp g cap L T):w.cell? ⟨rp,0,none⟩=some (.pointer (some ⟨B.n0,0,none⟩)):=h.hd.cellAt 0 ω rfl
theorem mq.h1 (h:mq w B F A rp g cap L T):w.cell? ⟨rp,1,none⟩=some (.slice (some ⟨g,0,none⟩) L.length cap):=h.hd.cellAt 1 ω rfl
theorem mq.EY (h:mq w B F A rp g cap L T) (j:Nat) (hj:j<L.length):w.cell? ⟨g,j,none⟩=some (.int .i64 ((L.getD j 0:Nat):Int)):=by
 have:=h.row.cell j (by rw [bO];exact hj);rwa [qw] at this
theorem mq.Jl (h:mq w B F A rp g cap L T) (j:Nat) (hj:j<T.length):w.cell? ⟨B.ga,j,none⟩=some (.int .i64 ((T.getD j 0:Nat):Int)):=by
 have:=h.yE.cell j (by rw [bO];exact hj);rwa [qw] at this
theorem mq.len (h:mq w B F A rp g cap L T):L.length<=65536:=by
 have h1:=nodup_range T.length (L.map (fun (x:Nat)=>(x:Int))) (by
  have hn:=h.nd;unfold List.Nodup at hn ⊢;rw [List.pairwise_map];exact hn.imp (fun h e=>h ω)) (fun x hx=>by
  obtain ⟨y,hy,rfl⟩:=List.mem_map.1 hx
  have:=(h.dom y hy).2;omega)
 have:=h.tl;simp at h1;omega
theorem mq.capb (h:mq w B F A rp g cap L T):L.length<=cap/\cap<=9223372036854775807:=by
 have:=h.row.cap;rwa [bO] at this
theorem mq.upd {w':World} {S:List Nat} (h:mq w B F A rp g cap L T) (hu:aa S w w') (hS:∀x,x∈S->x∉rp::g::B.ga::B.n0::F):mq w' B F A rp g cap L T:=by
 have h1:∀x,x∈rp::g::B.ga::B.n0::F->x∉S:=fun x hx hg=>hS x hg hx;refine ⟨h.hd.upd hu (h1 _ σ),h.row.upd hu (h1 _ σ),h.yE.upd hu (h1 _ σ),hu.kept h.OQ (h1 _ σ),hu.kept h.Pb (h1 _ σ),?_,h.s1,h.s2,h.s3,h.dom,h.nd,h.C9,h.tl⟩;obtain ⟨st,hC⟩:=h.J7;exact ⟨st,hC.upd hu (fun x hx hm=>hS x hx (by simp [hm]))⟩
theorem mq.ae {w':World} (h:mq w B F A rp g cap L T) (hu:aa [] w w'):mq w' B F A rp g cap L T:=h.upd hu σ
theorem mq.counted {w':World} {st:Nat} (h:mq w B F A rp g cap L T) (hu:aa [B.c] w w') (hC:aB w' B.c F A st):mq w' B F A rp g cap L T:=by
 have h1:=h.cne;exact ⟨h.hd.upd hu (by simp;exact h1.1),h.row.upd hu (by simp;exact h1.2.1),h.yE.upd hu (by simp;exact h1.2.2.1),hu.kept h.OQ (by simp;exact h1.2.2.2),hu.kept h.Pb (by simp;exact h1.2.2.2),⟨st,hC⟩,h.s1,h.s2,h.s3,h.dom,h.nd,h.C9,h.tl⟩
theorem Ay (h:mq w B F A rp g cap L T) :
  Calls Tryz.prog 285 #[.pointer (some ⟨rp,0,none⟩)] w fun e w'=>e=.returned (.int .i64 (L.length:Int))/\w'=w:=by
 have c1:=h.h1;have hl:=h.len;clear h;generalize L.length=n at *
 go_enter Tryz.func285,Tryz.ntmps285
 go_wp2;go_ret;exact ⟨rfl,rfl⟩
theorem G7 (h:mq w B F A rp g cap L T) (i j:Nat) (hi:i<L.length) (hj:j<L.length) :
  Calls Tryz.prog 286 #[.pointer (some ⟨rp,0,none⟩),.int .i64 (i:Int),.int .i64 (j:Int)] w fun e w'=>e=.returned (.bool (decide (eB A (L.getD i 0) (L.getD j 0))))/\mq w' B F A rp g cap L T/\aa [B.c] w w':=by
 have hm:∀k,k<L.length->L.getD k 0∈L:=fun k hk=>by
  rw [φ,ε hk];exact ϛ hk
 have d1:=(h.dom _ (hm i hi)).1;have d2:=(h.dom _ (hm j hj)).1;have hce:=h.cne;have c0:∀X,aa [B.c] w X->_:=fun X hX=>hX.kept h.h0 (by simp;exact hce.1);have c1:∀X,aa [B.c] w X->_:=fun X hX=>hX.kept h.h1 (by simp;exact hce.1);have n0:∀X,aa [B.c] w X->_:=fun X hX=>hX.kept h.OQ (by simp;exact hce.2.2.2);have ci:∀X,aa [B.c] w X->_:=fun X hX=>hX.kept (h.EY i hi) (by simp;exact hce.2.1);have cj:∀X,aa [B.c] w X->_:=fun X hX=>hX.kept (h.EY j hj) (by simp;exact hce.2.1);have hl:=h.len;clear hce
 have ka:∀W,aa [] w W->Calls Tryz.prog 174 #[.pointer (some ⟨B.c,0,none⟩),.int .i64 ((L.getD i 0:Nat):Int),.int .i64 ((L.getD j 0:Nat):Int)] W fun e w'=>e=.returned (.bool (decide (eB A (L.getD i 0) (L.getD j 0))))/\mq w' B F A rp g cap L T/\aa [B.c] W w':=fun W hW=>by
  obtain ⟨st,hC⟩:=h.J7;refine (gP (hC.ae hW) _ _ d1 d2).mono ?_;rintro e w' ⟨rfl,hC',hu⟩;exact ⟨rfl,(h.ae hW).counted hu hC',hu⟩
 clear h hm d1 d2;generalize L.getD i 0=x at *;generalize L.getD j 0=y at *;generalize hn:L.length=n at *;clear hn;generalize decide (eB A x y)=b at *;have Dg:(i:Int)<(n:Int):=ω;have FD:(j:Int)<(n:Int):=ω
 go_enter Tryz.func286,Tryz.ntmps286
 go_upto_region 1 with (fail)
 go_region_held3 (aa [B.c] w) (exact ν)
  (first
   | ((go_at_call 174;(with_reducible refine (ka _ β).mono ?_));rintro e w1 ⟨rfl,hP1,hu1⟩;(have hv1:aa [B.c] w w1:=aa.trans ν hu1)))
 go_wp2;go_ret;exact ⟨rfl,hP1,hv1⟩
end
def zQ (T L:List Nat) (i j:Nat):List Nat:=(T.set (L.getD j 0) i).set (L.getD i 0) j
theorem qY (T L:List Nat) (i j:Nat):(zQ T L i j).length=T.length:=by unfold zQ;simp
theorem qJ {L:List Nat} {k:Nat} (hk:k<L.length):L.getD k 0∈L:=by
 rw [φ,ε hk];exact ϛ hk
theorem uH {L:List Nat} (hn:L.Nodup) {i j:Nat} (hi:i<L.length) (hj:j<L.length) (h:L.getD i 0=L.getD j 0):i=j:=by
 rw [φ,φ,ε hi,ε hj] at h;exact (List.getElem_inj hn).1 h
theorem JG {T L:List Nat} {i j x:Nat} (hi:i<L.length) (hj:j<L.length) (hx:x∉L):(zQ T L i j).getD x 0=T.getD x 0:=by
 unfold zQ;rw [bW,bW,Γ (fun e=>hx (by rw [e.1];exact qJ hi)),Γ (fun e=>hx (by rw [e.1];exact qJ hj))]
theorem Sz {T L:List Nat} {i j:Nat} (hi:i<L.length) (hj:j<L.length) (hne:i≠j) (hn:L.Nodup) (hd:∀x,x∈L->x<T.length) (hp:∀j x,L[j]?=some x->T.getD x 0=j) :
  ∀k x,(fw L i j)[k]?=some x->(zQ T L i j).getD x 0=k:=by
 intro k x hk;have hkl:k<L.length:=by
  obtain ⟨h1,_⟩:=List.getElem?_eq_some_iff.1 hk;rwa [jc] at h1
 have hx:x=(fw L i j).getD k 0:=by rw [φ,hk];rfl
 rw [jQ hi hj] at hx;unfold zQ;rw [bW,bW];have hdi:=hd _ (qJ hi);have hdj:=hd _ (qJ hj)
 by_cases e1:k=j
 ·rw [Δ e1] at hx;rw [Δ ⟨hx,by simpa using hdi⟩,e1]
 ·rw [Γ e1] at hx
  by_cases e2:k=i
  ·rw [Δ e2] at hx;rw [Γ (fun e=>hne (uH hn hi hj (by rw [←hx,←e.1]))),Δ ⟨hx,hdj⟩,e2]
  ·rw [Γ e2] at hx;rw [Γ (fun e=>e2 (uH hn hkl hi (by rw [←hx,←e.1]))),Γ (fun e=>e1 (uH hn hkl hj (by rw [←hx,←e.1])))];exact hp k x (by rw [hx,φ,ε hkl];rfl)
section
variable {w:World} {B:HB} {F:List Nat} {A:NS} {rp g cap:Nat} {L T:List Nat}
theorem yJ (h:mq w B F A rp g cap L T) (i j:Nat) (hi:i<L.length) (hj:j<L.length) (hne:i≠j) :
  Calls Tryz.prog 289 #[.pointer (some ⟨rp,0,none⟩),.int .i64 (i:Int),.int .i64 (j:Int)] w fun e w'=>e=.returned (.tuple #[])/\mq w' B F A rp g cap (fw L i j) (zQ T L i j)/\aa [g,B.ga] w w':=by
 have h0:=h;have c0:=h.h0;have c1:=h.h1;have n2:=h.Pb;have ci:=h.EY i hi;have cj:=h.EY j hj;have fi:=h.row.free i;have fj:=h.row.free j;have hl:=h.len;have htl:=h.tl;have hx:=(h.dom _ (qJ hi)).2;have hy:=(h.dom _ (qJ hj)).2;have ctx:=h.Jl _ hx;have cty:=h.Jl _ hy;have ftx:=h.yE.free (L.getD i 0);have fty:=h.yE.free (L.getD j 0);have s1:=h.s1;have s2:=h.s2;have hxy:L.getD i 0≠L.getD j 0:=fun e=>hne (uH h.nd hi hj e);have hs1:bC (fw L i j)=((bC L).set i ((L.getD j 0:Nat):Int)).set j ((L.getD i 0:Nat):Int):=by unfold fw;rw [lI,lI]
 have hs2:bC (zQ T L i j)=((bC T).set (L.getD j 0) (i:Int)).set (L.getD i 0) (j:Int):=by unfold zQ;rw [lI,lI]
 have Xo:=Sz hi hj hne h.nd (fun x hx=>(h.dom x hx).2) h.C9;have hperm:=sJ hi hj hne;have HF:Hid (∀W W2,IZ W g cap (bC (fw L i j))->aa [g] w W->aa [B.ga] W W2->IZ W2 B.ga T.length (bC (zQ T L i j))->mq W2 B F A rp g cap (fw L i j) (zQ T L i j)/\aa [g,B.ga] w W2):=by
  intro W W2 hr hu hu2 ht;have hu':aa [g,B.ga] w W2:=(hu.mono σ).trans (hu2.mono σ);have h3:=h.s3;refine ⟨⟨?_,hr.upd hu2 (by simp;exact s2.1),by rw [qY];exact ht,hu'.kept h.OQ (by simp;exact ⟨fun e=>s2.2.1 e.symm,fun e=>s2.2.2 e.symm⟩),by rw [qY];exact hu'.kept h.Pb (by simp;exact ⟨fun e=>s2.2.1 e.symm,fun e=>s2.2.2 e.symm⟩),?_,s1,s2,h3,fun x hx=>by rw [qY];exact h.dom x (hperm.mem_iff.1 hx),hperm.nodup_iff.2 h.nd,Xo,by rw [qY];exact htl⟩,hu'⟩
  ·rw [jc];exact h.hd.upd hu' (by simp;exact ⟨s1.1,s1.2.1⟩)
  ·obtain ⟨st,hC⟩:=h.J7;exact ⟨st,hC.upd hu' (fun x hx hm=>by simp at hx;rcases hx with rfl|rfl;exact h3.2.1 hm;exact h3.2.2.1 hm)⟩
 have HR:Hid (IZ w g cap (bC L)/\IZ w B.ga T.length (bC T)):=⟨h.row,h.yE⟩;clear h h0 Xo hperm;generalize fw L i j=L' at *;generalize zQ T L i j=T' at *;generalize L.getD i 0=x at *;generalize L.getD j 0=y at *;generalize T.getD x 0=tx at *;generalize T.getD y 0=ty at *;generalize L.length=n at *;generalize T.length=m at *;have Dg:(i:Int)<(n:Int):=ω;have FD:(j:Int)<(n:Int):=ω;have DN:(x:Int)<(m:Int):=ω;have WE:(y:Int)<(m:Int):=ω;have HS1:=χ hs1;have HS2:=χ hs2;clear hs1 hs2;have hgl:rp≠g:=s1.1;have hne2:¬i=j:=hne
 go_enter Tryz.func289,Tryz.ntmps289
 go_upto_region 0 with (fail)
 go_cut [] (fun W=>aa [] ((w.setCell ⟨g,i,none⟩ (.int .i64 (y:Int))).setCell ⟨g,j,none⟩ (.int .i64 (x:Int))) W)
 case first=>
  go_wp2
  go_region
  all_goals
   go_wp2
   go_meet
   first|exact ⟨rfl,rfl,rfl,Θ _,fun _ _ _=>rfl⟩|exact ν
 case rest=>
 have Rt:=hcut;clear hcut;rename World=>W;have hr:IZ W g cap (bC L'):=by rw [HS1.out];exact ((HR.out.1.set i _).set j _).upd Rt σ
 have hu:aa [g] w W:=aa.then β Rt;have d1:W.cell? ⟨g,i,none⟩=some (.int .i64 (y:Int)):=Rt.was γ;have d2:W.cell? ⟨g,j,none⟩=some (.int .i64 (x:Int)):=Rt.was γ;have e0:=hu.kept c0 (by simp;exact s1.1);have e1:=hu.kept c1 (by simp;exact s1.1);have e2:=hu.kept n2 (by simp;exact fun e=>s2.2.1 e.symm);have ex:=hu.kept ctx (by simp;exact fun e=>s2.1 e.symm);have ey:=hu.kept cty (by simp;exact fun e=>s2.1 e.symm);have gx:=hu.aP ctx (by simp;exact fun e=>s2.1 e.symm) ftx;have gy:=hu.aP cty (by simp;exact fun e=>s2.1 e.symm) fty;have ZM:W.cell? ⟨B.n0,2,none⟩=some (.slice (some ⟨B.ga,0,none⟩) m m):=e2
 have ht:=HR.out.2.upd hu (by simp;exact fun e=>s2.1 e.symm);have HT:=χ (ψ ht (ψ hr hu));clear c0 c1 n2 ctx cty ftx fty ci cj fi fj ht hr hu e2 Rt;go_wp2
 go_region
 all_goals
  go_wp2;go_end0;obtain ⟨ht,hr,hu⟩:=HT.out;exact ⟨rfl,HF.out _ _ hr hu β (by rw [HS2.out];exact ((ht.drewN _).set y _).set x _)⟩
end
theorem uq {M t:List Nat} {k:Nat} (hk:k<M.length):(M++t).getD k 0=M.getD k 0:=by
 rw [φ,φ,Ρ hk]
theorem Ky {M t:List Nat} {i j:Nat} (hi:i<M.length) (hj:j<M.length):fw (M++t) i j=fw M i j++t:=by
 unfold fw;rw [uq hi,uq hj,List.set_append_left _ _ hi,List.set_append_left _ _ (by simpa using hj)]
structure lJ (w0:World) (B:HB) (F:List Nat) (A:NS) (rp g cap:Nat) (t M T:List Nat) (w:World) (M' T':List Nat):Prop where
 pi:mq w B F A rp g cap (M'++t) T'
 perm:M'.Perm M
 off:∀x,x∉M++t->T'.getD x 0=T.getD x 0
 tl:T'.length=T.length
 upd:aa [g,B.ga,B.c] w0 w
section
variable {w0 w:World} {B:HB} {F:List Nat} {A:NS} {rp g cap:Nat} {t M T M' T':List Nat}
theorem lJ.start (h:mq w B F A rp g cap (M++t) T):lJ w B F A rp g cap t M T w M T:=⟨h,ό _,fun _ _=>rfl,rfl,aa.refl _ _⟩
theorem lJ.asked {w':World} (h:lJ w0 B F A rp g cap t M T w M' T') (hp:mq w' B F A rp g cap (M'++t) T') (hu:aa [B.c] w w'):lJ w0 B F A rp g cap t M T w' M' T':=
 ⟨hp,h.perm,h.off,h.tl,h.upd.trans (hu.mono σ)⟩
theorem lJ.swap {w':World} {i j:Nat} (h:lJ w0 B F A rp g cap t M T w M' T') (hi:i<M'.length) (hj:j<M'.length) (hne:i≠j) (hp:mq w' B F A rp g cap (fw (M'++t) i j) (zQ T' (M'++t) i j)) (hu:aa [g,B.ga] w w') :
  lJ w0 B F A rp g cap t M T w' (fw M' i j) (zQ T' (M'++t) i j):=by
 refine ⟨by rw [←Ky hi hj];exact hp,(sJ hi hj hne).trans h.perm,fun x hx=>?_,by rw [qY];exact h.tl,h.upd.trans (hu.mono σ)⟩;rw [JG (by rw [υ];omega) (by rw [υ];omega) (fun hm=>hx ?_)]
 ·exact h.off x hx
 ·exact (h.perm.append_right t).mem_iff.1 hm
theorem x9 {a b:Nat} (hne:a≠b) (h:¬oP A a b):oP A b a:=by
 rcases jM (A:=A) hne with h1|h1
 ·exact absurd (ed.2 h1) h
 ·exact ed.2 h1
theorem lJ.ne (h:lJ w0 B F A rp g cap t M T w M' T') {i j:Nat} (hi:i<M'.length) (hj:j<M'.length) (hne:i≠j):M'.getD i 0≠M'.getD j 0:=fun e=>hne (uH (θ.1 h.pi.nd).1 hi hj e)
theorem JJ (rp:Nat):∀W:World,(method 429 317 (.pointer (some ⟨rp,0,none⟩)) "Less").run Tryz.prog W=.ok (286,.pointer (some ⟨rp,0,none⟩)) W:=fun _=>by kernel_rfl
theorem BU (rp:Nat):∀W:World,(method 429 317 (.pointer (some ⟨rp,0,none⟩)) "Swap").run Tryz.prog W=.ok (289,.pointer (some ⟨rp,0,none⟩)) W:=fun _=>by kernel_rfl
theorem NV (rp:Nat):∀W:World,(method 429 317 (.pointer (some ⟨rp,0,none⟩)) "Len").run Tryz.prog W=.ok (285,.pointer (some ⟨rp,0,none⟩)) W:=fun _=>by kernel_rfl
theorem Rf (rp:Nat):∀W:World,(method 429 317 (.pointer (some ⟨rp,0,none⟩)) "Push").run Tryz.prog W=.ok (288,.pointer (some ⟨rp,0,none⟩)) W:=fun _=>by kernel_rfl
theorem UZ (rp:Nat):∀W:World,(method 429 317 (.pointer (some ⟨rp,0,none⟩)) "Pop").run Tryz.prog W=.ok (287,.pointer (some ⟨rp,0,none⟩)) W:=fun _=>by kernel_rfl
theorem lJ.less (h:lJ w0 B F A rp g cap t M T w M' T') {i j:Nat} (hi:i<M'.length) (hj:j<M'.length) {b:Bool} (hb:decide (eB A (M'.getD i 0) (M'.getD j 0))=b) :
  Calls Tryz.prog 286 #[.pointer (some ⟨rp,0,none⟩),.int .i64 (i:Int),.int .i64 (j:Int)] w fun e w'=>e=.returned (.bool b)/\lJ w0 B F A rp g cap t M T w' M' T':=by
 have k:=G7 h.pi i j (by rw [υ];omega) (by rw [υ];omega);rw [uq hi,uq hj,hb] at k;exact k.mono (fun e w' hh=>⟨hh.1,h.asked hh.2.1 hh.2.2⟩)
theorem lJ.swaps (h:lJ w0 B F A rp g cap t M T w M' T') {i j:Nat} (hi:i<M'.length) (hj:j<M'.length) (hne:i≠j) :
  Calls Tryz.prog 289 #[.pointer (some ⟨rp,0,none⟩),.int .i64 (i:Int),.int .i64 (j:Int)] w fun e w'=>e=.returned (.tuple #[])/\lJ w0 B F A rp g cap t M T w' (fw M' i j) (zQ T' (M'++t) i j):=
 (yJ h.pi i j (by rw [υ];omega) (by rw [υ];omega) hne).mono (fun e w' hh=>⟨hh.1,h.swap hi hj hne hh.2.1 hh.2.2⟩)
theorem Fs (h0:lJ w0 B F A rp g cap t M T w M' T') (j0:Nat) (hH:eH (oP A) 2 M' j0) (hB:Below (oP A) 2 M' j0 (M'.getD j0 0)) :
  Calls Tryz.prog 281 #[.iface 317 (.pointer (some ⟨rp,0,none⟩)),.int .i64 (j0:Int)] w fun e w'=>e=.returned (.tuple #[])/\∃M2 T2,lJ w0 B F A rp g cap t M T w' M2 T2/\Hp (oP A) 2 M2:=by
 have m1:=JJ rp;have m2:=BU rp;have HI:=χ (ψ h0 (ψ hH hB));clear h0 hH hB
 go_enter Tryz.func281,Tryz.ntmps281
 go_wp2
 go_loopw [1,4] (fun v1 v4 wr=>∃ (j:Nat) (M2 T2:List Nat),v1=.int .i64 (j:Int)/\lJ w0 B F A rp g cap t M T wr M2 T2/\eH (oP A) 2 M2 j/\Below (oP A) 2 M2 j (M2.getD j 0)) (fun v1 _ _=>(intOf v1).toNat)
 case atStart=>exact ⟨j0,M',T',rfl,HI.out.1,HI.out.2.1,HI.out.2.2⟩
 case round=>
  obtain ⟨j,M2,T2,rfl,hP,hH,hB⟩:=hrel;rename World=>wr;have hjl:=hH.lt;have hlen:(M2++t).length<=65536:=hP.pi.len;rw [υ] at hlen
  by_cases hj0:j=0
  ·subst hj0;have hF:=hH.done ω hB (Α rfl);have HQ:=χ (ψ hP hF);clear hP hH hB hF hjl hlen;go_wp2;go_end0;exact ⟨rfl,M2,T2,HQ.out.1,HQ.out.2⟩
  ·have hp:=dO (d:=2) ω (show 0<j by omega);have hq:((j:Int)-1).tdiv 2=(par 2 j:Int):=by
    unfold par;rw [show (j:Int)-1=((j-1:Nat):Int) by omega]
    rfl
   have hne:=hP.ne hjl (show par 2 j<M2.length by omega) ω;cases hb:decide (eB A (M2.getD j 0) (M2.getD (par 2 j) 0)) with
   | false=>
    have kl:=hP.less hjl (show par 2 j<M2.length by omega) hb;have hF:=hH.done ω hB (Β (x9 hne (fun h=>by rw [ed] at h;rw [decide_eq_false_iff_not] at hb;exact hb h)));have HQ:=χ hF;clear hP hH hB hF hb hne;generalize par 2 j=p at *;have X6:(p:Int)<(j:Int):=ω;have hpj:((p:Int) == (j:Int))=false:=ζ;have hj1:0<j:=ω;clear hj0
    go_wp2_with (first
     | ((go_at_call 286;(with_reducible refine (kl).mono ?_));rintro e w1 ⟨rfl,hP1⟩)
     | fail)
    go_end0;exact ⟨rfl,M2,T2,hP1,HQ.out⟩
   | true=>
    have kl:=hP.less hjl (show par 2 j<M2.length by omega) hb;have hS:=hH.UQ (gU A) ω (ed.2 (ϥ hb));have ks:∀w1,lJ w0 B F A rp g cap t M T w1 M2 T2->_:=fun w1 h1=>lJ.swaps h1 (show par 2 j<M2.length by omega) hjl ω;have HQ:=χ hS;clear hP hH hB hS hb hne;generalize par 2 j=p at *;have X6:(p:Int)<(j:Int):=ω;have hpj:((p:Int) == (j:Int))=false:=ζ;have hj1:0<j:=ω;clear hj0
    go_wp2_with (first
     | ((go_at_call 286;(with_reducible refine (kl).mono ?_));rintro e w1 ⟨rfl,hP1⟩)
     | ((go_at_call 289;(with_reducible refine (ks _ hP1).mono ?_));rintro e w2 ⟨rfl,hP2⟩)
     | fail)
    go_roundw
    case rel=>exact ⟨p,_,_,by go_num,hP2,HQ.out.1,HQ.out.2⟩
    case measure=>simp [intOf];omega
end
section
variable {w0 w:World} {B:HB} {F:List Nat} {A:NS} {rp g cap:Nat} {t M T M' T':List Nat}
def NC (A:NS) (i0:Nat) (b:Bool) (M2:List Nat):Prop:=(b=true->Hp (oP A) 2 M2)/\(b=false->eH (oP A) 2 M2 i0/\Below (oP A) 2 M2 i0 (M2.getD i0 0))
theorem qM {i0 i:Nat} {M2:List Nat} (hH:eH (oP A) 2 M2 i) (hB:Below (oP A) 2 M2 i (M2.getD i 0)) (h0:i0<=i) (hu:i0<i->oP A (M2.getD (par 2 i) 0) (M2.getD i 0)):NC A i0 (decide (i0<i)) M2:=by
 constructor
 ·intro h;exact hH.done ω hB (Β (hu (by simp at h;omega)))
 ·intro h;have e:i=i0:=by simp at h;omega
  subst e;exact ⟨hH,hB⟩
def NQ (w0:World) (B:HB) (F:List Nat) (A:NS) (rp g cap:Nat) (t M T:List Nat) (w:World) (i0 i2:Nat):Prop:=∃M2 T2,lJ w0 B F A rp g cap t M T w M2 T2/\NC A i0 (decide (i0<i2)) M2
theorem Hf (h0:lJ w0 B F A rp g cap t M T w M' T') (i0 n:Nat) (hn:n=M'.length) (hH:eH (oP A) 2 M' i0) :
  Calls Tryz.prog 280 #[.iface 317 (.pointer (some ⟨rp,0,none⟩)),.int .i64 (i0:Int),.int .i64 (n:Int)] w fun e w'=>∃i2,e=.returned (.bool (decide (i0<i2)))/\NQ w0 B F A rp g cap t M T w' i0 i2:=by
 have m1:=JJ rp;have m2:=BU rp;have HI:=χ (ψ h0 (ψ hH hn));clear h0 hH hn
 go_enter Tryz.func280,Tryz.ntmps280
 go_wp2
 go_loopw [7,8,9,10] (fun v7 v8 v9 v10 wr=>∃ (i:Nat) (M2 T2:List Nat),v7=.int .i64 (i:Int)/\lJ w0 B F A rp g cap t M T wr M2 T2/\eH (oP A) 2 M2 i/\M2.length=n/\i0<=i/\(i0<i->oP A (M2.getD (par 2 i) 0) (M2.getD i 0))) (fun v7 _ _ _ _=>n-(intOf v7).toNat)
 case atStart=>exact ⟨i0,M',T',rfl,HI.out.1,HI.out.2.1,HI.out.2.2.symm,Θ _,fun h=>absurd h (Nat.lt_irrefl _)⟩
 case round=>
  obtain ⟨i,M2,T2,rfl,hP,hH,hl,hi0,hu⟩:=hrel;rename World=>wr;have hil:=hH.lt;rw [hl] at hil;have hlen:(M2++t).length<=65536:=hP.pi.len;rw [υ,hl] at hlen;obtain ⟨j1,hj1⟩:∃j1,j1=2*i+1:=⟨_,rfl⟩;have he1:2*(i:Int)+1=(j1:Int):=ω;obtain ⟨j2,hj2⟩:∃j2,j2=j1+1:=⟨_,rfl⟩;have he2:(j1:Int)+1=(j2:Int):=ω;have hj10:¬ (j1:Int)<0:=ω
  by_cases hc1:j1<n
  ·have hc1I:¬ (j1:Int)≥(n:Int):=ω;have ht1:=LU (R:=oP A) (L:=M2) (i:=i) hl ω (fun h2 hr=>x9 (hP.ne ω ω ω) hr);rw [show 2*i+1=j1 from hj1.symm,show 2*i+2=j2 by omega] at ht1
   by_cases hc2:j2<n
   ·have hc2I:(j2:Int)<(n:Int):=ω;cases hb1:decide (eB A (M2.getD j2 0) (M2.getD j1 0)) with
    | true=>
     have hF:=ht1.2 ⟨hc2,ed.2 (ϥ hb1)⟩;have TL:=hP.less (show j2<M2.length by omega) (show j1<M2.length by omega) hb1;cases hb2:decide (eB A (M2.getD j2 0) (M2.getD i 0)) with
     | true=>
      have Dm:∀w1,lJ w0 B F A rp g cap t M T w1 M2 T2->_:=fun w1 h1=>lJ.less h1 (show j2<M2.length by omega) (show i<M2.length by omega) hb2;have ks:∀w1,lJ w0 B F A rp g cap t M T w1 M2 T2->_:=fun w1 h1=>lJ.swaps h1 (show i<M2.length by omega) (show j2<M2.length by omega) ω;have hS:=hH.yo (gU A) hF (ed.2 (ϥ hb2));have HQ:=χ (ψ hS hl);have hj3:i<j2:=ω;clear hP hH hu hF hb1 hb2 hS ht1 hl hj1 hj2
      go_wp2_with (first|((go_at_call 286;(with_reducible refine (TL).mono ?_));rintro e w1 ⟨rfl,hP1⟩)|((go_at_call 286;(with_reducible refine (Dm _ hP1).mono ?_));rintro e w2 ⟨rfl,hP2⟩)|((go_at_call 289;(with_reducible refine (ks _ hP2).mono ?_));rintro e w3 ⟨rfl,hP3⟩)|fail)
      go_roundw
      case rel=>exact ⟨j2,_,_,by go_num,hP3,HQ.out.1.1,by rw [jc];exact HQ.out.2,ω,fun _=>HQ.out.1.2⟩
      case measure=>simp [intOf];omega
     | false=>
      have Dm:∀w1,lJ w0 B F A rp g cap t M T w1 M2 T2->_:=fun w1 h1=>lJ.less h1 (show j2<M2.length by omega) (show i<M2.length by omega) hb2;have hx:=x9 (hP.ne (show j2<M2.length by omega) (show i<M2.length by omega) ω) (fun h=>by rw [ed] at h;rw [decide_eq_false_iff_not] at hb2;exact hb2 h);have hE:=qM hH (mZ (gU A) hF hx) hi0 hu;have HQ:=χ hE;clear hP hH hu hF hb1 hb2 hE ht1 hl hj1 hj2 hx
      go_wp2_with (first|((go_at_call 286;(with_reducible refine (TL).mono ?_));rintro e w1 ⟨rfl,hP1⟩)|((go_at_call 286;(with_reducible refine (Dm _ hP1).mono ?_));rintro e w2 ⟨rfl,hP2⟩)|fail)
      go_ret;exact ⟨i,rfl,M2,T2,hP2,HQ.out⟩
    | false=>
     have hF:=ht1.1 (fun h=>by rw [decide_eq_false_iff_not] at hb1;exact hb1 (ed.1 h.2));have TL:=hP.less (show j2<M2.length by omega) (show j1<M2.length by omega) hb1;cases hb2:decide (eB A (M2.getD j1 0) (M2.getD i 0)) with
     | true=>
      have Dm:∀w1,lJ w0 B F A rp g cap t M T w1 M2 T2->_:=fun w1 h1=>lJ.less h1 (show j1<M2.length by omega) (show i<M2.length by omega) hb2;have ks:∀w1,lJ w0 B F A rp g cap t M T w1 M2 T2->_:=fun w1 h1=>lJ.swaps h1 (show i<M2.length by omega) (show j1<M2.length by omega) ω;have hS:=hH.yo (gU A) hF (ed.2 (ϥ hb2));have HQ:=χ (ψ hS hl);have hj3:i<j1:=ω;clear hP hH hu hF hb1 hb2 hS ht1 hl hj1 hj2
      go_wp2_with (first|((go_at_call 286;(with_reducible refine (TL).mono ?_));rintro e w1 ⟨rfl,hP1⟩)|((go_at_call 286;(with_reducible refine (Dm _ hP1).mono ?_));rintro e w2 ⟨rfl,hP2⟩)|((go_at_call 289;(with_reducible refine (ks _ hP2).mono ?_));rintro e w3 ⟨rfl,hP3⟩)|fail)
      go_roundw
      case rel=>exact ⟨j1,_,_,by go_num,hP3,HQ.out.1.1,by rw [jc];exact HQ.out.2,ω,fun _=>HQ.out.1.2⟩
      case measure=>simp [intOf];omega
     | false=>
      have Dm:∀w1,lJ w0 B F A rp g cap t M T w1 M2 T2->_:=fun w1 h1=>lJ.less h1 (show j1<M2.length by omega) (show i<M2.length by omega) hb2;have hx:=x9 (hP.ne (show j1<M2.length by omega) (show i<M2.length by omega) ω) (fun h=>by rw [ed] at h;rw [decide_eq_false_iff_not] at hb2;exact hb2 h);have hE:=qM hH (mZ (gU A) hF hx) hi0 hu;have HQ:=χ hE;clear hP hH hu hF hb1 hb2 hE ht1 hl hj1 hj2 hx
      go_wp2_with (first|((go_at_call 286;(with_reducible refine (TL).mono ?_));rintro e w1 ⟨rfl,hP1⟩)|((go_at_call 286;(with_reducible refine (Dm _ hP1).mono ?_));rintro e w2 ⟨rfl,hP2⟩)|fail)
      go_ret;exact ⟨i,rfl,M2,T2,hP2,HQ.out⟩
   ·have hc2I:¬ (j2:Int)<(n:Int):=ω;have hc2D:decide ((j2:Int)<(n:Int))=false:=ζ;have hF:=ht1.1 (fun h=>hc2 h.1);have hP1:=hP;cases hb2:decide (eB A (M2.getD j1 0) (M2.getD i 0)) with
    | true=>
     have Dm:∀w1,lJ w0 B F A rp g cap t M T w1 M2 T2->_:=fun w1 h1=>lJ.less h1 (show j1<M2.length by omega) (show i<M2.length by omega) hb2;have ks:∀w1,lJ w0 B F A rp g cap t M T w1 M2 T2->_:=fun w1 h1=>lJ.swaps h1 (show i<M2.length by omega) (show j1<M2.length by omega) ω;have hS:=hH.yo (gU A) hF (ed.2 (ϥ hb2));have HQ:=χ (ψ hS hl);have hj3:i<j1:=ω;clear hP hH hu hF hb2 hS ht1 hl hj1 hj2
     go_wp2_with (first|((go_at_call 286;(with_reducible refine (Dm _ hP1).mono ?_));rintro e w2 ⟨rfl,hP2⟩)|((go_at_call 289;(with_reducible refine (ks _ hP2).mono ?_));rintro e w3 ⟨rfl,hP3⟩)|fail)
     go_roundw
     case rel=>exact ⟨j1,_,_,by go_num,hP3,HQ.out.1.1,by rw [jc];exact HQ.out.2,ω,fun _=>HQ.out.1.2⟩
     case measure=>simp [intOf];omega
    | false=>
     have Dm:∀w1,lJ w0 B F A rp g cap t M T w1 M2 T2->_:=fun w1 h1=>lJ.less h1 (show j1<M2.length by omega) (show i<M2.length by omega) hb2;have hx:=x9 (hP.ne (show j1<M2.length by omega) (show i<M2.length by omega) ω) (fun h=>by rw [ed] at h;rw [decide_eq_false_iff_not] at hb2;exact hb2 h);have hE:=qM hH (mZ (gU A) hF hx) hi0 hu;have HQ:=χ hE;clear hP hH hu hF hb2 hE ht1 hl hj1 hj2 hx
     go_wp2_with (first|((go_at_call 286;(with_reducible refine (Dm _ hP1).mono ?_));rintro e w2 ⟨rfl,hP2⟩)|fail)
     go_ret;exact ⟨i,rfl,M2,T2,hP2,HQ.out⟩
  ·have hc1I:(j1:Int)≥(n:Int):=ω;have hE:=qM hH (yQ ω ω) hi0 hu;have HQ:=χ (ψ hP hE);clear hP hH hu hE hl hj1 hj2;go_wp2;go_ret;exact ⟨i,rfl,M2,T2,HQ.out.1,HQ.out.2⟩
end
structure Ch (w:World) (B:HB) (F:List Nat) (A:NS) (rp:Nat) (v:Value) (L T:List Nat):Prop where
 hd:aF w rp 321 2 (NH B v)
 own:w.ownsRow 0 3 1 v L.length (aM (bC L))
 yE:IZ w B.ga T.length (bC T)
 OQ:w.cell? ⟨B.n0,0,none⟩=some (.pointer (some ⟨B.c,0,none⟩))
 Pb:w.cell? ⟨B.n0,2,none⟩=some (.slice (some ⟨B.ga,0,none⟩) T.length T.length)
 J7:∃st,aB w B.c F A st
 s1:rp≠B.ga/\rp≠B.n0
 sg:∀g,v.ownBlock=some g->g≠rp/\g≠B.ga/\g≠B.n0/\g∉F
 s2:B.ga≠B.n0
 s3:rp∉F/\B.ga∉F/\B.n0∉F
 dom:∀x,x∈L->bP A (x:Int)=true/\x<T.length
 nd:L.Nodup
 C9:∀j x,L[j]?=some x->T.getD x 0=j
 tl:T.length<=65536
section
variable {w:World} {B:HB} {F:List Nat} {A:NS} {rp g cap:Nat} {v:Value} {L T:List Nat}
theorem Ch.full (h:Ch w B F A rp v L T) (hl:0<L.length):∃g cap,v=.slice (some ⟨g,0,none⟩) L.length cap/\mq w B F A rp g cap L T:=by
 have ho:=h.own;rw [←bO] at ho;obtain ⟨g,cap,rfl,hz, -⟩:=IZ.fE ho (by rw [bO];exact hl);have hs:=h.sg g rfl;rw [bO];refine ⟨g,cap,rfl,?_,hz,h.yE,h.OQ,h.Pb,h.J7,⟨fun e=>hs.1 e.symm,h.s1.1,h.s1.2⟩,⟨hs.2.1,hs.2.2.1,h.s2⟩,⟨h.s3.1,hs.2.2.2,h.s3.2.1,h.s3.2.2⟩,h.dom,h.nd,h.C9,h.tl⟩;have:=h.hd;rwa [bO] at this
theorem mq.any (h:mq w B F A rp g cap L T):Ch w B F A rp (.slice (some ⟨g,0,none⟩) L.length cap) L T:=by
 have ho:=h.row.own;rw [bO] at ho;refine ⟨h.hd,ho,h.yE,h.OQ,h.Pb,h.J7,h.s1.2,fun k hk=>?_,h.s2.2.2,⟨h.s3.1,h.s3.2.2⟩,h.dom,h.nd,h.C9,h.tl⟩;cases hk;exact ⟨fun e=>h.s1.1 e.symm,h.s2.1,h.s2.2.1,h.s3.2.1⟩
theorem Ch.len (h:Ch w B F A rp v L T):L.length<=65536:=by
 rcases Nat.eq_zero_or_pos L.length with e|e
 ·omega
 ·obtain ⟨g,cap, -,hM⟩:=h.full e;exact hM.len
theorem Ch.upd {w':World} {S:List Nat} (h:Ch w B F A rp v L T) (hu:aa S w w') (hS:∀x,x∈S->x∉rp::B.ga::B.n0::(F++v.ownBlock.toList)):Ch w' B F A rp v L T:=by
 have h1:∀x,x∈rp::B.ga::B.n0::(F++v.ownBlock.toList)->x∉S:=fun x hx hg=>hS x hg hx;refine ⟨h.hd.upd hu (h1 _ σ),aA h.own hu (fun k hk=>h1 k (by simp [Option.mem_toList,hk])),h.yE.upd hu (h1 _ σ),hu.kept h.OQ (h1 _ σ),hu.kept h.Pb (h1 _ σ),?_,h.s1,h.sg,h.s2,h.s3,h.dom,h.nd,h.C9,h.tl⟩;obtain ⟨st,hC⟩:=h.J7;exact ⟨st,hC.upd hu (fun x hx hm=>hS x hx (by simp [hm]))⟩
theorem Ch.ae {w':World} (h:Ch w B F A rp v L T) (hu:aa [] w w'):Ch w' B F A rp v L T:=h.upd hu σ
theorem KP (l:List Nat) (x:Nat):bC (l++[x])=bC l++[(x:Int)]:=by unfold bC;simp
theorem Oz {L T:List Nat} {x:Nat} (hx:x∉L) (MP:x<T.length) (h:∀j x,L[j]?=some x->T.getD x 0=j):∀j y,(L++[x])[j]?=some y->(T.set x L.length).getD y 0=j:=by
 intro j y hj;rw [bW]
 by_cases e:j<L.length
 ·rw [Ρ e] at hj;rw [Γ (fun h'=>hx (by rw [←h'.1];exact Η hj))];exact h j y hj
 ·rw [ϊ ω] at hj;have e2:j-L.length=0:=by
   rcases Nat.eq_zero_or_pos (j-L.length) with h'|h'
   ·exact h'
   ·rw [List.getElem?_eq_none ζ] at hj;cases hj
  rw [e2] at hj;simp at hj;rw [Δ ⟨hj.symm,MP⟩];omega
theorem FU (h:Ch w B F A rp v L T) (x:Nat) (hx:x∉L) (hin:bP A (x:Int)=true) (MP:x<T.length) (hl:L.length<T.length) :
  Calls Tryz.prog 288 #[.pointer (some ⟨rp,0,none⟩),.iface 3 (.int .i64 (x:Int))] w fun e w'=>e=.returned (.tuple #[])/\∃g cap,mq w' B F A rp g cap (L++[x]) (T.set x L.length)/\aa (rp::B.ga::v.ownBlock.toList) w w'/\(v.ownBlock=some g\/w.heap.size<=g):=by
 have hle:=h.len;obtain ⟨av,cv,rfl,hcv⟩:=aR h.own;have c0:w.cell? ⟨rp,0,none⟩=some (.pointer (some ⟨B.n0,0,none⟩)):=h.hd.cellAt 0 ω rfl;have c1:w.cell? ⟨rp,1,none⟩=some (.slice av L.length cv):=h.hd.cellAt 1 ω rfl;have n2:=h.Pb;have ct:w.cell? ⟨B.ga,x,none⟩=some (.int .i64 ((T.getD x 0:Nat):Int)):=by
  have:=h.yE.cell x (by rw [bO];exact MP);rwa [qw] at this
 have ft:=h.yE.free x;have fr:=h.hd.free 1;have htl:=h.tl;have HH:=χ (ψ h (ψ hx (ψ hin MP)));have DN:(x:Int)<(T.length:Int):=ω;have s1:=h.s1;have s2:=h.s2;clear h hx hin;generalize hn:L.length=n at *;generalize hm:T.length=m at *;have HN:=χ (ψ hn hm);clear hn hm;generalize T.getD x 0=tx at *;have Bc:∀W:World,(Instr.typeAssert (.iface 3 (.int .i64 (x:Int))) 20 3 false).run Tryz.prog W=.ok (.int .i64 (x:Int)) W:=fun W=>by kernel_rfl
 go_enter Tryz.func288,Tryz.ntmps288
 go_upto_region 1 with (fail)
 go_cut [] (fun W=>aa [] (w.setCell ⟨B.ga,x,none⟩ (.int .i64 (n:Int))) W)
 case first=>
  go_wp2
  go_region
  all_goals
   go_wp2
   go_meet
   first|exact ⟨rfl,rfl,rfl,Θ _,fun _ _ _=>rfl⟩|exact ν
 case rest=>
 have Rt:=hcut;clear hcut;rename World=>W;obtain ⟨h,hx,hin,UO⟩:=HH.out;have hu:aa [B.ga] w W:=aa.then β Rt;have e1:W.cell? ⟨rp,1,none⟩=some (.slice av n cv):=hu.kept c1 (by simp;exact s1.1);have Tc:=hu.aP c1 (by simp;exact s1.1) fr;have hT:IZ W B.ga m (bC (T.set x n)):=by
  rw [lI];have:=h.yE;rw [HN.out.2] at this;exact (this.set x _).upd Rt σ
 have ho:W.ownsRow 0 3 1 (.slice av n cv) n (aM (bC L)):=by
  have:=aA h.own hu (fun k hk=>by simp;exact (h.sg k hk).2.1);rwa [HN.out.1] at this
 have HP:=χ (ψ hu hT);clear h hx hin hu hT c0 c1 n2 ct ft fr Rt;have hrl:rp<W.heap.size:=Ε _ _ e1
 go_wp2_with (first
  | ((at_builtin;refine ak rfl _ _ 26 rfl 0 3 (.int .i64 0) 1 8 Tryz.underlying26 cO rfl δ _ _ _ rfl (ho) [.int .i64 (x:Int)] rfl (by simp [Value.oneCell']) (by first|rfl|(rw [Κ];rfl)) μ ω (ω) ?_;intro v2 w3 ho3 hu3 Ee);obtain ⟨g3,c3,rfl,_,hg3l,_,hc3, -, -⟩:=dM ho3 ω;(have er:¬ (Value.slice av n cv).ownBlock=some rp:=fun e=>(HH.out.1.sg rp e).1 rfl);(have e2:=hu3.kept e1 (fun hm=>er (Option.mem_toList.1 hm)));(have fr2:=hu3.aP e1 (fun hm=>er (Option.mem_toList.1 hm)) Tc))
  | fail)
 go_end0;obtain ⟨h,hx,hin,UO⟩:=HH.out;obtain ⟨hu,hT⟩:=HP.out;have hsz:=hu.size;have hgx:(Value.slice av n cv).ownBlock=some g3\/w.heap.size<=g3:=by
  rcases Ee with e|e
  ·exact Α (e.symm.trans rfl)
  ·exact Β (by have:=e g3 rfl;omega)
 have hw4:aa [rp] w3 (w3.setCell ⟨rp,1,none⟩ (.slice (some ⟨g3,0,none⟩) (n+1) c3)):=β;have huA:aa (rp::B.ga::(Value.slice av n cv).ownBlock.toList) w (w3.setCell ⟨rp,1,none⟩ (.slice (some ⟨g3,0,none⟩) (n+1) c3)):=((hu.mono σ).trans (hu3.mono (fun z hz=>Λ _ (Λ _ hz)))).trans (hw4.mono σ);have hgs:g3≠rp/\g3≠B.ga/\g3≠B.n0/\g3∉F:=by
  rcases hgx with e|e
  ·exact h.sg g3 e
  ·refine ⟨fun e2=>?_,fun e2=>?_,fun e2=>?_,fun hm=>?_⟩
   ·have:=h.hd.lt;omega
   ·have:=h.yE.lt;omega
   ·have:=Ε _ _ h.OQ;dsimp only at this;omega
   ·obtain ⟨st,hC⟩:=h.J7;have:=hC.lt g3 hm;omega
 have hoff:∀z,z∈rp::B.ga::(Value.slice av n cv).ownBlock.toList->z≠B.n0/\z∉F:=fun z hz=>by
  simp only [ρ] at hz;rcases hz with rfl|rfl|hz
  ·exact ⟨h.s1.2,h.s3.1⟩
  ·exact ⟨h.s2,h.s3.2.1⟩
  ·have:=h.sg z (Option.mem_toList.1 hz);exact ⟨this.2.2.1,this.2.2.2⟩
 refine ⟨rfl,g3,c3,⟨?_,?_,?_,huA.kept h.OQ (fun hm=>(hoff _ hm).1 rfl),?_,?_,⟨fun e=>hgs.1 e.symm,h.s1⟩,⟨hgs.2.1,hgs.2.2.1,h.s2⟩,⟨h.s3.1,hgs.2.2.2,h.s3.2⟩,fun y hy=>?_,?_,?_,?_⟩,huA,hgx⟩
 ·rw [υ,HN.out.1];refine (((h.hd.upd hu (by simp;exact s1.1)).upd hu3 (fun hm=>er (Option.mem_toList.1 hm))).set 1 _).ext (fun j hj=>?_);rcases (ω:j=0\/j=1) with rfl|rfl<;>rfl
 ·refine ⟨?_⟩;rw [KP,υ,bO,HN.out.1,aT];exact aA ho3 hw4 (fun k hk=>by cases hk;simp;exact hgs.1)
 ·rw [Ι,HN.out.2];exact (hT.upd hu3 (fun hm=>(h.sg B.ga (Option.mem_toList.1 hm)).2.1 rfl)).upd hw4 (by simp;exact fun e=>s1.1 e.symm)
 ·rw [Ι];exact huA.kept h.Pb (fun hm=>(hoff _ hm).1 rfl)
 ·obtain ⟨st,hC⟩:=h.J7;exact ⟨st,hC.upd huA (fun z hz=>(hoff z hz).2)⟩
 ·rw [Ι];rcases τ.1 hy with e|e
  ·exact h.dom y e
  ·simp at e;subst e;exact ⟨hin,by rw [HN.out.2];exact UO⟩
 ·rw [θ];exact ⟨h.nd,σ,fun a ha b hb e=>by simp at hb;subst hb;subst e;exact hx ha⟩
 ·have:=Oz hx (by rw [HN.out.2];exact UO) h.C9;rwa [HN.out.1] at this
 ·rw [Ι];exact h.tl
end
section
variable {w:World} {B:HB} {F:List Nat} {A:NS} {rp g cap:Nat} {v:Value} {L T M:List Nat}
theorem AJ (x:Nat) (h:mq w B F A rp g cap (M++[x]) T) :
  Calls Tryz.prog 287 #[.pointer (some ⟨rp,0,none⟩)] w fun e w'=>e=.returned (.iface 3 (.int .i64 (x:Int)))/\Ch w' B F A rp (.slice (some ⟨g,0,none⟩) M.length cap) M T/\aa [rp] w w':=by
 have c1:=h.h1;have hl:=h.len;have cx:=h.EY M.length σ;have ex:(M++[x]).getD M.length 0=x:=by simp [φ]
 rw [ex] at cx;have fr:=h.hd.free 1;have hcb:=h.capb;rw [υ,List.length_singleton] at c1 hl hcb;have s1:=h.s1;have HF:Hid (∀W,aa [] (w.setCell ⟨rp,1,none⟩ (.slice (some ⟨g,0,none⟩) M.length cap)) W->Ch W B F A rp (.slice (some ⟨g,0,none⟩) M.length cap) M T/\aa [rp] w W):=by
  intro W hW;have hu:aa [rp] w W:=aa.then β hW;have s3:=h.s3;have hr:=h.row.own;rw [bO] at hr;have ho:=D8 hr (k:=M.length) σ;rw [yz,yA,List.take_left'  rfl] at ho;refine ⟨⟨?_,aA ho hu (fun k hk=>by cases hk;simp;exact fun e=>s1.1 e.symm),h.yE.upd hu (by simp;exact fun e=>s1.2.1 e.symm),hu.kept h.OQ (by simp;exact fun e=>s1.2.2 e.symm),hu.kept h.Pb (by simp;exact fun e=>s1.2.2 e.symm),?_,s1.2,fun k hk=>?_,h.s2.2.2,⟨s3.1,s3.2.2⟩,fun y hy=>h.dom y (τ.2 (Α hy)),(θ.1 h.nd).1,fun j y hj=>h.C9 j y ?_,h.tl⟩,hu⟩
  ·refine (((h.hd.set 1 _).ext (fun j hj=>?_)).upd hW σ);rcases (ω:j=0\/j=1) with rfl|rfl<;>rfl
  ·obtain ⟨st,hC⟩:=h.J7;exact ⟨st,hC.upd hu (fun z hz hm=>by simp at hz;subst hz;exact s3.1 hm)⟩
  ·cases hk;exact ⟨fun e=>s1.1 e.symm,h.s2.1,h.s2.2.1,s3.2.1⟩
  ·obtain ⟨hj',_⟩:=List.getElem?_eq_some_iff.1 hj;rw [Ρ hj'];exact hj
 clear h ex;generalize M.length=n at *;have Yz:(n:Int)+1-1=(n:Int):=ω;have hcI:(n:Int)<(cap:Int):=ω;have hw1:IntKind.i64.wrap (n:Int)=(n:Int):=Μ _ ω;obtain ⟨n1,hn1⟩:∃n1,n1=n+1:=⟨_,rfl⟩;rw [←hn1] at c1 hl hcb;have hnJ:(n1:Int)-1=(n:Int):=ω;have hn2:(n:Int)<(n1:Int):=ω;clear hn1
 go_enter Tryz.func287,Tryz.ntmps287
 go_wp2
 go_region
 all_goals
  go_wp2
  go_region
  all_goals
   go_wp2;go_ret;refine ⟨rfl,HF.out _ ?_⟩
   first|exact ⟨rfl,rfl,rfl,Θ _,fun _ _ _=>rfl⟩|exact ν
def PuE (w0:World) (B:HB) (F:List Nat) (A:NS) (rp:Nat) (v:Value) (L T:List Nat) (x:Nat) (w:World):Prop:=∃g cap L' T',mq w B F A rp g cap L' T'/\L'.Perm (x::L)/\Hp (oP A) 2 L'/\(∀y,y∉x::L->T'.getD y 0=T.getD y 0)/\T'.length=T.length/\aa (rp::B.ga::B.c::v.ownBlock.toList) w0 w/\(v.ownBlock=some g\/w0.heap.size<=g)
theorem LD (h:Ch w B F A rp v L T) (x:Nat) (hx:x∉L) (hin:bP A (x:Int)=true) (MP:x<T.length) (hl:L.length<T.length) (hH:Hp (oP A) 2 L) :
  Calls Tryz.prog 279 #[.iface 317 (.pointer (some ⟨rp,0,none⟩)),.iface 3 (.int .i64 (x:Int))] w fun e w'=>e=.returned (.tuple #[])/\PuE w B F A rp v L T x w':=by
 have m1:=Rf rp;have m2:=NV rp;have hle:=h.len;have kp:=FU h x hx hin MP hl;have ku:∀w1 g cap,mq w1 B F A rp g cap (L++[x]) (T.set x L.length)->aa (rp::B.ga::v.ownBlock.toList) w w1->(v.ownBlock=some g\/w.heap.size<=g)->Calls Tryz.prog 281 #[.iface 317 (.pointer (some ⟨rp,0,none⟩)),.int .i64 (L.length:Int)] w1 fun e w'=>e=.returned (.tuple #[])/\PuE w B F A rp v L T x w':=by
  intro w1 g cap h1 hu1 hg;obtain ⟨hs1,hs2⟩:=Hp.snoc (x:=x) hH (gU A) ω;have hP:lJ w1 B F A rp g cap [] (L++[x]) (T.set x L.length) w1 (L++[x]) (T.set x L.length):=lJ.start (by rw [Υ];exact h1);have hgx:(L++[x]).getD L.length 0=x:=by simp [φ]
  refine (Fs hP L.length hs1 (by rw [hgx];exact hs2)).mono ?_;rintro e w' ⟨rfl,M2,T2,hP2,hH2⟩;have hpm:=hP2.pi;rw [Υ] at hpm;refine ⟨rfl,g,cap,M2,T2,hpm,hP2.perm.trans Φ,hH2,fun y hy=>?_,by rw [hP2.tl,Ι],(hu1.mono (fun z hz=>?_)).joined hP2.upd (fun z hz=>?_),hg⟩
  ·simp only [ρ,not_or] at hy;rw [hP2.off y (by simp [hy.1,hy.2]),bW,Γ (fun e=>hy.1 e.1)]
  ·simp only [ρ] at hz ⊢;rcases hz with h'|h'|h'
   ·exact Α h'
   ·exact Β (Α h')
   ·exact Β (Β (Β h'))
  ·simp only [ρ,ς,or_false] at hz ⊢;rcases hz with h'|h'|h'
   ·rcases hg with e|e
    ·left;right;right;right;rw [h'];exact Option.mem_toList.2 e
    ·right;omega
   ·exact Α (Β (Α h'))
   ·exact Α (Β (Β (Α h')))
 have kl:∀w1 g cap,mq w1 B F A rp g cap (L++[x]) (T.set x L.length)->Calls Tryz.prog 285 #[.pointer (some ⟨rp,0,none⟩)] w1 fun e w'=>e=.returned (.int .i64 ((L.length:Int)+1))/\w'=w1:=fun w1 g cap h1=>by
  have:=Ay h1;rw [υ,List.length_singleton] at this;exact this
 clear h hx hin MP hl hH;generalize L.length=n at *;have Yz:(n:Int)+1-1=(n:Int):=ω
 go_enter Tryz.func279,Tryz.ntmps279
 go_wp2_with (first
  | ((go_at_call 288;(with_reducible refine (kp).mono ?_));rintro e w1 ⟨rfl,g,cap,hP1,hu1,hg1⟩)
  | ((go_at_call 285;(with_reducible refine (kl _ _ _ hP1).mono ?_));rintro e w2 ⟨rfl,hw2⟩;subst hw2)
  | ((go_at_call 281;(with_reducible refine (ku _ _ _ hP1 hu1 hg1).mono ?_));rintro e w3 ⟨rfl,hQ⟩)
  | fail)
 go_end0;exact ⟨rfl,hQ⟩
theorem yL {l:List Nat} {n:Nat} (h:l.length=n+1):l=l.take n++[l.getD n 0]:=by
 have h1:n<l.length:=ω;have h2:=ϝ n l;rw [ϡ h1,List.drop_eq_nil_of_le ω] at h2;rw [φ,ε h1];exact h2.symm
def ReE (w0:World) (B:HB) (F:List Nat) (A:NS) (rp g cap:Nat) (L T:List Nat) (x:Nat) (w:World):Prop:=∃L' T',Ch w B F A rp (.slice (some ⟨g,0,none⟩) L'.length cap) L' T'/\(x::L').Perm L/\Hp (oP A) 2 L'/\(∀y,y∉L->T'.getD y 0=T.getD y 0)/\T'.length=T.length/\aa [rp,g,B.ga,B.c] w0 w
theorem DT (h:mq w B F A rp g cap L T) (i x:Nat) (hx:L[i]?=some x) (hH:Hp (oP A) 2 L) :
  Calls Tryz.prog 278 #[.iface 317 (.pointer (some ⟨rp,0,none⟩)),.int .i64 (i:Int)] w fun e w'=>e=.returned (.iface 3 (.int .i64 (x:Int)))/\ReE w B F A rp g cap L T x w':=by
 have m1:=BU rp;have m2:=NV rp;have m3:=UZ rp;have kl:=Ay h;have hle:=h.len;obtain ⟨hi,hxe⟩:=List.getElem?_eq_some_iff.1 hx;obtain ⟨n,hn⟩:∃n,L.length=n+1:=⟨L.length-1,ω⟩;have hxg:L.getD i 0=x:=by rw [φ,hx];rfl
 by_cases hin:i=n
 ·subst hin;have hs:=yL hn;rw [hxg] at hs;have hM:=h;rw [hs] at hM;have kp:=AJ x hM;have hH2:Hp (oP A) 2 (L.take i):=hH.take ω;have hp:(x::L.take i).Perm L:=by
   conv=>rhs;rw [hs]
   exact (Φ (l₁:=[x]))
  have HQ:=χ (ψ hH2 hp);rw [hn] at kl hle;have Yz:(i:Int)+1-1=(i:Int):=ω;have hwk:IntKind.i64.wrap (i:Int)=(i:Int):=Μ _ ω;rw [show ((i+1:Nat):Int)=(i:Int)+1 from rfl] at kl;clear hM hs hH hH2 hp hx hxe hxg h hi hn;have hnb:((i:Int) != (i:Int))=false:=σ
  go_enter Tryz.func278,Tryz.ntmps278
  go_wp2_with (first
   | ((go_at_call 285;(with_reducible refine (kl).mono ?_));rintro e w2 ⟨rfl,rfl⟩)
   | ((go_at_call 287;(with_reducible refine (kp).mono ?_));rintro e w3 ⟨rfl,hP3,hu3⟩)
   | fail)
  go_ret;exact ⟨rfl,_,T,hP3,HQ.out.2,HQ.out.1,fun _ _=>rfl,rfl,hu3.mono σ⟩
 ·have hil:i<n:=ω;have hnl:n<L.length:=ω;have ks:=yJ h i n hi hnl ω;have hsl:(fw L i n).length=n+1:=by rw [jc,hn]
  have hs:=yL hsl;rw [jQ hi hnl,Δ rfl,hxg] at hs;obtain ⟨M,hMe⟩:∃M,M=(fw L i n).take n:=⟨_,rfl⟩;rw [←hMe] at hs;have hMl:M.length=n:=by rw [hMe,ϑ,hsl];omega
  have hMv:M=(L.take n).set i (L.getD n 0):=by
   rw [hMe];unfold fw;rw [List.take_set_of_le (Θ _),List.take_set]
  have hMH:eH (oP A) 2 M i:=by
   rw [hMv];exact ((hH.take ω).hole (gU A) ω (by rw [ϑ];omega)).any ω _
  have hp:(M++[x]).Perm L:=by rw [←hs];exact sJ hi hnl ω
  have kd:∀w1,mq w1 B F A rp g cap (fw L i n) (zQ T L i n)->Calls Tryz.prog 280 #[.iface 317 (.pointer (some ⟨rp,0,none⟩)),.int .i64 (i:Int),.int .i64 (n:Int)] w1 fun e w'=>∃i2,e=.returned (.bool (decide (i<i2)))/\NQ w1 B F A rp g cap [x] M (zQ T L i n) w' i i2:=fun w1 h1=>by
   rw [hs] at h1;exact Hf (lJ.start h1) i n hMl.symm hMH
  have ku:∀w1 w2 L1 T1,lJ w1 B F A rp g cap [x] M (zQ T L i n) w2 L1 T1->NC A i false L1->_:=fun w1 w2 L1 T1 h1 h2=>Fs h1 i (h2.2 rfl).1 (h2.2 rfl).2;have kp:∀w1 w2 L1 T1,lJ w1 B F A rp g cap [x] M (zQ T L i n) w2 L1 T1->_:=fun w1 w2 L1 T1 h1=>AJ x h1.pi;unfold NQ at kd;have HE:Hid (∀w1 w2 w3 L1 T1,aa [g,B.ga] w w1->lJ w1 B F A rp g cap [x] M (zQ T L i n) w2 L1 T1->Hp (oP A) 2 L1->Ch w3 B F A rp (.slice (some ⟨g,0,none⟩) L1.length cap) L1 T1->aa [rp] w2 w3->ReE w B F A rp g cap L T x w3):=by
   intro w1 w2 w3 L1 T1 hu1 h2 hH1 h3 hu3;refine ⟨L1,T1,h3,?_,hH1,fun y hy=>?_,by rw [h2.tl,qY],((hu1.mono σ).trans (h2.upd.mono σ)).trans (hu3.mono σ)⟩
   ·exact (Φ (l₁:=[x])).trans ((h2.perm.append_right [x]).trans hp)
   ·rw [h2.off y (fun hm=>hy (hp.mem_iff.1 hm)),JG hi hnl hy]
  rw [hn] at kl hle;have Yz:(n:Int)+1-1=(n:Int):=ω;have hwk:IntKind.i64.wrap (n:Int)=(n:Int):=Μ _ ω;rw [show ((n+1:Nat):Int)=(n:Int)+1 from rfl] at kl;clear hMe hMl hMv hMH hp hs hsl hnl hx hxe hxg h hi hn hH;have hnb:((n:Int) != (i:Int))=true:=ζ;generalize fw L i n=L1 at *;generalize zQ T L i n=T1 at *
  go_enter Tryz.func278,Tryz.ntmps278
  go_wp2_with (first
   | ((go_at_call 285;(with_reducible refine (kl).mono ?_));rintro e w2 ⟨rfl,rfl⟩)
   | ((go_at_call 289;(with_reducible refine (ks).mono ?_));rintro e w3 ⟨rfl,hP3,hu3⟩)
   | ((go_at_call 280;(with_reducible refine (kd _ hP3).mono ?_));rintro e w4 ⟨i2,rfl,L4,T4,Y9,hD4⟩;generalize decide (i<i2)=bd at *;cases bd)
   | ((go_at_call 281;(with_reducible refine (ku _ _ _ _ Y9 hD4).mono ?_));rintro e w5 ⟨rfl,L5,T5,MI,hH5⟩)
   | ((go_at_call 287;(with_reducible first|refine (kp _ _ _ _ MI).mono ?_|refine (kp _ _ _ _ Y9).mono ?_));rintro e w6 ⟨rfl,pK,fq⟩)
   | fail)
  ·go_ret;exact ⟨rfl,HE.out _ _ _ _ _ hu3 MI hH5 pK fq⟩
  ·go_ret;exact ⟨rfl,HE.out _ _ _ _ _ hu3 Y9 (hD4.1 rfl) pK fq⟩
end
structure kV (R:Nat->Nat->Prop) (d:Nat) (L:List Nat) (i k b:Nat):Prop where
 b0:∃q,b=d*i+q/\1<=q/\q<k
 lt:b<L.length
 all:∀q,1<=q->q<k->d*i+q<L.length->d*i+q≠b->R (L.getD b 0) (L.getD (d*i+q) 0)
theorem kV.one {R:Nat->Nat->Prop} {d:Nat} {L:List Nat} {i:Nat} (h:d*i+1<L.length):kV R d L i 2 (d*i+1):=
 ⟨⟨1,rfl,ω,ω⟩,h,fun q h1 h2 _ hne=>absurd (show d*i+q=d*i+1 by omega) hne⟩
theorem kV.end {R:Nat->Nat->Prop} {d:Nat} {L:List Nat} {i k b:Nat} (h:kV R d L i k b) (hd:2<=d) (hk:k=d+1):oC R d L i b:=by
 obtain ⟨q,rfl,h1,h2⟩:=h.b0;have hp:=(qK (i:=i) (j:=d*i+q) hd).2 ω;refine ⟨hp.1,h.lt,hp.2,fun j j0 hj hpj hne=>?_⟩;have:=(qK hd).1 ⟨j0,hpj⟩;have e:j=d*i+(j-d*i):=ω;rw [e] at hj hne ⊢;exact h.all _ ω ω hj hne
theorem kV.stay {R:Nat->Nat->Prop} {d:Nat} {L:List Nat} {i k b:Nat} (h:kV R d L i k b) (hc:d*i+k<L.length->R (L.getD b 0) (L.getD (d*i+k) 0)):kV R d L i (k+1) b:=by
 obtain ⟨q,h0,h1,h2⟩:=h.b0;refine ⟨⟨q,h0,h1,ω⟩,h.lt,fun q' g1 g2 g3 g4=>?_⟩
 by_cases e:q'=k
 ·subst e;exact hc g3
 ·exact h.all q' g1 ω g3 g4
theorem kV.turn {R:Nat->Nat->Prop} {d:Nat} {L:List Nat} {i k b:Nat} (ht:∀a b c,R a b->R b c->R a c) (h:kV R d L i k b) (hk:1<=k) (hl:d*i+k<L.length) (hc:R (L.getD (d*i+k) 0) (L.getD b 0)):kV R d L i (k+1) (d*i+k):=by
 refine ⟨⟨k,rfl,hk,ω⟩,hl,fun q' g1 g2 g3 g4=>?_⟩;have e:q'≠k:=fun e=>g4 (by rw [e])
 by_cases e2:d*i+q'=b
 ·rw [e2];exact hc
 ·exact ht _ _ _ hc (h.all q' g1 ω g3 e2)
theorem FZ (O:fH) {w:World} {rp mb g cap d:Nat} {f:Int->Option Int} {L:List Nat} (hO:O.at_ w) (h:rZ w rp mb g cap d f L) (hd:2<=d/\d<=16) (hl:L.length<=65536) (i x:Nat) (hi:i<L.length)
  (hn:(L.set i x).Nodup) (hdom:∀y,y∈L.set i x->O.dom y) (hsep:LK O rp mb g) :
  Calls Tryz.prog 167 #[.pointer (some ⟨rp,0,none⟩),.iface O.ty (.pointer (some ⟨O.p,0,none⟩)),.int .i64 (i:Int)] w fun e w'=>∃ (c:Nat),e=.returned (.tuple #[.int .i64 (c:Int),.bool (decide (d*i+1<L.length))])/\O.On w w'/\(d*i+1<L.length->oC O.R d L i c):=by
 have kc:=fun k (hk:1<=k/\k<=d) W=>JR d i k hd ω hk W;have TB:=kc 1 ⟨ω,ω⟩;rw [show ((1:Nat):Int)=1 from rfl] at TB;have c0:=h.h0;have c1:=h.h1;have hwr:=hsep.wr;have HX:=χ (ψ hO (ψ h (ψ hn (ψ hdom hd))));have hil:i<65536:=ω;generalize hnl:L.length=n at *;have HN:=χ hnl;clear h hO hn hdom hsep hnl
 by_cases hz:n<=d*i+1
 ·rw [Ξ (show ¬d*i+1<n by omega)];have hge:decide (((d*i+1:Nat):Int)≥(n:Int))=true:=ζ;have HZ:=χ hz;clear hz kc;generalize d * i+1=c at *
  go_enter Tryz.func167,Tryz.ntmps167
  have hnc:n<=c:=HZ.out
  go_wp2_with (first
   | ((go_at_call 172;(with_reducible refine (TB _).mono ?_));rintro e w1 ⟨rfl,hu1⟩;(have c1:=hu1.was c1))
   | fail)
  go_ret2;exact ⟨0,rfl,⟨O.upd HX.out.1 hu1 σ,hu1.mono σ⟩,fun h=>by have:=HZ.out;omega⟩
 ·rw [Ν (show d*i+1<n by omega)];have hge:decide (((d*i+1:Nat):Int)≥(n:Int))=false:=ζ;have HZ:=χ (show d*i+1<n by omega);clear hz;have HC:=χ (show d*i+1=d*i+1 from rfl)
  revert HC HZ hge TB
  generalize Zt:d*i+1=c0';intro TB hge HZ _;have HC:=χ Zt;have hnc:¬n<=c0':=by have:=HZ.out;omega
  go_enter Tryz.func167,Tryz.ntmps167
  clear Zt
  go_wp2_with (first
   | ((go_at_call 172;(with_reducible refine (TB _).mono ?_));rintro e w1 ⟨rfl,hu1⟩;(have c1:=hu1.was c1))
   | fail)
  go_loopw [8,10,11,12] (fun bv kv _ _ wr=>∃ (b k:Nat),2<=k/\k<=d+1/\bv=.int .i64 (b:Int)/\kv=.int .i64 (k:Int)/\kV O.R d L i k b/\O.On w wr) (fun _ kv _ _ _=>d+1-(intOf kv).toNat)
  case atStart=>exact ⟨c0',2,ω,ω,rfl,rfl,by rw [←HC.out];exact kV.one (by have:=HZ.out;have:=HN.out;have:=HC.out;omega),O.upd HX.out.1 hu1 σ,hu1.mono σ⟩
  case round=>
   clear hu1 c1;obtain ⟨b,k,hk1,hk2,rfl,rfl,hF,hon⟩:=hrel;rename World=>wr;obtain ⟨hO,h,hn,hdom,hd⟩:=HX.out;have hR:=h.upd hon.upd hwr.1 hwr.2.1 hwr.2.2;have q0:=hR.h0;have q1:=hR.h1
   by_cases hkd:k<=d
   ·have hkd':(k:Int)<=(d:Int):=ω;have YP:=kc k ⟨ω,hkd⟩;have hwk:IntKind.i64.wrap ((k:Int)+1)=(k:Int)+1:=Μ _ ω;rw [HN.out] at q1
    by_cases hcl:d*i+k<n
    ·have hne:d*i+k≠i:=by
      have:i<=d*i:=Nat.le_mul_of_pos_left _ ω;omega
     obtain ⟨qb,WO,hqb1,hqb2⟩:=hF.b0;have hbl:=hF.lt;have hbi:b≠i:=by
      have:i<=d*i:=Nat.le_mul_of_pos_left _ ω;omega
     have WI:=hdom _ (nV (x:=x) (show d*i+k<L.length by rw [HN.out];exact hcl) hne);have Wn:=hdom _ (nV (x:=x) hbl hbi);have hcb:L.getD (d*i+k) 0≠L.getD b 0:=fun e=>by
      have h1:(L.set i x)[d*i+k]?=some (L.getD b 0):=by rw [Ϗ (fun e=>hne e.symm),←e,φ,ε (by rw [HN.out];exact hcl)];rfl
      have h2:(L.set i x)[b]?=some (L.getD b 0):=by rw [Ϗ (fun e=>hbi e.symm),φ,ε hbl];rfl
      obtain ⟨g1,e1⟩:=List.getElem?_eq_some_iff.1 h1;obtain ⟨g2,e2⟩:=List.getElem?_eq_some_iff.1 h2;have:=(List.getElem_inj hn).1 (e1.trans e2.symm);omega
     have d1:=hR.cell (d*i+k) (by rw [HN.out];exact hcl);have d2:=hR.cell b hbl;have HY:=χ (ψ hF (ψ hon (ψ hcb (ψ hcl hk2))));have hgL:decide (((d*i+k:Nat):Int)<(n:Int))=true:=ζ;have hcI:((d*i+k:Nat):Int)<(n:Int):=ω;have XW:(b:Int)<(n:Int):=by rw [HN.out] at hbl;omega
     have K9:=hwr.1;have hgw:=hwr.2.2;have hat:=hon.at_;have hkl:k+1<=d+1:=ω;clear hF hon WO hqb1 hqb2 hbl hbi hcl hne hO h hn hdom hR hcb kc;generalize hce:d * i+k=c at *;generalize hx1:L.getD c 0=xc at *;generalize hx2:L.getD b 0=xb at *;have HE:=χ (ψ hce (ψ hx1 hx2));clear hce hx1 hx2
     go_upto_region 8 with (first
      | ((go_at_call 172;(with_reducible refine (YP _).mono ?_));rintro e w1 ⟨rfl,hu1⟩)
      | fail)
     have om:O.On w1 w1:=.start (O.upd hat hu1 σ);have UM:∀W,O.On w1 W->W.cell? ⟨g,c,none⟩=some (.int .i64 (xc:Int)):=fun W hW=>hW.upd.kept (hu1.was d1) hgw;have cb1:∀W,O.On w1 W->W.cell? ⟨g,b,none⟩=some (.int .i64 (xb:Int)):=fun W hW=>hW.upd.kept (hu1.was d2) hgw;have UU:∀W,O.On w1 W->W.cell? ⟨rp,1,none⟩=some (.slice (some ⟨g,0,none⟩) n cap):=fun W hW=>hW.upd.kept (hu1.was q1) K9;have hm:∀W,O.On w1 W->_:=fun W hW=>O.Su hW.at_;have hnl:=O.Te;have hen:=O.ent;unfold Enters at hen
     go_region_held3 (O.On w1) (first|assumption|exact om|(refine fH.On.drew ?_;first|assumption|exact om)|(refine fH.On.drewN ?_ _;first|assumption|exact om))
      (first
       | ((with_reducible refine (O.ask xc xb (fH.On.at_ (w0:=w1) (by first|assumption|exact om|(refine fH.On.drew ?_;first|assumption|exact om)|(refine fH.On.drewN ?_ _;first|assumption|exact om))) WI Wn).mono ?_);rintro e w5 ⟨rfl,zx,dF⟩;(have sK:O.On w1 w5:=fH.On.asked (by first|assumption|exact om|(refine fH.On.drew ?_;first|assumption|exact om)|(refine fH.On.drewN ?_ _;first|assumption|exact om)) zx dF)))
     have HZ2:=χ (hu1.mono (σ:∀z,z∈[]->z∈O.wr) |>.trans sK.upd);have HO5:=χ sK.at_;clear UM cb1 UU hm om sK dF zx d1 d2 q0 q1;cases hxy:O.lt xc xb with
     | false=>
      go_wp2
      go_roundw
      case rel=>
       obtain ⟨hF,hon,hcb,hcl,hk2⟩:=HY.out;refine ⟨b,k+1,ω,hkl,rfl,by go_num,hF.stay (fun _=>?_),HO5.out,hon.upd.trans HZ2.out⟩;rw [HE.out.1,HE.out.2.1,HE.out.2.2];rcases O.total xc xb (fun e=>by rw [e] at hcb;exact hcb rfl) with e|e
       ·rw [e] at hxy;cases hxy
       ·exact e
      case measure=>simp [intOf];omega
     | true=>
      go_wp2
      go_roundw
      case rel=>
       obtain ⟨hF,hon,hcb,hcl,hk2⟩:=HY.out;refine ⟨c,k+1,ω,hkl,rfl,by go_num,?_,HO5.out,hon.upd.trans HZ2.out⟩;have ht:=hF.turn O.tr ω (by rw [HE.out.1,HN.out];exact hcl) (by rw [HE.out.1,HE.out.2.1,HE.out.2.2];exact hxy);rw [HE.out.1] at ht;exact ht
      case measure=>simp [intOf];omega
    ·have hgL:decide (((d*i+k:Nat):Int)<(n:Int))=false:=ζ;have HY:=χ (ψ hF (ψ hon hcl));have hkl:k+1<=d+1:=ω;clear hF hon hcl hO h hn hdom hR kc;generalize hce:d * i+k=c at *;have HE:=χ hce;clear hce;have hgN:decide (c<n)=false:=by simp at hgL ⊢;omega
     go_upto_region 8 with (first
      | ((go_at_call 172;(with_reducible refine (YP _).mono ?_));rintro e w1 ⟨rfl,hu1⟩;(have q1:=hu1.was q1);(have q0:=hu1.was q0))
      | fail)
     go_quiet (fail)
     go_wp2
     go_roundw
     case rel=>
      obtain ⟨hF,hon,hcl⟩:=HY.out;exact ⟨b,k+1,ω,hkl,rfl,by go_num,hF.stay (fun h=>absurd h (by have:=HN.out;have:=HE.out;omega)),O.upd hon.at_ (hu1.drewN nq) σ,hon.upd.trans ((hu1.drewN nq).mono σ)⟩
     case measure=>simp [intOf];omega
   ·have hkd':¬ (k:Int)<=(d:Int):=ω;clear kc;go_wp2;exact bodyPost_ret (v:=.tuple #[.int .i64 (b:Int),.bool true]) (by simp [results,Tryz.results167,go_sem]) rfl ⟨b,rfl,hon,fun _=>hF.end hd.1 ω⟩
theorem Lb (O:fH) {w:World} {rp mb g cap d:Nat} {f:Int->Option Int} {L:List Nat} (hO:O.at_ w) (h:rZ w rp mb g cap d f L) (hd:2<=d/\d<=16) (hl:L.length<=65536) (i x:Nat) (hH:eH O.R d L i) (hP:kQ f L i x)
  (hn:(L.set i x).Nodup) (hdom:∀y,y∈L.set i x->O.dom y) (h16:∀y,y∈L.set i x->y<=65536) (hsep:LK O rp mb g) (hT:i=0\/O.R (L.getD (par d i) 0) x) :
  Calls Tryz.prog 161 #[.pointer (some ⟨rp,0,none⟩),.iface O.ty (.pointer (some ⟨O.p,0,none⟩)),.int .i64 (i:Int),.int .i64 (x:Int)] w fun e w'=>∃ (f':Int->Option Int) (L':List Nat),e=.returned (.tuple #[])/\rZ w' rp mb g cap d f' L'/\tu f' L'/\L'.Perm (L.set i x)/\O.at_ w'/\aa (g::mb::O.wr) w w'/\Hp O.R d L':=by
 have hi0:=hH.lt;have hxm:x∈L.set i x:=Η (show (L.set i x)[i]?=some x by simp [hi0]);have hdx:=hdom x hxm;have hxl:=h16 x hxm;have HX:=χ (ψ hn (ψ hdom (ψ h16 (ψ hsep hd))));have hwr:=hsep.wr
 go_enter Tryz.func161,Tryz.ntmps161
 go_wp2
 go_loopw [2,8,9] (fun iv _ _ wr=>∃ (i':Nat) (f':Int->Option Int) (L':List Nat),iv=.int .i64 (i':Int)/\rZ wr rp mb g cap d f' L'/\eH O.R d L' i'/\kQ f' L' i' x/\L'.length=L.length/\(L'.set i' x).Perm (L.set i x)/\O.at_ wr/\aa (g::mb::O.wr) w wr/\(i'=0\/O.R (L'.getD (par d i') 0) x)) (fun iv _ _ _=>L.length-(intOf iv).toNat)
 case atStart=>exact ⟨i,f,L,rfl,h,hH,hP,rfl,ό _,hO,aa.refl _ _,hT⟩
 case round=>
  clear h hH hP hO hT;obtain ⟨i1,f1,L1,rfl,h,hH,hP,hl1,hpm,hO,hu,hT⟩:=hrel;rename World=>wr;have hi1:=hH.lt;have hn1:(L1.set i1 x).Nodup:=hpm.nodup_iff.2 HX.out.1;have kf:=FZ O hO h hd ω i1 x hi1 hn1 (fun y hy=>HX.out.2.1 y (hpm.mem_iff.1 hy)) HX.out.2.2.2.1;have ks:=fun W (hW:aa O.wr wr W)=>ql (h.upd hW hwr.1 hwr.2.1 hwr.2.2) i1 x hi1 hxl ω;have K9:=hwr.1;have hgw:=hwr.2.2;have hcg:=h.h1;have hlt:=h.lt
  by_cases hz:d*i1+1<L1.length
  ·rw [Ν hz] at kf;have hcell:=fun c hc=>h.cell c hc;have hdl:=fun c (hc:oC O.R d L1 i1 c)=>HX.out.2.1 (L1.getD c 0) (hpm.mem_iff.1 (nV hc.lt (by have:=dO hd.1 hc.c0;have:=hc.pc;omega)));have VW:=fun c (hc:oC O.R d L1 i1 c) W (hW:aa O.wr wr W)=>ql (h.upd hW hwr.1 hwr.2.1 hwr.2.2) i1 (L1.getD c 0) hi1 (HX.out.2.2.1 _ (hpm.mem_iff.1 (nV hc.lt (by have:=dO hd.1 hc.c0;have:=hc.pc;omega)))) ω;have HF:=χ (ψ hH (ψ hP (ψ hn1 (ψ hpm (ψ hO (ψ hT (ψ hu (ψ hl1 (ψ hz h)))))))));clear hH hP hn1 hpm hT hu hl1 h
   go_upto_region 1 with (first
    | ((go_at_call 167;(with_reducible refine (kf).mono ?_));rintro e w1 ⟨c,rfl,yj,hfc⟩)
    | fail)
   have hc:=hfc hz;have hcl:=hc.lt;have hcI:(c:Int)<(L1.length:Int):=ω;have WI:=hdl c hc;have hcc:=hcell c hcl;have VW:=VW c hc;have HC:=χ (ψ hc yj);clear hcell hdl hc hfc hz kf;generalize hy:L1.getD c 0=y at *;have om:O.On w1 w1:=.start yj.at_;have UM:∀W,O.On w1 W->W.cell? ⟨g,c,none⟩=some (.int .i64 (y:Int)):=fun W hW=>hW.upd.kept (yj.upd.kept hcc hgw) hgw;have UU:∀W,O.On w1 W->W.cell? ⟨rp,1,none⟩=some (.slice (some ⟨g,0,none⟩) L1.length cap):=fun W hW=>hW.upd.kept (yj.upd.kept hcg K9) K9;have hm:∀W,O.On w1 W->_:=fun W hW=>O.Su hW.at_;have hnl:=O.Te;have hen:=O.ent;unfold Enters at hen
   go_region_held3 (O.On w1) (first|assumption|exact om|(refine fH.On.drew ?_;first|assumption|exact om)|(refine fH.On.drewN ?_ _;first|assumption|exact om))
    (first
     | ((with_reducible refine (O.ask y x (fH.On.at_ (w0:=w1) (by first|assumption|exact om|(refine fH.On.drew ?_;first|assumption|exact om)|(refine fH.On.drewN ?_ _;first|assumption|exact om))) WI hdx).mono ?_);rintro e w5 ⟨rfl,zx,dF⟩;(have sK:O.On w1 w5:=fH.On.asked (by first|assumption|exact om|(refine fH.On.drew ?_;first|assumption|exact om)|(refine fH.On.drewN ?_ _;first|assumption|exact om)) zx dF)))
   have sW:aa O.wr wr w5:=HC.out.2.upd.trans sK.upd;have VJ:=ks w5 sW;have Ze:=VW w5 sW;have HY:=χ (ψ hy (ψ sK.at_ sW));have cp5:=UM w5 sK;have cg5:=UU w5 sK;clear ks VW UM UU hm om sK dF zx hO hcc hcg yj;cases hxy:O.lt y x with
   | false=>
    clear Ze
    go_wp2_with (first
     | ((go_at_call 166;(with_reducible refine (VJ).mono ?_));rintro e w2 ⟨rfl,hR,hu2⟩)
     | fail)
    obtain ⟨hH,hP,hn1,hpm,hO,hT,hu,hl1,hz,h⟩:=HF.out;obtain ⟨hy,hat,dF⟩:=HY.out;obtain ⟨hc,yj⟩:=HC.out;have hne:L1.getD c 0≠x:=Jr hi1 hc.lt (by have:=dO hd.1 hc.c0;have:=hc.pc;omega) hn1;have hxc:O.R x (L1.getD c 0):=by
     rcases O.total x (L1.getD c 0) (fun e=>hne e.symm) with e|e
     ·exact e
     ·rw [hy] at e;rw [e] at hxy;cases hxy
    exact bodyPost_ret (v:=.tuple #[]) (by simp [results,Tryz.results161,go_sem]) rfl ⟨_,_,rfl,hR,hP.fill hi1 hn1,hpm,O.upd hat hu2 (fun y hy=>by have:=HX.out.2.2.2.1;simp at hy;rcases hy with rfl|rfl;exact this.c;exact this.b),(hu.trans (dF.mono (by simp +contextual))).trans (hu2.mono (by simp +contextual)),hH.fill hd.1 (mZ O.tr hc hxc) hT⟩
   | true=>
    clear VJ
    go_wp2_with (first
     | ((go_at_call 166;(with_reducible refine (Ze).mono ?_));rintro e w2 ⟨rfl,hR,hu2⟩)
     | fail)
    go_roundw
    case rel=>
     obtain ⟨hH,hP,hn1,hpm,hO,hT,hu,hl1,hz,h⟩:=HF.out;obtain ⟨hy,hat,dF⟩:=HY.out;obtain ⟨hc,yj⟩:=HC.out;have hci:i1<c:=by have:=dO hd.1 hc.c0;have:=hc.pc;omega
     have hdn:=hH.down O.tr hd.1 hc (x:=x) (by rw [hy];exact hxy);rw [hy] at hdn;have hmv:=hP.move hi1 (p:=c) hc.lt ω hn1;rw [hy] at hmv;have hpr:=vI (L:=L1) (i:=i1) (p:=c) (x:=x) hi1 hc.lt ω;rw [hy] at hpr;exact ⟨c,_,_,rfl,hR,hdn.1,hmv,by rw [Ι];exact hl1,hpr.trans hpm,O.upd hat hu2 (fun y hy=>by have:=HX.out.2.2.2.1;simp at hy;rcases hy with rfl|rfl;exact this.c;exact this.b),(hu.trans (dF.mono (by simp +contextual))).trans (hu2.mono (by simp +contextual)),Β hdn.2⟩
    case measure=>
     have hci:i1<c:=by have hc:=HC.out.1;have:=dO hd.1 hc.c0;have:=hc.pc;omega
     have:=HF.out.2.2.2.2.2.2.2.1;simp [intOf];omega
  ·rw [Ξ hz] at kf;have HF:=χ (ψ hH (ψ hP (ψ hn1 (ψ hpm (ψ hO (ψ hT (ψ hu (ψ hl1 hz))))))));clear hH hP hn1 hpm hT hu hl1 h hz
   go_upto_region 1 with (first
    | ((go_at_call 167;(with_reducible refine (kf).mono ?_));rintro e w1 ⟨c,rfl,yj, -⟩)
    | fail)
   go_quiet (fail)
   have sW:aa O.wr wr (w1.drewN nq):=(yj.drewN nq).upd;have hat:=(yj.drewN nq).at_;have VJ:=ks _ sW;clear ks kf yj
   go_wp2_with (first
    | ((go_at_call 166;(with_reducible refine (VJ).mono ?_));rintro e w2 ⟨rfl,hR,hu2⟩)
    | fail)
   obtain ⟨hH,hP,hn1,hpm,hO,hT,hu,hl1,hz⟩:=HF.out;exact bodyPost_ret (v:=.tuple #[]) (by simp [results,Tryz.results161,go_sem]) rfl ⟨_,_,rfl,hR,hP.fill hi1 hn1,hpm,O.upd hat hu2 (fun y hy=>by have:=HX.out.2.2.2.1;simp at hy;rcases hy with rfl|rfl;exact this.c;exact this.b),(hu.trans (sW.mono (by simp +contextual))).trans (hu2.mono (by simp +contextual)),hH.fill hd.1 (yQ hd.1 ω) hT⟩
def kH (w:World) (rp:Nat) (G:List Nat) (d:Nat) (L:List Nat):Prop:=
 ∃mb f v,aF w rp 247 3 (fun j=>[Value.int .i64 (d:Int),v,.map (some mb)].getD j undef)/\w.ownsRow 0 3 1 v L.length (aM (bC L))/\eO w mb f/\tu f L/\rp≠mb/\(∀g,v.ownBlock=some g->rp≠g/\mb≠g)/\G=rp::mb::v.ownBlock.toList
theorem rZ.at_ {w:World} {rp mb g cap d:Nat} {f:Int->Option Int} {L:List Nat} (h:rZ w rp mb g cap d f L) (hP:tu f L):kH w rp [rp,mb,g] d L:=
 ⟨mb,f,.slice (some ⟨g,0,none⟩) L.length cap,h.head,by have:=h.row.own;rwa [bO] at this,h.map,hP,h.sep.1,fun g' hg=>by cases hg;exact ⟨h.sep.2.1,h.sep.2.2⟩,rfl⟩
theorem kH.open {w:World} {rp d:Nat} {G L:List Nat} (h:kH w rp G d L) (hl:0<L.length):∃mb g cap f,rZ w rp mb g cap d f L/\tu f L/\G=[rp,mb,g]:=by
 obtain ⟨mb,f,v,h1,h2,h3,h4,h5,h6,rfl⟩:=h;obtain ⟨g,cap,e,hI, -⟩:=IZ.fE (l:=bC L) (by rw [bO];exact h2) (by rw [bO];exact hl);rw [bO] at e;subst e;obtain ⟨s1,s2⟩:=h6 g rfl;exact ⟨mb,g,cap,f,⟨h1,hI,h3,h5,s1,s2⟩,h4,rfl⟩
theorem kH.lt {w:World} {rp d:Nat} {G L:List Nat} (h:kH w rp G d L):∀z,z∈G->z<w.heap.size:=by
 obtain ⟨mb,f,v,h1,h2,h3,h4,h5,h6,rfl⟩:=h;intro z hz;simp only [ρ] at hz;rcases hz with rfl|rfl|hz
 ·exact h1.lt
 ·exact h3.lt
 ·exact (h2.lt z (by simpa using hz)).2
theorem kH.upd {w w':World} {rp d:Nat} {G L S:List Nat} (h:kH w rp G d L) (hu:aa S w w') (hS:∀z,z∈S->z∉G):kH w' rp G d L:=by
 obtain ⟨mb,f,v,h1,h2,h3,h4,h5,h6,rfl⟩:=h;have hn:∀z,z∈rp::mb::v.ownBlock.toList->z∉S:=fun z hz hm=>hS z hm hz;exact ⟨mb,f,v,h1.upd hu (hn _ σ),aA h2 hu (fun k hk=>hn k (by simp [hk])),h3.upd hu (hn _ σ),h4,h5,h6,rfl⟩
theorem Ru {f:Int->Option Int} {L:List Nat} (h:tu f L) {x:Nat} (hx:x∉L):f x=none:=by
 cases hf:f x with
 | none=>rfl
 | some v=>
  obtain ⟨y,j,e1, -,hj⟩:=(h x v).1 hf;have:y=x:=ω;subst this;exact absurd (Η hj) hx
theorem IB {f:Int->Option Int} {L:List Nat} (h:tu f L) {x i:Nat} (hx:L[i]?=some x):f x=some (i:Int):=(h x i).2 ⟨x,i,rfl,rfl,hx⟩
theorem RY {f:Int->Option Int} {L:List Nat} (h:tu f L) (x:Nat):kQ f (L++[x]) L.length x:=fun z v hz=>by
 rw [h z v];constructor
 ·rintro ⟨y,j,rfl,rfl,hj⟩;have:=(List.getElem?_eq_some_iff.1 hj).1;exact ⟨y,j,rfl,rfl,ω,by rw [Ρ this];exact hj⟩
 ·rintro ⟨y,j,rfl,rfl,hne,hj⟩;have h1:=(List.getElem?_eq_some_iff.1 hj).1;simp at h1;rw [Ρ ω] at hj;exact ⟨y,j,rfl,rfl,hj⟩
theorem ER (d:Nat) (hd:2<=d/\d<=16) (w:World) :
  Calls Tryz.prog 108 #[.int .i64 (d:Int)] w fun e w'=>∃rp G,e=.returned (.tuple #[.pointer (some ⟨rp,0,none⟩),.int .i64 0])/\kH w' rp G d []/\aa [] w w'/\∀z,z∈G->w.heap.size<=z:=by
 have kf:∀W,Calls Tryz.prog 115 #[.int .i64 (d:Int)] W fun e w'=>e=.returned (.bool true)/\w'=W:=fun W=>by
  have h1:(d:Int)≥2:=ω;have h2:(d:Int)<=16:=ω
  go_enter Tryz.func115,Tryz.ntmps115
  go_wp2;go_ret;exact ⟨rfl,rfl⟩
 have hmm:=@run_makeMap Tryz.prog
 go_enter Tryz.func108,Tryz.ntmps108
 go_wp2_with (first|(go_at_call 115;(with_reducible refine (kf _).mono ?_);rintro e w9 ⟨rfl,aO⟩;rw [aO];clear aO w9)|fail)
 go_ret2;have hm:=eO.made w;have hh:=dC (w.alloc (.map #[] 0)) [.int .i64 (d:Int),.slice none 0 0,.map (some w.heap.size)] 247;have e1:(w.alloc (.map #[] 0)).heap.size=w.heap.size+1:=by rw [Κ]
 rw [e1] at hh;have hv:aa [] (w.alloc (.map #[] 0)) ((w.alloc (.map #[] 0)).alloc (.cells #[.int .i64 (d:Int),.slice none 0 0,.map (some w.heap.size)] 247)):=(aa.refl _ _).alloc _;refine ⟨w.heap.size+1,[w.heap.size+1,w.heap.size],rfl,⟨w.heap.size,fun _=>none,.slice none 0 0,hh,⟨rfl,Α ⟨rfl,rfl⟩⟩,hm.upd hv σ,fun z v=>σ,ω,fun g hg=>(by cases hg),rfl⟩,β,fun z hz=>?_⟩;simp at hz;omega
theorem MV {w:World} {rp d:Nat} {G:List Nat} (h:kH w rp G d []):Calls Tryz.prog 157 #[.pointer (some ⟨rp,0,none⟩),.int .i64 0] w fun e w'=>e=.returned (.tuple #[.int .i64 0,.bool false])/\w'=w:=by
 obtain ⟨mb,f,v,h1,h2, -, -, -, -, -⟩:=h;obtain ⟨a,c,rfl,hc⟩:=aR h2;have c1:=h1.cellAt 1 (v:=.slice a 0 c) ω rfl;clear h1 h2
 go_enter Tryz.func157,Tryz.ntmps157
 go_wp2;go_ret2;exact ⟨rfl,rfl⟩
theorem Nh {w:World} {rp d x:Nat} {G L:List Nat} (h:kH w rp G d (x::L)):Calls Tryz.prog 157 #[.pointer (some ⟨rp,0,none⟩),.int .i64 0] w fun e w'=>e=.returned (.tuple #[.int .i64 (x:Int),.bool true])/\w'=w:=by
 obtain ⟨mb,g,cap,f,hM, -, -⟩:=h.open σ;have c1:=hM.h1;have c2:=hM.cell 0 σ;rw [show (x::L).getD 0 0=x from rfl] at c2;have hn:0<(x::L).length:=σ;generalize (x::L).length=n at *;have hn1:¬ (0:Int)≥(n:Int):=ω;have hn2:(0:Int)<(n:Int):=ω;have Jh:¬n=0:=ω;clear hM h
 go_enter Tryz.func157,Tryz.ntmps157
 go_wp2;go_ret2;exact ⟨rfl,rfl⟩
theorem N8 (O:fH) {w:World} {rp d:Nat} {G L:List Nat} (hO:O.at_ w) (h:kH w rp G d L) (hd:2<=d/\d<=16) (hl:L.length+1<=65536) (hH:Hp O.R d L) (x:Nat) (hx:x∉L) (hn:L.Nodup)
  (hdom:∀y,y∈x::L->O.dom y) (h16:∀y,y∈x::L->y<=65536) (hsep:∀z,z∈G->z∉O.rd) :
  Calls Tryz.prog 155 #[.pointer (some ⟨rp,0,none⟩),.iface O.ty (.pointer (some ⟨O.p,0,none⟩)),.int .i64 (x:Int)] w fun e w'=>e=.returned (.bool true)/\∃G' L',kH w' rp G' d L'/\L'.Perm (x::L)/\Hp O.R d L'/\O.at_ w'/\aa (G++O.wr) w w'/\∀z,z∈G'->z∈G\/w.heap.size<=z:=by
 obtain ⟨mb,f,v,h1,h2,h3,h4,h5,h6,rfl⟩:=h;have hfx:=Ru h4 hx;have HXx:=χ hx;have hxl:=h16 x σ;obtain ⟨a,cc,rfl,hcc⟩:=aR h2;have c1:=h1.cellAt 1 (v:=.slice a L.length cc) ω rfl;have c2:=h1.cellAt 2 (v:=.map (some mb)) ω rfl;have f1:=h1.free 1;have hlr:=h1.lt;have hlo:=h2.lt;have hms:∀z,z∈(Value.slice a L.length cc).ownBlock.toList->rp≠z/\mb≠z:=fun z hz=>h6 z (by simpa using hz);have hp:=hH.snoc O.tr hd.1 (x:=x);have hpl:=RY h4 x;have hset:(L++[x]).set L.length x=L++[x]:=σ;have zG:(L++[x]).Perm (x::L):=Φ (l₁:=L) (l₂:=[x])
 have HX:=χ (ψ hO (ψ h1 (ψ h3 (ψ h5 (ψ hms (ψ hp (ψ hpl (ψ hset (ψ zG (ψ hn (ψ hdom (ψ h16 (ψ hsep hlo)))))))))))));have hmb:eO w mb f:=h3;have hgl:(Value.slice a L.length cc).ownBlock.toList=(Value.slice a L.length cc).ownBlock.toList:=rfl;clear h1 h3 h4 h6 hH hx hn hdom h16 hsep hO hms hp hpl hset zG hlo;generalize hnl:L.length=n at *;have HN:=χ hnl;clear hnl
 go_enter Tryz.func155,Tryz.ntmps155
 go_upto_region 5 with (first
  | (at_lookup;refine kL rfl _ _ rfl mb f rfl hmb (x:Int) rfl ω ?_;rw [hfx];simp only [Option.getD_none,Option.isSome_none])
  | ((at_builtin;refine ak rfl _ _ 26 rfl 0 3 (.int .i64 0) 1 8 Tryz.underlying26 cO rfl δ _ _ _ rfl (h2) [.int .i64 (x:Int)] rfl (by simp [Value.oneCell']) (by first|rfl|(rw [Κ];rfl)) μ ω (ω) ?_;intro v2 w2 ho2 hu2 lq);obtain ⟨a2,Z4,rfl,hcc2⟩:=aR ho2;(have d1:w2.cell? ⟨rp,1,none⟩=some (.slice a n cc):=hu2.kept c1 (fun hm=>(HX.out.2.2.2.2.1 rp hm).1 rfl));(have e1:=hu2.aP c1 (fun hm=>(HX.out.2.2.2.2.1 rp hm).1 rfl) f1))
  | fail)
 obtain ⟨hO,h1,h3,h5,hms,hp,hpl,hset,zG,hn,hdom,h16,hsep,hlo⟩:=HX.out;have hnz:bC (L++[x])=bC L++[(x:Int)]:=by unfold bC;simp
 have hL1:(L++[x]).length=n+1:=by rw [υ,HN.out];rfl
 obtain ⟨g2,cap2,e2,hI2, -⟩:=IZ.fE (l:=bC (L++[x])) (by rw [bO,hL1,hnz,aT];exact ho2) (by rw [bO,hL1];omega);rw [bO,hL1] at e2;cases e2;have hg2:rp≠g2/\mb≠g2/\(g2∈(Value.slice a n cc).ownBlock.toList\/w.heap.size<g2):=by
  rcases lq with e|e
  ·have hm:g2∈(Value.slice a n cc).ownBlock.toList:=by have e':(Value.slice a n cc).ownBlock=some g2:=e.symm;rw [e'];simp
   have:=hms g2 hm;exact ⟨this.1,this.2,Α hm⟩
  ·have h7:=e g2 rfl;have h8:=h3.lt;exact ⟨ω,ω,Β h7⟩
 have hw0:aa (Value.slice a n cc).ownBlock.toList w w2:=hu2;have En:aa [rp] w2 (w2.setCell ⟨rp,1,none⟩ (.slice (some ⟨g2,0,none⟩) (n+1) Z4)):=β;have hnm:∀z,z∈(Value.slice a n cc).ownBlock.toList->rp≠z/\mb≠z:=hms;have hR:rZ (w2.setCell ⟨rp,1,none⟩ (.slice (some ⟨g2,0,none⟩) (n+1) Z4)) rp mb g2 Z4 d f (L++[x]):=by
  refine ⟨((h1.upd hw0 (fun hm=>(hnm rp hm).1 rfl)).set 1 _).ext (fun j hj=>?_),hI2.upd En (by simp;exact fun e=>hg2.1 e.symm),(h3.upd hw0 (fun hm=>(hnm mb hm).2 rfl)).upd En (by simp;exact fun e=>h5 e.symm),h5,hg2.1,hg2.2.1⟩;rw [hL1];rcases (ω:j=0\/j=1\/j=2) with rfl|rfl|rfl<;>rfl
 have hrd:∀z,z∈(Value.slice a n cc).ownBlock.toList->z∉O.rd:=fun z hz=>hsep z (Λ _ (Λ _ hz));have hOl:=O.low hO;have hat:O.at_ (w2.setCell ⟨rp,1,none⟩ (.slice (some ⟨g2,0,none⟩) (n+1) Z4)):=O.upd (O.upd hO hw0 hrd) En (fun z hz=>by simp at hz;rw [hz];exact hsep rp σ);have ku:=Bl O hat hR hd ω n x hp.1 hpl (by rw [hset];exact zG.nodup_iff.2 (List.nodup_cons.2 ⟨HXx.out,hn⟩)) (fun y hy=>hdom y (zG.mem_iff.1 (by rw [←hset];exact hy))) (fun y hy=>h16 y (zG.mem_iff.1 (by rw [←hset];exact hy)))
  ⟨hsep rp σ,hsep mb σ,fun hm=>by rcases hg2.2.2 with e|e;exact hrd g2 e hm;have:=hOl g2 hm;omega⟩
 rw [hset] at ku;have k1:((n+1:Nat):Int)-1=(n:Int):=ω;have HR:=χ (ψ hp.2 (ψ zG (ψ hg2 (ψ hw0 En))));have c9:=hR.h1;rw [hL1] at c9;have hwr9:wrap64 ((n:Int)+1-1)=(n:Int):=by rw [show (n:Int)+1-1=n by omega];exact IntWalk.wrap64_in _ ω
 clear hR hat hp hpl zG hms hdom h16 hI2 ho2 hu2 lq d1 e1 hw0 En hsep hset
 go_wp2_with (first
  | ((go_at_call 159;(with_reducible refine (ku).mono ?_));rintro e w5 ⟨k,f',L',rfl,I6,MI,MU,zx,dF,hk5,hH5⟩)
  | fail)
 obtain ⟨hb,zG,hg2,hw0,En⟩:=HR.out;have hsz:=hw0.size;go_ret;refine ⟨rfl,_,L',I6.at_ MI,MU.trans zG,hH5 (Β hb),zx,?_,fun z hz=>?_⟩
 ·refine ((hw0.mono (fun z hz=>by simp [hz])).trans (En.mono (fun z hz=>by simp at hz;simp [hz]))).joined dF (fun z hz=>?_);simp only [ρ,τ] at hz ⊢;rcases hz with rfl|rfl|hz
  ·rcases hg2.2.2 with e|e
   ·exact Α (Β (Β (Α e)))
   ·exact Β ω
  ·exact Α (Β (Α rfl))
  ·exact Α (Β (Β (Β hz)))
 ·simp only [ρ,ς,or_false] at hz;rcases hz with rfl|rfl|rfl
  ·exact Α σ
  ·exact Α σ
  ·rcases hg2.2.2 with e|e
   ·exact Α (by simp [e])
   ·exact Β ω
theorem FY (O:fH) {w:World} {rp d:Nat} {G L:List Nat} (hO:O.at_ w) (h:kH w rp G d L) (hd:2<=d/\d<=16) (hl:L.length<=65536) (i x:Nat) (hx:L[i]?=some x) (hn:L.Nodup) (hH:eH O.R d L i) (hB:Below O.R d L i x)
  (hdom:∀y,y∈L->O.dom y) (h16:∀y,y∈L->y<=65536) (hsep:∀z,z∈G->z∉O.rd) :
  Calls Tryz.prog 148 #[.pointer (some ⟨rp,0,none⟩),.iface O.ty (.pointer (some ⟨O.p,0,none⟩)),.int .i64 (x:Int)] w fun e w'=>e=.returned (.bool true)/\∃L',kH w' rp G d L'/\L'.Perm L/\Hp O.R d L'/\O.at_ w'/\aa (G++O.wr) w w':=by
 have hi:=hH.lt;obtain ⟨mb,g,cap,f,hM,hP,rfl⟩:=h.open ω;have hset:L.set i x=L:=by
  obtain ⟨_,e⟩:=List.getElem?_eq_some_iff.1 hx;rw [←e];simp
 have hxm:=Η hx;have ku:=Bl O hO hM hd hl i x hH (hP.hole hx) (by rw [hset];exact hn) (fun y hy=>hdom y (by rw [←hset];exact hy)) (fun y hy=>h16 y (by rw [←hset];exact hy)) ⟨hsep rp σ,hsep mb σ,hsep g σ⟩;rw [hset] at ku;have c2:=hM.h2;have hfx:=IB hP hx;have hmb:=hM.map;have hxl:=h16 x hxm;have HB:=χ hB;clear h hM hP hx hn hH hB hdom h16 hsep hO hset hxm
 go_enter Tryz.func148,Tryz.ntmps148
 go_wp2_with (first
  | (at_lookup;refine kL rfl _ _ rfl mb f rfl hmb (x:Int) rfl ω ?_;rw [hfx];simp only [Option.getD_some,Option.isSome_some])
  | ((go_at_call 159;(with_reducible refine (ku).mono ?_));rintro e w5 ⟨k,f',L',rfl,I6,MI,MU,zx,dF,hk5,hH5⟩)
  | fail)
 go_ret;refine ⟨rfl,L',I6.at_ MI,MU,hH5 (Β HB.out),zx,dF.mono (fun z hz=>?_)⟩;simp only [ρ,τ] at hz ⊢;rcases hz with rfl|rfl|hz
 ·simp
 ·simp
 ·simp [hz]
theorem IZ.take {w:World} {g cap:Nat} {l:List Int} (h:IZ w g cap l) (n:Nat) (hn:n<=l.length):IZ w g cap (l.take n):=by
 rcases h.own.2 with ⟨h1,_⟩|⟨g',cap',cur,h1,hb,hg,hc,hm,hs,ht⟩
 ·cases h1
 ·cases h1;have hl:(l.take n).length=n:=ζ;refine ⟨⟨by rw [fB];omega,Β ⟨g,cap,cur,rfl,ω,hg,ω,hm,hs,?_⟩⟩⟩;rw [hl];have:cur.toList.take (n*1)=(cur.toList.take (l.length*1)).take (n*1):=by rw [List.take_take];congr 1;omega
  rw [this,ht];unfold aM;rw [←List.map_take,Nat.mul_one]
theorem Ou (L:List Nat) (n:Nat):bC (L.take n)=(bC L).take n:=by unfold bC;rw [List.map_take]
def Lh (f:Int->Option Int) (k:Int):Int->Option Int:=fun q=>if q=k then none else f q
theorem tY {L:List Nat} {n:Nat} (hl:L.length=n+1):L=L.take n++[L.getD n 0]:=by
 have h1:L[n]?=some (L.getD n 0):=by simp [φ,hl]
 have h2:L.drop n=[L.getD n 0]:=by
  apply List.ext_getElem?;intro j;rw [List.getElem?_drop];cases j with
  | zero=>simpa using h1
  | succ j=>rw [List.getElem?_eq_none ω];simp
 calc L=L.take n++L.drop n:=(ϝ n L).symm
  _=_:=by rw [h2]
theorem Sv {f:Int->Option Int} {L:List Nat} {n:Nat} (h:tu f L) (hl:L.length=n+1) (hn:L.Nodup):tu (Lh f (L.getD n 0:Nat)) (L.take n):=fun z v=>by
 have h1:L[n]?=some (L.getD n 0):=by simp [φ,hl]
 unfold Lh
 by_cases e:z=((L.getD n 0:Nat):Int)
 ·rw [Δ e];constructor
  ·intro h;cases h
  ·rintro ⟨y,j,rfl,rfl,hj⟩;rw [List.getElem?_take] at hj
   split at hj
   ·rename_i hjn
    have ey:y=L.getD n 0:=ω;rw [←ey] at h1;obtain ⟨g1,e1⟩:=List.getElem?_eq_some_iff.1 hj;obtain ⟨g2,e2⟩:=List.getElem?_eq_some_iff.1 h1;have:=(List.getElem_inj hn).1 (e1.trans e2.symm);omega
   ·cases hj
 ·rw [Γ e,h z v];constructor
  ·rintro ⟨y,j,rfl,rfl,hj⟩;have hjl:=(List.getElem?_eq_some_iff.1 hj).1;have hjn:j≠n:=fun e2=>by rw [e2,h1] at hj;cases hj;exact e rfl
   exact ⟨y,j,rfl,rfl,by rw [List.getElem?_take,Δ ω];exact hj⟩
  ·rintro ⟨y,j,rfl,rfl,hj⟩;rw [List.getElem?_take] at hj
   split at hj
   ·exact ⟨y,j,rfl,rfl,hj⟩
   ·cases hj
theorem SF {f:Int->Option Int} {L:List Nat} {n i x:Nat} (h:tu f L) (hl:L.length=n+1) (hx:L[i]?=some x) (hi:i<n) (hn:L.Nodup):kQ (Lh f x) (L.take n) i (L.getD n 0):=fun z v hz=>by
 have h1:L[n]?=some (L.getD n 0):=by simp [φ,hl]
 unfold Lh
 by_cases e:z=(x:Int)
 ·rw [Δ e];constructor
  ·intro h;cases h
  ·rintro ⟨y,j,rfl,rfl,hji,hj⟩;rw [List.getElem?_take] at hj
   split at hj
   ·have ey:y=x:=ω;rw [ey] at hj;obtain ⟨g1,e1⟩:=List.getElem?_eq_some_iff.1 hj;obtain ⟨g2,e2⟩:=List.getElem?_eq_some_iff.1 hx;exact absurd ((List.getElem_inj hn).1 (e1.trans e2.symm)) hji
   ·cases hj
 ·rw [Γ e,h z v];constructor
  ·rintro ⟨y,j,rfl,rfl,hj⟩;have hjl:=(List.getElem?_eq_some_iff.1 hj).1;have hjn:j≠n:=fun e2=>by rw [e2,h1] at hj;cases hj;exact hz rfl
   have hji:j≠i:=fun e2=>by rw [e2,hx] at hj;cases hj;exact e rfl
   exact ⟨y,j,rfl,rfl,hji,by rw [List.getElem?_take,Δ ω];exact hj⟩
  ·rintro ⟨y,j,rfl,rfl,hji,hj⟩;rw [List.getElem?_take] at hj
   split at hj
   ·exact ⟨y,j,rfl,rfl,hj⟩
   ·cases hj
theorem Ko {L:List Nat} {n i x:Nat} (hl:L.length=n+1) (hx:L[i]?=some x) (hi:i<n):(x::(L.take n).set i (L.getD n 0)).Perm L:=by
 have h0:=tY hl;have hit:(L.take n)[i]?=some x:=by rw [List.getElem?_take,Δ hi];exact hx
 have hlt:(L.take n).length=n:=ζ;generalize L.getD n 0=y at *;generalize L.take n=T at *;obtain ⟨hiT,MP⟩:=List.getElem?_eq_some_iff.1 hit;rw [h0];have e1:T.set i y=T.take i++y::T.drop (i+1):=by rw [List.set_eq_take_append_cons_drop,Δ hiT]
 have e2:T=T.take i++x::T.drop (i+1):=by
  have h2:T.set i x=T:=by rw [←MP];simp
  rw [List.set_eq_take_append_cons_drop,Δ hiT] at h2;exact h2.symm
 rw [e1];have p1:(x::(T.take i++y::T.drop (i+1))).Perm (x::y::(T.take i++T.drop (i+1))):=List.Perm.cons x ϣ;have p2:(T++[y]).Perm (y::x::(T.take i++T.drop (i+1))):=by
  refine (Φ (l₁:=T) (l₂:=[y])).trans (List.Perm.cons y ?_);have p3:(T.take i++x::T.drop (i+1)).Perm (x::(T.take i++T.drop (i+1))):=ϣ;rw [←e2] at p3;exact p3
 exact p1.trans ((List.Perm.swap y x _).trans p2.symm)
theorem EO (O:fH) {w:World} {rp d:Nat} {G L:List Nat} (hO:O.at_ w) (h:kH w rp G d L) (hd:2<=d/\d<=16) (hl:L.length<=65536) (x:Nat) (hxm:x∈L) (hn:L.Nodup) (hH:Hp O.R d L)
  (hdom:∀y,y∈L->O.dom y) (h16:∀y,y∈L->y<=65536) (hsep:∀z,z∈G->z∉O.rd) :
  Calls Tryz.prog 150 #[.pointer (some ⟨rp,0,none⟩),.iface O.ty (.pointer (some ⟨O.p,0,none⟩)),.int .i64 (x:Int)] w fun e w'=>e=.returned (.bool true)/\∃L',kH w' rp G d L'/\(x::L').Perm L/\Hp O.R d L'/\O.at_ w'/\aa (G++O.wr) w w':=by
 obtain ⟨i,hi,hxi⟩:=List.mem_iff_getElem.1 hxm;have hx:L[i]?=some x:=by rw [ε hi,hxi]
 obtain ⟨n,hln⟩:∃n,L.length=n+1:=⟨L.length-1,ω⟩;obtain ⟨mb,g,cap,f,hM,hP,rfl⟩:=h.open ω;have c1:=hM.h1;have c2:=hM.h2;have hcp:=hM.row.cap;rw [bO] at hcp;have fr:=hM.head.free 1;have cl:=hM.cell n ω;have hfx:=IB hP hx;have hmb:eO w mb f:=hM.map;have hxl:=h16 x hxm;have hlt:=hM.lt;have Si:=hM.sep;have hlast:L[n]?=some (L.getD n 0):=by simp [φ,hln]
 have hym:=Η hlast;have hyl:=h16 _ hym;have Rh:(L.take n).length=n:=ζ;rw [hln] at c1 hcp;have Kg:∀W f',IZ W g cap (bC L)->eO W mb f'->aF W rp 247 3 (fun j=>[Value.int .i64 (d:Int),.slice (some ⟨g,0,none⟩) n cap,.map (some mb)].getD j undef)->rZ W rp mb g cap d f' (L.take n):=fun W f' h1 h2 h3=>
  ⟨by rw [Rh];exact h3,by rw [Ou];exact h1.take n (by rw [bO];omega),h2,Si⟩
 have En:aa [rp] w (w.setCell ⟨rp,1,none⟩ (.slice (some ⟨g,0,none⟩) n cap)):=β;have zh:aF (w.setCell ⟨rp,1,none⟩ (.slice (some ⟨g,0,none⟩) n cap)) rp 247 3 (fun j=>[Value.int .i64 (d:Int),.slice (some ⟨g,0,none⟩) n cap,.map (some mb)].getD j undef):=
  (hM.head.set 1 _).ext (fun j hj=>by rcases (ω:j=0\/j=1\/j=2) with rfl|rfl|rfl<;>rfl)
 have hI1:=hM.row.upd En (by simp;exact fun e=>Si.2.1 e.symm);have hm1:=hM.map.upd En (by simp;exact fun e=>Si.1 e.symm);have PZ:=O.upd hO En (fun z hz=>by simp at hz;rw [hz];exact hsep rp σ);have HX:=χ (ψ hP (ψ hn (ψ hH (ψ hdom (ψ h16 (ψ hsep (ψ hx (ψ hln (ψ Rh (ψ Kg (ψ En (ψ zh (ψ hI1 (ψ PZ Si))))))))))))));have Dg:(i:Int)<(n:Int)+1:=ω;have hin:i<=n:=ω;clear hM hP hn hH hdom h16 hsep hO hx hxi Rh Kg zh hI1 PZ hlast hym;generalize hy:L.getD n 0=y at *;have Zc:=χ hy;have hwr:wrap64 ((n:Int)+1-1)=(n:Int):=by rw [show (n:Int)+1-1=n by omega];exact IntWalk.wrap64_in _ ω
 have hwr2:(n:Int)+1-1=(n:Int):=ω;have Yz:(n:Int)<(n:Int)+1:=ω;have hncI:(n:Int)<=(cap:Int):=ω;have hwr3:IntKind.i64.wrap (n:Int)=(n:Int):=Μ _ ω;have hn0I:(0:Int)<=(n:Int):=ω;have HF:=χ (ψ hin hxm);clear hin
 go_enter Tryz.func150,Tryz.ntmps150
 go_upto_region 4 with (first
  | (at_lookup;refine kL rfl _ _ rfl mb f rfl hmb (x:Int) rfl ω ?_;rw [hfx];simp only [Option.getD_some,Option.isSome_some])
  | fail)
 go_quiet (fail)
 go_upto_region 5 with (fail)
 go_region_law (fail)
 all_goals
  go_upto_region 6 with (fail)
  refine fA (fun W=>aa [] (w.setCell ⟨rp,1,none⟩ (.slice (some ⟨g,0,none⟩) n cap)) W) ⟨rfl,rfl,rfl,Θ _,fun _ _ _=>rfl⟩ ?_;intro W hW;obtain ⟨hP,hn,hH,hdom,h16,hsep,hx,hln,Rh,Kg,En,zh,hI1,PZ,Si⟩:=HX.out;have hmW:=hm1.upd hW σ;have hhW:=zh.upd hW σ;have hIW:=hI1.upd hW σ;have UW:=O.upd PZ hW σ;have c2W:=hhW.cellAt 2 (v:=.map (some mb)) ω rfl;have Lv:aa [rp] w W:=En.then hW;clear hm1 zh hI1 PZ hW c1 c2 fr cl;have UJ:∀w3,eO w3 mb (Lh f x)->aa [mb] W w3->rZ w3 rp mb g cap d (Lh f x) (L.take n)/\O.at_ w3:=fun w3 CX hu3=>
   ⟨Kg w3 _ (hIW.upd hu3 (by simp;exact fun e=>Si.2.2 e.symm)) CX (hhW.upd hu3 (by simp;exact Si.1)),O.upd UW hu3 (fun z hz=>by simp at hz;rw [hz];exact hsep mb σ)⟩
  by_cases hin2:i=n
  ·have hyx:y=x:=by
    have h1:L[n]?=some y:=by rw [←Zc.out];simp [φ,hln]
    rw [←hin2,hx] at h1;cases h1;rfl
   have hyx2:((y:Int) == (x:Int))=true:=by simp [hyx]
   have HG:=χ (ψ hP (ψ hn (ψ hH (ψ UJ (ψ Lv (ψ hyx hln))))));clear hP hn hH hdom h16 hsep hx hln Rh Kg En Si hhW hIW UW UJ Lv hyx hin2
   go_upto_region 7 with (first
    | (at_delete;refine mO rfl _ _ rfl mb _ rfl hmW (x:Int) rfl ω ?_;intro w3 CX hu3)
    | fail)
   go_wp2;go_ret;obtain ⟨hP,hn,hH,UJ,Lv,hyx,hln⟩:=HG.out;obtain ⟨Xq,hO3⟩:=UJ w3 CX hu3;have hpl:=Sv hP hln hn;rw [Zc.out,hyx] at hpl;refine ⟨rfl,L.take n,Xq.at_ hpl,?_,hH.take hd.1,hO3,(Lv.mono (fun z hz=>by simp at hz;simp [hz])).trans (hu3.mono (fun z hz=>by simp at hz;simp [hz]))⟩;have h0:=tY hln;rw [Zc.out,hyx] at h0
   conv=>rhs;rw [h0]
   exact (Φ (l₁:=L.take n) (l₂:=[x])).symm
  ·have hi2:i<n:=ω;have hyx:y≠x:=fun e=>by
    have h1:L[n]?=some y:=by rw [←Zc.out];simp [φ,hln]
    rw [e] at h1;obtain ⟨g1,e1⟩:=List.getElem?_eq_some_iff.1 h1;obtain ⟨g2,e2⟩:=List.getElem?_eq_some_iff.1 hx;exact hin2 ((List.getElem_inj hn).1 (e1.trans e2.symm)).symm
   have hyx2:((y:Int) == (x:Int))=false:=ζ;have Pk:=Ko hln hx hi2;have hgo:=SF hP hln hx hi2 hn;rw [Zc.out] at Pk hgo;have WN:=(hH.take (n:=n) hd.1).hole O.tr hd.1 (i:=i) (by rw [Rh];exact hi2);have hnd:=List.nodup_cons.1 (Pk.nodup_iff.2 hn);have Ve:∀z,z∈(L.take n).set i y->O.dom z:=fun z hz=>hdom z (Pk.mem_iff.1 (Λ _ hz));have h6m:∀z,z∈(L.take n).set i y->z<=65536:=fun z hz=>h16 z (Pk.mem_iff.1 (Λ _ hz));have hsq:LK O rp mb g:=⟨hsep rp σ,hsep mb σ,hsep g σ⟩;have ku:=fun w3 CX hu3=>Bl O (UJ w3 CX hu3).2 (UJ w3 CX hu3).1 hd ω i y WN hgo hnd.2 Ve h6m hsq
   have hit:((L.take n).set i y)[i]?=some y:=by simp [Rh,hi2]
   have hss:((L.take n).set i y).set i y=(L.take n).set i y:=by rw [List.set_set]
   have kd:=fun (w5:World) (f5:Int->Option Int) (zx:O.at_ w5) (I6:rZ w5 rp mb g cap d f5 ((L.take n).set i y)) (MI:tu f5 ((L.take n).set i y)) (hT:i=0\/O.R ((L.take n).getD (par d i) 0) y)=>
    Lb O zx I6 hd (by rw [Ι,Rh];omega) i y (WN.any hd.1 y) (MI.hole hit) (by rw [hss];exact hnd.2) (fun z hz=>Ve z (by rw [←hss];exact hz)) (fun z hz=>h6m z (by rw [←hss];exact hz)) hsq
     (by rcases Nat.eq_zero_or_pos i with h|h;exact Α h;rcases hT with e|e;exact Α e;exact Β (by have:=dO hd.1 h;rw [bW,Γ ω];exact e))
   simp only [hss] at kd;have HG:=χ (ψ Pk (ψ Lv hnd));have hiI2:(i:Int)<(n:Int):=ω;clear hP hn hH hdom h16 hsep hx hln Rh Kg En Si hhW hIW UW UJ Lv hyx hin2 Pk hgo WN hnd Ve h6m hsq hit hss
   go_upto_region 9 with (first
    | (at_delete;refine mO rfl _ _ rfl mb _ rfl hmW (x:Int) rfl ω ?_;intro w3 CX hu3)
    | fail)
   have ku3:=ku w3 CX hu3;clear ku
   go_wp2_with (first
    | ((go_at_call 159;(with_reducible refine (ku3).mono ?_));rintro e w5 ⟨k,f',L',rfl,I6,MI,MU,zx,dF,hk5,hH5⟩)
    | ((go_at_call 161;(have hki:k=i:=by have h:=(by assumption:((k:Int) == (i:Int))=true);simp at h;omega);(obtain ⟨hL5,ML⟩:=hk5 hki);(rw [hL5] at I6 MI);(refine (kd w5 f' zx I6 MI ML).mono ?_));rintro e w6 ⟨f6,L6,rfl,Qv,pK,hpr6,hO6,fq,hH6⟩)
    | fail)
   all_goals
    go_ret;obtain ⟨Pk,Lv,hnd⟩:=HG.out;have Zn:aa (rp::mb::g::O.wr) w w5:=((Lv.mono (fun z hz=>by simp at hz;simp [hz])).trans (hu3.mono (fun z hz=>by simp at hz;simp [hz]))).trans (dF.mono (fun z hz=>by simp only [ρ] at hz ⊢;rcases hz with h|h|h;exact Β (Β (Α h));exact Β (Α h);exact Β (Β (Β h))))
    first
     | (refine ⟨rfl,L6,Qv.at_ pK,(hpr6.cons x).trans Pk,hH6,hO6,Zn.trans (fq.mono (fun z hz=>by simp only [ρ] at hz ⊢;rcases hz with h|h|h;exact Β (Β (Α h));exact Β (Α h);exact Β (Β (Β h))))⟩)
     | (refine ⟨rfl,L',I6.at_ MI,(MU.cons x).trans Pk,hH5 (Α (by have h:=(by assumption:((k:Int) == (i:Int))=false);simp at h;omega)),zx,Zn⟩)
theorem Bz (p c:Nat):∀W:World,W.cell? ⟨p,0,none⟩=some (.pointer (some ⟨c,0,none⟩))->(method 429 170 (.pointer (some ⟨p,0,none⟩)) "Ahead").run Tryz.prog W=.ok (174,.pointer (some ⟨c,0,none⟩)) W:=(by intro W h;unfold method;have hm:∃m,(Array.find? (fun x=>x.name == "Ahead") Tryz.t170.methods)=some m/\m.path.toList=[⟨207,0,true⟩]/\m.func=some (174,true)/\m.path.isEmpty=false:=⟨(Array.find? (fun x=>x.name == "Ahead") Tryz.t170.methods).get!,by kernel_rfl,by kernel_rfl,by kernel_rfl,by kernel_rfl⟩;obtain ⟨m,h1,h2,h3,h4⟩:=hm;go_simp;simp only [follow,Place.get];go_simp;(try unfold receiverAt);(try simp only [Place.get]);(try go_simp))
theorem CO (p:Nat):∀W:World,(nilAhead 429 170 (.pointer (some ⟨p,0,none⟩)) "Ahead").run Tryz.prog W=.ok (some false) W:=fun W=>by kernel_rfl
structure DB where
 n0:Nat
 c:Nat
 d:Nat
def YU (d:Nat):ZO:=⟨fun w p G L=>kH w p G d L,fun h hu hS=>h.upd hu hS,fun h=>h.lt⟩
def lC (A:NS) (h:Nat):Bool:=bf A (h:Int)
structure uB (w:World) (B:DB) (F Z:List Nat) (gr cr:Nat) (A:NS) (st:Nat) (ptr:Nat->Option Nat) (G L:Nat->List Nat):Prop where
 head:aF w B.n0 207 3 (fun j=>[Value.pointer (some ⟨B.c,0,none⟩),.int .i64 (B.d:Int),.slice (some ⟨gr,0,none⟩) A.hs.length cr].getD j undef)
 cells:aB w B.c F A st
 jF:sV (YU B.d) 202 w gr cr A.hs.length (lC A) Z ptr G L
 bA:B.n0∉F/\gr∉F/\B.n0≠gr
 jm:∀z,z∈Z->z∉F/\z≠B.n0
 dd:2<=B.d/\B.d<=16
def DB.blk (B:DB) (F Z:List Nat) (gr:Nat):List Nat:=B.n0::gr::(F++Z)
section
variable {w:World} {B:DB} {F Z:List Nat} {gr cr st:Nat} {A:NS} {ptr:Nat->Option Nat} {G L:Nat->List Nat}
theorem uB.upd {w':World} {S:List Nat} (h:uB w B F Z gr cr A st ptr G L) (hu:aa S w w') (hS:∀x,x∈S->x∉B.blk F Z gr):uB w' B F Z gr cr A st ptr G L:=by
 have h1:∀x,x∈B.blk F Z gr->x∉S:=fun x hx hg=>hS x hg hx;exact ⟨h.head.upd hu (h1 _ (by simp [DB.blk])),h.cells.upd hu (fun x hx hm=>hS x hx (by simp [DB.blk,hm])),h.jF.upd hu (fun z hz=>⟨fun e=>hS z hz (by simp [DB.blk,e]),fun e=>hS z hz (by simp [DB.blk,e])⟩),h.bA,h.jm,h.dd⟩
theorem uB.ae {w':World} (h:uB w B F Z gr cr A st ptr G L) (hu:aa [] w w'):uB w' B F Z gr cr A st ptr G L:=h.upd hu σ
theorem uB.lt (h:uB w B F Z gr cr A st ptr G L):∀x,x∈B.blk F Z gr->x<w.heap.size:=by
 intro x hx;simp only [DB.blk,ρ,τ] at hx;rcases hx with rfl|rfl|hx|hx
 ·exact h.head.lt
 ·exact h.jF.lt
 ·exact h.cells.lt x hx
 ·exact h.jF.H8 x hx
theorem uB.h0 (h:uB w B F Z gr cr A st ptr G L):w.cell? ⟨B.n0,0,none⟩=some (.pointer (some ⟨B.c,0,none⟩)):=h.head.cellAt 0 ω rfl
theorem uB.h1 (h:uB w B F Z gr cr A st ptr G L):w.cell? ⟨B.n0,1,none⟩=some (.int .i64 (B.d:Int)):=h.head.cellAt 1 ω rfl
theorem uB.h2 (h:uB w B F Z gr cr A st ptr G L):w.cell? ⟨B.n0,2,none⟩=some (.slice (some ⟨gr,0,none⟩) A.hs.length cr):=h.head.cellAt 2 ω rfl
theorem uB.fe {w':World} {F':List Nat} {A':NS} {st':Nat} (h:uB w B F Z gr cr A st ptr G L) (hu:aa F w w') (hC:aB w' B.c F' A' st') (hF:∀x,x∈F'->x∈F\/w.heap.size<=x) (h2:A'.hs=A.hs):uB w' B F' Z gr cr A' st' ptr G L:=by
 have f:=h.bA;have g:=h.lt;have hf:∀x,x<w.heap.size->x∉F->x∉F':=fun x hx hn hm=>by rcases hF x hm with h'|h';exact hn h';omega
 have l0:=g B.n0 (by simp [DB.blk]);have l1:=g gr (by simp [DB.blk]);have hh:lC A'=lC A:=funext fun k=>by unfold lC bf;rw [h2]
 exact ⟨by rw [h2];exact h.head.upd hu f.1,hC,by rw [h2,hh];exact h.jF.upd hu (fun z hz=>⟨fun e=>f.2.1 (by rw [←e];exact hz),fun hm=>(h.jm z hm).1 hz⟩),⟨hf _ l0 f.1,hf _ l1 f.2.1,f.2.2⟩,fun z hz=>⟨hf z (h.jF.H8 z hz) (h.jm z hz).1,(h.jm z hz).2⟩,h.dd⟩
def Td (B:DB) (F:List Nat) (A:NS) (hc:B.c∈F):fH where
 ty:=170
 p:=B.n0
 rd:=B.n0::F
 wr:=[B.c]
 lt:=fun a b=>decide (eB A a b)
 dom:=fun x=>bP A (x:Int)=true
 at_:=fun w=>w.cell? ⟨B.n0,0,none⟩=some (.pointer (some ⟨B.c,0,none⟩))/\B.n0∉F/\∃st,aB w B.c F A st
 sub:=fun x hx=>by simp at hx;rw [hx];exact Λ _ hc
 low:=fun h x hx=>by
  obtain ⟨h1,h3,st,h2⟩:=h;rcases ρ.1 hx with e|e
  ·rw [e];exact Ε _ _ h1
  ·exact h2.lt x e
 upd:=fun h hu hS=>by
  obtain ⟨h1,h3,st,h2⟩:=h;exact ⟨hu.kept h1 (fun hm=>hS _ hm σ),h3,st,h2.upd hu (fun x hx hm=>hS x hx (by simp [hm]))⟩
 trans:=fun a b c h1 h2=>Ν (dE (ϥ h1) (ϥ h2))
 total:=fun a b h=>by rcases jM (A:=A) h with h|h;exact Α (Ν h);exact Β (Ν h)
 asym:=fun a b h=>Ξ (pQ (ϥ h))
 fn:=174
 recv:=.pointer (some ⟨B.c,0,none⟩)
 ent:=fun _ _=>by kernel_rfl
 Su:=fun h=>Bz _ _ _ h.1
 Te:=CO _
 ask:=fun {w} x y h hx hy=>by
  obtain ⟨h1,h3,st,h2⟩:=h;refine (gP h2 x y hx hy).mono ?_;rintro e w' ⟨rfl,hC,hu⟩;exact ⟨rfl,⟨hu.kept h1 (fun hm=>h3 (by simp at hm;rw [hm];exact h2.mem)),h3,_,hC⟩,hu⟩
theorem uB.ord (h:uB w B F Z gr cr A st ptr G L):(Td B F A h.cells.mem).at_ w:=⟨h.h0,h.bA.1,st,h.cells⟩
end
def lS (w:World) (B:DB) (F Z:List Nat) (gr:Nat) (A:NS) (st:Nat):Prop:=∃cr ptr G L,uB w B F Z gr cr A st ptr G L/\rU B.d A L
section
variable {w:World} {B:DB} {F Z:List Nat} {gr st:Nat} {A:NS}
theorem lS.upd {w':World} {S:List Nat} (h:lS w B F Z gr A st) (hu:aa S w w') (hS:∀x,x∈S->x∉B.blk F Z gr):lS w' B F Z gr A st:=by
 obtain ⟨cr,ptr,G,L,hM,hI⟩:=h;exact ⟨cr,ptr,G,L,hM.upd hu hS,hI⟩
theorem lS.ae {w':World} (h:lS w B F Z gr A st) (hu:aa [] w w'):lS w' B F Z gr A st:=h.upd hu σ
theorem Eo (h:lS w B F Z gr A st) (g:Nat) (hn:bf A g=true) :
  Calls Tryz.prog 145 #[.pointer (some ⟨B.n0,0,none⟩),.int .i64 (g:Int)] w fun e w'=>e=.returned (.tuple #[.int .i64 (nL (bu A g)),.bool (bu A g).isSome])/\w'=w:=by
 obtain ⟨cr,ptr,G,L,hM,hI⟩:=h;have k:=iE hM.cells g;rw [hn] at k;have h0:=hM.h0;have h2:=hM.h2;obtain ⟨rp,hp,hR⟩:=hM.jF.row g hn;have hg:=(aK _ _).1 hn;have hc:=hM.jF.cell ω hp;have TK:(g:Int)<(A.hs.length:Int):=ω;have hR':kH w rp (G g) B.d (L g):=hR;cases hl:L g with
 | nil=>
  rw [hl] at hR';have ka:=MV hR';rw [hI.none hn hl];clear hM hI hn hR hR' hp hl
  go_enter Tryz.func145,Tryz.ntmps145
  go_wp2_with (first|(go_at_call 139;(with_reducible refine (k).mono ?_);rintro e w9 ⟨rfl,aO⟩;rw [aO];clear aO w9)|(go_at_call 157;(with_reducible refine (ka).mono ?_);rintro e w9 ⟨rfl,aO⟩;rw [aO];clear aO w9))
  go_ret2;exact ⟨rfl,rfl⟩
 | cons m l=>
  rw [hl] at hR';have ka:=Nh hR';rw [hI.first hM.dd.1 hn hl];clear hM hI hn hR hR' hp hl
  go_enter Tryz.func145,Tryz.ntmps145
  go_wp2_with (first|(go_at_call 139;(with_reducible refine (k).mono ?_);rintro e w9 ⟨rfl,aO⟩;rw [aO];clear aO w9)|(go_at_call 157;(with_reducible refine (ka).mono ?_);rintro e w9 ⟨rfl,aO⟩;rw [aO];clear aO w9))
  go_ret2;exact ⟨rfl,rfl⟩
end
def YK (B:HB) (w:World) (rp:Nat) (G L:List Nat):Prop:=∃v,aF w rp 321 2 (NH B v)/\w.ownsRow 0 3 1 v L.length (aM (bC L))/\G=rp::v.ownBlock.toList/\∀g,v.ownBlock=some g->g≠rp
def XX (B:HB):ZO:=⟨YK B,fun h hu hS=>by
 obtain ⟨v,h1,h2,rfl,h3⟩:=h;exact ⟨v,h1.upd hu (fun hm=>hS _ hm σ),aA h2 hu (fun k hk hm=>hS k hm (Λ _ (Option.mem_toList.2 hk))),rfl,h3⟩,fun h=>by
 obtain ⟨v,h1,h2,rfl,h3⟩:=h;intro z hz;rcases ρ.1 hz with e|e
 ·rw [e];exact h1.lt
 ·exact (h2.lt z (Option.mem_toList.1 e)).2⟩
structure ShM (w:World) (B:HB) (F Z:List Nat) (gr cr:Nat) (A:NS) (st:Nat) (ptr:Nat->Option Nat) (G L:Nat->List Nat) (T:List Nat):Prop where
 head:aF w B.n0 237 3 (fun j=>[Value.pointer (some ⟨B.c,0,none⟩),.slice (some ⟨gr,0,none⟩) A.hs.length cr,.slice (some ⟨B.ga,0,none⟩) T.length T.length].getD j undef)
 cells:aB w B.c F A st
 jF:sV (XX B) 317 w gr cr A.hs.length (lC A) Z ptr G L
 yE:IZ w B.ga T.length (bC T)
 tl:T.length=A.cs.length
 bA:B.n0∉F/\gr∉F/\B.ga∉F
 sep:B.n0≠gr/\B.ga≠B.n0/\B.ga≠gr
 jm:∀z,z∈Z->z∉F/\z≠B.n0/\z≠B.ga
def HB.blk (B:HB) (F Z:List Nat) (gr:Nat):List Nat:=B.n0::gr::B.ga::(F++Z)
structure Wz (A:NS) (L:Nat->List Nat) (T:List Nat):Prop where
 di:rU 2 A L
 C9:∀h:Nat,bf A h=true->∀j x,(L h)[j]?=some x->T.getD x 0=j
section
variable {w w':World} {B:HB} {F Z:List Nat} {gr cr st:Nat} {A:NS} {ptr:Nat->Option Nat} {G L:Nat->List Nat} {T:List Nat}
theorem ShM.upd {S:List Nat} (h:ShM w B F Z gr cr A st ptr G L T) (hu:aa S w w') (hS:∀x,x∈S->x∉B.blk F Z gr):ShM w' B F Z gr cr A st ptr G L T:=by
 have h1:∀x,x∈B.blk F Z gr->x∉S:=fun x hx hg=>hS x hg hx;exact ⟨h.head.upd hu (h1 _ (by simp [HB.blk])),h.cells.upd hu (fun x hx hm=>hS x hx (by simp [HB.blk,hm])),h.jF.upd hu (fun z hz=>⟨fun e=>hS z hz (by simp [HB.blk,e]),fun e=>hS z hz (by simp [HB.blk,e])⟩),h.yE.upd hu (h1 _ (by simp [HB.blk])),h.tl,h.bA,h.sep,h.jm⟩
theorem ShM.ae (h:ShM w B F Z gr cr A st ptr G L T) (hu:aa [] w w'):ShM w' B F Z gr cr A st ptr G L T:=h.upd hu σ
theorem ShM.lt (h:ShM w B F Z gr cr A st ptr G L T):∀x,x∈B.blk F Z gr->x<w.heap.size:=by
 intro x hx;simp only [HB.blk,ρ,τ] at hx;rcases hx with rfl|rfl|rfl|hx|hx
 ·exact h.head.lt
 ·exact h.jF.lt
 ·exact h.yE.lt
 ·exact h.cells.lt x hx
 ·exact h.jF.H8 x hx
theorem ShM.h0 (h:ShM w B F Z gr cr A st ptr G L T):w.cell? ⟨B.n0,0,none⟩=some (.pointer (some ⟨B.c,0,none⟩)):=h.head.cellAt 0 ω rfl
theorem ShM.h1 (h:ShM w B F Z gr cr A st ptr G L T):w.cell? ⟨B.n0,1,none⟩=some (.slice (some ⟨gr,0,none⟩) A.hs.length cr):=h.head.cellAt 1 ω rfl
theorem ShM.h2 (h:ShM w B F Z gr cr A st ptr G L T):w.cell? ⟨B.n0,2,none⟩=some (.slice (some ⟨B.ga,0,none⟩) T.length T.length):=h.head.cellAt 2 ω rfl
theorem ShM.Jl (h:ShM w B F Z gr cr A st ptr G L T) (j:Nat) (hj:j<T.length):w.cell? ⟨B.ga,j,none⟩=some (.int .i64 ((T.getD j 0:Nat):Int)):=by
 have:=h.yE.cell j (by rw [bO];exact hj);rwa [qw] at this
theorem ShM.fe {F':List Nat} {A':NS} {st':Nat} (h:ShM w B F Z gr cr A st ptr G L T) (hu:aa F w w') (hC:aB w' B.c F' A' st') (hF:∀x,x∈F'->x∈F\/w.heap.size<=x) (h2:A'.hs=A.hs) (h3:A'.cs.length=A.cs.length):ShM w' B F' Z gr cr A' st' ptr G L T:=by
 have f:=h.bA;have g:=h.lt;have hf:∀x,x<w.heap.size->x∉F->x∉F':=fun x hx hn hm=>by rcases hF x hm with h'|h';exact hn h';omega
 have l0:=g B.n0 (by simp [HB.blk]);have l1:=g gr (by simp [HB.blk]);have l2:=g B.ga (by simp [HB.blk]);have hh:lC A'=lC A:=funext fun k=>by unfold lC bf;rw [h2]
 exact ⟨by rw [h2];exact h.head.upd hu f.1,hC,by rw [h2,hh];exact h.jF.upd hu (fun z hz=>⟨fun e=>f.2.1 (by rw [←e];exact hz),fun hm=>(h.jm z hm).1 hz⟩),h.yE.upd hu f.2.2,by rw [h3];exact h.tl,⟨hf _ l0 f.1,hf _ l1 f.2.1,hf _ l2 f.2.2⟩,h.sep,fun z hz=>⟨hf z (h.jF.H8 z hz) (h.jm z hz).1,(h.jm z hz).2⟩⟩
theorem ShM.pile (h:ShM w B F Z gr cr A st ptr G L T) {g:Nat} (hg:bf A g=true) (hd:∀y,y∈L g->bP A (y:Int)=true/\y<T.length) (hn:(L g).Nodup) (hpl:∀j x,(L g)[j]?=some x->T.getD x 0=j) :
  ∃rp v,ptr g=some rp/\G g=rp::v.ownBlock.toList/\Ch w B F A rp v (L g) T:=by
 obtain ⟨rp,hp,v,h1,h2,h3,h4⟩:=h.jF.row g hg;have hz:∀z,z∈rp::v.ownBlock.toList->z∈Z:=fun z hz=>h.jF.wO g hg z (by rw [h3];exact hz);have hr:=h.jm rp (hz rp σ);have hok:=h.cells.ok.c1;refine ⟨rp,v,hp,h3,h1,h2,h.yE,h.h0,h.h2,⟨st,h.cells⟩,⟨hr.2.2,hr.2.1⟩,fun k hk=>?_,h.sep.2.1,⟨hr.1,h.bA.2.2,h.bA.1⟩,hd,hn,hpl,by rw [h.tl];exact hok⟩;have hk':=h.jm k (hz k (Λ _ (Option.mem_toList.2 hk)));exact ⟨h4 k hk,hk'.2.2,hk'.2.1,hk'.1⟩
theorem ShM.AX (h:ShM w B F Z gr cr A st ptr G L T) {g rp:Nat} (hg:bf A g=true) (hp:ptr g=some rp) {v':Value} {L' T' S:List Nat} (hu:aa S w w') (hS:∀z,z∈S->z∈G g\/z=B.ga\/z=B.c) (hr:rp∈G g) (hP:Ch w' B F A rp v' L' T') (hl:T'.length=T.length) (hG:∀k,v'.ownBlock=some k->k∈G g\/w.heap.size<=k) :
  ∃st',ShM w' B F (Z++(rp::v'.ownBlock.toList)) gr cr A st' ptr (jq G g (rp::v'.ownBlock.toList)) (jq L g L') T':=by
 have r9:=h.cells.mem;have hsl:=h.lt;obtain ⟨st',hC⟩:=hP.J7;have hnc:B.n0≠B.c:=fun e=>h.bA.1 (by rw [e];exact r9);have hSn:B.n0∉S:=fun hm=>by
  rcases hS _ hm with e|e|e
  ·exact (h.jm _ (h.jF.wO g hg _ e)).2.1 rfl
  ·exact h.sep.2.1 e.symm
  ·exact hnc e
 have Uw:∀z,z∈rp::v'.ownBlock.toList->z∈G g\/w.heap.size<=z:=fun z hz=>by
  rcases ρ.1 hz with e|e
  ·rw [e];exact Α hr
  ·exact hG z (Option.mem_toList.1 e)
 refine ⟨st',⟨?_,hC,h.jF.one hg hp hu (fun z hz=>?_) ⟨v',hP.hd,hP.own,rfl,fun k hk=>(hP.sg k hk).1⟩ Uw,hP.yE,by rw [hl];exact h.tl,h.bA,h.sep,fun z hz=>?_⟩⟩
 ·rw [hl];exact h.head.upd hu hSn
 ·rcases hS z hz with e|e|e
  ·exact Α e
  ·rw [e];exact Β ⟨h.sep.2.2,fun hm=>(h.jm _ hm).2.2 rfl⟩
  ·rw [e];exact Β ⟨fun e2=>h.bA.2.1 (by rw [←e2];exact r9),fun hm=>(h.jm _ hm).1 r9⟩
 ·rcases τ.1 hz with e|e
  ·exact h.jm z e
  ·rcases Uw z e with e2|e2
   ·exact h.jm z (h.jF.wO g hg z e2)
   ·exact ⟨fun hm=>by have:=hsl z (by simp [HB.blk,hm]);omega,fun e3=>by have:=hsl B.n0 (by simp [HB.blk]);omega,fun e3=>by have:=hsl B.ga (by simp [HB.blk]);omega⟩
end
def ShAt (w:World) (B:HB) (F Z:List Nat) (gr:Nat) (A:NS) (st:Nat):Prop:=∃cr ptr G L T,ShM w B F Z gr cr A st ptr G L T/\Wz A L T
section
variable {w:World} {B:HB} {F Z:List Nat} {gr st:Nat} {A:NS}
theorem ShAt.upd {w':World} {S:List Nat} (h:ShAt w B F Z gr A st) (hu:aa S w w') (hS:∀x,x∈S->x∉B.blk F Z gr):ShAt w' B F Z gr A st:=by
 obtain ⟨cr,ptr,G,L,T,hM,hI⟩:=h;exact ⟨cr,ptr,G,L,T,hM.upd hu hS,hI⟩
theorem ShAt.ae {w':World} (h:ShAt w B F Z gr A st) (hu:aa [] w w'):ShAt w' B F Z gr A st:=h.upd hu σ
theorem Aq (h:ShAt w B F Z gr A st) (g:Nat) (hn:bf A g=true) :
  Calls Tryz.prog 276 #[.pointer (some ⟨B.n0,0,none⟩),.int .i64 (g:Int)] w fun e w'=>e=.returned (.tuple #[.int .i64 (nL (bu A g)),.bool (bu A g).isSome])/\w'=w:=by
 obtain ⟨cr,ptr,G,L,T,hM,hI⟩:=h;have hg:=(aK _ _).1 hn;have hok:=hM.cells.ok;have h1:=hok.h1;have k:=nE hM.cells (g:Int) ω;have h0:=hM.h0;have h2:=hM.h1;obtain ⟨rp,hp,v,r1,r2,r3,r4⟩:=hM.jF.row g hn;have hc:=hM.jF.cell ω hp;have TK:(g:Int)<(A.hs.length:Int):=ω;cases hl:L g with
 | nil=>
  have Cu:=hI.di.none hn hl;have hz:=(iI (A:=A) (h:=(g:Int)) ω).1 Cu;rw [Cu];rw [hz] at k;clear hM hI hn r1 r2 r3 r4 hp hl Cu hz hok
  go_enter Tryz.func276,Tryz.ntmps276
  go_wp2_with (first|(go_at_call 142;(with_reducible refine (k).mono ?_);rintro e w9 ⟨rfl,aO⟩;rw [aO];clear aO w9)|fail)
  go_ret2;exact ⟨rfl,rfl⟩
 | cons m l=>
  have Cu:=hI.di.first ω hn hl;have hz:¬dA A (g:Int)=0:=fun e=>by
   have:=(iI (A:=A) (h:=(g:Int)) ω).2 e;rw [Cu] at this;cases this
  have hle:=Cf hok (g:Int);rw [Cu];rw [hl] at r2;obtain ⟨gs,cap,rfl,_,hgl,hcc,hcap,hcell, -⟩:=dM r2 σ;have c1:w.cell? ⟨rp,1,none⟩=some (.slice (some ⟨gs,0,none⟩) (m::l).length cap):=r1.cellAt 1 ω rfl;have c2:w.cell? ⟨gs,0,none⟩=some (.int .i64 (m:Int)):=hcell 0 _ rfl;have hzb:((dA A (g:Int):Int) == 0)=false:=ι;have hlp:(0:Int)<((m::l).length:Int):=ι;clear hM hI hn r1 r2 r3 r4 hp hl Cu hcell hok hz;generalize dA A (g:Int)=ln at *;generalize (m::l).length=nl at *
  go_enter Tryz.func276,Tryz.ntmps276
  go_wp2_with (first|(go_at_call 142;(with_reducible refine (k).mono ?_);rintro e w9 ⟨rfl,aO⟩;rw [aO];clear aO w9)|fail)
  go_ret2;exact ⟨rfl,rfl⟩
end
theorem JS:(Tryz.prog.info? 202).map (fun i=>(i.zero,i.size,i.bytes))=some (some (.pointer none),1,8):=by kernel_rfl
theorem lY (n h:Nat):lC (NS.new n) h=false:=by
 unfold lC;cases hh:bf (NS.new n) (h:Int) with
 | false=>rfl
 | true=>have:=(aK _ _).1 hh;simp [NS.new] at this;omega
theorem PG (n d:Nat) (w:World) (h:n<=65536) (hd:2<=d/\d<=16) :
  Calls Tryz.prog 91 #[.int .i64 (n:Int),.int .i64 (d:Int)] w fun e w'=>∃B F gr,e=.returned (.tuple #[.pointer (some ⟨B.n0,0,none⟩),.int .i64 0])/\lS w' B F [] gr (NS.new n) 0/\aa [] w w'/\(∀x,x∈B.blk F [] gr->w.heap.size<=x)/\B.d=d:=by
 go_enter Tryz.func91,Tryz.ntmps91
 go_wp2_with (first
  | ((go_at_call 107;(with_reducible refine (mi n _ h).mono ?_));rintro e w1 ⟨c,F,rfl,hC,hu1,hF⟩)
  | ((go_at_call 108;(with_reducible refine (ER d hd _).mono ?_));rintro e w2 ⟨rp,G,rfl,hR,hu2,hG⟩)
  | fail)
 go_ret2;have l1:=hu1.size;have l2:=hu2.size;have l7:=hC.lt;have e3:((w2.alloc (.cells #[.pointer none] 202)).heap.size)=w2.heap.size+1:=by rw [Κ]
 have hh:=dC (w2.alloc (.cells #[.pointer none] 202)) [.pointer (some ⟨c,0,none⟩),.int .i64 (d:Int),.slice (some ⟨w2.heap.size,0,none⟩) 1 1] 207;rw [e3] at hh;have hv:aa [] w2 (w2.alloc (.cells #[.pointer none] 202)):=(aa.refl _ _).alloc _;have hv2:aa [] (w2.alloc (.cells #[.pointer none] 202)) ((w2.alloc (.cells #[.pointer none] 202)).alloc (.cells #[.pointer (some ⟨c,0,none⟩),.int .i64 (d:Int),.slice (some ⟨w2.heap.size,0,none⟩) 1 1] 207)):=(aa.refl _ _).alloc _
 have hw:aa [] w2 ((w2.alloc (.cells #[.pointer none] 202)).alloc (.cells #[.pointer (some ⟨c,0,none⟩),.int .i64 (d:Int),.slice (some ⟨w2.heap.size,0,none⟩) 1 1] 207)):=hv.trans hv2;have ho:=iR w2 [.pointer none] 202 0 1 1 rfl ω μ;have hnF:∀x,w1.heap.size<=x->x∉F:=fun x hx hm=>by have:=l7 x hm;omega
 refine ⟨⟨w2.heap.size+1,c,d⟩,F,w2.heap.size,rfl,⟨1,fun _=>none,fun _=>[],fun _=>[],⟨hh,(hC.ae hu2).ae hw,⟨?_,fun k hk=>?_,fun k hk=>?_,fun k j hk=>?_,fun z hz=>by simp at hz,σ⟩,⟨hnF _ (by first|omega|(simp only;omega)),hnF _ ω,σ⟩,fun z hz=>by simp at hz,hd⟩,⟨fun k hk=>?_,fun k hk=>?_,fun k x hk=>?_⟩⟩,(hu1.trans hu2).trans hw,fun x hx=>?_,rfl⟩
 ·exact aA ho hv2 σ
 ·rw [lY] at hk;cases hk
 ·rw [lY] at hk;cases hk
 ·rw [lY] at hk;cases hk
 ·have:=lY n k;unfold lC at this;rw [this] at hk;cases hk
 ·have:=lY n k;unfold lC at this;rw [this] at hk;cases hk
 ·have:=lY n k;unfold lC at this;rw [this] at hk;cases hk
 ·simp only [DB.blk,ρ,Υ] at hx;rcases hx with rfl|rfl|hx
  ·omega
  ·omega
  ·exact hF x hx
section
variable {w:World} {B:DB} {F Z:List Nat} {gr st:Nat} {A:NS}
theorem Oc (h:lS w B F Z gr A st) (hl:65536<A.hs.length) :
  Calls Tryz.prog 143 #[.pointer (some ⟨B.n0,0,none⟩)] w fun e w'=>e=.returned (.int .i64 0)/\Goes (B.blk F Z gr) w w' (fun F'=>∃F1,F'=B.blk F1 Z gr/\lS w' B F1 Z gr A st):=by
 obtain ⟨cr,ptr,G,L,hM,hI⟩:=h;have k:=gL hM.cells;have e1:bR A=0:=by unfold bR;rw [Δ hl]
 have e2:aD A=A:=by unfold aD;rw [Δ hl]
 rw [e1,e2] at k;have h0:=hM.h0;have HM:=χ (ψ hM hI);clear hM hI e1 e2
 go_enter Tryz.func143,Tryz.ntmps143
 go_wp2_with (first|((go_at_call 156;(with_reducible refine (k).mono ?_));rintro e w1 ⟨rfl,F1,hC,hu,hF⟩))
 go_ret;refine ⟨rfl,B.blk F1 Z gr,⟨F1,rfl,cr,ptr,G,L,HM.out.1.fe hu hC hF rfl,HM.out.2⟩,hu.mono (fun y hy=>by simp [DB.blk,hy]),fun x hx=>?_⟩;simp only [DB.blk,ρ,τ] at hx ⊢;rcases hx with rfl|rfl|hx|hx
 ·simp
 ·simp
 ·rcases hF x hx with h|h
  ·simp [h]
  ·exact Β h
 ·simp [hx]
theorem LH (h:lS w B F Z gr A st) (hl:¬65536<A.hs.length) :
  Calls Tryz.prog 143 #[.pointer (some ⟨B.n0,0,none⟩)] w fun e w'=>e=.returned (.int .i64 (A.hs.length:Int))/\Goes (B.blk F Z gr) w w' (fun F'=>∃F1 Z1 Db,F'=B.blk F1 Z1 Db/\lS w' B F1 Z1 Db (aD A) st):=by
 obtain ⟨cr,ptr,G,L,hM,hI⟩:=h;have k:=gL hM.cells;have e1:bR A=A.hs.length:=by unfold bR;rw [Γ hl]
 rw [e1] at k;have nC:(aD A).hs.length=A.hs.length+1:=by unfold aD;rw [Γ hl];simp
 have hh0:=hM.cells.ok.h0;have hI2:=hI.make hM.dd.1 hM.cells.ok hl ω;have h0:=hM.h0;have kr:=fun W=>ER B.d hM.dd W;have HM:=χ (ψ hM (ψ hI2 nC));clear hM hI e1 hI2 nC;generalize hm:A.hs.length=m at *;have EP:=χ hm;clear hm
 go_enter Tryz.func143,Tryz.ntmps143
 go_wp2_with (first
  | ((go_at_call 156;(with_reducible refine (k).mono ?_));rintro e w1 ⟨rfl,F1,hC,hu,hF⟩;(have q1:=hu.kept HM.out.1.h1 HM.out.1.bA.1);(have q2:=hu.kept HM.out.1.h2 HM.out.1.bA.1);(have f2:=hu.aP HM.out.1.h2 HM.out.1.bA.1 (HM.out.1.head.free 2));(have ho1:=aA HM.out.1.jF.rows hu (fun k hk hm=>by cases hk;exact HM.out.1.bA.2.1 hm));(rw [EP.out] at q2 ho1))
  | ((go_at_call 108;(with_reducible refine (kr _).mono ?_));rintro e w2 ⟨rp,G2,rfl,hR,hu2,hG2⟩;(have q3:=hu2.was q2);(have f3:=hu2.aP q2 σ f2);(have ho2:=aA ho1 hu2 σ))
  | (at_builtin;refine ak rfl _ _ 205 rfl 0 202 (.pointer none) 1 8 Tryz.underlying205 JS rfl δ _ _ _ rfl (ho2) [zu (some rp)] rfl (by simp [Value.oneCell',zu]) (by first|rfl|(rw [Κ];rfl)) μ ω ω ?_;intro v3 w3 ho3 hu3 Ee;(have hu3:aa [gr] w2 w3:=hu3);obtain ⟨g3,c3,ev, -⟩:=dM ho3 ω;subst ev;(have d4:=hu3.kept q3 (by simp;exact HM.out.1.bA.2.2));(have f4:=hu3.aP q3 (by simp;exact HM.out.1.bA.2.2) f3))
  | fail)
 go_ret;obtain ⟨hM,hI2,nC⟩:=HM.out;have hlt:=hM.lt;have l0:=hlt B.n0 (by simp [DB.blk]);have l1:=hlt gr (by simp [DB.blk]);have hs1:=hu.size;have hs2:=hu2.size;have hs3:=hu3.size;have jH:=hC.lt;have hg3:g3=gr\/w2.heap.size<g3:=by
  rcases Ee with h|h
  ·exact Α (Option.some.inj h)
  ·exact Β (h g3 rfl)
 have hw4:aa [B.n0] w3 (w3.setCell ⟨B.n0,2,none⟩ (.slice (some ⟨g3,0,none⟩) (m+1) c3)):=β;have hnF:∀y,y<w.heap.size->y∉F->y∉F1:=fun y hy hn hm=>by rcases hF y hm with h'|h';exact hn h';omega
 have Jh:B.n0≠g3:=by have:=hM.bA.2.2;omega
 have VO:g3∉F1:=by
  rcases hg3 with e|e
  ·rw [e];exact hnF gr l1 hM.bA.2.1
  ·exact fun hm=>by have:=jH g3 hm;omega
 have Nj:∀z,z∈F1->z≠gr/\z≠B.n0:=fun z hz=>⟨fun e=>hnF gr l1 hM.bA.2.1 (by rw [←e];exact hz),fun e=>hnF _ l0 hM.bA.1 (by rw [←e];exact hz)⟩
 have hG2l:=hR.lt;have hRk:(YU B.d).at_ (w3.setCell ⟨B.n0,2,none⟩ (.slice (some ⟨g3,0,none⟩) (m+1) c3)) rp G2 []:=(hR.upd hu3 (fun z hz hm=>by simp at hz;have:=hG2 z hm;omega)).upd hw4 (fun z hz hm=>by simp at hz;have:=hG2 z hm;omega);have huA:aa (B.n0::gr::F) w (w3.setCell ⟨B.n0,2,none⟩ (.slice (some ⟨g3,0,none⟩) (m+1) c3)):=(((hu.mono (fun y hy=>by simp [hy])).then hu2).trans (hu3.mono (fun y hy=>by simp at hy;simp [hy]))).trans (hw4.mono (fun y hy=>by simp at hy;simp [hy]))
 have hfs:=hM.jF.snoc (by rw [EP.out];cases hh:lC A m with
  | false=>rfl
  | true=>have:=(aK _ _).1 hh;have:=EP.out;omega) huA (fun z hz=>by
   simp only [ρ] at hz;rcases hz with rfl|rfl|hz
   ·exact fun hm=>(hM.jm _ hm).2 rfl
   ·exact hM.jF.Qz
   ·exact fun hm=>(hM.jm z hm).1 hz) hRk (fun z hz=>by have:=hG2 z hz;omega) (Wm:=g3) (ZJ:=c3) (by
   rcases hg3 with e|e
   ·rw [e];exact hM.jF.Qz
   ·exact fun hm=>by have:=hM.jF.H8 _ hm;omega) (by
   rcases hg3 with e|e
   ·rw [e];exact fun hm=>by have:=hG2 _ hm;omega
   ·exact fun hm=>by have:=hG2l _ hm;omega) (by rw [EP.out];exact aA ho3 hw4 (fun k hk hm=>by cases hk;simp at hm;exact Jh hm.symm))
 rw [EP.out] at hfs;have hhF:(fun h=>lC A h || h == m)=lC (aD A):=funext fun q=>by unfold lC;rw [←EP.out];exact (tO A (by rw [EP.out];exact hl) (by have:=EP.out;omega) q).symm
 rw [hhF] at hfs;refine ⟨rfl,B.blk F1 (Z++G2) g3,⟨F1,Z++G2,g3,rfl,c3,jq ptr m (some rp),jq G m G2,jq L m [],⟨?_,?_,by rw [nC];exact hfs,⟨hnF _ l0 hM.bA.1,VO,Jh⟩,fun z hz=>?_,hM.dd⟩,hI2⟩,huA.mono (fun y hy=>?_),fun y hy=>?_⟩
 ·rw [nC];refine ((((hM.head.upd hu hM.bA.1).upd hu2 σ).upd hu3 (by simp;exact hM.bA.2.2)).set 2 _).ext (fun j hj=>?_);rcases (ω:j=0\/j=1\/j=2) with rfl|rfl|rfl<;>rfl
 ·exact ((hC.ae hu2).upd hu3 (fun z hz hm=>by simp at hz;exact (Nj z hm).1 hz)).upd hw4 (fun z hz hm=>by simp at hz;exact (Nj z hm).2 hz)
 ·rcases τ.1 hz with h|h
  ·exact ⟨hnF z (hM.jF.H8 z h) (hM.jm z h).1,(hM.jm z h).2⟩
  ·have:=hG2 z h;exact ⟨fun hm=>by have:=jH z hm;omega,ω⟩
 ·simp only [DB.blk,ρ,τ] at hy ⊢;rcases hy with h|h|h
  ·exact Α h
  ·exact Β (Α h)
  ·exact Β (Β (Α h))
 ·simp only [DB.blk,ρ,τ] at hy ⊢;rcases hy with h|h|h|h|h
  ·exact Α (Α h)
  ·rcases hg3 with e|e
   ·exact Α (Β (Α (by rw [h,e])))
   ·exact Β ω
  ·rcases hF y h with h|h
   ·exact Α (Β (Β (Α h)))
   ·exact Β h
  ·exact Α (Β (Β (Β h)))
  ·exact Β (by have:=hG2 y h;omega)
end
theorem UY:(Tryz.prog.info? 317).map (fun i=>(i.zero,i.size,i.bytes))=some (some (.pointer none),1,8):=by kernel_rfl
theorem RO (W:World) (n:Nat) (hn:n<=65536):IZ (W.alloc (.cells (madeCells #[.int .i64 0] n) 3)) W.heap.size n (bC (List.replicate n 0)):=by
 have hl:(bC (List.replicate n 0)).length=n:=by rw [bO];simp
 refine ⟨⟨by rw [hl];simp [fB,hl],Β ⟨W.heap.size,n,madeCells #[.int .i64 0] n,by rw [hl],Nat.zero_le _,?_,by rw [hl];exact Θ _,μ,by simp [madeCells],?_⟩⟩⟩
 ·show (W.heap.push _)[W.heap.size]?=_;simp
 ·rw [hl];apply List.ext_getElem?;intro j
  by_cases hj:j<n
  ·simp [madeCells,hj,aM,bC,Nat.mod_one]
  ·rw [List.getElem?_eq_none (by simp [madeCells];omega),List.getElem?_eq_none (by rw [fB,hl];omega)]
theorem LJ (n:Nat) (w:World) (h:n<=65536) :
  Calls Tryz.prog 104 #[.int .i64 (n:Int)] w fun e w'=>∃B F gr,e=.returned (.tuple #[.pointer (some ⟨B.n0,0,none⟩),.int .i64 0])/\ShAt w' B F [] gr (NS.new n) 0/\aa [] w w'/\∀x,x∈B.blk F [] gr->w.heap.size<=x:=by
 have hmk:=run_make_row' (P:=Tryz.prog) 26 3 (.int .i64 0) 8 Tryz.underlying26 cO rfl .i64 .i64 n ω ω
 go_enter Tryz.func104,Tryz.ntmps104
 go_wp2_with (first
  | ((go_at_call 107;(with_reducible refine (mi n _ h).mono ?_));rintro e w1 ⟨c,F,rfl,hC,hu1,hF⟩)
  | fail)
 go_ret2;have l1:=hu1.size;have l7:=hC.lt;have hv:aa [] w1 (w1.alloc (.cells #[.pointer none] 317)):=(aa.refl _ _).alloc _;obtain ⟨w2,hw2⟩:∃w2,w2=w1.alloc (.cells #[.pointer none] 317):=⟨_,rfl⟩;have e2:w2.heap.size=w1.heap.size+1:=by rw [hw2,Κ]
 have hz:=RO w2 n h;obtain ⟨w3,hw3⟩:∃w3,w3=w2.alloc (.cells (madeCells #[.int .i64 0] n) 3):=⟨_,rfl⟩;have e3:w3.heap.size=w1.heap.size+1+1:=by rw [hw3,Κ,e2]
 have hh:=dC w3 [.pointer (some ⟨c,0,none⟩),.slice (some ⟨w1.heap.size,0,none⟩) 1 1,.slice (some ⟨w1.heap.size+1,0,none⟩) n n] 237;rw [e3] at hh;have V5:aa [] w2 w3:=by rw [hw3];exact (aa.refl _ _).alloc _
 have hv3:aa [] w3 (w3.alloc (.cells #[.pointer (some ⟨c,0,none⟩),.slice (some ⟨w1.heap.size,0,none⟩) 1 1,.slice (some ⟨w1.heap.size+1,0,none⟩) n n] 237)):=(aa.refl _ _).alloc _;have Xp:aa [] w1 w2:=by rw [hw2];exact hv
 have ho:=iR w1 [.pointer none] 317 0 1 1 rfl ω μ;rw [←hw3,e2] at hz;have hnF:∀x,w1.heap.size<=x->x∉F:=fun x hx hm=>by have:=l7 x hm;omega
 have hno:∀k:Nat,bf (NS.new n) k=false:=fun k=>lY n k;have hrep:(List.replicate n 0).length=n:=σ;rw [←hw2,←hw3]
 refine ⟨⟨w1.heap.size+1+1,c,w1.heap.size+1⟩,F,w1.heap.size,rfl,⟨1,fun _=>none,fun _=>[],fun _=>[],List.replicate n 0,⟨?_,((hC.ae Xp).ae V5).ae hv3,⟨?_,fun k hk=>?_,fun k hk=>?_,fun k j hk=>?_,fun z hz=>by simp at hz,σ⟩,?_,?_,⟨hnF _ (by first|omega|(simp only;omega)),hnF _ ω,hnF _ (by first|omega|(simp only;omega))⟩,⟨by simp only;omega,by simp only;omega,by simp only;omega⟩,fun z hz=>by simp at hz⟩,⟨⟨fun k hk=>?_,fun k hk=>?_,fun k x hk=>?_⟩,fun k hk=>?_⟩⟩,((hu1.trans Xp).trans V5).trans hv3,fun x hx=>?_⟩
 ·rw [hrep];exact hh
 ·rw [←hw2] at ho;exact aA (aA ho V5 σ) hv3 σ
 ·unfold lC at hk;rw [hno] at hk;cases hk
 ·unfold lC at hk;rw [hno] at hk;cases hk
 ·unfold lC at hk;rw [hno] at hk;cases hk
 ·rw [hrep];exact hz.upd hv3 σ
 ·simp [NS.new]
 ·rw [hno] at hk;cases hk
 ·rw [hno] at hk;cases hk
 ·rw [hno] at hk;cases hk
 ·rw [hno] at hk;cases hk
 ·simp only [HB.blk,ρ,Υ] at hx;rcases hx with rfl|rfl|rfl|hx
  ·omega
  ·omega
  ·omega
  ·exact hF x hx
section
variable {w:World} {B:HB} {F Z:List Nat} {gr st:Nat} {A:NS}
theorem J5 (h:ShAt w B F Z gr A st) (hl:65536<A.hs.length) :
  Calls Tryz.prog 274 #[.pointer (some ⟨B.n0,0,none⟩)] w fun e w'=>e=.returned (.int .i64 0)/\Goes (B.blk F Z gr) w w' (fun F'=>∃F1,F'=B.blk F1 Z gr/\ShAt w' B F1 Z gr A st):=by
 obtain ⟨cr,ptr,G,L,T,hM,hI⟩:=h;have k:=gL hM.cells;have e1:bR A=0:=by unfold bR;rw [Δ hl]
 have e2:aD A=A:=by unfold aD;rw [Δ hl]
 rw [e1,e2] at k;have h0:=hM.h0;have HM:=χ (ψ hM hI);clear hM hI e1 e2
 go_enter Tryz.func274,Tryz.ntmps274
 go_wp2_with (first|((go_at_call 156;(with_reducible refine (k).mono ?_));rintro e w1 ⟨rfl,F1,hC,hu,hF⟩))
 go_ret;refine ⟨rfl,B.blk F1 Z gr,⟨F1,rfl,cr,ptr,G,L,T,HM.out.1.fe hu hC hF rfl rfl,HM.out.2⟩,hu.mono (fun y hy=>by simp [HB.blk,hy]),fun x hx=>?_⟩;simp only [HB.blk,ρ,τ] at hx ⊢;rcases hx with rfl|rfl|rfl|hx|hx
 ·simp
 ·simp
 ·simp
 ·rcases hF x hx with h|h
  ·simp [h]
  ·exact Β h
 ·simp [hx]
theorem Gy (h:ShAt w B F Z gr A st) (hl:¬65536<A.hs.length) :
  Calls Tryz.prog 274 #[.pointer (some ⟨B.n0,0,none⟩)] w fun e w'=>e=.returned (.int .i64 (A.hs.length:Int))/\Goes (B.blk F Z gr) w w' (fun F'=>∃F1 Z1 Db,F'=B.blk F1 Z1 Db/\ShAt w' B F1 Z1 Db (aD A) st):=by
 obtain ⟨cr,ptr,G,L,T,hM,hI⟩:=h;have k:=gL hM.cells;have e1:bR A=A.hs.length:=by unfold bR;rw [Γ hl]
 rw [e1] at k;have nC:(aD A).hs.length=A.hs.length+1:=by unfold aD;rw [Γ hl];simp
 have hh0:=hM.cells.ok.h0;have hIp:Wz (aD A) (jq L A.hs.length []) T:=by
  refine ⟨hI.di.make ω hM.cells.ok hl ω,fun k hk j x hj=>?_⟩
  by_cases e:k=A.hs.length
  ·subst e;rw [bY] at hj;simp at hj
  ·rw [bB _ _ e] at hj;rw [tO A hl ω] at hk;exact hI.C9 k (by simpa [e] using hk) j x hj
 have h0:=hM.h0;have HM:=χ (ψ hM (ψ hIp nC));clear hM hI e1 hIp nC;generalize hm:A.hs.length=m at *;have EP:=χ hm;clear hm
 go_enter Tryz.func274,Tryz.ntmps274
 go_wp2_with (first
  | ((go_at_call 156;(with_reducible refine (k).mono ?_));rintro e w1 ⟨rfl,F1,hC,hu,hF⟩;(have q2:=hu.kept HM.out.1.h1 HM.out.1.bA.1);(have f2:=hu.aP HM.out.1.h1 HM.out.1.bA.1 (HM.out.1.head.free 1));(have ho1:=aA HM.out.1.jF.rows hu (fun k hk hm=>by cases hk;exact HM.out.1.bA.2.1 hm));(rw [EP.out] at q2 ho1);(have ho2:(w1.alloc (.cells #[.pointer (some ⟨B.n0,0,none⟩),.slice none 0 0] 321)).ownsRow _ _ _ _ _ _:=aA ho1 ((aa.refl [] w1).alloc (.cells #[.pointer (some ⟨B.n0,0,none⟩),.slice none 0 0] 321)) σ))
  | (at_builtin;refine ak rfl _ _ 235 rfl 0 317 (.pointer none) 1 8 Tryz.underlying235 UY rfl δ _ _ _ rfl (ho2) [zu (some w1.heap.size)] rfl (by simp [Value.oneCell',zu]) (by first|rfl|(rw [Κ];rfl)) μ ω ω ?_;intro v3 w3 ho3 hu3 Ee;(have hu3:aa [gr] (w1.alloc (.cells #[.pointer (some ⟨B.n0,0,none⟩),.slice none 0 0] 321)) w3:=hu3);obtain ⟨g3,c3,ev, -⟩:=dM ho3 ω;subst ev;(have q3:(w1.alloc (.cells #[.pointer (some ⟨B.n0,0,none⟩),.slice none 0 0] 321)).cell? ⟨B.n0,1,none⟩=_:=((aa.refl [] w1).alloc _).was q2);(have f3:(w1.alloc (.cells #[.pointer (some ⟨B.n0,0,none⟩),.slice none 0 0] 321)).frozen? ⟨B.n0,1,none⟩=false:=((aa.refl [] w1).alloc _).aP q2 σ f2);(have d4:=hu3.kept q3 (by simp;exact HM.out.1.sep.1));(have f4:=hu3.aP q3 (by simp;exact HM.out.1.sep.1) f3))
  | fail)
 go_ret;obtain ⟨hM,hI2,nC⟩:=HM.out;have hlt:=hM.lt;have l0:=hlt B.n0 (by simp [HB.blk]);have l1:=hlt gr (by simp [HB.blk]);have l2:=hlt B.ga (by simp [HB.blk]);have hs1:=hu.size;have hs3:=hu3.size;rw [Κ] at hs3;have jH:=hC.lt;have hrow:=dC w1 [.pointer (some ⟨B.n0,0,none⟩),.slice none 0 0] 321;have QV:aa [] w1 (w1.alloc (.cells #[.pointer (some ⟨B.n0,0,none⟩),.slice none 0 0] 321)):=(aa.refl _ _).alloc _;have hg3:g3=gr\/w1.heap.size+1<g3:=by
  rcases Ee with h|h
  ·exact Α (Option.some.inj h)
  ·right;have:=h g3 rfl;rwa [Κ] at this
 have hw4:aa [B.n0] w3 (w3.setCell ⟨B.n0,1,none⟩ (.slice (some ⟨g3,0,none⟩) (m+1) c3)):=β;have hnF:∀y,y<w.heap.size->y∉F->y∉F1:=fun y hy hn hm=>by rcases hF y hm with h'|h';exact hn h';omega
 have Jh:B.n0≠g3:=by have:=hM.sep.1;omega
 have VO:g3∉F1:=by
  rcases hg3 with e|e
  ·rw [e];exact hnF gr l1 hM.bA.2.1
  ·exact fun hm=>by have:=jH g3 hm;omega
 have Nj:∀z,z∈F1->z≠gr/\z≠B.n0:=fun z hz=>⟨fun e=>hnF gr l1 hM.bA.2.1 (by rw [←e];exact hz),fun e=>hnF _ l0 hM.bA.1 (by rw [←e];exact hz)⟩
 have hRk:(XX B).at_ (w3.setCell ⟨B.n0,1,none⟩ (.slice (some ⟨g3,0,none⟩) (m+1) c3)) w1.heap.size [w1.heap.size] []:=by
  refine ⟨.slice none 0 0,((hrow.ext (fun j hj=>rfl)).upd hu3 ζ).upd hw4 ζ,⟨rfl,Α ⟨rfl,rfl⟩⟩,rfl,fun g hg=>by cases hg⟩
 have huA:aa (B.n0::gr::F) w (w3.setCell ⟨B.n0,1,none⟩ (.slice (some ⟨g3,0,none⟩) (m+1) c3)):=(((hu.mono (fun y hy=>by simp [hy])).then QV).trans (hu3.mono (fun y hy=>by simp at hy;simp [hy]))).trans (hw4.mono (fun y hy=>by simp at hy;simp [hy]))
 have hfs:=hM.jF.snoc (by rw [EP.out];cases hh:lC A m with
  | false=>rfl
  | true=>have:=(aK _ _).1 hh;have:=EP.out;omega) huA (fun z hz=>by
   simp only [ρ] at hz;rcases hz with rfl|rfl|hz
   ·exact fun hm=>(hM.jm _ hm).2.1 rfl
   ·exact hM.jF.Qz
   ·exact fun hm=>(hM.jm z hm).1 hz) hRk (fun z hz=>by simp at hz;omega) (Wm:=g3) (ZJ:=c3) (by
   rcases hg3 with e|e
   ·rw [e];exact hM.jF.Qz
   ·exact fun hm=>by have:=hM.jF.H8 _ hm;omega) ζ (by rw [EP.out];exact aA ho3 hw4 (fun k hk hm=>by cases hk;simp at hm;exact Jh hm.symm))
 rw [EP.out] at hfs;have hhF:(fun h=>lC A h || h == m)=lC (aD A):=funext fun q=>by unfold lC;rw [←EP.out];exact (tO A (by rw [EP.out];exact hl) (by have:=EP.out;omega) q).symm
 rw [hhF] at hfs;have hcs:(aD A).cs.length=A.cs.length:=by unfold aD;split<;>rfl
 refine ⟨rfl,B.blk F1 (Z++[w1.heap.size]) g3,⟨F1,Z++[w1.heap.size],g3,rfl,c3,jq ptr m (some w1.heap.size),jq G m [w1.heap.size],jq L m [],T,⟨?_,?_,by rw [nC];exact hfs,?_,by rw [hcs];exact hM.tl,⟨hnF _ l0 hM.bA.1,VO,hnF _ l2 hM.bA.2.2⟩,⟨Jh,hM.sep.2.1,by have:=hM.sep.2.2;omega⟩,fun z hz=>?_⟩,hI2⟩,huA.mono (fun y hy=>?_),fun y hy=>?_⟩
 ·rw [nC];refine ((((hM.head.upd hu hM.bA.1).upd QV σ).upd hu3 (by simp;exact hM.sep.1)).set 1 _).ext (fun j hj=>?_);rcases (ω:j=0\/j=1\/j=2) with rfl|rfl|rfl<;>rfl
 ·exact ((hC.ae QV).upd hu3 (fun z hz hm=>by simp at hz;exact (Nj z hm).1 hz)).upd hw4 (fun z hz hm=>by simp at hz;exact (Nj z hm).2 hz)
 ·exact (((hM.yE.upd hu hM.bA.2.2).upd QV σ).upd hu3 (by simp;exact hM.sep.2.2)).upd hw4 (by simp;exact hM.sep.2.1)
 ·rcases τ.1 hz with h|h
  ·exact ⟨hnF z (hM.jF.H8 z h) (hM.jm z h).1,(hM.jm z h).2⟩
  ·simp at h;subst h;exact ⟨fun hm=>by have:=jH _ hm;omega,ω,ω⟩
 ·simp only [HB.blk,ρ,τ] at hy ⊢;rcases hy with h|h|h
  ·exact Α h
  ·exact Β (Α h)
  ·exact Β (Β (Β (Α h)))
 ·simp only [HB.blk,ρ,τ,ς,or_false] at hy ⊢;rcases hy with h|h|h|h|h|h
  ·exact Α (Α h)
  ·rcases hg3 with e|e
   ·exact Α (Β (Α (by rw [h,e])))
   ·exact Β ω
  ·exact Α (Β (Β (Α h)))
  ·rcases hF y h with h|h
   ·exact Α (Β (Β (Β (Α h))))
   ·exact Β h
  ·exact Α (Β (Β (Β (Β h))))
  ·exact Β ω
end
theorem rU.ready {d:Nat} {A:NS} {L:Nat->List Nat} (h:rU d A L) (hd:2<=d) (ok:A.Ok) {g x:Nat} {k s:Int} (hB:iX A g x=true) :
  x∉L g/\(L g).length+1<=A.cs.length/\Hp (oP (au A g x k s)) d (L g)/\(∀y,y∈x::L g->bP (au A g x k s) (y:Int)=true)/\(∀y,y∈x::L g->y<A.cs.length):=by
 obtain ⟨b1,b2,b3⟩:=(bV _ _ _).1 hB;have hx:x<A.cs.length:=by have:=(dB _ _).1 b2;omega
 have hg0:=(aK _ _).1 b1;have hc:∀y,(au A g x k s).c y=if y=x then ⟨g,k,s⟩ else A.c y:=fun y=>by
  unfold au;rw [Δ hB,π,iy]
  by_cases e:y=x
  ·rw [Δ ⟨e,hx⟩,Δ e]
  ·rw [Γ (fun h=>e h.1),Γ e]
 have hl:(au A g x k s).cs.length=A.cs.length:=by unfold au;rw [Δ hB,dK]
 have WT:x∉L g:=fun hm=>by
  have:=(h.len b1 hm).2.1;rw [this] at b3;cases b3
 have hlt:∀y,y∈x::L g->y<A.cs.length:=fun y hy=>by
  rcases ρ.1 hy with e|e
  ·rw [e];exact hx
  ·exact (h.len b1 e).1
 refine ⟨WT,?_,rU.frame (h.hp g b1) hd (fun y hy=>by rw [hc,Γ (fun e=>WT (by rw [←e];exact hy))]),fun y hy=>?_,hlt⟩
 ·have h1:=nodup_range A.cs.length ((x::L g).map (fun (x:Nat)=>(x:Int))) (by
   have hn:=List.nodup_cons.2 ⟨WT,h.nd g b1⟩;unfold List.Nodup at hn ⊢;rw [List.pairwise_map];exact hn.imp (fun h e=>h ω)) (fun z hz=>by
   obtain ⟨y,hy,rfl⟩:=List.mem_map.1 hz
   have:=hlt y hy;omega)
  simpa using h1
 ·refine (aj _ _).2 ⟨by rw [hl];exact hlt y hy,?_⟩;rw [hc]
  by_cases e:y=x
  ·rw [Δ e];simp only;omega
  ·rw [Γ e];rcases ρ.1 hy with e2|e2
   ·exact absurd e2 e
   ·have:=(h.len b1 e2).2.2;omega
section
variable {w w':World} {B:DB} {F Z:List Nat} {gr cr st:Nat} {A:NS} {ptr:Nat->Option Nat} {G L:Nat->List Nat}
theorem uB.clear (h:uB w B F Z gr cr A st ptr G L) {g:Nat} (hg:bf A g=true):∀z,z∈G g->z∉(Td B F A h.cells.mem).rd:=fun z hz hm=>by
 have h1:=h.jm z (h.jF.wO g hg z hz);rcases ρ.1 hm with e|e
 ·exact h1.2 e
 ·exact h1.1 e
theorem uB.AX (h:uB w B F Z gr cr A st ptr G L) {g rp:Nat} (hg:bf A g=true) (hp:ptr g=some rp) {G' L':List Nat} (hu:aa (G g++[B.c]) w w') (hr:kH w' rp G' B.d L') (hG:∀z,z∈G'->z∈G g\/w.heap.size<=z) (hO:(Td B F A h.cells.mem).at_ w') :
  ∃st',uB w' B F (Z++G') gr cr A st' ptr (jq G g G') (jq L g L'):=by
 obtain ⟨h1, -,st',h2⟩:=hO;have hcl:=h.clear hg;have r9:=h.cells.mem;have hsl:=h.lt;refine ⟨st',⟨h.head.upd hu (fun hm=>?_),h2,h.jF.one hg hp hu (fun z hz=>?_) hr hG,h.bA,fun z hz=>?_,h.dd⟩⟩
 ·rcases τ.1 hm with e|e
  ·exact hcl _ e (ρ.2 (Α rfl))
  ·simp at e;exact h.bA.1 (by rw [e];exact r9)
 ·rcases τ.1 hz with e|e
  ·exact Α e
  ·simp at e;refine Β ⟨fun e2=>h.bA.2.1 (by rw [←e2,e];exact r9),fun hm=>(h.jm z hm).1 (by rw [e];exact r9)⟩
 ·rcases τ.1 hz with e|e
  ·exact h.jm z e
  ·rcases hG z e with e2|e2
   ·exact h.jm z (h.jF.wO g hg z e2)
   ·exact ⟨fun hm=>by have:=hsl z (by simp [DB.blk,hm]);omega,fun e3=>by have:=hsl B.n0 (by simp [DB.blk]);omega⟩
def Zo (B:DB) (F Z:List Nat) (gr cr:Nat) (A':NS) (st:Nat) (ptr:Nat->Option Nat) (G L:Nat->List Nat) (g rp x:Nat) (w2:World):Prop:=uB w2 B F Z gr cr A' st ptr G L/\∀Y,aa [] w2 Y->
   Calls Tryz.prog 155 #[.pointer (some ⟨rp,0,none⟩),.iface 170 (.pointer (some ⟨B.n0,0,none⟩)),.int .i64 (x:Int)] Y fun e w'=>e=.returned (.bool true)/\∃G' L',kH w' rp G' B.d L'/\L'.Perm (x::L g)/\Hp (oP A') B.d L'/\(∃hc,(Td B F A' hc).at_ w')/\aa (G g++[B.c]) Y w'/\∀z,z∈G'->z∈G g\/Y.heap.size<=z
theorem EM (h:lS w B F Z gr A st) (g x:Nat) (k s:Int) (hk:-9223372036854775808<=k/\k<=9223372036854775807/\0<=s/\s<=18446744073709551615) (hB:iX A g x=true) :
  Calls Tryz.prog 141 #[.pointer (some ⟨B.n0,0,none⟩),.int .i64 (g:Int),.int .i64 (x:Int),.agg #[.int .i64 k,.int .u64 s]] w fun e w'=>e=.returned (.bool true)/\Goes (B.blk F Z gr) w w' (fun F'=>∃Z' st',F'=B.blk F Z' gr/\lS w' B F Z' gr (au A g x k s) st'):=by
 obtain ⟨cr,ptr,G,L,hM,hI⟩:=h;have hb1:=(bV _ _ _).1 hB;have hgN:=(aK _ _).1 hb1.1;have hok:=hM.cells.ok;have hcs:=hok.c1;obtain ⟨r1,r2,r3,r4,r5⟩:=hI.ready hM.dd.1 hok (k:=k) (s:=s) hB;obtain ⟨rp,hp,hR⟩:=hM.jF.row g hb1.1;have uP:(au A g x k s).hs=A.hs:=by unfold au;rw [Δ hB];rfl
 have iw:bf (au A g x k s) g=true:=by have:=hb1.1;unfold bf at this ⊢;rw [uP];exact this
 have Tj:∀X w2,aa [] w X->aB w2 B.c F (au A g x k s) st->aa F X w2->Zo B F Z gr cr (au A g x k s) st ptr G L g rp x w2:=by
  intro X w2 hX hC2 hu2;have hM2:=(hM.ae hX).fe hu2 hC2 (fun x hx=>Α hx) uP;refine ⟨hM2,fun Y hY=>?_⟩;have Jq:=hM2.ae hY;obtain ⟨rp',hp',Y5⟩:=Jq.jF.row g iw;rw [hp] at hp';cases hp';have P7:kH Y rp (G g) B.d (L g):=Y5;refine (N8 (Td B F (au A g x k s) Jq.cells.mem) Jq.ord P7 hM.dd ω r3 x r1 (hI.nd g hb1.1) r4 (fun y hy=>by have:=r5 y hy;omega) (Jq.clear iw)).mono ?_;rintro e w' ⟨rfl,G',L',h1,h2,h3,h4,h5,h6⟩;exact ⟨rfl,G',L',h1,h2,h3,⟨_,h4⟩,h5,h6⟩
 have ND:∀W (hW:aa [] w W),Calls Tryz.prog 154 #[.pointer (some ⟨B.c,0,none⟩),.int .i64 (g:Int),.int .i64 (x:Int),.agg #[.int .i64 k,.int .u64 s]] W fun e w2=>e=.returned (.bool true)/\aa F W w2/\Zo B F Z gr cr (au A g x k s) st ptr G L g rp x w2:=fun W hW=>(lX (hM.ae hW).cells g x k s hk hB).mono (fun e w2 h=>by
  obtain ⟨rfl,hC2,hu2⟩:=h
  exact ⟨rfl,hu2,Tj W w2 hW hC2 hu2⟩)
 have c0:=hM.h0;have c2:=hM.h2;have cg:=hM.jF.cell ω hp;have hlt:=hM.lt;have HX:=χ (ψ hM (ψ hI (ψ hok (ψ hB (ψ hp (ψ iw hlt))))));have n1:B.n0∉F++Z:=fun hm=>by rcases τ.1 hm with e|e;exact hM.bA.1 e;exact (hM.jm _ e).2 rfl
 have n2:gr∉F++Z:=fun hm=>by rcases τ.1 hm with e|e;exact hM.bA.2.1 e;exact hM.jF.Qz e
 have n3:∀z,z∈F++Z->z<w.heap.size:=fun z hm=>hlt z (by simp only [DB.blk,ρ,τ] at hm ⊢;exact Β (Β hm));have TK:(g:Int)<(A.hs.length:Int):=ω;have hgz:∀z,z∈G g++[B.c]->z∈F++Z:=fun z hz=>by
  rcases τ.1 hz with e|e
  ·exact τ.2 (Β (hM.jF.wO g hb1.1 z e))
  ·simp at e;rw [e];exact τ.2 (Α hM.cells.mem)
 clear hM hI hok hB hp iw hlt hR r1 r3 r4 r5 hb1 hgN r2 hcs uP;generalize A.hs.length=m at *
 go_enter Tryz.func141,Tryz.ntmps141
 go_upto_region 1 with (fail)
 refine fA (fun W=>W.cell? ⟨w.heap.size,0,none⟩=some (.int .i64 k)/\W.cell? ⟨w.heap.size,1,none⟩=some (.int .u64 s)/\aa [] w W) ⟨γ,γ,β⟩ ?_;rintro W ⟨x0,x1,hW⟩;have hb:w.heap.size∉F++Z:=fun hm=>by have:=n3 _ hm;omega
 have e0:∀X,aa (F++Z) W X->X.cell? ⟨w.heap.size,0,none⟩=some (.int .i64 k):=fun X h=>h.kept x0 hb;have e1:∀X,aa (F++Z) W X->X.cell? ⟨w.heap.size,1,none⟩=some (.int .u64 s):=fun X h=>h.kept x1 hb;have e2:∀X,aa (F++Z) W X->X.cell? ⟨B.n0,0,none⟩=some (.pointer (some ⟨B.c,0,none⟩)):=fun X h=>h.kept (hW.was c0) n1;have e3:∀X,aa (F++Z) W X->X.cell? ⟨B.n0,2,none⟩=some (.slice (some ⟨gr,0,none⟩) m cr):=fun X h=>h.kept (hW.was c2) n1;have e4:∀X,aa (F++Z) W X->X.cell? ⟨gr,g,none⟩=some (.pointer (some ⟨rp,0,none⟩)):=fun X h=>h.kept (hW.was cg) n2;have HW:=χ hW
 have Je:=fun X (hX:aa [] W X)=>ND X (hW.trans hX);clear x0 x1 hW ND c0 c2 cg
 go_region_held3 (aa (F++Z) W) (exact ν)
  (first
   | ((go_at_call 154;(with_reducible refine (Je _ ν).mono ?_));rintro e w2 ⟨rfl,hu2,hM2,NG⟩;(have hv2:aa (F++Z) W w2:=aa.trans ν (hu2.mono (fun z hz=>τ.2 (Α hz)))))
   | ((go_at_call 155;(with_reducible refine (NG _ ν).mono ?_));rintro e w3 ⟨rfl,G',L',Xq,hp3,hH3,hO3,hu3,hG3⟩;(have hv3:aa (F++Z) W w3:=aa.trans ν (hu3.mono hgz))))
 obtain ⟨hM,hI,hok,hB,hp,iw,hlt⟩:=HX.out;obtain ⟨hc3,hO3⟩:=hO3;have Y1:∀z,z∈G'->z∈G g\/w2.heap.size<=z:=hG3;have Vr:aa (G g++[B.c]) w2 w3:=aa.trans ν hu3;obtain ⟨st',mE⟩:=hM2.AX iw hp Vr Xq Y1 hO3;have YC:=hI.put hM.dd.1 hok hB hp3 hH3;go_wp2;go_ret;have hsz:=(HW.out).size;have hsz2:=hv2.size;refine ⟨rfl,B.blk F (Z++G') gr,⟨Z++G',st',rfl,cr,ptr,_,_,mE,YC.1⟩,((HW.out).mono σ).trans (hv3.mono (fun z hz=>?_)),fun z hz=>?_⟩
 ·simp only [DB.blk,ρ,τ] at hz ⊢;exact Β (Β hz)
 ·simp only [DB.blk,ρ,τ] at hz ⊢;rcases hz with h|h|h|h|h
  ·exact Α (Α h)
  ·exact Α (Β (Α h))
  ·exact Α (Β (Β (Α h)))
  ·exact Α (Β (Β (Β h)))
  ·rcases Y1 z h with h|h
   ·have:=hgz z (τ.2 (Α h));rcases τ.1 this with h|h
    ·exact Α (Β (Β (Α h)))
    ·exact Α (Β (Β (Β h)))
   ·exact Β ω
end
section
variable {w w':World} {B:HB} {F Z:List Nat} {gr cr st:Nat} {A:NS} {ptr:Nat->Option Nat} {G L:Nat->List Nat} {T:List Nat}
theorem Wz.turn {A':NS} {g:Nat} {l T':List Nat} (h:Wz A L T) (hd:rU 2 A' (jq L g l)) (hh:∀k:Nat,bf A' k=bf A k) (hg:bf A g=true) (hl:∀j x,l[j]?=some x->T'.getD x 0=j) (ho:∀x,x∉l->x∉L g->T'.getD x 0=T.getD x 0) (hm:∀k x,k≠g->bf A k=true->x∈L k->x∉l/\x∉L g):Wz A' (jq L g l) T':=by
 refine ⟨hd,fun k hk j x hj=>?_⟩;rw [hh] at hk
 by_cases e:k=g
 ·subst e;rw [bY] at hj;exact hl j x hj
 ·rw [bB _ _ e] at hj;have hx:=hm k x e hk (Η hj);rw [ho x hx.1 hx.2];exact h.C9 k hk j x hj
theorem rU.apart (h:rU 2 A L) {k g x:Nat} (e:k≠g) (hk:bf A k=true) (hg:bf A g=true) (hx:x∈L k):x∉L g:=fun hm=>by
 have h1:=(h.mem k x hk).1 hx;have h2:=(h.mem g x hg).1 hm;omega
def PuR (B:HB) (F Z:List Nat) (gr cr:Nat) (A':NS) (st:Nat) (ptr:Nat->Option Nat) (G L:Nat->List Nat) (T:List Nat) (g rp x:Nat) (v:Value) (w2:World):Prop:=ShM w2 B F Z gr cr A' st ptr G L T/\∀Y,aa [] w2 Y->
   Calls Tryz.prog 279 #[.iface 317 (.pointer (some ⟨rp,0,none⟩)),.iface 3 (.int .i64 (x:Int))] Y fun e w'=>e=.returned (.tuple #[])/\PuE Y B F A' rp v (L g) T x w'
theorem Bi (h:ShAt w B F Z gr A st) (g x:Nat) (k s:Int) (hk:-9223372036854775808<=k/\k<=9223372036854775807/\0<=s/\s<=18446744073709551615) (hB:iX A g x=true) :
  Calls Tryz.prog 273 #[.pointer (some ⟨B.n0,0,none⟩),.int .i64 (g:Int),.int .i64 (x:Int),.agg #[.int .i64 k,.int .u64 s]] w fun e w'=>e=.returned (.bool true)/\Goes (B.blk F Z gr) w w' (fun F'=>∃Z' st',F'=B.blk F Z' gr/\ShAt w' B F Z' gr (au A g x k s) st'):=by
 obtain ⟨cr,ptr,G,L,T,hM,hI⟩:=h;have hb1:=(bV _ _ _).1 hB;have hgN:=(aK _ _).1 hb1.1;have hok:=hM.cells.ok;have hcs:=hok.c1;obtain ⟨r1,r2,r3,r4,r5⟩:=hI.di.ready ω hok (k:=k) (s:=s) hB;have uP:(au A g x k s).hs=A.hs:=by unfold au;rw [Δ hB];rfl
 have Re:(au A g x k s).cs.length=A.cs.length:=by unfold au;rw [Δ hB];exact dK _ _ _
 have iw:bf (au A g x k s) g=true:=by have:=hb1.1;unfold bf at this ⊢;rw [uP];exact this
 have hdom:∀y,y∈L g->bP (au A g x k s) (y:Int)=true/\y<T.length:=fun y hy=>⟨r4 y (by simp [hy]),by rw [hM.tl];exact r5 y (by simp [hy])⟩
 obtain ⟨rp,hp,v, -, -,ES, -⟩:=hM.jF.row g hb1.1;have Tj:∀X w2,aa [] w X->aB w2 B.c F (au A g x k s) st->aa F X w2->PuR B F Z gr cr (au A g x k s) st ptr G L T g rp x v w2:=by
  intro X w2 hX hC2 hu2;have hM2:=(hM.ae hX).fe hu2 hC2 (fun x hx=>Α hx) uP Re;refine ⟨hM2,fun Y hY=>?_⟩;obtain ⟨rp',v',hp',hG',hP⟩:=(hM2.ae hY).pile iw hdom (hI.di.nd g hb1.1) (hI.C9 g hb1.1);rw [hp] at hp';cases hp';rw [ES] at hG';have ev:v'.ownBlock.toList=v.ownBlock.toList:=(List.cons.inj hG').2.symm;refine (LD hP x r1 (r4 x σ) (by rw [hM.tl];exact r5 x σ) (by rw [hM.tl];omega) r3).mono ?_;rintro e w' ⟨rfl,gs,cap,L',T',q1,q2,q3,q4,q5,q6,q7⟩;refine ⟨rfl,gs,cap,L',T',q1,q2,q3,q4,q5,by rw [←ev];exact q6,?_⟩;rcases q7 with e|e
  ·left;have:gs∈v.ownBlock.toList:=by rw [←ev];exact Option.mem_toList.2 e
   exact Option.mem_toList.1 this
  ·exact Β e
 have ND:∀W (hW:aa [] w W),Calls Tryz.prog 154 #[.pointer (some ⟨B.c,0,none⟩),.int .i64 (g:Int),.int .i64 (x:Int),.agg #[.int .i64 k,.int .u64 s]] W fun e w2=>e=.returned (.bool true)/\aa F W w2/\PuR B F Z gr cr (au A g x k s) st ptr G L T g rp x v w2:=fun W hW=>(lX (hM.ae hW).cells g x k s hk hB).mono (fun e w2 h=>by
  obtain ⟨rfl,hC2,hu2⟩:=h
  exact ⟨rfl,hu2,Tj W w2 hW hC2 hu2⟩)
 have c0:=hM.h0;have c2:=hM.h1;have cg:=hM.jF.cell ω hp;have hlt:=hM.lt;have HX:=χ (ψ hM (ψ hI (ψ hok (ψ hB (ψ hp (ψ iw (ψ hlt (ψ ES (ψ hb1.1 (ψ uP Re))))))))));have n1:B.n0∉F:=hM.bA.1;have n2:gr∉F:=hM.bA.2.1;have n3:∀z,z∈F->z<w.heap.size:=fun z hm=>hlt z (by simp only [HB.blk,ρ,τ];exact Β (Β (Β (Α hm))));have TK:(g:Int)<(A.hs.length:Int):=ω;clear hM hI hok hB hp iw hlt r1 r3 r4 r5 hb1 hgN r2 hcs uP Re Tj hdom ES;generalize A.hs.length=m at *
 go_enter Tryz.func273,Tryz.ntmps273
 go_upto_region 1 with (fail)
 refine fA (fun W=>W.cell? ⟨w.heap.size,0,none⟩=some (.int .i64 k)/\W.cell? ⟨w.heap.size,1,none⟩=some (.int .u64 s)/\aa [] w W) ⟨γ,γ,β⟩ ?_;rintro W ⟨x0,x1,hW⟩;have hb:w.heap.size∉F:=fun hm=>by have:=n3 _ hm;omega
 have e0:∀X,aa F W X->X.cell? ⟨w.heap.size,0,none⟩=some (.int .i64 k):=fun X h=>h.kept x0 hb;have e1:∀X,aa F W X->X.cell? ⟨w.heap.size,1,none⟩=some (.int .u64 s):=fun X h=>h.kept x1 hb;have e2:∀X,aa F W X->X.cell? ⟨B.n0,0,none⟩=some (.pointer (some ⟨B.c,0,none⟩)):=fun X h=>h.kept (hW.was c0) n1;have e3:∀X,aa F W X->X.cell? ⟨B.n0,1,none⟩=some (.slice (some ⟨gr,0,none⟩) m cr):=fun X h=>h.kept (hW.was c2) n1;have e4:∀X,aa F W X->X.cell? ⟨gr,g,none⟩=some (.pointer (some ⟨rp,0,none⟩)):=fun X h=>h.kept (hW.was cg) n2;have HW:=χ hW;have Je:=fun X (hX:aa [] W X)=>ND X (hW.trans hX)
 clear x0 x1 hW ND c0 c2 cg
 go_region_held3 (aa F W) (exact ν)
  (first
   | ((go_at_call 154;(with_reducible refine (Je _ ν).mono ?_));rintro e w2 ⟨rfl,hu2,hM2,NG⟩;(have hv2:aa F W w2:=aa.trans ν hu2)))
 have a3:=e3 w2 hv2;have a4:=e4 w2 hv2;have HV:=χ hv2;clear e0 e1 e2 e3 e4 Je hv2 hu2
 go_wp2_with (first
  | ((go_at_call 279;(with_reducible refine (NG _ (aa.refl _ _)).mono ?_));rintro e w3 ⟨rfl,hQ⟩)
  | fail)
 go_ret;obtain ⟨hM,hI,hok,hB,hp,iw,hlt,ES,hg1,uP,Re⟩:=HX.out;obtain ⟨gs,cap,L',T',q1,q2,q3,q4,q5,q6,q7⟩:=hQ;have hPE:=q1.any;have Aj:∀z,z∈rp::v.ownBlock.toList->z∈G g:=fun z hz=>by rw [ES];exact hz
 obtain ⟨st',mE⟩:=hM2.AX (g:=g) iw hp q6 (fun z hz=>by
  simp only [ρ] at hz;rcases hz with e|e|e|e
  ·exact Α (Aj z (by simp [e]))
  ·exact Β (Α e)
  ·exact Β (Β e)
  ·exact Α (Aj z (Λ _ e))) (Aj rp σ) hPE q5 (fun k hk=>by
  cases hk;rcases q7 with e|e
  ·exact Α (Aj _ (Λ _ (Option.mem_toList.2 e)))
  ·exact Β e)
 have YC:=hI.di.put ω hok hB q2 q3
 have hsd:Wz (au A g x k s) (jq L g L') T':=hI.turn YC.1 (fun q=>by unfold bf;rw [uP]) hg1 q1.C9 (fun y h1 h2=>q4 y (fun hm=>h1 (q2.mem_iff.2 hm))) (fun q y e hq hy=>by
  have h2:=hI.di.apart e hq hg1 hy;refine ⟨fun hm=>?_,h2⟩;rcases ρ.1 (q2.mem_iff.1 hm) with e3|e3
  ·subst e3;have h4:=(hI.di.mem q y hq).1 hy;have h5:=((bV _ _ _).1 hB).2.2;have h6:=(aK _ _).1 hq;rw [(aj A y).2 ⟨h4.1,ω⟩] at h5;cases h5
  ·exact h2 e3)
 have hsz:=HW.out.size;have hsz2:=HV.out.size;have hbl:∀z,z∈F->z∈B.blk F Z gr:=fun z hz=>by simp only [HB.blk,ρ,τ];exact Β (Β (Β (Α hz)))
 have hbz:∀z,z∈G g->z∈B.blk F Z gr:=fun z hz=>by simp only [HB.blk,ρ,τ];exact Β (Β (Β (Β (hM.jF.wO g hg1 z hz))))
 refine ⟨rfl,B.blk F (Z++(rp::Option.toList (some gs))) gr,⟨_,st',rfl,cr,ptr,_,_,T',mE,hsd⟩,((HW.out.mono σ).trans (HV.out.mono hbl)).trans (q6.mono (fun z hz=>?_)),fun z hz=>?_⟩
 ·simp only [ρ] at hz;rcases hz with e|e|e|e
  ·exact hbz z (Aj z (by simp [e]))
  ·simp [HB.blk,e]
  ·exact hbl z (by rw [e];exact hM.cells.mem)
  ·exact hbz z (Aj z (Λ _ e))
 ·simp only [HB.blk,ρ,τ,Option.toList_some,ς,or_false] at hz;rcases hz with h|h|h|h|h|h|h
  ·left;simp [HB.blk,h]
  ·left;simp [HB.blk,h]
  ·left;simp [HB.blk,h]
  ·exact Α (hbl z h)
  ·left;simp [HB.blk,h]
  ·exact Α (hbz z (Aj z (by simp [h])))
  ·rcases q7 with e|e
   ·exact Α (hbz z (Aj z (Λ _ (by rw [h];exact Option.mem_toList.2 e))))
   ·exact Β ω
end
end Go.Proofs.YtklibcncmbofpaaGreat
