/-
  Lemmas for PqSorts: SfP, DrP, ShP, Sf, Sf2, Sd, Sd2, Sd3, Sd4, Sd5, Sd6, Sf3, Sf4, Sf5, Sf6, Dr, Sd7, Dr2, Sd8, Dr3, Sd9. Conditions: those of each lemma.
-/
import Derived.IntWalk
import Derived.Deep.RegionHeldLaw
import Derived.BigRegion
import Derived.Deep.OwnRows
import Derived.Test.YtnpdakpagnpanaaGreatA03
set_option linter.all false
set_option maxHeartbeats 8000000
set_option maxRecDepth 10000
namespace Go.Proofs.YtnpdakpagnpanaaGreat
open Go Go.RowKit
def par (d i:Nat):Nat:=(i-1) / d
theorem eB {d i:Nat} (hd:2<=d) (hi:0<i):par d i<i:=by
 unfold par;have:(i-1) / d<=(i-1) / 2:=Nat.div_le_div_left hd ω;omega
theorem qW {d i j:Nat} (hd:2<=d):(0<j/\par d j=i)↔d*i+1<=j/\j<=d*i+d:=by
 unfold par;have e:d*(i+1)=d*i+d:=by rw [Nat.mul_add,Nat.mul_one]
 constructor
 ·rintro ⟨h0,h⟩;have h1:=Nat.div_mul_le_self (j-1) d;have h2:=Nat.lt_mul_div_succ (j-1) (show 0<d by omega);rw [h] at h1 h2;rw [Nat.mul_comm] at h1;omega
 ·rintro ⟨h1,h2⟩;refine ⟨ω,?_⟩;rw [Nat.div_eq_iff ω];rw [Nat.mul_comm i d];omega
theorem cZ (L:List Nat) (i x j:Nat):(L.set i x).getD j 0=if j=i/\i<L.length then x else L.getD j 0:=by
 simp only [φ,ύ]
 by_cases h:i=j
 ·subst h
  by_cases h2:i<L.length
  ·simp [h2]
  ·simp [h2]
 ·have h':¬j=i:=λe=>h e.symm;simp [h,h']
section
variable {R:Nat->Nat->Prop} {d:Nat} {L:List Nat} {i x:Nat}
def Hp (R:Nat->Nat->Prop) (d:Nat) (L:List Nat):Prop:=∀j,0<j->j<L.length->R (L.getD (par d j) 0) (L.getD j 0)
structure fI (R:Nat->Nat->Prop) (d:Nat) (L:List Nat) (i:Nat):Prop where
 lt:i<L.length
 a:∀j,0<j->j<L.length->j≠i->par d j≠i->R (L.getD (par d j) 0) (L.getD j 0)
 b:∀j,0<j->j<L.length->par d j=i->0<i->R (L.getD (par d i) 0) (L.getD j 0)
def Below (R:Nat->Nat->Prop) (d:Nat) (L:List Nat) (i x:Nat):Prop:=∀j,0<j->j<L.length->par d j=i->R x (L.getD j 0)
theorem Hp.hole (ht:∀a b c,R a b->R b c->R a c) (hd:2<=d) (h:Hp R d L) (hi:i<L.length):fI R d L i:=
 ⟨hi,λj h0 hj _ _=>h j h0 hj,λj h0 hj hp hi0=>by
  have h1:=h j h0 hj;rw [hp] at h1
  exact ht _ _ _ (h i hi0 hi) h1⟩
theorem fI.fill (hd:2<=d) (h:fI R d L i) (hb:Below R d L i x) (hu:i=0\/R (L.getD (par d i) 0) x):Hp R d (L.set i x):=by
 intro j h0 hj;rw [Ι] at hj;have hl:=h.lt;rw [cZ,cZ]
 by_cases e:j=i
 ·subst e;have hp:=eB hd h0;rw [Γ ω,Δ ⟨rfl,hj⟩];rcases hu with hu|hu
  ·omega
  ·exact hu
 ·rw [Γ (show ¬ (j=i/\i<L.length) by omega)]
  by_cases ep:par d j=i
  ·rw [Δ ⟨ep,hl⟩];exact hb j h0 hj ep
  ·rw [Γ (show ¬ (par d j=i/\i<L.length) from λe=>ep e.1)];exact h.a j h0 hj e ep
theorem fI.up (ht:∀a b c,R a b->R b c->R a c) (hd:2<=d) (h:fI R d L i) (h0:0<i) (hx:R x (L.getD (par d i) 0)) :
  fI R d (L.set i (L.getD (par d i) 0)) (par d i)/\Below R d (L.set i (L.getD (par d i) 0)) (par d i) x:=by
 have hp:=eB hd h0;have hl:=h.lt;have OB:∀j,0<j->par d j=par d i->par d j≠i:=λj hj e=>ω;refine ⟨⟨by rw [Ι];omega,λj j0 hj hji hjp=>?_,λj j0 hj hjp hp0=>?_⟩,λj j0 hj hjp=>?_⟩
 ·rw [Ι] at hj;have e:j≠i:=λe=>hjp (by rw [e]);rw [cZ,cZ,Γ (show ¬ (j=i/\i<L.length) by omega)]
  by_cases ep:par d j=i
  ·rw [Δ ⟨ep,hl⟩];exact h.b j j0 hj ep h0
  ·rw [Γ (show ¬ (par d j=i/\i<L.length) from λe=>ep e.1)];exact h.a j j0 hj e ep
 ·rw [Ι] at hj;have hp2:=eB hd hp0;rw [cZ,cZ,Γ (show ¬ (par d (par d i)=i/\i<L.length) by omega)];have h1:=h.a (par d i) hp0 ω ω ω
  by_cases e:j=i
  ·rw [Δ ⟨e,hl⟩];exact h1
  ·rw [Γ (show ¬ (j=i/\i<L.length) by omega)];have h2:=h.a j j0 hj e ω;rw [hjp] at h2;exact ht _ _ _ h1 h2
 ·rw [Ι] at hj;rw [cZ]
  by_cases e:j=i
  ·rw [Δ ⟨e,hl⟩];exact hx
  ·rw [Γ (show ¬ (j=i/\i<L.length) by omega)];have h2:=h.a j j0 hj e ω;rw [hjp] at h2;exact ht _ _ _ hx h2
structure oz (R:Nat->Nat->Prop) (d:Nat) (L:List Nat) (i c:Nat):Prop where
 c0:0<c
 lt:c<L.length
 pc:par d c=i
 all:∀j,0<j->j<L.length->par d j=i->j≠c->R (L.getD c 0) (L.getD j 0)
theorem fI.down (ht:∀a b c,R a b->R b c->R a c) (hd:2<=d) (h:fI R d L i) {c:Nat} (hc:oz R d L i c) (hx:R (L.getD c 0) x) :
  fI R d (L.set i (L.getD c 0)) c/\R ((L.set i (L.getD c 0)).getD (par d c) 0) x:=by
 have hl:=h.lt;have hci:i<c:=by have:=eB hd hc.c0;have:=hc.pc;omega
 refine ⟨⟨by rw [Ι];exact hc.lt,λj j0 hj hjc hjp=>?_,λj j0 hj hjp _=>?_⟩,?_⟩
 ·rw [Ι] at hj;rw [cZ,cZ]
  by_cases e:j=i
  ·subst e;have:=eB hd j0;rw [Γ (show ¬ (par d j=j/\j<L.length) by omega),Δ ⟨rfl,hl⟩];exact h.b c hc.c0 hc.lt hc.pc j0
  ·rw [Γ (show ¬ (j=i/\i<L.length) by omega)]
   by_cases ep:par d j=i
   ·rw [Δ ⟨ep,hl⟩];exact hc.all j j0 hj ep hjc
   ·rw [Γ (show ¬ (par d j=i/\i<L.length) from λe=>ep e.1)];exact h.a j j0 hj e ep
 ·rw [Ι] at hj;have ZU:=eB hd j0;rw [hc.pc,cZ,cZ,Δ ⟨rfl,hl⟩,Γ (show ¬ (j=i/\i<L.length) by omega)];have h2:=h.a j j0 hj ω ω;rw [hjp] at h2;exact h2
 ·rw [hc.pc,cZ,Δ ⟨rfl,hl⟩];exact hx
theorem Hp.first (ht:∀a b c,R a b->R b c->R a c) (hd:2<=d) (h:Hp R d L):∀ (k j:Nat),j<=k->j<L.length->j=0\/R (L.getD 0 0) (L.getD j 0)
 | 0,j,hk,_=>Α ω
 | k+1,j,hk,hj=>by
  by_cases j0:j=0
  ·exact Α j0
  ·right;have hp:=eB (i:=j) hd ω;have h1:=h j ω hj;rcases Hp.first ht hd h k (par d j) ω ω with e|e
   ·rw [e] at h1;exact h1
   ·exact ht _ _ _ e h1
theorem Hp.frame {R':Nat->Nat->Prop} (h:Hp R d L) (hR:∀a b,a∈L->b∈L->R a b->R' a b) (hd:2<=d):Hp R' d L:=λj h0 hj=>by
 have hp:=eB hd h0;have hm:∀q,q<L.length->L.getD q 0∈L:=λq hq=>by
  rw [φ,ε hq];exact ϗ hq
 exact hR _ _ (hm _ ω) (hm _ hj) (h j h0 hj)
end
def sG (f:Int->Option Int) (L:List Nat):Prop:=∀z v,f z=some v↔∃ (y j:Nat),z=y/\v=j/\L[j]?=some y
def kH (f:Int->Option Int) (L:List Nat) (i x:Nat):Prop:=∀z v,z≠(x:Int)->(f z=some v↔∃ (y j:Nat),z=y/\v=j/\j≠i/\L[j]?=some y)
def Oz (f:Int->Option Int) (k z:Int):Int->Option Int:=λq=>if q=k then some z else f q
theorem kH.fill {f:Int->Option Int} {L:List Nat} {i x:Nat} (h:kH f L i x) (hi:i<L.length) (hn:(L.set i x).Nodup):sG (Oz f x i) (L.set i x):=by
 intro z v;unfold Oz
 by_cases hz:z=(x:Int)
 ·rw [Δ hz];constructor
  ·intro e;cases e;exact ⟨x,i,hz,rfl,by simp [hi]⟩
  ·rintro ⟨y,j,rfl,rfl,hj⟩;have e:y=x:=ω;subst e;have h1:(L.set i y)[i]?=some y:=by simp [hi]
   obtain ⟨g1,e1⟩:=List.getElem?_eq_some_iff.1 hj;obtain ⟨g2,e2⟩:=List.getElem?_eq_some_iff.1 h1;have:j=i:=(List.getElem_inj hn).1 (e1.trans e2.symm);rw [this]
 ·rw [Γ hz,h z v hz];constructor
  ·rintro ⟨y,j,rfl,rfl,hj,hg⟩;exact ⟨y,j,rfl,rfl,by rw [ώ (λe=>hj e.symm)];exact hg⟩
  ·rintro ⟨y,j,rfl,rfl,hg⟩
   by_cases e:j=i
   ·subst e;rw [List.getElem?_set_self hi] at hg;cases hg;exact absurd rfl hz
   ·rw [ώ (λe'=>e e'.symm)] at hg;exact ⟨y,j,rfl,rfl,e,hg⟩
theorem kH.move {f:Int->Option Int} {L:List Nat} {i p x:Nat} (h:kH f L i x) (hi:i<L.length) (hp:p<L.length) (hpi:p≠i) (hn:(L.set i x).Nodup):kH (Oz f (L.getD p 0) i) (L.set i (L.getD p 0)) p x:=by
 intro z v hz;have LY:L[p]?=some (L.getD p 0):=by simp [φ,hp]
 have huni:∀j,j≠i->L[j]?=some (L.getD p 0)->j=p:=λj hj hg=>by
  have h1:(L.set i x)[j]?=some (L.getD p 0):=by rw [ώ (λe=>hj e.symm)];exact hg
  have h2:(L.set i x)[p]?=some (L.getD p 0):=by rw [ώ (λe=>hpi e.symm)];exact LY
  obtain ⟨g1,e1⟩:=List.getElem?_eq_some_iff.1 h1;obtain ⟨g2,e2⟩:=List.getElem?_eq_some_iff.1 h2;exact (List.getElem_inj hn).1 (e1.trans e2.symm)
 generalize hy:L.getD p 0=y at *;unfold Oz
 by_cases e:z=(y:Int)
 ·rw [Δ e];constructor
  ·intro e2;cases e2;exact ⟨y,i,e,rfl,λe=>hpi e.symm,by simp [hi]⟩
  ·rintro ⟨y',j,e1,rfl,hj,hg⟩;have:y'=y:=ω;subst this
   by_cases hji:j=i
   ·rw [hji]
   ·rw [ώ (λe'=>hji e'.symm)] at hg;exact absurd (huni j hji hg) hj
 ·rw [Γ e,h z v hz];constructor
  ·rintro ⟨y',j,rfl,rfl,hj,hg⟩;refine ⟨y',j,rfl,rfl,?_,by rw [ώ (λe'=>hj e'.symm)];exact hg⟩;rintro rfl;rw [LY] at hg;cases hg;exact e rfl
  ·rintro ⟨y',j,rfl,rfl,hj,hg⟩
   by_cases hji:j=i
   ·subst hji;rw [List.getElem?_set_self hi] at hg;cases hg;exact absurd rfl e
   ·rw [ώ (λe'=>hji e'.symm)] at hg;exact ⟨y',j,rfl,rfl,hji,hg⟩
theorem sG.hole {f:Int->Option Int} {L:List Nat} {i x:Nat} (h:sG f L) (hx:L[i]?=some x):kH f L i x:=λz v hz=>by
 rw [h z v];constructor
 ·rintro ⟨y,j,rfl,rfl,hg⟩;refine ⟨y,j,rfl,rfl,?_,hg⟩;rintro rfl;rw [hx] at hg;cases hg;exact hz rfl
 ·rintro ⟨y,j,h1,h2,_,h3⟩;exact ⟨y,j,h1,h2,h3⟩
theorem wC {L:List Nat} {i p x:Nat} (hi:i<L.length) (hp:p<L.length) (hpi:p≠i):((L.set i (L.getD p 0)).set p x).Perm (L.set i x):=by
 have h:=@List.set_set_perm _ (L.set i x) i p (by simpa using hi) (by simpa using hp);have e1:(L.set i x)[p]'(by simpa using hp)=L.getD p 0:=by
  rw [List.getElem_set_ne (λe=>hpi e.symm)];simp [φ,hp]
 have e2:(L.set i x)[i]'(by simpa using hi)=x:=σ;rw [e1,e2,List.set_set] at h;exact h
def mX (A:NS) (a b:Nat):Prop:=decide (dO A a b)=true
theorem dN {A:NS} {a b:Nat}:mX A a b↔dO A a b:=by unfold mX;simp
theorem gZ (A:NS):∀a b c,mX A a b->mX A b c->mX A a c:=λa b c h1 h2=>dN.2 (dw (dN.1 h1) (dN.1 h2))
structure pM (d:Nat) (A:NS) (L:Nat->List Nat):Prop where
 hp:∀h:Nat,bA A h=true->Hp (mX A) d (L h)
 nd:∀h:Nat,bA A h=true->(L h).Nodup
 mem:∀h x:Nat,bA A h=true->(x∈L h↔x<A.cs.length/\(A.c x).i=h)
section
variable {d:Nat} {A:NS} {L:Nat->List Nat}
theorem pM.frame {A':NS} {l:List Nat} (h:Hp (mX A) d l) (hd:2<=d) (hs:∀y,y∈l->A'.c y=A.c y):Hp (mX A') d l:=
 h.frame (λa b ha hb hab=>dN.2 ((fT (hs a ha) (hs b hb)).2 (dN.1 hab))) hd
theorem pM.len (h:pM d A L) {g x:Nat} (hg:bA A g=true) (hx:x∈L g):x<A.cs.length/\bR A (x:Int)=true/\(A.c x).i=g:=by
 have h1:=(h.mem g x hg).1 hx;have h2:=(aA _ _).1 hg;exact ⟨h1.1,(ay _ _).2 ⟨h1.1,ω⟩,h1.2⟩
theorem pM.many (h:pM d A L) {g:Nat} (hg:bA A g=true):(L g).length<=A.cs.length:=by
 have h1:=nodup_range A.cs.length ((L g).map (λ(x:Nat)=>(x:Int))) (by
  have hn:=h.nd g hg;unfold List.Nodup at hn ⊢;rw [List.pairwise_map];exact hn.imp (λh e=>h ω)) (λx hx=>by
  obtain ⟨y,hy,rfl⟩:=List.mem_map.1 hx
  have:=(h.mem g y hg).1 hy;omega)
 simpa using h1
theorem pM.first (h:pM d A L) (hd:2<=d) {g m:Nat} {l:List Nat} (hg:bA A g=true) (hl:L g=m::l):dM A g=some m:=by
 have h0:=(aA _ _).1 hg;have hm:=(h.mem g m hg).1 (by rw [hl];simp);refine (gP ω).2 ⟨hm.1,hm.2,λy hy hyi=>?_⟩;have hym:=(h.mem g y hg).2 ⟨hy,hyi⟩;have hH:=h.hp g hg;rw [hl] at hym hH;obtain ⟨j,hj,e⟩:=List.mem_iff_getElem.1 hym;rcases Hp.first (gZ A) hd hH j j (Θ _) hj with e2|e2
 ·subst e2;left;rw [←e];rfl
 ·right;have e3:(m::l).getD j 0=y:=by rw [φ,ε hj,e];rfl
  rw [e3] at e2;exact dN.1 e2
theorem pM.none (h:pM d A L) {g:Nat} (hg:bA A g=true) (hl:L g=[]):dM A g=none:=by
 refine (jg (by have:=(aA _ _).1 hg;omega)).2 ?_;rcases Nat.eq_zero_or_pos (bU A (g:Int)) with e|e
 ·exact e
 ·obtain ⟨x,hx,hi,_⟩:=fw.1 e;have:=(h.mem g x hg).2 ⟨hx,hi⟩;rw [hl] at this;cases this
theorem pM.Si (h:pM d A L) {g:Int} {m:Nat} (hm:dM A g=some m) (ok:A.Ok):∃q:Nat,g=q/\bA A q=true/\m∈L q:=by
 have hpos:0<g:=by
  rcases Int.lt_or_le 0 g with h|h
  ·exact h
  ·rw [nH ω] at hm;cases hm
 have h1:=(gP hpos).1 hm;have h2:=ok.nat m h1.1;obtain ⟨q,rfl⟩:∃q:Nat,g=q:=⟨g.toNat,ω⟩;have hin:bR A (m:Int)=true:=(ay _ _).2 ⟨h1.1,by rw [h1.2.1];exact hpos⟩;have hh:=jB ok hin;rw [π,h1.2.1] at hh;exact ⟨q,rfl,hh,(h.mem q m hh).2 ⟨h1.1,h1.2.1⟩⟩
theorem pM.next {A':NS} {g:Nat} {l:List Nat} (h:pM d A L) (hd:2<=d) (hh:∀k:Nat,bA A' k=bA A k) (hc:A'.cs.length=A.cs.length)
  (k1:∀k:Nat,k≠g->∀x,x<A.cs.length->1<=k->((A'.c x).i=k↔(A.c x).i=k)) (k2:∀x,(A.c x).i≠g->(A'.c x).i≠g->A'.c x=A.c x)
  (n1:Hp (mX A') d l) (n2:l.Nodup) (n3:bA A g=true->∀x,x∈l↔x<A.cs.length/\(A'.c x).i=g):pM d A' (dU L g l):=by
 refine ⟨λk hk=>?_,λk hk=>?_,λk x hk=>?_⟩
 all_goals rw [hh] at hk
 ·by_cases e:k=g
  ·subst e;rw [bg];exact n1
  ·rw [aL _ _ e];refine pM.frame (h.hp k hk) hd (λy hy=>?_);have hy2:=(h.mem k y hk).1 hy;have hk0:=(aA _ _).1 hk;exact k2 y ω (by rw [(k1 k e y hy2.1 ω).2 hy2.2];omega)
 ·by_cases e:k=g
  ·subst e;rw [bg];exact n2
  ·rw [aL _ _ e];exact h.nd k hk
 ·rw [hc]
  by_cases e:k=g
  ·subst e;rw [bg];exact n3 hk x
  ·rw [aL _ _ e,h.mem k x hk];have hk0:=(aA _ _).1 hk;constructor
   ·rintro ⟨a,b⟩;exact ⟨a,(k1 k e x a ω).2 b⟩
   ·rintro ⟨a,b⟩;exact ⟨a,(k1 k e x a ω).1 b⟩
theorem pM.put (h:pM d A L) (hd:2<=d) (ok:A.Ok) {g x:Nat} {k s:Int} (hB:nX A g x=true) {l:List Nat} (hp:l.Perm (x::L g)) (hH:Hp (mX (aG A g x k s)) d l):pM d (aG A g x k s) (dU L g l)/\x∉L g:=by
 obtain ⟨b1,b2,b3⟩:=(dP _ _ _).1 hB;have hx:x<A.cs.length:=by have:=(fJ _ _).1 b2;omega
 have h0:(A.c x).i=0:=by
  have:=(ok.nat x hx).1;have h3:¬ (0<(A.c x).i):=λh'=>by rw [(ay A x).2 ⟨hx,h'⟩] at b3;cases b3
  omega
 have hg0:=(aA _ _).1 b1;have hc:∀y,(aG A g x k s).c y=if y=x then ⟨g,k,s⟩ else A.c y:=λy=>by
  unfold aG;rw [Δ hB,π,jA]
  by_cases e:y=x
  ·rw [Δ ⟨e,hx⟩,Δ e]
  ·rw [Γ (λh=>e h.1),Γ e]
 have Ws:x∉L g:=λhm=>by have:=(h.mem g x b1).1 hm;omega
 refine ⟨h.next hd (λq=>by unfold aG;rw [Δ hB];rfl) (by unfold aG;rw [Δ hB,fD]) (λq hq y hy hq1=>?_) (λy hy1 hy2=>?_) hH (hp.nodup_iff.2 (Ζ.2 ⟨Ws,h.nd g b1⟩)) (λ_ y=>?_),Ws⟩
 ·rw [hc]
  by_cases e:y=x
  ·rw [Δ e,e];simp only;omega
  ·rw [Γ e]
 ·rw [hc] at hy2 ⊢
  by_cases e:y=x
  ·rw [Δ e] at hy2;exact absurd rfl hy2
  ·rw [Γ e]
 ·rw [hp.mem_iff,ρ,h.mem g y b1,hc]
  by_cases e:y=x
  ·rw [Δ e,e];simp [hx]
  ·rw [Γ e];simp [e]
theorem pM.drop (h:pM d A L) (hd:2<=d) {g x:Nat} (hg:bA A g=true) (hx:x∈L g) {l:List Nat} (hp:(x::l).Perm (L g)) (hH:Hp (mX A) d l):pM d (aU A x) (dU L g l):=by
 have hm:=(h.mem g x hg).1 hx;have hg0:=(aA _ _).1 hg;have hin:bR A (x:Int)=true:=(ay A x).2 ⟨hm.1,ω⟩;have hc:=sS hin;have hnd:(x::l).Nodup:=hp.nodup_iff.2 (h.nd g hg);have hxt:x∉l:=(Ζ.1 hnd).1;have hcy:∀y,y≠x->(aU A x).c y=A.c y:=λy hy=>by rw [hc,Γ hy]
 refine h.next hd (λq=>by unfold bA;rw [gM]) (dK _ _) (λq hq y hy hq1=>?_) (λy hy1 hy2=>hcy y (λe=>hy1 (by rw [e];exact hm.2))) (pM.frame hH hd (λy hy=>hcy y (λe=>hxt (by rw [←e];exact hy)))) (Ζ.1 hnd).2 (λ_ y=>?_)
 ·rw [hc]
  by_cases e:y=x
  ·rw [Δ e,e];show (0:Int)=(q:Int)↔_;omega
  ·rw [Γ e]
 ·have e1:=hp.mem_iff (a:=y);rw [ρ,h.mem g y hg] at e1;rw [hc]
  by_cases e:y=x
  ·rw [Δ e,e];refine ⟨λhh=>absurd hh hxt,λhh=>?_⟩;have:(0:Int)=(g:Int):=hh.2;omega
  ·rw [Γ e,←e1];simp [e]
theorem qa (A:NS) (hl:¬65536<A.hs.length) (hl0:1<=A.hs.length) (k:Nat):bA (aI A) k=(bA A k || k == A.hs.length):=by
 unfold aI bA;rw [Γ hl];simp only [υ,List.length_singleton,π,φ]
 by_cases e:k=A.hs.length
 ·subst e;simp;omega
 ·by_cases e2:k<A.hs.length
  ·rw [Ρ e2];have e3:(k:Int)<(A.hs.length:Int):=ω;have e4:(k:Int)<(A.hs.length:Int)+1:=ω;simp [e,e2,e3,e4]
  ·have e3:¬ (k:Int)<(A.hs.length:Int):=ω;have e4:¬ (k:Int)<(A.hs.length:Int)+1:=ω;simp [e,e2,e3,e4]
theorem pM.make (h:pM d A L) (hd:2<=d) (ok:A.Ok) (hl:¬65536<A.hs.length) (hl0:1<=A.hs.length):pM d (aI A) (dU L A.hs.length []):=by
 have hc:(aI A).cs=A.cs:=by unfold aI;rw [Γ hl]
 have hcc:∀x,(aI A).c x=A.c x:=λx=>by unfold NS.c;rw [hc]
 have hno:bA A (A.hs.length:Int)=false:=by
  cases hh:bA A (A.hs.length:Int) with
  | false=>rfl
  | true=>have:=(aA _ _).1 hh;omega
 have hcase:∀k:Nat,bA (aI A) k=true->k=A.hs.length\/(k≠A.hs.length/\bA A k=true):=λk hk=>by
  rw [qa A hl hl0] at hk
  by_cases e:k=A.hs.length
  ·exact Α e
  ·right;simp [e] at hk;exact ⟨e,hk⟩
 refine ⟨λk hk=>?_,λk hk=>?_,λk x hk=>?_⟩
 ·rcases hcase k hk with rfl|⟨e,hk'⟩
  ·rw [bg];intro j _ hj;simp at hj
  ·rw [aL _ _ e];exact (h.hp k hk').frame (λa b _ _ hab=>dN.2 ((fT (hcc a) (hcc b)).2 (dN.1 hab))) hd
 ·rcases hcase k hk with rfl|⟨e,hk'⟩
  ·rw [bg];exact ϡ
  ·rw [aL _ _ e];exact h.nd k hk'
 ·rw [hc,hcc];rcases hcase k hk with rfl|⟨e,hk'⟩
  ·rw [bg];simp only [ς,false_iff,not_and];intro hx hi;have:=(ok.nat x hx).2;omega
  ·rw [aL _ _ e];exact h.mem k x hk'
end
def fH (L:List Nat) (i j:Nat):List Nat:=(L.set i (L.getD j 0)).set j (L.getD i 0)
theorem jo (L:List Nat) (i j:Nat):(fH L i j).length=L.length:=by unfold fH;simp
theorem jK {L:List Nat} {i j:Nat} (hi:i<L.length) (hj:j<L.length) (k:Nat):(fH L i j).getD k 0=if k=j then L.getD i 0 else if k=i then L.getD j 0 else L.getD k 0:=by
 unfold fH;rw [cZ,cZ]
 by_cases h1:k=j
 ·rw [Δ ⟨h1,by simpa using hj⟩,Δ h1]
 ·rw [Γ (λe=>h1 e.1),Γ h1]
  by_cases h2:k=i
  ·rw [Δ ⟨h2,hi⟩,Δ h2]
  ·rw [Γ (λe=>h2 e.1),Γ h2]
theorem FK {L:List Nat} {i j:Nat} (hi:i<L.length) (hj:j<L.length):fH L i j=fH L j i:=by
 apply List.ext_getElem
 ·rw [jo,jo]
 ·intro k h1 h2;have a:=jK hi hj k;have b:=jK hj hi k;rw [φ,ε h1] at a;rw [φ,ε h2] at b;simp only [Option.getD_some] at a b;rw [a,b]
  by_cases e1:k=j
  ·by_cases e2:k=i
   ·rw [Δ e1,Δ e2,←e1,←e2]
   ·rw [Δ e1,Γ e2,Δ e1]
  ·by_cases e2:k=i
   ·rw [Γ e1,Δ e2,Δ e2]
   ·rw [Γ e1,Γ e2,Γ e2,Γ e1]
theorem sI {L:List Nat} {i j:Nat} (hi:i<L.length) (hj:j<L.length) (hne:i≠j):(fH L i j).Perm L:=by
 have h:=wC (L:=L) (i:=i) (p:=j) (x:=L.getD i 0) hi hj (λe=>hne e.symm);have e:L.set i (L.getD i 0)=L:=by
  rw [φ,ε hi];simp
 rw [e] at h;exact h
section
variable {R:Nat->Nat->Prop} {L:List Nat} {i:Nat}
theorem fI.any {d:Nat} (hd:2<=d) (h:fI R d L i) (y:Nat):fI R d (L.set i y) i:=by
 have g:∀k,k≠i->(L.set i y).getD k 0=L.getD k 0:=λk hk=>by rw [cZ,Γ (λe=>hk e.1)]
 refine ⟨by rw [Ι];exact h.lt,λj j0 hj hji hp=>?_,λj j0 hj hp hi0=>?_⟩
 ·rw [Ι] at hj;rw [g _ hji,g _ hp];exact h.a j j0 hj hji hp
 ·rw [Ι] at hj;have h1:=eB hd j0;have h2:=eB hd hi0;rw [g _ ω,g _ ω];exact h.b j j0 hj hp hi0
theorem Below.any {d x:Nat} (hd:2<=d) (h:Below R d L i x) (y:Nat):Below R d (L.set i y) i x:=λj j0 hj hp=>by
 rw [Ι] at hj;have h1:=eB hd j0;rw [cZ,Γ (show ¬ (j=i/\i<L.length) by omega)];exact h j j0 hj hp
theorem fI.done {d:Nat} (hd:2<=d) (h:fI R d L i) (hb:Below R d L i (L.getD i 0)) (hu:i=0\/R (L.getD (par d i) 0) (L.getD i 0)):Hp R d L:=by
 have h1:=h.fill hd hb hu;have e:L.set i (L.getD i 0)=L:=by
  have:=h.lt;rw [φ,ε this];simp
 rwa [e] at h1
theorem fI.UO (ht:∀a b c,R a b->R b c->R a c) (h:fI R 2 L i) (h0:0<i) (hx:R (L.getD i 0) (L.getD (par 2 i) 0)) :
  fI R 2 (fH L (par 2 i) i) (par 2 i)/\Below R 2 (fH L (par 2 i) i) (par 2 i) ((fH L (par 2 i) i).getD (par 2 i) 0):=by
 have hp:=eB (d:=2) ω h0;have hl:=h.lt;obtain ⟨h1,h2⟩:=h.up ht ω h0 hx;rw [jK ω hl,Γ ω,Δ rfl,FK ω hl];exact ⟨h1.any ω _,h2.any ω _⟩
theorem fI.xU (ht:∀a b c,R a b->R b c->R a c) (h:fI R 2 L i) {c:Nat} (hc:oz R 2 L i c) (hx:R (L.getD c 0) (L.getD i 0)) :
  fI R 2 (fH L i c) c/\R ((fH L i c).getD (par 2 c) 0) ((fH L i c).getD c 0):=by
 have hl:=h.lt;have hcl:=hc.lt;have hci:i<c:=by have:=eB (d:=2) ω hc.c0;have:=hc.pc;omega
 obtain ⟨h1,h2⟩:=h.down ht ω hc hx;refine ⟨h1.any ω _,?_⟩;rw [jK hl hcl,jK hl hcl,Δ rfl,hc.pc,Γ ω,Δ rfl];exact hx
theorem J6 {n:Nat} (hn:L.length=n) (h1:2*i+1<n):(2*i+2<n->¬R (L.getD (2*i+2) 0) (L.getD (2*i+1) 0)->R (L.getD (2*i+1) 0) (L.getD (2*i+2) 0))->
  ((¬ (2*i+2<n/\R (L.getD (2*i+2) 0) (L.getD (2*i+1) 0)))->oz R 2 L i (2*i+1))/\(2*i+2<n/\R (L.getD (2*i+2) 0) (L.getD (2*i+1) 0)->oz R 2 L i (2*i+2)):=by
 intro ht;have hk:∀j,0<j->par 2 j=i->j=2*i+1\/j=2*i+2:=λj j0 hj=>by
  have:=(qW (d:=2) (i:=i) (j:=j) ω).1 ⟨j0,hj⟩;omega
 have p1:=(qW (d:=2) (i:=i) (j:=2*i+1) ω).2 ω;have p2:=(qW (d:=2) (i:=i) (j:=2*i+2) ω).2 ω;constructor
 ·intro h;refine ⟨ω,ω,p1.2,λj j0 hj hp hne=>?_⟩;rcases hk j j0 hp with e|e
  ·exact absurd e hne
  ·subst e;exact ht ω (λhr=>h ⟨ω,hr⟩)
 ·rintro ⟨h,hr⟩;refine ⟨ω,ω,p2.2,λj j0 hj hp hne=>?_⟩;rcases hk j j0 hp with e|e
  ·subst e;exact hr
  ·exact absurd e hne
theorem mU {d x c:Nat} (ht:∀a b c,R a b->R b c->R a c) (hc:oz R d L i c) (hx:R x (L.getD c 0)):Below R d L i x:=λj j0 hj hp=>by
 by_cases e:j=c
 ·rw [e];exact hx
 ·exact ht _ _ _ hx (hc.all j j0 hj hp e)
theorem yf {d x:Nat} (hd:2<=d) (h:L.length<=d*i+1):Below R d L i x:=λj j0 hj hp=>by
 have:=(qW hd).1 ⟨j0,hp⟩;omega
theorem Hp.take {d n:Nat} (h:Hp R d L) (hd:2<=d):Hp R d (L.take n):=λj j0 hj=>by
 simp only [ϐ] at hj;have hp:=eB hd j0;have g:∀k,k<n->(L.take n).getD k 0=L.getD k 0:=λk hk=>by simp [φ,List.getElem?_take,hk]
 rw [g _ ω,g _ ω];exact h j j0 ω
theorem Hp.snoc {d x:Nat} (h:Hp R d L) (ht:∀a b c,R a b->R b c->R a c) (hd:2<=d):fI R d (L++[x]) L.length/\Below R d (L++[x]) L.length x:=by
 have g:∀k,k<L.length->(L++[x]).getD k 0=L.getD k 0:=λk hk=>by simp [φ,Ρ,hk]
 have hno:∀j,0<j->j<(L++[x]).length->par d j=L.length->False:=λj j0 hj hp=>by
  simp at hj;have:=eB hd j0;omega
 refine ⟨⟨σ,λj j0 hj hji hp=>?_,λj j0 hj hp _=>(hno j j0 hj hp).elim⟩,λj j0 hj hp=>(hno j j0 hj hp).elim⟩;simp at hj;have:=eB hd j0;rw [g _ ω,g _ ω];exact h j j0 ω
end
structure fU where
 ty:TypeId
 p:Nat
 rd:List Nat
 wr:List Nat
 lt:Nat->Nat->Bool
 dom:Nat->Prop
 at_:World->Prop
 sub:∀x,x∈wr->x∈rd
 low:∀ {w:World},at_ w->∀x,x∈rd->x<w.heap.size
 upd:∀ {w w':World} {S:List Nat},at_ w->aa S w w'->(∀x,x∈S->x∉rd)->at_ w'
 trans:∀a b c,lt a b=true->lt b c=true->lt a c=true
 total:∀a b,a≠b->lt a b=true\/lt b a=true
 asym:∀a b,lt a b=true->lt b a=false
 fn:FuncId
 recv:Value
 ZF:Enters fn
 QY:∀ {w:World},at_ w->(method 409 ty (.pointer (some ⟨p,0,none⟩)) "Ahead").run Tryz.prog w=.ok (fn,recv) w
 Qw:∀w:World,(nilAhead 409 ty (.pointer (some ⟨p,0,none⟩)) "Ahead").run Tryz.prog w=.ok (some false) w
 ask:∀ {w:World} (x y:Nat),at_ w->dom x->dom y->Calls Tryz.prog fn #[recv,.int .i64 (x:Int),.int .i64 (y:Int)] w λe w'=>e=.returned (.bool (lt x y))/\at_ w'/\aa wr w w'
structure fU.On (O:fU) (w0 w:World):Prop where
 at_:O.at_ w
 upd:aa O.wr w0 w
theorem fU.On.start {O:fU} {w:World} (h:O.at_ w):O.On w w:=⟨h,aa.refl _ _⟩
theorem fU.On.drew {O:fU} {w0 w:World} (h:O.On w0 w):O.On w0 w.drew:=⟨O.upd h.at_ ((aa.refl [] w).drew) σ,h.upd.drew⟩
theorem fU.On.drewN {O:fU} {w0 w:World} (h:O.On w0 w) (n:Nat):O.On w0 (w.drewN n):=⟨O.upd h.at_ ((aa.refl [] w).drewN n) σ,h.upd.drewN n⟩
theorem fU.On.asked {O:fU} {w0 w w':World} (h:O.On w0 w) (ha:O.at_ w') (hu:aa O.wr w w'):O.On w0 w':=⟨ha,h.upd.trans hu⟩
def fU.R (O:fU) (a b:Nat):Prop:=O.lt a b=true
theorem fU.tr (O:fU):∀a b c,O.R a b->O.R b c->O.R a c:=O.trans
structure r9 (w:World) (rp mb g cap d:Nat) (f:Int->Option Int) (L:List Nat):Prop where
 head:aJ w rp 228 3 (λj=>[Value.int .i64 (d:Int),.slice (some ⟨g,0,none⟩) L.length cap,.map (some mb)].getD j undef)
 row:IZ w g cap (bG L)
 map:dW w mb f
 sep:rp≠mb/\rp≠g/\mb≠g
theorem bQ (L:List Nat):(bG L).length=L.length:=by unfold bG;simp
theorem lV {L:List Nat} {j:Nat}:(bG L).getD j 0=((L.getD j 0:Nat):Int):=by
 unfold bG;simp only [φ,ϑ];cases L[j]?<;>rfl
theorem lK (L:List Nat) (i x:Nat):bG (L.set i x)=(bG L).set i (x:Int):=by unfold bG;rw [List.map_set]
section
variable {w:World} {rp mb g cap d:Nat} {f:Int->Option Int} {L:List Nat}
theorem r9.upd {w':World} {S:List Nat} (h:r9 w rp mb g cap d f L) (hu:aa S w w') (h1:rp∉S) (h2:mb∉S) (h3:g∉S):r9 w' rp mb g cap d f L:=
 ⟨h.head.upd hu h1,h.row.upd hu h3,h.map.upd hu h2,h.sep⟩
theorem r9.ai {w':World} (h:r9 w rp mb g cap d f L) (hu:aa [] w w'):r9 w' rp mb g cap d f L:=h.upd hu σ σ σ
theorem r9.h0 (h:r9 w rp mb g cap d f L):w.cell? ⟨rp,0,none⟩=some (.int .i64 (d:Int)):=h.head.cellAt 0 ω rfl
theorem r9.h1 (h:r9 w rp mb g cap d f L):w.cell? ⟨rp,1,none⟩=some (.slice (some ⟨g,0,none⟩) L.length cap):=h.head.cellAt 1 ω rfl
theorem r9.h2 (h:r9 w rp mb g cap d f L):w.cell? ⟨rp,2,none⟩=some (.map (some mb)):=h.head.cellAt 2 ω rfl
theorem r9.lt (h:r9 w rp mb g cap d f L):rp<w.heap.size/\mb<w.heap.size/\g<w.heap.size:=⟨h.head.lt,h.map.lt,h.row.lt⟩
theorem r9.cell (h:r9 w rp mb g cap d f L) (j:Nat) (hj:j<L.length):w.cell? ⟨g,j,none⟩=some (.int .i64 ((L.getD j 0:Nat):Int)):=by
 have:=h.row.cell j (by rw [bQ];exact hj);rwa [lV] at this
/-! ### places -/
theorem GI (d i:Nat) (hd:2<=d/\d<=16) (hi:i<=65536) (w:World) :
  Calls Tryz.prog 154 #[.int .i64 (d:Int),.int .i64 (i:Int)] w λe w'=>e=.returned (.tuple #[.int .i64 (if i=0 then 0 else (par d i:Int)),.bool (decide (0<i))])/\aa [] w w':=by
 have kf:∀W,Calls Tryz.prog 101 #[.int .i64 (d:Int)] W λe w'=>e=.returned (.bool true)/\w'=W:=λW=>by
  have h1:(d:Int)≥2:=ω;have h2:(d:Int)<=16:=ω
  go_enter Tryz.func101,Tryz.ntmps101
  go_wp2;go_ret;exact ⟨rfl,rfl⟩
 by_cases h0:i=0
 ·subst h0
  go_enter Tryz.func154,Tryz.ntmps154
  go_wp2_with (first|(go_at_call 101;(with_reducible refine (kf _).mono ?_);rintro e w9 ⟨rfl,aH⟩;rw [aH];clear aH w9)|fail)
  go_ret2;exact ⟨rfl,aa.refl _ _⟩
 ·have h1:¬ (i:Int)<1:=ω;have hd0:¬ (d:Int)=0:=ω;rw [Γ h0,Ν (ω:0<i)];have hq:((i:Int)-1).tdiv (d:Int)=(par d i:Int):=by
   unfold par;rw [show (i:Int)-1=((i-1:Nat):Int) by omega]
   rfl
  go_enter Tryz.func154,Tryz.ntmps154
  go_wp2_with (first|(go_at_call 101;(with_reducible refine (kf _).mono ?_);rintro e w9 ⟨rfl,aH⟩;rw [aH];clear aH w9)|fail)
  go_ret2;have hp:=eB hd.1 (show 0<i by omega);rw [IntWalk.wrap64_in _ ω];exact ⟨rfl,aa.refl _ _⟩
theorem Kk (d i k:Nat) (hd:2<=d/\d<=16) (hi:i<=65536) (hk:1<=k/\k<=d) (w:World) :
  Calls Tryz.prog 161 #[.int .i64 (d:Int),.int .i64 (i:Int),.int .i64 (k:Int)] w λe w'=>e=.returned (.tuple #[.int .i64 ((d*i+k:Nat):Int),.bool true])/\aa [] w w':=by
 have kf:∀W,Calls Tryz.prog 101 #[.int .i64 (d:Int)] W λe w'=>e=.returned (.bool true)/\w'=W:=λW=>by
  have h1:(d:Int)≥2:=ω;have h2:(d:Int)<=16:=ω
  go_enter Tryz.func101,Tryz.ntmps101
  go_wp2;go_ret;exact ⟨rfl,rfl⟩
 have h1:¬ (i:Int)<0:=ω;have h2:¬ (i:Int) > 1099511627776:=ω;have h3:¬ (k:Int)<1:=ω;have h4:¬ (k:Int) > (d:Int):=ω;have hm:d*i<=16*65536:=Nat.mul_le_mul hd.2 hi;have hmul:(d:Int)*(i:Int)=((d*i:Nat):Int):=σ;generalize d * i=m at *;have hw1:wrap64 (m:Int)=(m:Int):=IntWalk.wrap64_in _ ω;have hw2:wrap64 ((m:Int)+(k:Int))=(m:Int)+(k:Int):=IntWalk.wrap64_in _ ω
 go_enter Tryz.func161,Tryz.ntmps161
 go_wp2_with (first|(go_at_call 101;(with_reducible refine (kf _).mono ?_);rintro e w9 ⟨rfl,aH⟩;rw [aH];clear aH w9)|fail)
 go_ret2;exact ⟨by first|rfl|simp [hmul],aa.refl _ _⟩
theorem qi (h:r9 w rp mb g cap d f L) (i x:Nat) (hi:i<L.length) (hx:x<=65536) (hl:L.length<=65536) :
  Calls Tryz.prog 155 #[.pointer (some ⟨rp,0,none⟩),.int .i64 (i:Int),.int .i64 (x:Int)] w λe w'=>e=.returned (.tuple #[])/\r9 w' rp mb g cap d (Oz f x i) (L.set i x)/\aa [g,mb] w w':=by
 have c0:=h.h0;have c1:=h.h1;have c2:=h.h2;have hc:=h.row.cap;rw [bQ] at hc;have fg:=h.row.free i;have cg:=h.cell i hi;have hlt:=h.lt;have s:=h.sep;have hu1:aa [g] w (w.setCell ⟨g,i,none⟩ (.int .i64 (x:Int))):=β;have hM1:dW (w.setCell ⟨g,i,none⟩ (.int .i64 (x:Int))) mb f:=h.map.upd hu1 ζ;have H1:aJ (w.setCell ⟨g,i,none⟩ (.int .i64 (x:Int))) rp 228 3 (λj=>[Value.int .i64 (d:Int),.slice (some ⟨g,0,none⟩) L.length cap,.map (some mb)].getD j undef):=h.head.upd hu1 ζ;have H2:IZ (w.setCell ⟨g,i,none⟩ (.int .i64 (x:Int))) g cap (bG (L.set i x)):=by rw [lK];exact h.row.set i _
 have HH:=χ (ψ H1 (ψ H2 (ψ s hu1)));have hil:(i:Int)<(L.length:Int):=ω;have e1:rp≠g:=s.2.1;generalize hn:L.length=n at *;have HN:=χ hn;clear h H1 H2 hu1 hn
 go_enter Tryz.func155,Tryz.ntmps155
 go_wp2_with (first
  | (at_mapUpdate;refine jm rfl _ _ _ rfl mb f rfl hM1 (x:Int) (i:Int) rfl rfl ω ω ?_;intro w2 hm2 hu2)
  | fail)
 go_end0;obtain ⟨H1,H2,s,hu1⟩:=HH.out;refine ⟨rfl,⟨?_,H2.upd hu2 ζ,hm2,s⟩,(hu1.mono σ).trans (hu2.mono σ)⟩;rw [Ι,HN.out];exact H1.upd hu2 ζ
end
structure JP (O:fU) (rp mb g:Nat):Prop where
 a:rp∉O.rd
 b:mb∉O.rd
 c:g∉O.rd
theorem JP.wr {O:fU} {rp mb g:Nat} (h:JP O rp mb g):rp∉O.wr/\mb∉O.wr/\g∉O.wr:=⟨λhm=>h.a (O.sub _ hm),λhm=>h.b (O.sub _ hm),λhm=>h.c (O.sub _ hm)⟩
theorem nO {L:List Nat} {i x p:Nat} (hp:p<L.length) (hne:p≠i):L.getD p 0∈L.set i x:=by
 have h1:(L.set i x)[p]?=some (L.getD p 0):=by rw [ώ (λe=>hne e.symm)];simp [φ,hp]
 exact Η h1
theorem IX {L:List Nat} {i x p:Nat} (hi:i<L.length) (hp:p<L.length) (hne:p≠i) (hn:(L.set i x).Nodup):L.getD p 0≠x:=λe=>by
 have h1:(L.set i x)[p]?=some x:=by rw [ώ (λe=>hne e.symm),←e];simp [φ,hp]
 have h2:(L.set i x)[i]?=some x:=by simp [hi]
 obtain ⟨g1,e1⟩:=List.getElem?_eq_some_iff.1 h1;obtain ⟨g2,e2⟩:=List.getElem?_eq_some_iff.1 h2;exact hne ((List.getElem_inj hn).1 (e1.trans e2.symm))
theorem Jf (O:fU) {w:World} {rp mb g cap d:Nat} {f:Int->Option Int} {L:List Nat} (hO:O.at_ w) (h:r9 w rp mb g cap d f L) (hd:2<=d/\d<=16) (hl:L.length<=65536) (i x:Nat) (hH:fI O.R d L i) (hP:kH f L i x)
  (hn:(L.set i x).Nodup) (hdom:∀y,y∈L.set i x->O.dom y) (h16:∀y,y∈L.set i x->y<=65536) (hsep:JP O rp mb g) :
  Calls Tryz.prog 146 #[.pointer (some ⟨rp,0,none⟩),.iface O.ty (.pointer (some ⟨O.p,0,none⟩)),.int .i64 (i:Int),.int .i64 (x:Int)] w λe w'=>∃ (k:Nat) (f':Int->Option Int) (L':List Nat),e=.returned (.int .i64 (k:Int))/\r9 w' rp mb g cap d f' L'/\sG f' L'/\L'.Perm (L.set i x)/\O.at_ w'/\aa (g::mb::O.wr) w w'/\
   (k=i->L'=L.set i x/\(i=0\/O.R (L.getD (par d i) 0) x))/\(k≠i\/Below O.R d L i x->Hp O.R d L'):=by
 have hi0:=hH.lt;have hxm:x∈L.set i x:=Η (show (L.set i x)[i]?=some x by simp [hi0]);have Wq:=hdom x hxm;have hxl:=h16 x hxm;have HX:=χ (ψ hn (ψ hdom (ψ h16 (ψ hsep hd))));have hwr:=hsep.wr
 go_enter Tryz.func146,Tryz.ntmps146
 go_wp2
 go_loopw [2,9,10] (λiv _ _ wr=>∃ (i':Nat) (f':Int->Option Int) (L':List Nat),iv=.int .i64 (i':Int)/\r9 wr rp mb g cap d f' L'/\fI O.R d L' i'/\kH f' L' i' x/\L'.length=L.length/\(L'.set i' x).Perm (L.set i x)/\O.at_ wr/\aa (g::mb::O.wr) w wr/\((i'=i/\L'=L)\/(i'<i/\Below O.R d L' i' x))) (λiv _ _ _=>(intOf iv).toNat)
 case atStart=>exact ⟨i,f,L,rfl,h,hH,hP,rfl,ό _,hO,aa.refl _ _,Α ⟨rfl,rfl⟩⟩
 case round=>
  clear h hH hP hO;obtain ⟨i1,f1,L1,rfl,h,hH,hP,hl1,hpm,hO,hu,hst⟩:=hrel;rename World=>wr;have hi1:=hH.lt;have hn1:(L1.set i1 x).Nodup:=hpm.nodup_iff.2 HX.out.1;have kp:=λW=>GI d i1 hd ω W;have c0:=h.h0;have c1:=h.h1;have hlt:=h.lt
  by_cases hz:i1=0
  ·have ks:=λW (hW:aa [] wr W)=>qi (h.ai hW) i1 x hi1 hxl ω;have e1:(if i1=0 then (0:Int) else (par d i1:Int))=0:=Δ hz;have e2:decide (0<i1)=false:=by simp [hz]
   simp only [e1,e2] at kp;have HF:=χ (ψ hH (ψ hP (ψ hn1 (ψ hpm (ψ hO (ψ hst (ψ hu (ψ hl1 hz))))))));clear hH hP hn1 hpm hO hst hu hl1 h hz e1 e2
   go_upto_region 2 with (first
    | ((go_at_call 154;(with_reducible refine (kp _).mono ?_));rintro e w1 ⟨rfl,hu1⟩)
    | fail)
   go_quiet (fail)
   have ks1:=ks _ (hu1.drewN nq)
   go_wp2_with (first
    | ((go_at_call 155;(with_reducible refine (ks1).mono ?_));rintro e w2 ⟨rfl,hR,hu2⟩)
    | fail)
   go_ret;obtain ⟨hH,hP,hn1,hpm,hO,hst,hu,hl1,hz⟩:=HF.out;have hu3:aa [g,mb] wr w2:=(hu1.drewN nq).mono σ |>.trans hu2;refine ⟨i1,_,_,rfl,hR,hP.fill hi1 hn1,hpm,O.upd hO hu3 (λy hy=>by have:=HX.out.2.2.2.1;simp at hy;rcases hy with rfl|rfl;exact this.c;exact this.b),hu.trans (hu3.mono (by simp +contextual)),λe=>?_,λe=>?_⟩
   ·rcases hst with ⟨_,rfl⟩|⟨h1,_⟩
    ·subst e;exact ⟨rfl,Α hz⟩
    ·omega
   ·have hb:Below O.R d L1 i1 x:=by
     rcases hst with ⟨e1,e2⟩|⟨_,h2⟩
     ·rcases e with e|e
      ·exact absurd e1 e
      ·rw [e1,e2];exact e
     ·exact h2
    exact hH.fill hd.1 hb (Α hz)
  ·obtain ⟨p,hp⟩:∃p,p=par d i1:=⟨_,rfl⟩;have hpl:p<i1:=by rw [hp];exact eB hd.1 ω
   have e1:(if i1=0 then (0:Int) else (par d i1:Int))=(p:Int):=by rw [Γ hz,hp]
   have e2:decide (0<i1)=true:=ζ;simp only [e1,e2] at kp;have hcp:=h.cell p ω;have hcg:=h.h1;have hdp:=HX.out.2.1 (L1.getD p 0) (hpm.mem_iff.1 (nO ω ω));have hpx:=IX hi1 (show p<L1.length by omega) ω hn1;have UI:=λW (hW:aa O.wr wr W)=>qi (h.upd hW hwr.1 hwr.2.1 hwr.2.2) i1 (L1.getD p 0) hi1 (HX.out.2.2.1 _ (hpm.mem_iff.1 (nO ω ω))) ω;have ks:=λW (hW:aa O.wr wr W)=>qi (h.upd hW hwr.1 hwr.2.1 hwr.2.2) i1 x hi1 hxl ω;have HF:=χ (ψ hH (ψ hP (ψ hn1 (ψ hpm (ψ hO (ψ hst (ψ hu (ψ hl1 (ψ hz (ψ hp (ψ hpx h)))))))))));have hi1L:(p:Int)<(L1.length:Int):=ω;have K8:=hwr.1;have hgw:=hwr.2.2
   clear hH hP hn1 hpm hst hu hl1 h hz e1 e2 hp hpx hpl hwr;generalize hy:L1.getD p 0=y at *
   go_upto_region 2 with (first
    | ((go_at_call 154;(with_reducible refine (kp _).mono ?_));rintro e w1 ⟨rfl,hu1⟩)
    | fail)
   have oq:O.On w1 w1:=.start (O.upd hO hu1 σ);have Us:∀W,O.On w1 W->W.cell? ⟨g,p,none⟩=some (.int .i64 (y:Int)):=λW hW=>hW.upd.kept (hu1.was hcp) hgw;have VU:∀W,O.On w1 W->W.cell? ⟨rp,1,none⟩=some (.slice (some ⟨g,0,none⟩) L1.length cap):=λW hW=>hW.upd.kept (hu1.was hcg) K8;have hm:∀W,O.On w1 W->_:=λW hW=>O.QY hW.at_;have hnl:=O.Qw;have hen:=O.ZF;unfold Enters at hen
   go_region_held3 (O.On w1) (first|assumption|exact oq|(refine fU.On.drew ?_;first|assumption|exact oq)|(refine fU.On.drewN ?_ _;first|assumption|exact oq))
    (first
     | ((with_reducible refine (O.ask x y (fU.On.at_ (w0:=w1) (by first|assumption|exact oq|(refine fU.On.drew ?_;first|assumption|exact oq)|(refine fU.On.drewN ?_ _;first|assumption|exact oq))) Wq hdp).mono ?_);rintro e w5 ⟨rfl,BQ,cB⟩;(have sQ:O.On w1 w5:=fU.On.asked (by first|assumption|exact oq|(refine fU.On.drew ?_;first|assumption|exact oq)|(refine fU.On.drewN ?_ _;first|assumption|exact oq)) BQ cB)))
   have su:aa O.wr wr w5:=(hu1.mono σ).trans sQ.upd;have Ub:=ks w5 su;have YO:=UI w5 su;have HY:=χ (ψ hy (ψ sQ.at_ su));have cp5:=Us w5 sQ;have cg5:=VU w5 sQ;clear ks UI Us VU hm oq sQ cB BQ hO hcp hcg;cases hxy:O.lt x y with
   | false=>
    clear YO
    go_wp2_with (first
     | ((go_at_call 155;(with_reducible refine (Ub).mono ?_));rintro e w2 ⟨rfl,hR,hu2⟩)
     | fail)
    go_ret;obtain ⟨hH,hP,hn1,hpm,hO,hst,hu,hl1,hz,hp,hpx,h⟩:=HF.out;obtain ⟨hy,hat,cB⟩:=HY.out;have hup:O.R (L1.getD (par d i1) 0) x:=by
     rw [←hp,hy];rcases O.total x y (λe=>hpx e.symm) with e|e
     ·rw [e] at hxy;cases hxy
     ·exact e
    refine ⟨i1,_,_,rfl,hR,hP.fill hi1 hn1,hpm,O.upd hat hu2 (λy hy=>by have:=HX.out.2.2.2.1;simp at hy;rcases hy with rfl|rfl;exact this.c;exact this.b),(hu.trans (cB.mono (by simp +contextual))).trans (hu2.mono (by simp +contextual)),λe=>?_,λe=>?_⟩
    ·rcases hst with ⟨_,e2⟩|⟨h1,_⟩
     ·rw [e2] at hup ⊢;rw [e] at hup ⊢;exact ⟨rfl,Β hup⟩
     ·omega
    ·have hb:Below O.R d L1 i1 x:=by
      rcases hst with ⟨e1,e2⟩|⟨_,h2⟩
      ·rcases e with e|e
       ·exact absurd e1 e
       ·rw [e1,e2];exact e
      ·exact h2
     exact hH.fill hd.1 hb (Β hup)
   | true=>
    clear Ub
    go_wp2_with (first
     | ((go_at_call 155;(with_reducible refine (YO).mono ?_));rintro e w2 ⟨rfl,hR,hu2⟩)
     | fail)
    go_roundw
    case rel=>
     obtain ⟨hH,hP,hn1,hpm,hO,hst,hu,hl1,hz,hp,hpx,h⟩:=HF.out;obtain ⟨hy,hat,cB⟩:=HY.out;have hpl:p<i1:=by rw [hp];exact eB hd.1 ω
     have hup:=hH.up O.tr hd.1 ω (x:=x) (by rw [←hp,hy];exact hxy);rw [←hp,hy] at hup;have hmv:=hP.move hi1 (p:=p) ω ω hn1;rw [hy] at hmv;have hpr:=wC (L:=L1) (i:=i1) (p:=p) (x:=x) hi1 ω ω;rw [hy] at hpr;refine ⟨p,_,_,rfl,hR,hup.1,hmv,by rw [Ι];exact hl1,hpr.trans hpm,O.upd hat hu2 (λy hy=>by have:=HX.out.2.2.2.1;simp at hy;rcases hy with rfl|rfl;exact this.c;exact this.b),(hu.trans (cB.mono (by simp +contextual))).trans (hu2.mono (by simp +contextual)),Β ⟨?_,hup.2⟩⟩;rcases hst with ⟨e,_⟩|⟨e,_⟩<;>omega
    case measure=>
     have hpl:p<i1:=by rw [HF.out.2.2.2.2.2.2.2.2.2.1];exact eB hd.1 (by have:=HF.out.2.2.2.2.2.2.2.2.1;omega)
     simp [intOf];omega
structure HB where
 n0:Nat
 c:Nat
 ga:Nat
def IL (B:HB) (v:Value) (j:Nat):Value:=[Value.pointer (some ⟨B.n0,0,none⟩),v].getD j undef
structure mG (w:World) (B:HB) (F:List Nat) (A:NS) (rp g cap:Nat) (L T:List Nat):Prop where
 hd:aJ w rp 302 2 (IL B (.slice (some ⟨g,0,none⟩) L.length cap))
 row:IZ w g cap (bG L)
 wN:IZ w B.ga T.length (bG T)
 LW:w.cell? ⟨B.n0,0,none⟩=some (.pointer (some ⟨B.c,0,none⟩))
 LK:w.cell? ⟨B.n0,2,none⟩=some (.slice (some ⟨B.ga,0,none⟩) T.length T.length)
 wV:∃st,aB w B.c F A st
 s1:rp≠g/\rp≠B.ga/\rp≠B.n0
 s2:g≠B.ga/\g≠B.n0/\B.ga≠B.n0
 s3:rp∉F/\g∉F/\B.ga∉F/\B.n0∉F
 dom:∀x,x∈L->bR A (x:Int)=true/\x<T.length
 nd:L.Nodup
 wJ:∀j x,L[j]?=some x->T.getD x 0=j
 tl:T.length<=65536
section
variable {w:World} {B:HB} {F:List Nat} {A:NS} {rp g cap:Nat} {L T:List Nat}
theorem mG.mem (h:mG w B F A rp g cap L T):B.c∈F:=by obtain ⟨st,hC⟩:=h.wV;exact hC.mem
theorem mG.cne (h:mG w B F A rp g cap L T):rp≠B.c/\g≠B.c/\B.ga≠B.c/\B.n0≠B.c:=by
 have hm:=h.mem;have h3:=h.s3;exact ⟨λe=>h3.1 (by rw [e];exact hm),λe=>h3.2.1 (by rw [e];exact hm),λe=>h3.2.2.1 (by rw [e];exact hm),λe=>h3.2.2.2 (by rw [e];exact hm)⟩
theorem mG.h0 (h:mG w B F A rp g cap L T):w.cell? ⟨rp,0,none⟩=some (.pointer (some ⟨B.n0,0,none⟩)):=h.hd.cellAt 0 ω rfl
theorem mG.h1 (h:mG w B F A rp g cap L T):w.cell? ⟨rp,1,none⟩=some (.slice (some ⟨g,0,none⟩) L.length cap):=h.hd.cellAt 1 ω rfl
theorem mG.Es (h:mG w B F A rp g cap L T) (j:Nat) (hj:j<L.length):w.cell? ⟨g,j,none⟩=some (.int .i64 ((L.getD j 0:Nat):Int)):=by
 have:=h.row.cell j (by rw [bQ];exact hj);rwa [lV] at this
theorem mG.II (h:mG w B F A rp g cap L T) (j:Nat) (hj:j<T.length):w.cell? ⟨B.ga,j,none⟩=some (.int .i64 ((T.getD j 0:Nat):Int)):=by
 have:=h.wN.cell j (by rw [bQ];exact hj);rwa [lV] at this
theorem mG.len (h:mG w B F A rp g cap L T):L.length<=65536:=by
 have h1:=nodup_range T.length (L.map (λ(x:Nat)=>(x:Int))) (by
  have hn:=h.nd;unfold List.Nodup at hn ⊢;rw [List.pairwise_map];exact hn.imp (λh e=>h ω)) (λx hx=>by
  obtain ⟨y,hy,rfl⟩:=List.mem_map.1 hx
  have:=(h.dom y hy).2;omega)
 have:=h.tl;simp at h1;omega
theorem mG.YU (h:mG w B F A rp g cap L T):L.length<=cap/\cap<=9223372036854775807:=by
 have:=h.row.cap;rwa [bQ] at this
theorem mG.upd {w':World} {S:List Nat} (h:mG w B F A rp g cap L T) (hu:aa S w w') (hS:∀x,x∈S->x∉rp::g::B.ga::B.n0::F):mG w' B F A rp g cap L T:=by
 have h1:∀x,x∈rp::g::B.ga::B.n0::F->x∉S:=λx hx hg=>hS x hg hx;refine ⟨h.hd.upd hu (h1 _ σ),h.row.upd hu (h1 _ σ),h.wN.upd hu (h1 _ σ),hu.kept h.LW (h1 _ σ),hu.kept h.LK (h1 _ σ),?_,h.s1,h.s2,h.s3,h.dom,h.nd,h.wJ,h.tl⟩;obtain ⟨st,hC⟩:=h.wV;exact ⟨st,hC.upd hu (λx hx hm=>hS x hx (by simp [hm]))⟩
theorem mG.ai {w':World} (h:mG w B F A rp g cap L T) (hu:aa [] w w'):mG w' B F A rp g cap L T:=h.upd hu σ
theorem mG.counted {w':World} {st:Nat} (h:mG w B F A rp g cap L T) (hu:aa [B.c] w w') (hC:aB w' B.c F A st):mG w' B F A rp g cap L T:=by
 have h1:=h.cne;exact ⟨h.hd.upd hu (by simp;exact h1.1),h.row.upd hu (by simp;exact h1.2.1),h.wN.upd hu (by simp;exact h1.2.2.1),hu.kept h.LW (by simp;exact h1.2.2.2),hu.kept h.LK (by simp;exact h1.2.2.2),⟨st,hC⟩,h.s1,h.s2,h.s3,h.dom,h.nd,h.wJ,h.tl⟩
theorem AJ (h:mG w B F A rp g cap L T) :
  Calls Tryz.prog 270 #[.pointer (some ⟨rp,0,none⟩)] w λe w'=>e=.returned (.int .i64 (L.length:Int))/\w'=w:=by
 have c1:=h.h1;have hl:=h.len;clear h;generalize L.length=n at *
 go_enter Tryz.func270,Tryz.ntmps270
 go_wp2;go_ret;exact ⟨rfl,rfl⟩
theorem GL (h:mG w B F A rp g cap L T) (i j:Nat) (hi:i<L.length) (hj:j<L.length) :
  Calls Tryz.prog 275 #[.pointer (some ⟨rp,0,none⟩),.int .i64 (i:Int),.int .i64 (j:Int)] w λe w'=>e=.returned (.bool (decide (dO A (L.getD i 0) (L.getD j 0))))/\mG w' B F A rp g cap L T/\aa [B.c] w w':=by
 have hm:∀k,k<L.length->L.getD k 0∈L:=λk hk=>by
  rw [φ,ε hk];exact ϗ hk
 have d1:=(h.dom _ (hm i hi)).1;have d2:=(h.dom _ (hm j hj)).1;have hce:=h.cne;have c0:∀X,aa [B.c] w X->_:=λX hX=>hX.kept h.h0 (by simp;exact hce.1);have c1:∀X,aa [B.c] w X->_:=λX hX=>hX.kept h.h1 (by simp;exact hce.1);have n0:∀X,aa [B.c] w X->_:=λX hX=>hX.kept h.LW (by simp;exact hce.2.2.2);have ci:∀X,aa [B.c] w X->_:=λX hX=>hX.kept (h.Es i hi) (by simp;exact hce.2.1);have cj:∀X,aa [B.c] w X->_:=λX hX=>hX.kept (h.Es j hj) (by simp;exact hce.2.1);have hl:=h.len;clear hce
 have ka:∀W,aa [] w W->Calls Tryz.prog 164 #[.pointer (some ⟨B.c,0,none⟩),.int .i64 ((L.getD i 0:Nat):Int),.int .i64 ((L.getD j 0:Nat):Int)] W λe w'=>e=.returned (.bool (decide (dO A (L.getD i 0) (L.getD j 0))))/\mG w' B F A rp g cap L T/\aa [B.c] W w':=λW hW=>by
  obtain ⟨st,hC⟩:=h.wV;refine (gW (hC.ai hW) _ _ d1 d2).mono ?_;rintro e w' ⟨rfl,hC',hu⟩;exact ⟨rfl,(h.ai hW).counted hu hC',hu⟩
 clear h hm d1 d2;generalize L.getD i 0=x at *;generalize L.getD j 0=y at *;generalize hn:L.length=n at *;clear hn;generalize decide (dO A x y)=b at *;have Uy:(i:Int)<(n:Int):=ω;have IW:(j:Int)<(n:Int):=ω
 go_enter Tryz.func275,Tryz.ntmps275
 go_upto_region 1 with (fail)
 go_region_held3 (aa [B.c] w) (exact ν)
  (first
   | ((go_at_call 164;(with_reducible refine (ka _ β).mono ?_));rintro e w1 ⟨rfl,hP1,hu1⟩;(have hv1:aa [B.c] w w1:=aa.trans ν hu1)))
 go_wp2;go_ret;exact ⟨rfl,hP1,hv1⟩
end
def zo (T L:List Nat) (i j:Nat):List Nat:=(T.set (L.getD j 0) i).set (L.getD i 0) j
theorem qN (T L:List Nat) (i j:Nat):(zo T L i j).length=T.length:=by unfold zo;simp
theorem qH {L:List Nat} {k:Nat} (hk:k<L.length):L.getD k 0∈L:=by
 rw [φ,ε hk];exact ϗ hk
theorem uQ {L:List Nat} (hn:L.Nodup) {i j:Nat} (hi:i<L.length) (hj:j<L.length) (h:L.getD i 0=L.getD j 0):i=j:=by
 rw [φ,φ,ε hi,ε hj] at h;exact (List.getElem_inj hn).1 h
theorem Ik {T L:List Nat} {i j x:Nat} (hi:i<L.length) (hj:j<L.length) (hx:x∉L):(zo T L i j).getD x 0=T.getD x 0:=by
 unfold zo;rw [cZ,cZ,Γ (λe=>hx (by rw [e.1];exact qH hi)),Γ (λe=>hx (by rw [e.1];exact qH hj))]
theorem Rl {T L:List Nat} {i j:Nat} (hi:i<L.length) (hj:j<L.length) (hne:i≠j) (hn:L.Nodup) (hd:∀x,x∈L->x<T.length) (hp:∀j x,L[j]?=some x->T.getD x 0=j) :
  ∀k x,(fH L i j)[k]?=some x->(zo T L i j).getD x 0=k:=by
 intro k x hk;have hkl:k<L.length:=by
  obtain ⟨h1,_⟩:=List.getElem?_eq_some_iff.1 hk;rwa [jo] at h1
 have hx:x=(fH L i j).getD k 0:=by rw [φ,hk];rfl
 rw [jK hi hj] at hx;unfold zo;rw [cZ,cZ];have hdi:=hd _ (qH hi);have hdj:=hd _ (qH hj)
 by_cases e1:k=j
 ·rw [Δ e1] at hx;rw [Δ ⟨hx,by simpa using hdi⟩,e1]
 ·rw [Γ e1] at hx
  by_cases e2:k=i
  ·rw [Δ e2] at hx;rw [Γ (λe=>hne (uQ hn hi hj (by rw [←hx,←e.1]))),Δ ⟨hx,hdj⟩,e2]
  ·rw [Γ e2] at hx;rw [Γ (λe=>e2 (uQ hn hkl hi (by rw [←hx,←e.1]))),Γ (λe=>e1 (uQ hn hkl hj (by rw [←hx,←e.1])))];exact hp k x (by rw [hx,φ,ε hkl];rfl)
section
variable {w:World} {B:HB} {F:List Nat} {A:NS} {rp g cap:Nat} {L T:List Nat}
theorem xS (h:mG w B F A rp g cap L T) (i j:Nat) (hi:i<L.length) (hj:j<L.length) (hne:i≠j) :
  Calls Tryz.prog 278 #[.pointer (some ⟨rp,0,none⟩),.int .i64 (i:Int),.int .i64 (j:Int)] w λe w'=>e=.returned (.tuple #[])/\mG w' B F A rp g cap (fH L i j) (zo T L i j)/\aa [g,B.ga] w w':=by
 have h0:=h;have c0:=h.h0;have c1:=h.h1;have n2:=h.LK;have ci:=h.Es i hi;have cj:=h.Es j hj;have fi:=h.row.free i;have fj:=h.row.free j;have hl:=h.len;have htl:=h.tl;have hx:=(h.dom _ (qH hi)).2;have hy:=(h.dom _ (qH hj)).2;have ctx:=h.II _ hx;have cty:=h.II _ hy;have ftx:=h.wN.free (L.getD i 0);have fty:=h.wN.free (L.getD j 0);have s1:=h.s1;have s2:=h.s2;have hxy:L.getD i 0≠L.getD j 0:=λe=>hne (uQ h.nd hi hj e);have hs1:bG (fH L i j)=((bG L).set i ((L.getD j 0:Nat):Int)).set j ((L.getD i 0:Nat):Int):=by unfold fH;rw [lK,lK]
 have hs2:bG (zo T L i j)=((bG T).set (L.getD j 0) (i:Int)).set (L.getD i 0) (j:Int):=by unfold zo;rw [lK,lK]
 have Yp:=Rl hi hj hne h.nd (λx hx=>(h.dom x hx).2) h.wJ;have hperm:=sI hi hj hne;have HF:Hid (∀W W2,IZ W g cap (bG (fH L i j))->aa [g] w W->aa [B.ga] W W2->IZ W2 B.ga T.length (bG (zo T L i j))->mG W2 B F A rp g cap (fH L i j) (zo T L i j)/\aa [g,B.ga] w W2):=by
  intro W W2 hr hu hu2 ht;have hu':aa [g,B.ga] w W2:=(hu.mono σ).trans (hu2.mono σ);have h3:=h.s3;refine ⟨⟨?_,hr.upd hu2 (by simp;exact s2.1),by rw [qN];exact ht,hu'.kept h.LW (by simp;exact ⟨λe=>s2.2.1 e.symm,λe=>s2.2.2 e.symm⟩),by rw [qN];exact hu'.kept h.LK (by simp;exact ⟨λe=>s2.2.1 e.symm,λe=>s2.2.2 e.symm⟩),?_,s1,s2,h3,λx hx=>by rw [qN];exact h.dom x (hperm.mem_iff.1 hx),hperm.nodup_iff.2 h.nd,Yp,by rw [qN];exact htl⟩,hu'⟩
  ·rw [jo];exact h.hd.upd hu' (by simp;exact ⟨s1.1,s1.2.1⟩)
  ·obtain ⟨st,hC⟩:=h.wV;exact ⟨st,hC.upd hu' (λx hx hm=>by simp at hx;rcases hx with rfl|rfl;exact h3.2.1 hm;exact h3.2.2.1 hm)⟩
 have HR:Hid (IZ w g cap (bG L)/\IZ w B.ga T.length (bG T)):=⟨h.row,h.wN⟩;clear h h0 Yp hperm;generalize fH L i j=L' at *;generalize zo T L i j=T' at *;generalize L.getD i 0=x at *;generalize L.getD j 0=y at *;generalize T.getD x 0=tx at *;generalize T.getD y 0=ty at *;generalize L.length=n at *;generalize T.length=m at *;have Uy:(i:Int)<(n:Int):=ω;have IW:(j:Int)<(n:Int):=ω;have zS:(x:Int)<(m:Int):=ω;have U4:(y:Int)<(m:Int):=ω;have HS1:=χ hs1;have HS2:=χ hs2;clear hs1 hs2;have hgl:rp≠g:=s1.1;have hne2:¬i=j:=hne
 go_enter Tryz.func278,Tryz.ntmps278
 go_upto_region 0 with (fail)
 go_cut [] (λW=>aa [] ((w.setCell ⟨g,i,none⟩ (.int .i64 (y:Int))).setCell ⟨g,j,none⟩ (.int .i64 (x:Int))) W)
 case first=>
  go_wp2
  go_region
  all_goals
   go_wp2
   go_meet
   first|exact ⟨rfl,rfl,rfl,Θ _,λ_ _ _=>rfl⟩|exact ν
 case rest=>
 have mI:=hcut;clear hcut;rename World=>W;have hr:IZ W g cap (bG L'):=by rw [HS1.out];exact ((HR.out.1.set i _).set j _).upd mI σ
 have hu:aa [g] w W:=aa.then β mI;have d1:W.cell? ⟨g,i,none⟩=some (.int .i64 (y:Int)):=mI.was γ;have d2:W.cell? ⟨g,j,none⟩=some (.int .i64 (x:Int)):=mI.was γ;have e0:=hu.kept c0 (by simp;exact s1.1);have e1:=hu.kept c1 (by simp;exact s1.1);have e2:=hu.kept n2 (by simp;exact λe=>s2.2.1 e.symm);have ex:=hu.kept ctx (by simp;exact λe=>s2.1 e.symm);have ey:=hu.kept cty (by simp;exact λe=>s2.1 e.symm);have gx:=hu.aM ctx (by simp;exact λe=>s2.1 e.symm) ftx;have gy:=hu.aM cty (by simp;exact λe=>s2.1 e.symm) fty;have e00:W.cell? ⟨B.n0,2,none⟩=some (.slice (some ⟨B.ga,0,none⟩) m m):=e2
 have ht:=HR.out.2.upd hu (by simp;exact λe=>s2.1 e.symm);have HT:=χ (ψ ht (ψ hr hu));clear c0 c1 n2 ctx cty ftx fty ci cj fi fj ht hr hu e2 mI;go_wp2
 go_region
 all_goals
  go_wp2;go_end0;obtain ⟨ht,hr,hu⟩:=HT.out;exact ⟨rfl,HF.out _ _ hr hu β (by rw [HS2.out];exact ((ht.drewN _).set y _).set x _)⟩
end
theorem uM {M t:List Nat} {k:Nat} (hk:k<M.length):(M++t).getD k 0=M.getD k 0:=by
 rw [φ,φ,Ρ hk]
theorem KH {M t:List Nat} {i j:Nat} (hi:i<M.length) (hj:j<M.length):fH (M++t) i j=fH M i j++t:=by
 unfold fH;rw [uM hi,uM hj,List.set_append_left _ _ hi,List.set_append_left _ _ (by simpa using hj)]
structure lG (w0:World) (B:HB) (F:List Nat) (A:NS) (rp g cap:Nat) (t M T:List Nat) (w:World) (M' T':List Nat):Prop where
 pi:mG w B F A rp g cap (M'++t) T'
 perm:M'.Perm M
 off:∀x,x∉M++t->T'.getD x 0=T.getD x 0
 tl:T'.length=T.length
 upd:aa [g,B.ga,B.c] w0 w
section
variable {w0 w:World} {B:HB} {F:List Nat} {A:NS} {rp g cap:Nat} {t M T M' T':List Nat}
theorem lG.start (h:mG w B F A rp g cap (M++t) T):lG w B F A rp g cap t M T w M T:=⟨h,ό _,λ_ _=>rfl,rfl,aa.refl _ _⟩
theorem lG.asked {w':World} (h:lG w0 B F A rp g cap t M T w M' T') (hp:mG w' B F A rp g cap (M'++t) T') (hu:aa [B.c] w w'):lG w0 B F A rp g cap t M T w' M' T':=
 ⟨hp,h.perm,h.off,h.tl,h.upd.trans (hu.mono σ)⟩
theorem lG.swap {w':World} {i j:Nat} (h:lG w0 B F A rp g cap t M T w M' T') (hi:i<M'.length) (hj:j<M'.length) (hne:i≠j) (hp:mG w' B F A rp g cap (fH (M'++t) i j) (zo T' (M'++t) i j)) (hu:aa [g,B.ga] w w') :
  lG w0 B F A rp g cap t M T w' (fH M' i j) (zo T' (M'++t) i j):=by
 refine ⟨by rw [←KH hi hj];exact hp,(sI hi hj hne).trans h.perm,λx hx=>?_,by rw [qN];exact h.tl,h.upd.trans (hu.mono σ)⟩;rw [Ik (by rw [υ];omega) (by rw [υ];omega) (λhm=>hx ?_)]
 ·exact h.off x hx
 ·exact (h.perm.append_right t).mem_iff.1 hm
theorem yc {a b:Nat} (hne:a≠b) (h:¬mX A a b):mX A b a:=by
 rcases jS (A:=A) hne with h1|h1
 ·exact absurd (dN.2 h1) h
 ·exact dN.2 h1
theorem lG.ne (h:lG w0 B F A rp g cap t M T w M' T') {i j:Nat} (hi:i<M'.length) (hj:j<M'.length) (hne:i≠j):M'.getD i 0≠M'.getD j 0:=λe=>hne (uQ (θ.1 h.pi.nd).1 hi hj e)
theorem Io (rp:Nat):∀W:World,(method 409 298 (.pointer (some ⟨rp,0,none⟩)) "Less").run Tryz.prog W=.ok (275,.pointer (some ⟨rp,0,none⟩)) W:=λ_=>by kernel_rfl
theorem Bi (rp:Nat):∀W:World,(method 409 298 (.pointer (some ⟨rp,0,none⟩)) "Swap").run Tryz.prog W=.ok (278,.pointer (some ⟨rp,0,none⟩)) W:=λ_=>by kernel_rfl
theorem Oa (rp:Nat):∀W:World,(method 409 298 (.pointer (some ⟨rp,0,none⟩)) "Len").run Tryz.prog W=.ok (270,.pointer (some ⟨rp,0,none⟩)) W:=λ_=>by kernel_rfl
theorem Qt (rp:Nat):∀W:World,(method 409 298 (.pointer (some ⟨rp,0,none⟩)) "Push").run Tryz.prog W=.ok (277,.pointer (some ⟨rp,0,none⟩)) W:=λ_=>by kernel_rfl
theorem U9 (rp:Nat):∀W:World,(method 409 298 (.pointer (some ⟨rp,0,none⟩)) "Pop").run Tryz.prog W=.ok (276,.pointer (some ⟨rp,0,none⟩)) W:=λ_=>by kernel_rfl
theorem lG.less (h:lG w0 B F A rp g cap t M T w M' T') {i j:Nat} (hi:i<M'.length) (hj:j<M'.length) {b:Bool} (hb:decide (dO A (M'.getD i 0) (M'.getD j 0))=b) :
  Calls Tryz.prog 275 #[.pointer (some ⟨rp,0,none⟩),.int .i64 (i:Int),.int .i64 (j:Int)] w λe w'=>e=.returned (.bool b)/\lG w0 B F A rp g cap t M T w' M' T':=by
 have k:=GL h.pi i j (by rw [υ];omega) (by rw [υ];omega);rw [uM hi,uM hj,hb] at k;exact k.mono (λe w' hh=>⟨hh.1,h.asked hh.2.1 hh.2.2⟩)
theorem lG.swaps (h:lG w0 B F A rp g cap t M T w M' T') {i j:Nat} (hi:i<M'.length) (hj:j<M'.length) (hne:i≠j) :
  Calls Tryz.prog 278 #[.pointer (some ⟨rp,0,none⟩),.int .i64 (i:Int),.int .i64 (j:Int)] w λe w'=>e=.returned (.tuple #[])/\lG w0 B F A rp g cap t M T w' (fH M' i j) (zo T' (M'++t) i j):=
 (xS h.pi i j (by rw [υ];omega) (by rw [υ];omega) hne).mono (λe w' hh=>⟨hh.1,h.swap hi hj hne hh.2.1 hh.2.2⟩)
theorem Eg (h0:lG w0 B F A rp g cap t M T w M' T') (j0:Nat) (hH:fI (mX A) 2 M' j0) (hB:Below (mX A) 2 M' j0 (M'.getD j0 0)) :
  Calls Tryz.prog 272 #[.iface 298 (.pointer (some ⟨rp,0,none⟩)),.int .i64 (j0:Int)] w λe w'=>e=.returned (.tuple #[])/\∃M2 T2,lG w0 B F A rp g cap t M T w' M2 T2/\Hp (mX A) 2 M2:=by
 have m1:=Io rp;have m2:=Bi rp;have HI:=χ (ψ h0 (ψ hH hB));clear h0 hH hB
 go_enter Tryz.func272,Tryz.ntmps272
 go_wp2
 go_loopw [1,4] (λv1 v4 wr=>∃ (j:Nat) (M2 T2:List Nat),v1=.int .i64 (j:Int)/\lG w0 B F A rp g cap t M T wr M2 T2/\fI (mX A) 2 M2 j/\Below (mX A) 2 M2 j (M2.getD j 0)) (λv1 _ _=>(intOf v1).toNat)
 case atStart=>exact ⟨j0,M',T',rfl,HI.out.1,HI.out.2.1,HI.out.2.2⟩
 case round=>
  obtain ⟨j,M2,T2,rfl,hP,hH,hB⟩:=hrel;rename World=>wr;have hjl:=hH.lt;have hlen:(M2++t).length<=65536:=hP.pi.len;rw [υ] at hlen
  by_cases hj0:j=0
  ·subst hj0;have hF:=hH.done ω hB (Α rfl);have HQ:=χ (ψ hP hF);clear hP hH hB hF hjl hlen;go_wp2;go_end0;exact ⟨rfl,M2,T2,HQ.out.1,HQ.out.2⟩
  ·have hp:=eB (d:=2) ω (show 0<j by omega);have hq:((j:Int)-1).tdiv 2=(par 2 j:Int):=by
    unfold par;rw [show (j:Int)-1=((j-1:Nat):Int) by omega]
    rfl
   have hne:=hP.ne hjl (show par 2 j<M2.length by omega) ω;cases hb:decide (dO A (M2.getD j 0) (M2.getD (par 2 j) 0)) with
   | false=>
    have kl:=hP.less hjl (show par 2 j<M2.length by omega) hb;have hF:=hH.done ω hB (Β (yc hne (λh=>by rw [dN] at h;rw [decide_eq_false_iff_not] at hb;exact hb h)));have HQ:=χ hF;clear hP hH hB hF hb hne;generalize par 2 j=p at *;have Vs:(p:Int)<(j:Int):=ω;have ZU:((p:Int) == (j:Int))=false:=ζ;have hj1:0<j:=ω;clear hj0
    go_wp2_with (first
     | ((go_at_call 275;(with_reducible refine (kl).mono ?_));rintro e w1 ⟨rfl,hP1⟩)
     | fail)
    go_end0;exact ⟨rfl,M2,T2,hP1,HQ.out⟩
   | true=>
    have kl:=hP.less hjl (show par 2 j<M2.length by omega) hb;have hS:=hH.UO (gZ A) ω (dN.2 (Ϡ hb));have ks:∀w1,lG w0 B F A rp g cap t M T w1 M2 T2->_:=λw1 h1=>lG.swaps h1 (show par 2 j<M2.length by omega) hjl ω;have HQ:=χ hS;clear hP hH hB hS hb hne;generalize par 2 j=p at *;have Vs:(p:Int)<(j:Int):=ω;have ZU:((p:Int) == (j:Int))=false:=ζ;have hj1:0<j:=ω;clear hj0
    go_wp2_with (first
     | ((go_at_call 275;(with_reducible refine (kl).mono ?_));rintro e w1 ⟨rfl,hP1⟩)
     | ((go_at_call 278;(with_reducible refine (ks _ hP1).mono ?_));rintro e w2 ⟨rfl,hP2⟩)
     | fail)
    go_roundw
    case rel=>exact ⟨p,_,_,by go_num,hP2,HQ.out.1,HQ.out.2⟩
    case measure=>simp [intOf];omega
end
section
variable {w0 w:World} {B:HB} {F:List Nat} {A:NS} {rp g cap:Nat} {t M T M' T':List Nat}
def PE (A:NS) (i0:Nat) (b:Bool) (M2:List Nat):Prop:=(b=true->Hp (mX A) 2 M2)/\(b=false->fI (mX A) 2 M2 i0/\Below (mX A) 2 M2 i0 (M2.getD i0 0))
theorem rH {i0 i:Nat} {M2:List Nat} (hH:fI (mX A) 2 M2 i) (hB:Below (mX A) 2 M2 i (M2.getD i 0)) (h0:i0<=i) (hu:i0<i->mX A (M2.getD (par 2 i) 0) (M2.getD i 0)):PE A i0 (decide (i0<i)) M2:=by
 constructor
 ·intro h;exact hH.done ω hB (Β (hu (by simp at h;omega)))
 ·intro h;have e:i=i0:=by simp at h;omega
  subst e;exact ⟨hH,hB⟩
def NZ (w0:World) (B:HB) (F:List Nat) (A:NS) (rp g cap:Nat) (t M T:List Nat) (w:World) (i0 i2:Nat):Prop:=∃M2 T2,lG w0 B F A rp g cap t M T w M2 T2/\PE A i0 (decide (i0<i2)) M2
theorem GA (h0:lG w0 B F A rp g cap t M T w M' T') (i0 n:Nat) (hn:n=M'.length) (hH:fI (mX A) 2 M' i0) :
  Calls Tryz.prog 271 #[.iface 298 (.pointer (some ⟨rp,0,none⟩)),.int .i64 (i0:Int),.int .i64 (n:Int)] w λe w'=>∃i2,e=.returned (.bool (decide (i0<i2)))/\NZ w0 B F A rp g cap t M T w' i0 i2:=by
 have m1:=Io rp;have m2:=Bi rp;have HI:=χ (ψ h0 (ψ hH hn));clear h0 hH hn
 go_enter Tryz.func271,Tryz.ntmps271
 go_wp2
 go_loopw [7,8,9,10] (λv7 v8 v9 v10 wr=>∃ (i:Nat) (M2 T2:List Nat),v7=.int .i64 (i:Int)/\lG w0 B F A rp g cap t M T wr M2 T2/\fI (mX A) 2 M2 i/\M2.length=n/\i0<=i/\(i0<i->mX A (M2.getD (par 2 i) 0) (M2.getD i 0))) (λv7 _ _ _ _=>n-(intOf v7).toNat)
 case atStart=>exact ⟨i0,M',T',rfl,HI.out.1,HI.out.2.1,HI.out.2.2.symm,Θ _,λh=>absurd h (Nat.lt_irrefl _)⟩
 case round=>
  obtain ⟨i,M2,T2,rfl,hP,hH,hl,hi0,hu⟩:=hrel;rename World=>wr;have hil:=hH.lt;rw [hl] at hil;have hlen:(M2++t).length<=65536:=hP.pi.len;rw [υ,hl] at hlen;obtain ⟨j1,hj1⟩:∃j1,j1=2*i+1:=⟨_,rfl⟩;have he1:2*(i:Int)+1=(j1:Int):=ω;obtain ⟨j2,hj2⟩:∃j2,j2=j1+1:=⟨_,rfl⟩;have he2:(j1:Int)+1=(j2:Int):=ω;have hj10:¬ (j1:Int)<0:=ω
  by_cases hc1:j1<n
  ·have hc1I:¬ (j1:Int)≥(n:Int):=ω;have ht1:=J6 (R:=mX A) (L:=M2) (i:=i) hl ω (λh2 hr=>yc (hP.ne ω ω ω) hr);rw [show 2*i+1=j1 from hj1.symm,show 2*i+2=j2 by omega] at ht1
   by_cases hc2:j2<n
   ·have hc2I:(j2:Int)<(n:Int):=ω;cases hb1:decide (dO A (M2.getD j2 0) (M2.getD j1 0)) with
    | true=>
     have hF:=ht1.2 ⟨hc2,dN.2 (Ϡ hb1)⟩;have Tm:=hP.less (show j2<M2.length by omega) (show j1<M2.length by omega) hb1;cases hb2:decide (dO A (M2.getD j2 0) (M2.getD i 0)) with
     | true=>
      have Oq:∀w1,lG w0 B F A rp g cap t M T w1 M2 T2->_:=λw1 h1=>lG.less h1 (show j2<M2.length by omega) (show i<M2.length by omega) hb2;have ks:∀w1,lG w0 B F A rp g cap t M T w1 M2 T2->_:=λw1 h1=>lG.swaps h1 (show i<M2.length by omega) (show j2<M2.length by omega) ω;have hS:=hH.xU (gZ A) hF (dN.2 (Ϡ hb2));have HQ:=χ (ψ hS hl);have hj3:i<j2:=ω;clear hP hH hu hF hb1 hb2 hS ht1 hl hj1 hj2
      go_wp2_with (first|((go_at_call 275;(with_reducible refine (Tm).mono ?_));rintro e w1 ⟨rfl,hP1⟩)|((go_at_call 275;(with_reducible refine (Oq _ hP1).mono ?_));rintro e w2 ⟨rfl,hP2⟩)|((go_at_call 278;(with_reducible refine (ks _ hP2).mono ?_));rintro e w3 ⟨rfl,hP3⟩)|fail)
      go_roundw
      case rel=>exact ⟨j2,_,_,by go_num,hP3,HQ.out.1.1,by rw [jo];exact HQ.out.2,ω,λ_=>HQ.out.1.2⟩
      case measure=>simp [intOf];omega
     | false=>
      have Oq:∀w1,lG w0 B F A rp g cap t M T w1 M2 T2->_:=λw1 h1=>lG.less h1 (show j2<M2.length by omega) (show i<M2.length by omega) hb2;have hx:=yc (hP.ne (show j2<M2.length by omega) (show i<M2.length by omega) ω) (λh=>by rw [dN] at h;rw [decide_eq_false_iff_not] at hb2;exact hb2 h);have hE:=rH hH (mU (gZ A) hF hx) hi0 hu;have HQ:=χ hE;clear hP hH hu hF hb1 hb2 hE ht1 hl hj1 hj2 hx
      go_wp2_with (first|((go_at_call 275;(with_reducible refine (Tm).mono ?_));rintro e w1 ⟨rfl,hP1⟩)|((go_at_call 275;(with_reducible refine (Oq _ hP1).mono ?_));rintro e w2 ⟨rfl,hP2⟩)|fail)
      go_ret;exact ⟨i,rfl,M2,T2,hP2,HQ.out⟩
    | false=>
     have hF:=ht1.1 (λh=>by rw [decide_eq_false_iff_not] at hb1;exact hb1 (dN.1 h.2));have Tm:=hP.less (show j2<M2.length by omega) (show j1<M2.length by omega) hb1;cases hb2:decide (dO A (M2.getD j1 0) (M2.getD i 0)) with
     | true=>
      have Oq:∀w1,lG w0 B F A rp g cap t M T w1 M2 T2->_:=λw1 h1=>lG.less h1 (show j1<M2.length by omega) (show i<M2.length by omega) hb2;have ks:∀w1,lG w0 B F A rp g cap t M T w1 M2 T2->_:=λw1 h1=>lG.swaps h1 (show i<M2.length by omega) (show j1<M2.length by omega) ω;have hS:=hH.xU (gZ A) hF (dN.2 (Ϡ hb2));have HQ:=χ (ψ hS hl);have hj3:i<j1:=ω;clear hP hH hu hF hb1 hb2 hS ht1 hl hj1 hj2
      go_wp2_with (first|((go_at_call 275;(with_reducible refine (Tm).mono ?_));rintro e w1 ⟨rfl,hP1⟩)|((go_at_call 275;(with_reducible refine (Oq _ hP1).mono ?_));rintro e w2 ⟨rfl,hP2⟩)|((go_at_call 278;(with_reducible refine (ks _ hP2).mono ?_));rintro e w3 ⟨rfl,hP3⟩)|fail)
      go_roundw
      case rel=>exact ⟨j1,_,_,by go_num,hP3,HQ.out.1.1,by rw [jo];exact HQ.out.2,ω,λ_=>HQ.out.1.2⟩
      case measure=>simp [intOf];omega
     | false=>
      have Oq:∀w1,lG w0 B F A rp g cap t M T w1 M2 T2->_:=λw1 h1=>lG.less h1 (show j1<M2.length by omega) (show i<M2.length by omega) hb2;have hx:=yc (hP.ne (show j1<M2.length by omega) (show i<M2.length by omega) ω) (λh=>by rw [dN] at h;rw [decide_eq_false_iff_not] at hb2;exact hb2 h);have hE:=rH hH (mU (gZ A) hF hx) hi0 hu;have HQ:=χ hE;clear hP hH hu hF hb1 hb2 hE ht1 hl hj1 hj2 hx
      go_wp2_with (first|((go_at_call 275;(with_reducible refine (Tm).mono ?_));rintro e w1 ⟨rfl,hP1⟩)|((go_at_call 275;(with_reducible refine (Oq _ hP1).mono ?_));rintro e w2 ⟨rfl,hP2⟩)|fail)
      go_ret;exact ⟨i,rfl,M2,T2,hP2,HQ.out⟩
   ·have hc2I:¬ (j2:Int)<(n:Int):=ω;have hc2D:decide ((j2:Int)<(n:Int))=false:=ζ;have hF:=ht1.1 (λh=>hc2 h.1);have hP1:=hP;cases hb2:decide (dO A (M2.getD j1 0) (M2.getD i 0)) with
    | true=>
     have Oq:∀w1,lG w0 B F A rp g cap t M T w1 M2 T2->_:=λw1 h1=>lG.less h1 (show j1<M2.length by omega) (show i<M2.length by omega) hb2;have ks:∀w1,lG w0 B F A rp g cap t M T w1 M2 T2->_:=λw1 h1=>lG.swaps h1 (show i<M2.length by omega) (show j1<M2.length by omega) ω;have hS:=hH.xU (gZ A) hF (dN.2 (Ϡ hb2));have HQ:=χ (ψ hS hl);have hj3:i<j1:=ω;clear hP hH hu hF hb2 hS ht1 hl hj1 hj2
     go_wp2_with (first|((go_at_call 275;(with_reducible refine (Oq _ hP1).mono ?_));rintro e w2 ⟨rfl,hP2⟩)|((go_at_call 278;(with_reducible refine (ks _ hP2).mono ?_));rintro e w3 ⟨rfl,hP3⟩)|fail)
     go_roundw
     case rel=>exact ⟨j1,_,_,by go_num,hP3,HQ.out.1.1,by rw [jo];exact HQ.out.2,ω,λ_=>HQ.out.1.2⟩
     case measure=>simp [intOf];omega
    | false=>
     have Oq:∀w1,lG w0 B F A rp g cap t M T w1 M2 T2->_:=λw1 h1=>lG.less h1 (show j1<M2.length by omega) (show i<M2.length by omega) hb2;have hx:=yc (hP.ne (show j1<M2.length by omega) (show i<M2.length by omega) ω) (λh=>by rw [dN] at h;rw [decide_eq_false_iff_not] at hb2;exact hb2 h);have hE:=rH hH (mU (gZ A) hF hx) hi0 hu;have HQ:=χ hE;clear hP hH hu hF hb2 hE ht1 hl hj1 hj2 hx
     go_wp2_with (first|((go_at_call 275;(with_reducible refine (Oq _ hP1).mono ?_));rintro e w2 ⟨rfl,hP2⟩)|fail)
     go_ret;exact ⟨i,rfl,M2,T2,hP2,HQ.out⟩
  ·have hc1I:(j1:Int)≥(n:Int):=ω;have hE:=rH hH (yf ω ω) hi0 hu;have HQ:=χ (ψ hP hE);clear hP hH hu hE hl hj1 hj2;go_wp2;go_ret;exact ⟨i,rfl,M2,T2,HQ.out.1,HQ.out.2⟩
end
structure Ac (w:World) (B:HB) (F:List Nat) (A:NS) (rp:Nat) (v:Value) (L T:List Nat):Prop where
 hd:aJ w rp 302 2 (IL B v)
 own:w.ownsRow 0 3 1 v L.length (aT (bG L))
 wN:IZ w B.ga T.length (bG T)
 LW:w.cell? ⟨B.n0,0,none⟩=some (.pointer (some ⟨B.c,0,none⟩))
 LK:w.cell? ⟨B.n0,2,none⟩=some (.slice (some ⟨B.ga,0,none⟩) T.length T.length)
 wV:∃st,aB w B.c F A st
 s1:rp≠B.ga/\rp≠B.n0
 sg:∀g,v.ownBlock=some g->g≠rp/\g≠B.ga/\g≠B.n0/\g∉F
 s2:B.ga≠B.n0
 s3:rp∉F/\B.ga∉F/\B.n0∉F
 dom:∀x,x∈L->bR A (x:Int)=true/\x<T.length
 nd:L.Nodup
 wJ:∀j x,L[j]?=some x->T.getD x 0=j
 tl:T.length<=65536
section
variable {w:World} {B:HB} {F:List Nat} {A:NS} {rp g cap:Nat} {v:Value} {L T:List Nat}
theorem Ac.full (h:Ac w B F A rp v L T) (hl:0<L.length):∃g cap,v=.slice (some ⟨g,0,none⟩) L.length cap/\mG w B F A rp g cap L T:=by
 have ho:=h.own;rw [←bQ] at ho;obtain ⟨g,cap,rfl,hz, -⟩:=IZ.iO ho (by rw [bQ];exact hl);have hs:=h.sg g rfl;rw [bQ];refine ⟨g,cap,rfl,?_,hz,h.wN,h.LW,h.LK,h.wV,⟨λe=>hs.1 e.symm,h.s1.1,h.s1.2⟩,⟨hs.2.1,hs.2.2.1,h.s2⟩,⟨h.s3.1,hs.2.2.2,h.s3.2.1,h.s3.2.2⟩,h.dom,h.nd,h.wJ,h.tl⟩;have:=h.hd;rwa [bQ] at this
theorem mG.any (h:mG w B F A rp g cap L T):Ac w B F A rp (.slice (some ⟨g,0,none⟩) L.length cap) L T:=by
 have ho:=h.row.own;rw [bQ] at ho;refine ⟨h.hd,ho,h.wN,h.LW,h.LK,h.wV,h.s1.2,λk hk=>?_,h.s2.2.2,⟨h.s3.1,h.s3.2.2⟩,h.dom,h.nd,h.wJ,h.tl⟩;cases hk;exact ⟨λe=>h.s1.1 e.symm,h.s2.1,h.s2.2.1,h.s3.2.1⟩
theorem Ac.len (h:Ac w B F A rp v L T):L.length<=65536:=by
 rcases Nat.eq_zero_or_pos L.length with e|e
 ·omega
 ·obtain ⟨g,cap, -,hM⟩:=h.full e;exact hM.len
theorem Ac.upd {w':World} {S:List Nat} (h:Ac w B F A rp v L T) (hu:aa S w w') (hS:∀x,x∈S->x∉rp::B.ga::B.n0::(F++v.ownBlock.toList)):Ac w' B F A rp v L T:=by
 have h1:∀x,x∈rp::B.ga::B.n0::(F++v.ownBlock.toList)->x∉S:=λx hx hg=>hS x hg hx;refine ⟨h.hd.upd hu (h1 _ σ),au h.own hu (λk hk=>h1 k (by simp [Option.mem_toList,hk])),h.wN.upd hu (h1 _ σ),hu.kept h.LW (h1 _ σ),hu.kept h.LK (h1 _ σ),?_,h.s1,h.sg,h.s2,h.s3,h.dom,h.nd,h.wJ,h.tl⟩;obtain ⟨st,hC⟩:=h.wV;exact ⟨st,hC.upd hu (λx hx hm=>hS x hx (by simp [hm]))⟩
theorem Ac.ai {w':World} (h:Ac w B F A rp v L T) (hu:aa [] w w'):Ac w' B F A rp v L T:=h.upd hu σ
theorem J7 (l:List Nat) (x:Nat):bG (l++[x])=bG l++[(x:Int)]:=by unfold bG;simp
theorem Px {L T:List Nat} {x:Nat} (hx:x∉L) (L8:x<T.length) (h:∀j x,L[j]?=some x->T.getD x 0=j):∀j y,(L++[x])[j]?=some y->(T.set x L.length).getD y 0=j:=by
 intro j y hj;rw [cZ]
 by_cases e:j<L.length
 ·rw [Ρ e] at hj;rw [Γ (λh'=>hx (by rw [←h'.1];exact Η hj))];exact h j y hj
 ·rw [ϊ ω] at hj;have e2:j-L.length=0:=by
   rcases Nat.eq_zero_or_pos (j-L.length) with h'|h'
   ·exact h'
   ·rw [List.getElem?_eq_none ζ] at hj;cases hj
  rw [e2] at hj;simp at hj;rw [Δ ⟨hj.symm,L8⟩];omega
theorem FD (h:Ac w B F A rp v L T) (x:Nat) (hx:x∉L) (hin:bR A (x:Int)=true) (L8:x<T.length) (hl:L.length<T.length) :
  Calls Tryz.prog 277 #[.pointer (some ⟨rp,0,none⟩),.iface 3 (.int .i64 (x:Int))] w λe w'=>e=.returned (.tuple #[])/\∃g cap,mG w' B F A rp g cap (L++[x]) (T.set x L.length)/\aa (rp::B.ga::v.ownBlock.toList) w w'/\(v.ownBlock=some g\/w.heap.size<=g):=by
 have hle:=h.len;obtain ⟨av,cv,rfl,hcv⟩:=bz h.own;have c0:w.cell? ⟨rp,0,none⟩=some (.pointer (some ⟨B.n0,0,none⟩)):=h.hd.cellAt 0 ω rfl;have c1:w.cell? ⟨rp,1,none⟩=some (.slice av L.length cv):=h.hd.cellAt 1 ω rfl;have n2:=h.LK;have ct:w.cell? ⟨B.ga,x,none⟩=some (.int .i64 ((T.getD x 0:Nat):Int)):=by
  have:=h.wN.cell x (by rw [bQ];exact L8);rwa [lV] at this
 have ft:=h.wN.free x;have fr:=h.hd.free 1;have htl:=h.tl;have HH:=χ (ψ h (ψ hx (ψ hin L8)));have zS:(x:Int)<(T.length:Int):=ω;have s1:=h.s1;have s2:=h.s2;clear h hx hin;generalize hn:L.length=n at *;generalize hm:T.length=m at *;have HN:=χ (ψ hn hm);clear hn hm;generalize T.getD x 0=tx at *;have yX:∀W:World,(Instr.typeAssert (.iface 3 (.int .i64 (x:Int))) 20 3 false).run Tryz.prog W=.ok (.int .i64 (x:Int)) W:=λW=>by kernel_rfl
 go_enter Tryz.func277,Tryz.ntmps277
 go_upto_region 1 with (fail)
 go_cut [] (λW=>aa [] (w.setCell ⟨B.ga,x,none⟩ (.int .i64 (n:Int))) W)
 case first=>
  go_wp2
  go_region
  all_goals
   go_wp2
   go_meet
   first|exact ⟨rfl,rfl,rfl,Θ _,λ_ _ _=>rfl⟩|exact ν
 case rest=>
 have mI:=hcut;clear hcut;rename World=>W;obtain ⟨h,hx,hin,Vd⟩:=HH.out;have hu:aa [B.ga] w W:=aa.then β mI;have e1:W.cell? ⟨rp,1,none⟩=some (.slice av n cv):=hu.kept c1 (by simp;exact s1.1);have QF:=hu.aM c1 (by simp;exact s1.1) fr;have hT:IZ W B.ga m (bG (T.set x n)):=by
  rw [lK];have:=h.wN;rw [HN.out.2] at this;exact (this.set x _).upd mI σ
 have ho:W.ownsRow 0 3 1 (.slice av n cv) n (aT (bG L)):=by
  have:=au h.own hu (λk hk=>by simp;exact (h.sg k hk).2.1);rwa [HN.out.1] at this
 have HP:=χ (ψ hu hT);clear h hx hin hu hT c0 c1 n2 ct ft fr mI;have hrl:rp<W.heap.size:=Ε _ _ e1
 go_wp2_with (first
  | ((at_builtin;refine aW rfl _ _ 77 rfl 0 3 (.int .i64 0) 1 8 Tryz.underlying77 fF rfl δ _ _ _ rfl (ho) [.int .i64 (x:Int)] rfl (by simp [Value.oneCell']) (by first|rfl|(rw [Κ];rfl)) μ ω (ω) ?_;intro v2 w3 ho3 hu3 El);obtain ⟨g3,c3,rfl,_,hg3l,_,hc3, -, -⟩:=ed ho3 ω;(have er:¬ (Value.slice av n cv).ownBlock=some rp:=λe=>(HH.out.1.sg rp e).1 rfl);(have e2:=hu3.kept e1 (λhm=>er (Option.mem_toList.1 hm)));(have fr2:=hu3.aM e1 (λhm=>er (Option.mem_toList.1 hm)) QF))
  | fail)
 go_end0;obtain ⟨h,hx,hin,Vd⟩:=HH.out;obtain ⟨hu,hT⟩:=HP.out;have hsz:=hu.size;have hgx:(Value.slice av n cv).ownBlock=some g3\/w.heap.size<=g3:=by
  rcases El with e|e
  ·exact Α (e.symm.trans rfl)
  ·exact Β (by have:=e g3 rfl;omega)
 have hw4:aa [rp] w3 (w3.setCell ⟨rp,1,none⟩ (.slice (some ⟨g3,0,none⟩) (n+1) c3)):=β;have huA:aa (rp::B.ga::(Value.slice av n cv).ownBlock.toList) w (w3.setCell ⟨rp,1,none⟩ (.slice (some ⟨g3,0,none⟩) (n+1) c3)):=((hu.mono σ).trans (hu3.mono (λz hz=>Λ _ (Λ _ hz)))).trans (hw4.mono σ);have hgs:g3≠rp/\g3≠B.ga/\g3≠B.n0/\g3∉F:=by
  rcases hgx with e|e
  ·exact h.sg g3 e
  ·refine ⟨λe2=>?_,λe2=>?_,λe2=>?_,λhm=>?_⟩
   ·have:=h.hd.lt;omega
   ·have:=h.wN.lt;omega
   ·have:=Ε _ _ h.LW;dsimp only at this;omega
   ·obtain ⟨st,hC⟩:=h.wV;have:=hC.lt g3 hm;omega
 have hoff:∀z,z∈rp::B.ga::(Value.slice av n cv).ownBlock.toList->z≠B.n0/\z∉F:=λz hz=>by
  simp only [ρ] at hz;rcases hz with rfl|rfl|hz
  ·exact ⟨h.s1.2,h.s3.1⟩
  ·exact ⟨h.s2,h.s3.2.1⟩
  ·have:=h.sg z (Option.mem_toList.1 hz);exact ⟨this.2.2.1,this.2.2.2⟩
 refine ⟨rfl,g3,c3,⟨?_,?_,?_,huA.kept h.LW (λhm=>(hoff _ hm).1 rfl),?_,?_,⟨λe=>hgs.1 e.symm,h.s1⟩,⟨hgs.2.1,hgs.2.2.1,h.s2⟩,⟨h.s3.1,hgs.2.2.2,h.s3.2⟩,λy hy=>?_,?_,?_,?_⟩,huA,hgx⟩
 ·rw [υ,HN.out.1];refine (((h.hd.upd hu (by simp;exact s1.1)).upd hu3 (λhm=>er (Option.mem_toList.1 hm))).set 1 _).ext (λj hj=>?_);rcases (ω:j=0\/j=1) with rfl|rfl<;>rfl
 ·refine ⟨?_⟩;rw [J7,υ,bQ,HN.out.1,bZ];exact au ho3 hw4 (λk hk=>by cases hk;simp;exact hgs.1)
 ·rw [Ι,HN.out.2];exact (hT.upd hu3 (λhm=>(h.sg B.ga (Option.mem_toList.1 hm)).2.1 rfl)).upd hw4 (by simp;exact λe=>s1.1 e.symm)
 ·rw [Ι];exact huA.kept h.LK (λhm=>(hoff _ hm).1 rfl)
 ·obtain ⟨st,hC⟩:=h.wV;exact ⟨st,hC.upd huA (λz hz=>(hoff z hz).2)⟩
 ·rw [Ι];rcases τ.1 hy with e|e
  ·exact h.dom y e
  ·simp at e;subst e;exact ⟨hin,by rw [HN.out.2];exact Vd⟩
 ·rw [θ];exact ⟨h.nd,σ,λa ha b hb e=>by simp at hb;subst hb;subst e;exact hx ha⟩
 ·have:=Px hx (by rw [HN.out.2];exact Vd) h.wJ;rwa [HN.out.1] at this
 ·rw [Ι];exact h.tl
end
section
variable {w:World} {B:HB} {F:List Nat} {A:NS} {rp g cap:Nat} {v:Value} {L T M:List Nat}
theorem zU (x:Nat) (h:mG w B F A rp g cap (M++[x]) T) :
  Calls Tryz.prog 276 #[.pointer (some ⟨rp,0,none⟩)] w λe w'=>e=.returned (.iface 3 (.int .i64 (x:Int)))/\Ac w' B F A rp (.slice (some ⟨g,0,none⟩) M.length cap) M T/\aa [rp] w w':=by
 have c1:=h.h1;have hl:=h.len;have cx:=h.Es M.length σ;have ex:(M++[x]).getD M.length 0=x:=by simp [φ]
 rw [ex] at cx;have fr:=h.hd.free 1;have hcb:=h.YU;rw [υ,List.length_singleton] at c1 hl hcb;have s1:=h.s1;have HF:Hid (∀W,aa [] (w.setCell ⟨rp,1,none⟩ (.slice (some ⟨g,0,none⟩) M.length cap)) W->Ac W B F A rp (.slice (some ⟨g,0,none⟩) M.length cap) M T/\aa [rp] w W):=by
  intro W hW;have hu:aa [rp] w W:=aa.then β hW;have s3:=h.s3;have hr:=h.row.own;rw [bQ] at hr;have ho:=Dw hr (k:=M.length) σ;rw [xA,yQ,List.take_left'  rfl] at ho;refine ⟨⟨?_,au ho hu (λk hk=>by cases hk;simp;exact λe=>s1.1 e.symm),h.wN.upd hu (by simp;exact λe=>s1.2.1 e.symm),hu.kept h.LW (by simp;exact λe=>s1.2.2 e.symm),hu.kept h.LK (by simp;exact λe=>s1.2.2 e.symm),?_,s1.2,λk hk=>?_,h.s2.2.2,⟨s3.1,s3.2.2⟩,λy hy=>h.dom y (τ.2 (Α hy)),(θ.1 h.nd).1,λj y hj=>h.wJ j y ?_,h.tl⟩,hu⟩
  ·refine (((h.hd.set 1 _).ext (λj hj=>?_)).upd hW σ);rcases (ω:j=0\/j=1) with rfl|rfl<;>rfl
  ·obtain ⟨st,hC⟩:=h.wV;exact ⟨st,hC.upd hu (λz hz hm=>by simp at hz;subst hz;exact s3.1 hm)⟩
  ·cases hk;exact ⟨λe=>s1.1 e.symm,h.s2.1,h.s2.2.1,s3.2.1⟩
  ·obtain ⟨hj',_⟩:=List.getElem?_eq_some_iff.1 hj;rw [Ρ hj'];exact hj
 clear h ex;generalize M.length=n at *;have Wu:(n:Int)+1-1=(n:Int):=ω;have hcI:(n:Int)<(cap:Int):=ω;have hw1:IntKind.i64.wrap (n:Int)=(n:Int):=Μ _ ω;obtain ⟨n1,hn1⟩:∃n1,n1=n+1:=⟨_,rfl⟩;rw [←hn1] at c1 hl hcb;have hnJ:(n1:Int)-1=(n:Int):=ω;have hn2:(n:Int)<(n1:Int):=ω;clear hn1
 go_enter Tryz.func276,Tryz.ntmps276
 go_wp2
 go_region
 all_goals
  go_wp2
  go_region
  all_goals
   go_wp2;go_ret;refine ⟨rfl,HF.out _ ?_⟩
   first|exact ⟨rfl,rfl,rfl,Θ _,λ_ _ _=>rfl⟩|exact ν
def PuE (w0:World) (B:HB) (F:List Nat) (A:NS) (rp:Nat) (v:Value) (L T:List Nat) (x:Nat) (w:World):Prop:=∃g cap L' T',mG w B F A rp g cap L' T'/\L'.Perm (x::L)/\Hp (mX A) 2 L'/\(∀y,y∉x::L->T'.getD y 0=T.getD y 0)/\T'.length=T.length/\aa (rp::B.ga::B.c::v.ownBlock.toList) w0 w/\(v.ownBlock=some g\/w0.heap.size<=g)
theorem Af (h:Ac w B F A rp v L T) (x:Nat) (hx:x∉L) (hin:bR A (x:Int)=true) (L8:x<T.length) (hl:L.length<T.length) (hH:Hp (mX A) 2 L) :
  Calls Tryz.prog 269 #[.iface 298 (.pointer (some ⟨rp,0,none⟩)),.iface 3 (.int .i64 (x:Int))] w λe w'=>e=.returned (.tuple #[])/\PuE w B F A rp v L T x w':=by
 have m1:=Qt rp;have m2:=Oa rp;have hle:=h.len;have kp:=FD h x hx hin L8 hl;have ku:∀w1 g cap,mG w1 B F A rp g cap (L++[x]) (T.set x L.length)->aa (rp::B.ga::v.ownBlock.toList) w w1->(v.ownBlock=some g\/w.heap.size<=g)->Calls Tryz.prog 272 #[.iface 298 (.pointer (some ⟨rp,0,none⟩)),.int .i64 (L.length:Int)] w1 λe w'=>e=.returned (.tuple #[])/\PuE w B F A rp v L T x w':=by
  intro w1 g cap h1 hu1 hg;obtain ⟨hs1,hs2⟩:=Hp.snoc (x:=x) hH (gZ A) ω;have hP:lG w1 B F A rp g cap [] (L++[x]) (T.set x L.length) w1 (L++[x]) (T.set x L.length):=lG.start (by rw [Υ];exact h1);have hgx:(L++[x]).getD L.length 0=x:=by simp [φ]
  refine (Eg hP L.length hs1 (by rw [hgx];exact hs2)).mono ?_;rintro e w' ⟨rfl,M2,T2,hP2,hH2⟩;have hpm:=hP2.pi;rw [Υ] at hpm;refine ⟨rfl,g,cap,M2,T2,hpm,hP2.perm.trans Φ,hH2,λy hy=>?_,by rw [hP2.tl,Ι],(hu1.mono (λz hz=>?_)).joined hP2.upd (λz hz=>?_),hg⟩
  ·simp only [ρ,not_or] at hy;rw [hP2.off y (by simp [hy.1,hy.2]),cZ,Γ (λe=>hy.1 e.1)]
  ·simp only [ρ] at hz ⊢;rcases hz with h'|h'|h'
   ·exact Α h'
   ·exact Β (Α h')
   ·exact Β (Β (Β h'))
  ·simp only [ρ,ς,or_false] at hz ⊢;rcases hz with h'|h'|h'
   ·rcases hg with e|e
    ·left;right;right;right;rw [h'];exact Option.mem_toList.2 e
    ·right;omega
   ·exact Α (Β (Α h'))
   ·exact Α (Β (Β (Α h')))
 have kl:∀w1 g cap,mG w1 B F A rp g cap (L++[x]) (T.set x L.length)->Calls Tryz.prog 270 #[.pointer (some ⟨rp,0,none⟩)] w1 λe w'=>e=.returned (.int .i64 ((L.length:Int)+1))/\w'=w1:=λw1 g cap h1=>by
  have:=AJ h1;rw [υ,List.length_singleton] at this;exact this
 clear h hx hin L8 hl hH;generalize L.length=n at *;have Wu:(n:Int)+1-1=(n:Int):=ω
 go_enter Tryz.func269,Tryz.ntmps269
 go_wp2_with (first
  | ((go_at_call 277;(with_reducible refine (kp).mono ?_));rintro e w1 ⟨rfl,g,cap,hP1,hu1,hg1⟩)
  | ((go_at_call 270;(with_reducible refine (kl _ _ _ hP1).mono ?_));rintro e w2 ⟨rfl,hw2⟩;subst hw2)
  | ((go_at_call 272;(with_reducible refine (ku _ _ _ hP1 hu1 hg1).mono ?_));rintro e w3 ⟨rfl,hQ⟩)
  | fail)
 go_end0;exact ⟨rfl,hQ⟩
theorem xX {l:List Nat} {n:Nat} (h:l.length=n+1):l=l.take n++[l.getD n 0]:=by
 have h1:n<l.length:=ω;have h2:=List.take_append_drop n l;rw [ϛ h1,List.drop_eq_nil_of_le ω] at h2;rw [φ,ε h1];exact h2.symm
def ReE (w0:World) (B:HB) (F:List Nat) (A:NS) (rp g cap:Nat) (L T:List Nat) (x:Nat) (w:World):Prop:=∃L' T',Ac w B F A rp (.slice (some ⟨g,0,none⟩) L'.length cap) L' T'/\(x::L').Perm L/\Hp (mX A) 2 L'/\(∀y,y∉L->T'.getD y 0=T.getD y 0)/\T'.length=T.length/\aa [rp,g,B.ga,B.c] w0 w
theorem D5 (h:mG w B F A rp g cap L T) (i x:Nat) (hx:L[i]?=some x) (hH:Hp (mX A) 2 L) :
  Calls Tryz.prog 268 #[.iface 298 (.pointer (some ⟨rp,0,none⟩)),.int .i64 (i:Int)] w λe w'=>e=.returned (.iface 3 (.int .i64 (x:Int)))/\ReE w B F A rp g cap L T x w':=by
 have m1:=Bi rp;have m2:=Oa rp;have m3:=U9 rp;have kl:=AJ h;have hle:=h.len;obtain ⟨hi,hxe⟩:=List.getElem?_eq_some_iff.1 hx;obtain ⟨n,hn⟩:∃n,L.length=n+1:=⟨L.length-1,ω⟩;have hxg:L.getD i 0=x:=by rw [φ,hx];rfl
 by_cases hin:i=n
 ·subst hin;have hs:=xX hn;rw [hxg] at hs;have hM:=h;rw [hs] at hM;have kp:=zU x hM;have hH2:Hp (mX A) 2 (L.take i):=hH.take ω;have hp:(x::L.take i).Perm L:=by
   conv=>rhs;rw [hs]
   exact (Φ (l₁:=[x]))
  have HQ:=χ (ψ hH2 hp);rw [hn] at kl hle;have Wu:(i:Int)+1-1=(i:Int):=ω;have hwk:IntKind.i64.wrap (i:Int)=(i:Int):=Μ _ ω;rw [show ((i+1:Nat):Int)=(i:Int)+1 from rfl] at kl;clear hM hs hH hH2 hp hx hxe hxg h hi hn;have hnb:((i:Int) != (i:Int))=false:=σ
  go_enter Tryz.func268,Tryz.ntmps268
  go_wp2_with (first
   | ((go_at_call 270;(with_reducible refine (kl).mono ?_));rintro e w2 ⟨rfl,rfl⟩)
   | ((go_at_call 276;(with_reducible refine (kp).mono ?_));rintro e w3 ⟨rfl,hP3,hu3⟩)
   | fail)
  go_ret;exact ⟨rfl,_,T,hP3,HQ.out.2,HQ.out.1,λ_ _=>rfl,rfl,hu3.mono σ⟩
 ·have hil:i<n:=ω;have hnl:n<L.length:=ω;have ks:=xS h i n hi hnl ω;have hsl:(fH L i n).length=n+1:=by rw [jo,hn]
  have hs:=xX hsl;rw [jK hi hnl,Δ rfl,hxg] at hs;obtain ⟨M,hMe⟩:∃M,M=(fH L i n).take n:=⟨_,rfl⟩;rw [←hMe] at hs;have hMl:M.length=n:=by rw [hMe,ϐ,hsl];omega
  have hMv:M=(L.take n).set i (L.getD n 0):=by
   rw [hMe];unfold fH;rw [List.take_set_of_le (Θ _),List.take_set]
  have hMH:fI (mX A) 2 M i:=by
   rw [hMv];exact ((hH.take ω).hole (gZ A) ω (by rw [ϐ];omega)).any ω _
  have hp:(M++[x]).Perm L:=by rw [←hs];exact sI hi hnl ω
  have kd:∀w1,mG w1 B F A rp g cap (fH L i n) (zo T L i n)->Calls Tryz.prog 271 #[.iface 298 (.pointer (some ⟨rp,0,none⟩)),.int .i64 (i:Int),.int .i64 (n:Int)] w1 λe w'=>∃i2,e=.returned (.bool (decide (i<i2)))/\NZ w1 B F A rp g cap [x] M (zo T L i n) w' i i2:=λw1 h1=>by
   rw [hs] at h1;exact GA (lG.start h1) i n hMl.symm hMH
  have ku:∀w1 w2 L1 T1,lG w1 B F A rp g cap [x] M (zo T L i n) w2 L1 T1->PE A i false L1->_:=λw1 w2 L1 T1 h1 h2=>Eg h1 i (h2.2 rfl).1 (h2.2 rfl).2;have kp:∀w1 w2 L1 T1,lG w1 B F A rp g cap [x] M (zo T L i n) w2 L1 T1->_:=λw1 w2 L1 T1 h1=>zU x h1.pi;unfold NZ at kd;have HE:Hid (∀w1 w2 w3 L1 T1,aa [g,B.ga] w w1->lG w1 B F A rp g cap [x] M (zo T L i n) w2 L1 T1->Hp (mX A) 2 L1->Ac w3 B F A rp (.slice (some ⟨g,0,none⟩) L1.length cap) L1 T1->aa [rp] w2 w3->ReE w B F A rp g cap L T x w3):=by
   intro w1 w2 w3 L1 T1 hu1 h2 hH1 h3 hu3;refine ⟨L1,T1,h3,?_,hH1,λy hy=>?_,by rw [h2.tl,qN],((hu1.mono σ).trans (h2.upd.mono σ)).trans (hu3.mono σ)⟩
   ·exact (Φ (l₁:=[x])).trans ((h2.perm.append_right [x]).trans hp)
   ·rw [h2.off y (λhm=>hy (hp.mem_iff.1 hm)),Ik hi hnl hy]
  rw [hn] at kl hle;have Wu:(n:Int)+1-1=(n:Int):=ω;have hwk:IntKind.i64.wrap (n:Int)=(n:Int):=Μ _ ω;rw [show ((n+1:Nat):Int)=(n:Int)+1 from rfl] at kl;clear hMe hMl hMv hMH hp hs hsl hnl hx hxe hxg h hi hn hH;have hnb:((n:Int) != (i:Int))=true:=ζ;generalize fH L i n=L1 at *;generalize zo T L i n=T1 at *
  go_enter Tryz.func268,Tryz.ntmps268
  go_wp2_with (first
   | ((go_at_call 270;(with_reducible refine (kl).mono ?_));rintro e w2 ⟨rfl,rfl⟩)
   | ((go_at_call 278;(with_reducible refine (ks).mono ?_));rintro e w3 ⟨rfl,hP3,hu3⟩)
   | ((go_at_call 271;(with_reducible refine (kd _ hP3).mono ?_));rintro e w4 ⟨i2,rfl,L4,T4,TN,hD4⟩;generalize decide (i<i2)=bd at *;cases bd)
   | ((go_at_call 272;(with_reducible refine (ku _ _ _ _ TN hD4).mono ?_));rintro e w5 ⟨rfl,L5,T5,L9,hH5⟩)
   | ((go_at_call 276;(with_reducible first|refine (kp _ _ _ _ L9).mono ?_|refine (kp _ _ _ _ TN).mono ?_));rintro e w6 ⟨rfl,Zf,jy⟩)
   | fail)
  ·go_ret;exact ⟨rfl,HE.out _ _ _ _ _ hu3 L9 hH5 Zf jy⟩
  ·go_ret;exact ⟨rfl,HE.out _ _ _ _ _ hu3 TN (hD4.1 rfl) Zf jy⟩
end
structure kP (R:Nat->Nat->Prop) (d:Nat) (L:List Nat) (i k b:Nat):Prop where
 b0:∃q,b=d*i+q/\1<=q/\q<k
 lt:b<L.length
 all:∀q,1<=q->q<k->d*i+q<L.length->d*i+q≠b->R (L.getD b 0) (L.getD (d*i+q) 0)
theorem kP.one {R:Nat->Nat->Prop} {d:Nat} {L:List Nat} {i:Nat} (h:d*i+1<L.length):kP R d L i 2 (d*i+1):=
 ⟨⟨1,rfl,ω,ω⟩,h,λq h1 h2 _ hne=>absurd (show d*i+q=d*i+1 by omega) hne⟩
theorem kP.end {R:Nat->Nat->Prop} {d:Nat} {L:List Nat} {i k b:Nat} (h:kP R d L i k b) (hd:2<=d) (hk:k=d+1):oz R d L i b:=by
 obtain ⟨q,rfl,h1,h2⟩:=h.b0;have hp:=(qW (i:=i) (j:=d*i+q) hd).2 ω;refine ⟨hp.1,h.lt,hp.2,λj j0 hj ZU hne=>?_⟩;have:=(qW hd).1 ⟨j0,ZU⟩;have e:j=d*i+(j-d*i):=ω;rw [e] at hj hne ⊢;exact h.all _ ω ω hj hne
theorem kP.stay {R:Nat->Nat->Prop} {d:Nat} {L:List Nat} {i k b:Nat} (h:kP R d L i k b) (hc:d*i+k<L.length->R (L.getD b 0) (L.getD (d*i+k) 0)):kP R d L i (k+1) b:=by
 obtain ⟨q,h0,h1,h2⟩:=h.b0;refine ⟨⟨q,h0,h1,ω⟩,h.lt,λq' g1 g2 g3 g4=>?_⟩
 by_cases e:q'=k
 ·subst e;exact hc g3
 ·exact h.all q' g1 ω g3 g4
theorem kP.turn {R:Nat->Nat->Prop} {d:Nat} {L:List Nat} {i k b:Nat} (ht:∀a b c,R a b->R b c->R a c) (h:kP R d L i k b) (hk:1<=k) (hl:d*i+k<L.length) (hc:R (L.getD (d*i+k) 0) (L.getD b 0)):kP R d L i (k+1) (d*i+k):=by
 refine ⟨⟨k,rfl,hk,ω⟩,hl,λq' g1 g2 g3 g4=>?_⟩;have e:q'≠k:=λe=>g4 (by rw [e])
 by_cases e2:d*i+q'=b
 ·rw [e2];exact hc
 ·exact ht _ _ _ hc (h.all q' g1 ω g3 e2)
theorem FP (O:fU) {w:World} {rp mb g cap d:Nat} {f:Int->Option Int} {L:List Nat} (hO:O.at_ w) (h:r9 w rp mb g cap d f L) (hd:2<=d/\d<=16) (hl:L.length<=65536) (i x:Nat) (hi:i<L.length)
  (hn:(L.set i x).Nodup) (hdom:∀y,y∈L.set i x->O.dom y) (hsep:JP O rp mb g) :
  Calls Tryz.prog 156 #[.pointer (some ⟨rp,0,none⟩),.iface O.ty (.pointer (some ⟨O.p,0,none⟩)),.int .i64 (i:Int)] w λe w'=>∃ (c:Nat),e=.returned (.tuple #[.int .i64 (c:Int),.bool (decide (d*i+1<L.length))])/\O.On w w'/\(d*i+1<L.length->oz O.R d L i c):=by
 have kc:=λk (hk:1<=k/\k<=d) W=>Kk d i k hd ω hk W;have SC:=kc 1 ⟨ω,ω⟩;rw [show ((1:Nat):Int)=1 from rfl] at SC;have c0:=h.h0;have c1:=h.h1;have hwr:=hsep.wr;have HX:=χ (ψ hO (ψ h (ψ hn (ψ hdom hd))));have hil:i<65536:=ω;generalize hnl:L.length=n at *;have HN:=χ hnl;clear h hO hn hdom hsep hnl
 by_cases hz:n<=d*i+1
 ·rw [Ξ (show ¬d*i+1<n by omega)];have hge:decide (((d*i+1:Nat):Int)≥(n:Int))=true:=ζ;have HZ:=χ hz;clear hz kc;generalize d * i+1=c at *
  go_enter Tryz.func156,Tryz.ntmps156
  have hnc:n<=c:=HZ.out
  go_wp2_with (first
   | ((go_at_call 161;(with_reducible refine (SC _).mono ?_));rintro e w1 ⟨rfl,hu1⟩;(have c1:=hu1.was c1))
   | fail)
  go_ret2;exact ⟨0,rfl,⟨O.upd HX.out.1 hu1 σ,hu1.mono σ⟩,λh=>by have:=HZ.out;omega⟩
 ·rw [Ν (show d*i+1<n by omega)];have hge:decide (((d*i+1:Nat):Int)≥(n:Int))=false:=ζ;have HZ:=χ (show d*i+1<n by omega);clear hz;have HC:=χ (show d*i+1=d*i+1 from rfl)
  revert HC HZ hge SC
  generalize Y8:d*i+1=c0';intro SC hge HZ _;have HC:=χ Y8;have hnc:¬n<=c0':=by have:=HZ.out;omega
  go_enter Tryz.func156,Tryz.ntmps156
  clear Y8
  go_wp2_with (first
   | ((go_at_call 161;(with_reducible refine (SC _).mono ?_));rintro e w1 ⟨rfl,hu1⟩;(have c1:=hu1.was c1))
   | fail)
  go_loopw [8,10,11,12] (λbv kv _ _ wr=>∃ (b k:Nat),2<=k/\k<=d+1/\bv=.int .i64 (b:Int)/\kv=.int .i64 (k:Int)/\kP O.R d L i k b/\O.On w wr) (λ_ kv _ _ _=>d+1-(intOf kv).toNat)
  case atStart=>exact ⟨c0',2,ω,ω,rfl,rfl,by rw [←HC.out];exact kP.one (by have:=HZ.out;have:=HN.out;have:=HC.out;omega),O.upd HX.out.1 hu1 σ,hu1.mono σ⟩
  case round=>
   clear hu1 c1;obtain ⟨b,k,hk1,hk2,rfl,rfl,hF,hon⟩:=hrel;rename World=>wr;obtain ⟨hO,h,hn,hdom,hd⟩:=HX.out;have hR:=h.upd hon.upd hwr.1 hwr.2.1 hwr.2.2;have q0:=hR.h0;have q1:=hR.h1
   by_cases hkd:k<=d
   ·have hkd':(k:Int)<=(d:Int):=ω;have Uc:=kc k ⟨ω,hkd⟩;have hwk:IntKind.i64.wrap ((k:Int)+1)=(k:Int)+1:=Μ _ ω;rw [HN.out] at q1
    by_cases hcl:d*i+k<n
    ·have hne:d*i+k≠i:=by
      have:i<=d*i:=Nat.le_mul_of_pos_left _ ω;omega
     obtain ⟨qb,Tz,hqb1,hqb2⟩:=hF.b0;have hbl:=hF.lt;have hbi:b≠i:=by
      have:i<=d*i:=Nat.le_mul_of_pos_left _ ω;omega
     have Wz:=hdom _ (nO (x:=x) (show d*i+k<L.length by rw [HN.out];exact hcl) hne);have V7:=hdom _ (nO (x:=x) hbl hbi);have hcb:L.getD (d*i+k) 0≠L.getD b 0:=λe=>by
      have h1:(L.set i x)[d*i+k]?=some (L.getD b 0):=by rw [ώ (λe=>hne e.symm),←e,φ,ε (by rw [HN.out];exact hcl)];rfl
      have h2:(L.set i x)[b]?=some (L.getD b 0):=by rw [ώ (λe=>hbi e.symm),φ,ε hbl];rfl
      obtain ⟨g1,e1⟩:=List.getElem?_eq_some_iff.1 h1;obtain ⟨g2,e2⟩:=List.getElem?_eq_some_iff.1 h2;have:=(List.getElem_inj hn).1 (e1.trans e2.symm);omega
     have d1:=hR.cell (d*i+k) (by rw [HN.out];exact hcl);have d2:=hR.cell b hbl;have HY:=χ (ψ hF (ψ hon (ψ hcb (ψ hcl hk2))));have hgL:decide (((d*i+k:Nat):Int)<(n:Int))=true:=ζ;have hcI:((d*i+k:Nat):Int)<(n:Int):=ω;have hbI:(b:Int)<(n:Int):=by rw [HN.out] at hbl;omega
     have K8:=hwr.1;have hgw:=hwr.2.2;have hat:=hon.at_;have hkl:k+1<=d+1:=ω;clear hF hon Tz hqb1 hqb2 hbl hbi hcl hne hO h hn hdom hR hcb kc;generalize hce:d * i+k=c at *;generalize hx1:L.getD c 0=xc at *;generalize hx2:L.getD b 0=xb at *;have HE:=χ (ψ hce (ψ hx1 hx2));clear hce hx1 hx2
     go_upto_region 8 with (first
      | ((go_at_call 161;(with_reducible refine (Uc _).mono ?_));rintro e w1 ⟨rfl,hu1⟩)
      | fail)
     have oq:O.On w1 w1:=.start (O.upd hat hu1 σ);have Us:∀W,O.On w1 W->W.cell? ⟨g,c,none⟩=some (.int .i64 (xc:Int)):=λW hW=>hW.upd.kept (hu1.was d1) hgw;have cb1:∀W,O.On w1 W->W.cell? ⟨g,b,none⟩=some (.int .i64 (xb:Int)):=λW hW=>hW.upd.kept (hu1.was d2) hgw;have VU:∀W,O.On w1 W->W.cell? ⟨rp,1,none⟩=some (.slice (some ⟨g,0,none⟩) n cap):=λW hW=>hW.upd.kept (hu1.was q1) K8;have hm:∀W,O.On w1 W->_:=λW hW=>O.QY hW.at_;have hnl:=O.Qw;have hen:=O.ZF;unfold Enters at hen
     go_region_held3 (O.On w1) (first|assumption|exact oq|(refine fU.On.drew ?_;first|assumption|exact oq)|(refine fU.On.drewN ?_ _;first|assumption|exact oq))
      (first
       | ((with_reducible refine (O.ask xc xb (fU.On.at_ (w0:=w1) (by first|assumption|exact oq|(refine fU.On.drew ?_;first|assumption|exact oq)|(refine fU.On.drewN ?_ _;first|assumption|exact oq))) Wz V7).mono ?_);rintro e w5 ⟨rfl,BQ,cB⟩;(have sQ:O.On w1 w5:=fU.On.asked (by first|assumption|exact oq|(refine fU.On.drew ?_;first|assumption|exact oq)|(refine fU.On.drewN ?_ _;first|assumption|exact oq)) BQ cB)))
     have HZ2:=χ (hu1.mono (σ:∀z,z∈[]->z∈O.wr) |>.trans sQ.upd);have HO5:=χ sQ.at_;clear Us cb1 VU hm oq sQ cB BQ d1 d2 q0 q1;cases hxy:O.lt xc xb with
     | false=>
      go_wp2
      go_roundw
      case rel=>
       obtain ⟨hF,hon,hcb,hcl,hk2⟩:=HY.out;refine ⟨b,k+1,ω,hkl,rfl,by go_num,hF.stay (λ_=>?_),HO5.out,hon.upd.trans HZ2.out⟩;rw [HE.out.1,HE.out.2.1,HE.out.2.2];rcases O.total xc xb (λe=>by rw [e] at hcb;exact hcb rfl) with e|e
       ·rw [e] at hxy;cases hxy
       ·exact e
      case measure=>simp [intOf];omega
     | true=>
      go_wp2
      go_roundw
      case rel=>
       obtain ⟨hF,hon,hcb,hcl,hk2⟩:=HY.out;refine ⟨c,k+1,ω,hkl,rfl,by go_num,?_,HO5.out,hon.upd.trans HZ2.out⟩;have ht:=hF.turn O.tr ω (by rw [HE.out.1,HN.out];exact hcl) (by rw [HE.out.1,HE.out.2.1,HE.out.2.2];exact hxy);rw [HE.out.1] at ht;exact ht
      case measure=>simp [intOf];omega
    ·have hgL:decide (((d*i+k:Nat):Int)<(n:Int))=false:=ζ;have HY:=χ (ψ hF (ψ hon hcl));have hkl:k+1<=d+1:=ω;clear hF hon hcl hO h hn hdom hR kc;generalize hce:d * i+k=c at *;have HE:=χ hce;clear hce;have hgN:decide (c<n)=false:=by simp at hgL ⊢;omega
     go_upto_region 8 with (first
      | ((go_at_call 161;(with_reducible refine (Uc _).mono ?_));rintro e w1 ⟨rfl,hu1⟩;(have q1:=hu1.was q1);(have q0:=hu1.was q0))
      | fail)
     go_quiet (fail)
     go_wp2
     go_roundw
     case rel=>
      obtain ⟨hF,hon,hcl⟩:=HY.out;exact ⟨b,k+1,ω,hkl,rfl,by go_num,hF.stay (λh=>absurd h (by have:=HN.out;have:=HE.out;omega)),O.upd hon.at_ (hu1.drewN nq) σ,hon.upd.trans ((hu1.drewN nq).mono σ)⟩
     case measure=>simp [intOf];omega
   ·have hkd':¬ (k:Int)<=(d:Int):=ω;clear kc;go_wp2;exact bodyPost_ret (v:=.tuple #[.int .i64 (b:Int),.bool true]) (by simp [results,Tryz.results156,go_sem]) rfl ⟨b,rfl,hon,λ_=>hF.end hd.1 ω⟩
theorem Ld (O:fU) {w:World} {rp mb g cap d:Nat} {f:Int->Option Int} {L:List Nat} (hO:O.at_ w) (h:r9 w rp mb g cap d f L) (hd:2<=d/\d<=16) (hl:L.length<=65536) (i x:Nat) (hH:fI O.R d L i) (hP:kH f L i x)
  (hn:(L.set i x).Nodup) (hdom:∀y,y∈L.set i x->O.dom y) (h16:∀y,y∈L.set i x->y<=65536) (hsep:JP O rp mb g) (hT:i=0\/O.R (L.getD (par d i) 0) x) :
  Calls Tryz.prog 147 #[.pointer (some ⟨rp,0,none⟩),.iface O.ty (.pointer (some ⟨O.p,0,none⟩)),.int .i64 (i:Int),.int .i64 (x:Int)] w λe w'=>∃ (f':Int->Option Int) (L':List Nat),e=.returned (.tuple #[])/\r9 w' rp mb g cap d f' L'/\sG f' L'/\L'.Perm (L.set i x)/\O.at_ w'/\aa (g::mb::O.wr) w w'/\Hp O.R d L':=by
 have hi0:=hH.lt;have hxm:x∈L.set i x:=Η (show (L.set i x)[i]?=some x by simp [hi0]);have Wq:=hdom x hxm;have hxl:=h16 x hxm;have HX:=χ (ψ hn (ψ hdom (ψ h16 (ψ hsep hd))));have hwr:=hsep.wr
 go_enter Tryz.func147,Tryz.ntmps147
 go_wp2
 go_loopw [2,8,9] (λiv _ _ wr=>∃ (i':Nat) (f':Int->Option Int) (L':List Nat),iv=.int .i64 (i':Int)/\r9 wr rp mb g cap d f' L'/\fI O.R d L' i'/\kH f' L' i' x/\L'.length=L.length/\(L'.set i' x).Perm (L.set i x)/\O.at_ wr/\aa (g::mb::O.wr) w wr/\(i'=0\/O.R (L'.getD (par d i') 0) x)) (λiv _ _ _=>L.length-(intOf iv).toNat)
 case atStart=>exact ⟨i,f,L,rfl,h,hH,hP,rfl,ό _,hO,aa.refl _ _,hT⟩
 case round=>
  clear h hH hP hO hT;obtain ⟨i1,f1,L1,rfl,h,hH,hP,hl1,hpm,hO,hu,hT⟩:=hrel;rename World=>wr;have hi1:=hH.lt;have hn1:(L1.set i1 x).Nodup:=hpm.nodup_iff.2 HX.out.1;have kf:=FP O hO h hd ω i1 x hi1 hn1 (λy hy=>HX.out.2.1 y (hpm.mem_iff.1 hy)) HX.out.2.2.2.1;have ks:=λW (hW:aa O.wr wr W)=>qi (h.upd hW hwr.1 hwr.2.1 hwr.2.2) i1 x hi1 hxl ω;have K8:=hwr.1;have hgw:=hwr.2.2;have hcg:=h.h1;have hlt:=h.lt
  by_cases hz:d*i1+1<L1.length
  ·rw [Ν hz] at kf;have hcell:=λc hc=>h.cell c hc;have hdl:=λc (hc:oz O.R d L1 i1 c)=>HX.out.2.1 (L1.getD c 0) (hpm.mem_iff.1 (nO hc.lt (by have:=eB hd.1 hc.c0;have:=hc.pc;omega)));have UI:=λc (hc:oz O.R d L1 i1 c) W (hW:aa O.wr wr W)=>qi (h.upd hW hwr.1 hwr.2.1 hwr.2.2) i1 (L1.getD c 0) hi1 (HX.out.2.2.1 _ (hpm.mem_iff.1 (nO hc.lt (by have:=eB hd.1 hc.c0;have:=hc.pc;omega)))) ω;have HF:=χ (ψ hH (ψ hP (ψ hn1 (ψ hpm (ψ hO (ψ hT (ψ hu (ψ hl1 (ψ hz h)))))))));clear hH hP hn1 hpm hT hu hl1 h
   go_upto_region 1 with (first
    | ((go_at_call 156;(with_reducible refine (kf).mono ?_));rintro e w1 ⟨c,rfl,yt,hfc⟩)
    | fail)
   have hc:=hfc hz;have hcl:=hc.lt;have hcI:(c:Int)<(L1.length:Int):=ω;have Wz:=hdl c hc;have hcc:=hcell c hcl;have UI:=UI c hc;have HC:=χ (ψ hc yt);clear hcell hdl hc hfc hz kf;generalize hy:L1.getD c 0=y at *;have oq:O.On w1 w1:=.start yt.at_;have Us:∀W,O.On w1 W->W.cell? ⟨g,c,none⟩=some (.int .i64 (y:Int)):=λW hW=>hW.upd.kept (yt.upd.kept hcc hgw) hgw;have VU:∀W,O.On w1 W->W.cell? ⟨rp,1,none⟩=some (.slice (some ⟨g,0,none⟩) L1.length cap):=λW hW=>hW.upd.kept (yt.upd.kept hcg K8) K8;have hm:∀W,O.On w1 W->_:=λW hW=>O.QY hW.at_;have hnl:=O.Qw;have hen:=O.ZF;unfold Enters at hen
   go_region_held3 (O.On w1) (first|assumption|exact oq|(refine fU.On.drew ?_;first|assumption|exact oq)|(refine fU.On.drewN ?_ _;first|assumption|exact oq))
    (first
     | ((with_reducible refine (O.ask y x (fU.On.at_ (w0:=w1) (by first|assumption|exact oq|(refine fU.On.drew ?_;first|assumption|exact oq)|(refine fU.On.drewN ?_ _;first|assumption|exact oq))) Wz Wq).mono ?_);rintro e w5 ⟨rfl,BQ,cB⟩;(have sQ:O.On w1 w5:=fU.On.asked (by first|assumption|exact oq|(refine fU.On.drew ?_;first|assumption|exact oq)|(refine fU.On.drewN ?_ _;first|assumption|exact oq)) BQ cB)))
   have su:aa O.wr wr w5:=HC.out.2.upd.trans sQ.upd;have Ub:=ks w5 su;have YO:=UI w5 su;have HY:=χ (ψ hy (ψ sQ.at_ su));have cp5:=Us w5 sQ;have cg5:=VU w5 sQ;clear ks UI Us VU hm oq sQ cB BQ hO hcc hcg yt;cases hxy:O.lt y x with
   | false=>
    clear YO
    go_wp2_with (first
     | ((go_at_call 155;(with_reducible refine (Ub).mono ?_));rintro e w2 ⟨rfl,hR,hu2⟩)
     | fail)
    obtain ⟨hH,hP,hn1,hpm,hO,hT,hu,hl1,hz,h⟩:=HF.out;obtain ⟨hy,hat,cB⟩:=HY.out;obtain ⟨hc,yt⟩:=HC.out;have hne:L1.getD c 0≠x:=IX hi1 hc.lt (by have:=eB hd.1 hc.c0;have:=hc.pc;omega) hn1;have hxc:O.R x (L1.getD c 0):=by
     rcases O.total x (L1.getD c 0) (λe=>hne e.symm) with e|e
     ·exact e
     ·rw [hy] at e;rw [e] at hxy;cases hxy
    exact bodyPost_ret (v:=.tuple #[]) (by simp [results,Tryz.results147,go_sem]) rfl ⟨_,_,rfl,hR,hP.fill hi1 hn1,hpm,O.upd hat hu2 (λy hy=>by have:=HX.out.2.2.2.1;simp at hy;rcases hy with rfl|rfl;exact this.c;exact this.b),(hu.trans (cB.mono (by simp +contextual))).trans (hu2.mono (by simp +contextual)),hH.fill hd.1 (mU O.tr hc hxc) hT⟩
   | true=>
    clear Ub
    go_wp2_with (first
     | ((go_at_call 155;(with_reducible refine (YO).mono ?_));rintro e w2 ⟨rfl,hR,hu2⟩)
     | fail)
    go_roundw
    case rel=>
     obtain ⟨hH,hP,hn1,hpm,hO,hT,hu,hl1,hz,h⟩:=HF.out;obtain ⟨hy,hat,cB⟩:=HY.out;obtain ⟨hc,yt⟩:=HC.out;have hci:i1<c:=by have:=eB hd.1 hc.c0;have:=hc.pc;omega
     have hdn:=hH.down O.tr hd.1 hc (x:=x) (by rw [hy];exact hxy);rw [hy] at hdn;have hmv:=hP.move hi1 (p:=c) hc.lt ω hn1;rw [hy] at hmv;have hpr:=wC (L:=L1) (i:=i1) (p:=c) (x:=x) hi1 hc.lt ω;rw [hy] at hpr;exact ⟨c,_,_,rfl,hR,hdn.1,hmv,by rw [Ι];exact hl1,hpr.trans hpm,O.upd hat hu2 (λy hy=>by have:=HX.out.2.2.2.1;simp at hy;rcases hy with rfl|rfl;exact this.c;exact this.b),(hu.trans (cB.mono (by simp +contextual))).trans (hu2.mono (by simp +contextual)),Β hdn.2⟩
    case measure=>
     have hci:i1<c:=by have hc:=HC.out.1;have:=eB hd.1 hc.c0;have:=hc.pc;omega
     have:=HF.out.2.2.2.2.2.2.2.1;simp [intOf];omega
  ·rw [Ξ hz] at kf;have HF:=χ (ψ hH (ψ hP (ψ hn1 (ψ hpm (ψ hO (ψ hT (ψ hu (ψ hl1 hz))))))));clear hH hP hn1 hpm hT hu hl1 h hz
   go_upto_region 1 with (first
    | ((go_at_call 156;(with_reducible refine (kf).mono ?_));rintro e w1 ⟨c,rfl,yt, -⟩)
    | fail)
   go_quiet (fail)
   have su:aa O.wr wr (w1.drewN nq):=(yt.drewN nq).upd;have hat:=(yt.drewN nq).at_;have Ub:=ks _ su;clear ks kf yt
   go_wp2_with (first
    | ((go_at_call 155;(with_reducible refine (Ub).mono ?_));rintro e w2 ⟨rfl,hR,hu2⟩)
    | fail)
   obtain ⟨hH,hP,hn1,hpm,hO,hT,hu,hl1,hz⟩:=HF.out;exact bodyPost_ret (v:=.tuple #[]) (by simp [results,Tryz.results147,go_sem]) rfl ⟨_,_,rfl,hR,hP.fill hi1 hn1,hpm,O.upd hat hu2 (λy hy=>by have:=HX.out.2.2.2.1;simp at hy;rcases hy with rfl|rfl;exact this.c;exact this.b),(hu.trans (su.mono (by simp +contextual))).trans (hu2.mono (by simp +contextual)),hH.fill hd.1 (yf hd.1 ω) hT⟩
def jG (w:World) (rp:Nat) (G:List Nat) (d:Nat) (L:List Nat):Prop:=
 ∃mb f v,aJ w rp 228 3 (λj=>[Value.int .i64 (d:Int),v,.map (some mb)].getD j undef)/\w.ownsRow 0 3 1 v L.length (aT (bG L))/\dW w mb f/\sG f L/\rp≠mb/\(∀g,v.ownBlock=some g->rp≠g/\mb≠g)/\G=rp::mb::v.ownBlock.toList
theorem r9.at_ {w:World} {rp mb g cap d:Nat} {f:Int->Option Int} {L:List Nat} (h:r9 w rp mb g cap d f L) (hP:sG f L):jG w rp [rp,mb,g] d L:=
 ⟨mb,f,.slice (some ⟨g,0,none⟩) L.length cap,h.head,by have:=h.row.own;rwa [bQ] at this,h.map,hP,h.sep.1,λg' hg=>by cases hg;exact ⟨h.sep.2.1,h.sep.2.2⟩,rfl⟩
theorem jG.open {w:World} {rp d:Nat} {G L:List Nat} (h:jG w rp G d L) (hl:0<L.length):∃mb g cap f,r9 w rp mb g cap d f L/\sG f L/\G=[rp,mb,g]:=by
 obtain ⟨mb,f,v,h1,h2,h3,h4,h5,h6,rfl⟩:=h;obtain ⟨g,cap,e,hI, -⟩:=IZ.iO (l:=bG L) (by rw [bQ];exact h2) (by rw [bQ];exact hl);rw [bQ] at e;subst e;obtain ⟨s1,s2⟩:=h6 g rfl;exact ⟨mb,g,cap,f,⟨h1,hI,h3,h5,s1,s2⟩,h4,rfl⟩
theorem jG.lt {w:World} {rp d:Nat} {G L:List Nat} (h:jG w rp G d L):∀z,z∈G->z<w.heap.size:=by
 obtain ⟨mb,f,v,h1,h2,h3,h4,h5,h6,rfl⟩:=h;intro z hz;simp only [ρ] at hz;rcases hz with rfl|rfl|hz
 ·exact h1.lt
 ·exact h3.lt
 ·exact (h2.lt z (by simpa using hz)).2
theorem jG.upd {w w':World} {rp d:Nat} {G L S:List Nat} (h:jG w rp G d L) (hu:aa S w w') (hS:∀z,z∈S->z∉G):jG w' rp G d L:=by
 obtain ⟨mb,f,v,h1,h2,h3,h4,h5,h6,rfl⟩:=h;have hn:∀z,z∈rp::mb::v.ownBlock.toList->z∉S:=λz hz hm=>hS z hm hz;exact ⟨mb,f,v,h1.upd hu (hn _ σ),au h2 hu (λk hk=>hn k (by simp [hk])),h3.upd hu (hn _ σ),h4,h5,h6,rfl⟩
theorem Q3 {f:Int->Option Int} {L:List Nat} (h:sG f L) {x:Nat} (hx:x∉L):f x=none:=by
 cases hf:f x with
 | none=>rfl
 | some v=>
  obtain ⟨y,j,e1, -,hj⟩:=(h x v).1 hf;have:y=x:=ω;subst this;exact absurd (Η hj) hx
theorem QC {f:Int->Option Int} {L:List Nat} (h:sG f L) {x i:Nat} (hx:L[i]?=some x):f x=some (i:Int):=(h x i).2 ⟨x,i,rfl,rfl,hx⟩
theorem RQ {f:Int->Option Int} {L:List Nat} (h:sG f L) (x:Nat):kH f (L++[x]) L.length x:=λz v hz=>by
 rw [h z v];constructor
 ·rintro ⟨y,j,rfl,rfl,hj⟩;have:=(List.getElem?_eq_some_iff.1 hj).1;exact ⟨y,j,rfl,rfl,ω,by rw [Ρ this];exact hj⟩
 ·rintro ⟨y,j,rfl,rfl,hne,hj⟩;have h1:=(List.getElem?_eq_some_iff.1 hj).1;simp at h1;rw [Ρ ω] at hj;exact ⟨y,j,rfl,rfl,hj⟩
theorem Er (d:Nat) (hd:2<=d/\d<=16) (w:World) :
  Calls Tryz.prog 85 #[.int .i64 (d:Int)] w λe w'=>∃rp G,e=.returned (.tuple #[.pointer (some ⟨rp,0,none⟩),.int .i64 0])/\jG w' rp G d []/\aa [] w w'/\∀z,z∈G->w.heap.size<=z:=by
 have kf:∀W,Calls Tryz.prog 101 #[.int .i64 (d:Int)] W λe w'=>e=.returned (.bool true)/\w'=W:=λW=>by
  have h1:(d:Int)≥2:=ω;have h2:(d:Int)<=16:=ω
  go_enter Tryz.func101,Tryz.ntmps101
  go_wp2;go_ret;exact ⟨rfl,rfl⟩
 have hmm:=@run_makeMap Tryz.prog
 go_enter Tryz.func85,Tryz.ntmps85
 go_wp2_with (first|(go_at_call 101;(with_reducible refine (kf _).mono ?_);rintro e w9 ⟨rfl,aH⟩;rw [aH];clear aH w9)|fail)
 go_ret2;have hm:=dW.made w;have hh:=dL (w.alloc (.map #[] 0)) [.int .i64 (d:Int),.slice none 0 0,.map (some w.heap.size)] 228;have e1:(w.alloc (.map #[] 0)).heap.size=w.heap.size+1:=by rw [Κ]
 rw [e1] at hh;have hv:aa [] (w.alloc (.map #[] 0)) ((w.alloc (.map #[] 0)).alloc (.cells #[.int .i64 (d:Int),.slice none 0 0,.map (some w.heap.size)] 228)):=(aa.refl _ _).alloc _;refine ⟨w.heap.size+1,[w.heap.size+1,w.heap.size],rfl,⟨w.heap.size,λ_=>none,.slice none 0 0,hh,⟨rfl,Α ⟨rfl,rfl⟩⟩,hm.upd hv σ,λz v=>σ,ω,λg hg=>(by cases hg),rfl⟩,β,λz hz=>?_⟩;simp at hz;omega
theorem OU {w:World} {rp d:Nat} {G:List Nat} (h:jG w rp G d []):Calls Tryz.prog 144 #[.pointer (some ⟨rp,0,none⟩),.int .i64 0] w λe w'=>e=.returned (.tuple #[.int .i64 0,.bool false])/\w'=w:=by
 obtain ⟨mb,f,v,h1,h2, -, -, -, -, -⟩:=h;obtain ⟨a,c,rfl,hc⟩:=bz h2;have c1:=h1.cellAt 1 (v:=.slice a 0 c) ω rfl;clear h1 h2
 go_enter Tryz.func144,Tryz.ntmps144
 go_wp2;go_ret2;exact ⟨rfl,rfl⟩
theorem Ni {w:World} {rp d x:Nat} {G L:List Nat} (h:jG w rp G d (x::L)):Calls Tryz.prog 144 #[.pointer (some ⟨rp,0,none⟩),.int .i64 0] w λe w'=>e=.returned (.tuple #[.int .i64 (x:Int),.bool true])/\w'=w:=by
 obtain ⟨mb,g,cap,f,hM, -, -⟩:=h.open σ;have c1:=hM.h1;have c2:=hM.cell 0 σ;rw [show (x::L).getD 0 0=x from rfl] at c2;have hn:0<(x::L).length:=σ;generalize (x::L).length=n at *;have hn1:¬ (0:Int)≥(n:Int):=ω;have hn2:(0:Int)<(n:Int):=ω;have Ir:¬n=0:=ω;clear hM h
 go_enter Tryz.func144,Tryz.ntmps144
 go_wp2;go_ret2;exact ⟨rfl,rfl⟩
theorem D7 (O:fU) {w:World} {rp d:Nat} {G L:List Nat} (hO:O.at_ w) (h:jG w rp G d L) (hd:2<=d/\d<=16) (hl:L.length+1<=65536) (hH:Hp O.R d L) (x:Nat) (hx:x∉L) (hn:L.Nodup)
  (hdom:∀y,y∈x::L->O.dom y) (h16:∀y,y∈x::L->y<=65536) (hsep:∀z,z∈G->z∉O.rd) :
  Calls Tryz.prog 139 #[.pointer (some ⟨rp,0,none⟩),.iface O.ty (.pointer (some ⟨O.p,0,none⟩)),.int .i64 (x:Int)] w λe w'=>e=.returned (.bool true)/\∃G' L',jG w' rp G' d L'/\L'.Perm (x::L)/\Hp O.R d L'/\O.at_ w'/\aa (G++O.wr) w w'/\∀z,z∈G'->z∈G\/w.heap.size<=z:=by
 obtain ⟨mb,f,v,h1,h2,h3,h4,h5,h6,rfl⟩:=h;have hfx:=Q3 h4 hx;have HXx:=χ hx;have hxl:=h16 x σ;obtain ⟨a,cc,rfl,hcc⟩:=bz h2;have c1:=h1.cellAt 1 (v:=.slice a L.length cc) ω rfl;have c2:=h1.cellAt 2 (v:=.map (some mb)) ω rfl;have f1:=h1.free 1;have hlr:=h1.lt;have hlo:=h2.lt;have hms:∀z,z∈(Value.slice a L.length cc).ownBlock.toList->rp≠z/\mb≠z:=λz hz=>h6 z (by simpa using hz);have hp:=hH.snoc O.tr hd.1 (x:=x);have hpl:=RQ h4 x;have hset:(L++[x]).set L.length x=L++[x]:=σ;have y8:(L++[x]).Perm (x::L):=Φ (l₁:=L) (l₂:=[x])
 have HX:=χ (ψ hO (ψ h1 (ψ h3 (ψ h5 (ψ hms (ψ hp (ψ hpl (ψ hset (ψ y8 (ψ hn (ψ hdom (ψ h16 (ψ hsep hlo)))))))))))));have hmb:dW w mb f:=h3;have hgl:(Value.slice a L.length cc).ownBlock.toList=(Value.slice a L.length cc).ownBlock.toList:=rfl;clear h1 h3 h4 h6 hH hx hn hdom h16 hsep hO hms hp hpl hset y8 hlo;generalize hnl:L.length=n at *;have HN:=χ hnl;clear hnl
 go_enter Tryz.func139,Tryz.ntmps139
 go_upto_region 5 with (first
  | (at_lookup;refine pJ rfl _ _ rfl mb f rfl hmb (x:Int) rfl ω ?_;rw [hfx];simp only [Option.getD_none,Option.isSome_none])
  | ((at_builtin;refine aW rfl _ _ 77 rfl 0 3 (.int .i64 0) 1 8 Tryz.underlying77 fF rfl δ _ _ _ rfl (h2) [.int .i64 (x:Int)] rfl (by simp [Value.oneCell']) (by first|rfl|(rw [Κ];rfl)) μ ω (ω) ?_;intro v2 w2 ho2 hu2 kZ);obtain ⟨a2,ZI,rfl,hcc2⟩:=bz ho2;(have d1:w2.cell? ⟨rp,1,none⟩=some (.slice a n cc):=hu2.kept c1 (λhm=>(HX.out.2.2.2.2.1 rp hm).1 rfl));(have e1:=hu2.aM c1 (λhm=>(HX.out.2.2.2.2.1 rp hm).1 rfl) f1))
  | fail)
 obtain ⟨hO,h1,h3,h5,hms,hp,hpl,hset,y8,hn,hdom,h16,hsep,hlo⟩:=HX.out;have hnz:bG (L++[x])=bG L++[(x:Int)]:=by unfold bG;simp
 have hL1:(L++[x]).length=n+1:=by rw [υ,HN.out];rfl
 obtain ⟨g2,cap2,e2,hI2, -⟩:=IZ.iO (l:=bG (L++[x])) (by rw [bQ,hL1,hnz,bZ];exact ho2) (by rw [bQ,hL1];omega);rw [bQ,hL1] at e2;cases e2;have hg2:rp≠g2/\mb≠g2/\(g2∈(Value.slice a n cc).ownBlock.toList\/w.heap.size<g2):=by
  rcases kZ with e|e
  ·have hm:g2∈(Value.slice a n cc).ownBlock.toList:=by have e':(Value.slice a n cc).ownBlock=some g2:=e.symm;rw [e'];simp
   have:=hms g2 hm;exact ⟨this.1,this.2,Α hm⟩
  ·have h7:=e g2 rfl;have h8:=h3.lt;exact ⟨ω,ω,Β h7⟩
 have hw0:aa (Value.slice a n cc).ownBlock.toList w w2:=hu2;have DF:aa [rp] w2 (w2.setCell ⟨rp,1,none⟩ (.slice (some ⟨g2,0,none⟩) (n+1) ZI)):=β;have hnm:∀z,z∈(Value.slice a n cc).ownBlock.toList->rp≠z/\mb≠z:=hms;have hR:r9 (w2.setCell ⟨rp,1,none⟩ (.slice (some ⟨g2,0,none⟩) (n+1) ZI)) rp mb g2 ZI d f (L++[x]):=by
  refine ⟨((h1.upd hw0 (λhm=>(hnm rp hm).1 rfl)).set 1 _).ext (λj hj=>?_),hI2.upd DF (by simp;exact λe=>hg2.1 e.symm),(h3.upd hw0 (λhm=>(hnm mb hm).2 rfl)).upd DF (by simp;exact λe=>h5 e.symm),h5,hg2.1,hg2.2.1⟩;rw [hL1];rcases (ω:j=0\/j=1\/j=2) with rfl|rfl|rfl<;>rfl
 have hrd:∀z,z∈(Value.slice a n cc).ownBlock.toList->z∉O.rd:=λz hz=>hsep z (Λ _ (Λ _ hz));have hOl:=O.low hO;have hat:O.at_ (w2.setCell ⟨rp,1,none⟩ (.slice (some ⟨g2,0,none⟩) (n+1) ZI)):=O.upd (O.upd hO hw0 hrd) DF (λz hz=>by simp at hz;rw [hz];exact hsep rp σ);have ku:=Jf O hat hR hd ω n x hp.1 hpl (by rw [hset];exact y8.nodup_iff.2 (Ζ.2 ⟨HXx.out,hn⟩)) (λy hy=>hdom y (y8.mem_iff.1 (by rw [←hset];exact hy))) (λy hy=>h16 y (y8.mem_iff.1 (by rw [←hset];exact hy)))
  ⟨hsep rp σ,hsep mb σ,λhm=>by rcases hg2.2.2 with e|e;exact hrd g2 e hm;have:=hOl g2 hm;omega⟩
 rw [hset] at ku;have k1:((n+1:Nat):Int)-1=(n:Int):=ω;have HR:=χ (ψ hp.2 (ψ y8 (ψ hg2 (ψ hw0 DF))));have c9:=hR.h1;rw [hL1] at c9;have hwr9:wrap64 ((n:Int)+1-1)=(n:Int):=by rw [show (n:Int)+1-1=n by omega];exact IntWalk.wrap64_in _ ω
 clear hR hat hp hpl y8 hms hdom h16 hI2 ho2 hu2 kZ d1 e1 hw0 DF hsep hset
 go_wp2_with (first
  | ((go_at_call 146;(with_reducible refine (ku).mono ?_));rintro e w5 ⟨k,f',L',rfl,LV,L9,VB,BQ,cB,hk5,hH5⟩)
  | fail)
 obtain ⟨hb,y8,hg2,hw0,DF⟩:=HR.out;have hsz:=hw0.size;go_ret;refine ⟨rfl,_,L',LV.at_ L9,VB.trans y8,hH5 (Β hb),BQ,?_,λz hz=>?_⟩
 ·refine ((hw0.mono (λz hz=>by simp [hz])).trans (DF.mono (λz hz=>by simp at hz;simp [hz]))).joined cB (λz hz=>?_);simp only [ρ,τ] at hz ⊢;rcases hz with rfl|rfl|hz
  ·rcases hg2.2.2 with e|e
   ·exact Α (Β (Β (Α e)))
   ·exact Β ω
  ·exact Α (Β (Α rfl))
  ·exact Α (Β (Β (Β hz)))
 ·simp only [ρ,ς,or_false] at hz;rcases hz with rfl|rfl|rfl
  ·exact Α σ
  ·exact Α σ
  ·rcases hg2.2.2 with e|e
   ·exact Α (by simp [e])
   ·exact Β ω
theorem IZ.take {w:World} {g cap:Nat} {l:List Int} (h:IZ w g cap l) (n:Nat) (hn:n<=l.length):IZ w g cap (l.take n):=by
 rcases h.own.2 with ⟨h1,_⟩|⟨g',cap',cur,h1,hb,hg,hc,hm,hs,ht⟩
 ·cases h1
 ·cases h1;have hl:(l.take n).length=n:=ζ;refine ⟨⟨by rw [fM];omega,Β ⟨g,cap,cur,rfl,ω,hg,ω,hm,hs,?_⟩⟩⟩;rw [hl];have:cur.toList.take (n*1)=(cur.toList.take (l.length*1)).take (n*1):=by rw [List.take_take];congr 1;omega
  rw [this,ht];unfold aT;rw [←List.map_take,Nat.mul_one]
theorem Pt (L:List Nat) (n:Nat):bG (L.take n)=(bG L).take n:=by unfold bG;rw [List.map_take]
def Ji (f:Int->Option Int) (k:Int):Int->Option Int:=λq=>if q=k then none else f q
theorem uD {L:List Nat} {n:Nat} (hl:L.length=n+1):L=L.take n++[L.getD n 0]:=by
 have h1:L[n]?=some (L.getD n 0):=by simp [φ,hl]
 have h2:L.drop n=[L.getD n 0]:=by
  apply List.ext_getElem?;intro j;rw [List.getElem?_drop];cases j with
  | zero=>simpa using h1
  | succ j=>rw [List.getElem?_eq_none ω];simp
 calc L=L.take n++L.drop n:=(List.take_append_drop n L).symm
  _=_:=by rw [h2]
theorem Rj {f:Int->Option Int} {L:List Nat} {n:Nat} (h:sG f L) (hl:L.length=n+1) (hn:L.Nodup):sG (Ji f (L.getD n 0:Nat)) (L.take n):=λz v=>by
 have h1:L[n]?=some (L.getD n 0):=by simp [φ,hl]
 unfold Ji
 by_cases e:z=((L.getD n 0:Nat):Int)
 ·rw [Δ e];constructor
  ·intro h;cases h
  ·rintro ⟨y,j,rfl,rfl,hj⟩;rw [List.getElem?_take] at hj
   split at hj
   ·rename_i hjn
    have ey:y=L.getD n 0:=ω;rw [←ey] at h1;obtain ⟨g1,e1⟩:=List.getElem?_eq_some_iff.1 hj;obtain ⟨g2,e2⟩:=List.getElem?_eq_some_iff.1 h1;have:=(List.getElem_inj hn).1 (e1.trans e2.symm);omega
   ·cases hj
 ·rw [Γ e,h z v];constructor
  ·rintro ⟨y,j,rfl,rfl,hj⟩;have hjl:=(List.getElem?_eq_some_iff.1 hj).1;have hjn:j≠n:=λe2=>by rw [e2,h1] at hj;cases hj;exact e rfl
   exact ⟨y,j,rfl,rfl,by rw [List.getElem?_take,Δ ω];exact hj⟩
  ·rintro ⟨y,j,rfl,rfl,hj⟩;rw [List.getElem?_take] at hj
   split at hj
   ·exact ⟨y,j,rfl,rfl,hj⟩
   ·cases hj
theorem RV {f:Int->Option Int} {L:List Nat} {n i x:Nat} (h:sG f L) (hl:L.length=n+1) (hx:L[i]?=some x) (hi:i<n) (hn:L.Nodup):kH (Ji f x) (L.take n) i (L.getD n 0):=λz v hz=>by
 have h1:L[n]?=some (L.getD n 0):=by simp [φ,hl]
 unfold Ji
 by_cases e:z=(x:Int)
 ·rw [Δ e];constructor
  ·intro h;cases h
  ·rintro ⟨y,j,rfl,rfl,hji,hj⟩;rw [List.getElem?_take] at hj
   split at hj
   ·have ey:y=x:=ω;rw [ey] at hj;obtain ⟨g1,e1⟩:=List.getElem?_eq_some_iff.1 hj;obtain ⟨g2,e2⟩:=List.getElem?_eq_some_iff.1 hx;exact absurd ((List.getElem_inj hn).1 (e1.trans e2.symm)) hji
   ·cases hj
 ·rw [Γ e,h z v];constructor
  ·rintro ⟨y,j,rfl,rfl,hj⟩;have hjl:=(List.getElem?_eq_some_iff.1 hj).1;have hjn:j≠n:=λe2=>by rw [e2,h1] at hj;cases hj;exact hz rfl
   have hji:j≠i:=λe2=>by rw [e2,hx] at hj;cases hj;exact e rfl
   exact ⟨y,j,rfl,rfl,hji,by rw [List.getElem?_take,Δ ω];exact hj⟩
  ·rintro ⟨y,j,rfl,rfl,hji,hj⟩;rw [List.getElem?_take] at hj
   split at hj
   ·exact ⟨y,j,rfl,rfl,hj⟩
   ·cases hj
theorem Ki {L:List Nat} {n i x:Nat} (hl:L.length=n+1) (hx:L[i]?=some x) (hi:i<n):(x::(L.take n).set i (L.getD n 0)).Perm L:=by
 have h0:=uD hl;have hit:(L.take n)[i]?=some x:=by rw [List.getElem?_take,Δ hi];exact hx
 have hlt:(L.take n).length=n:=ζ;generalize L.getD n 0=y at *;generalize L.take n=T at *;obtain ⟨hiT,L8⟩:=List.getElem?_eq_some_iff.1 hit;rw [h0];have e1:T.set i y=T.take i++y::T.drop (i+1):=by rw [List.set_eq_take_append_cons_drop,Δ hiT]
 have e2:T=T.take i++x::T.drop (i+1):=by
  have h2:T.set i x=T:=by rw [←L8];simp
  rw [List.set_eq_take_append_cons_drop,Δ hiT] at h2;exact h2.symm
 rw [e1];have p1:(x::(T.take i++y::T.drop (i+1))).Perm (x::y::(T.take i++T.drop (i+1))):=List.Perm.cons x Ϟ;have p2:(T++[y]).Perm (y::x::(T.take i++T.drop (i+1))):=by
  refine (Φ (l₁:=T) (l₂:=[y])).trans (List.Perm.cons y ?_);have p3:(T.take i++x::T.drop (i+1)).Perm (x::(T.take i++T.drop (i+1))):=Ϟ;rw [←e2] at p3;exact p3
 exact p1.trans ((List.Perm.swap y x _).trans p2.symm)
theorem DX (O:fU) {w:World} {rp d:Nat} {G L:List Nat} (hO:O.at_ w) (h:jG w rp G d L) (hd:2<=d/\d<=16) (hl:L.length<=65536) (x:Nat) (hxm:x∈L) (hn:L.Nodup) (hH:Hp O.R d L)
  (hdom:∀y,y∈L->O.dom y) (h16:∀y,y∈L->y<=65536) (hsep:∀z,z∈G->z∉O.rd) :
  Calls Tryz.prog 133 #[.pointer (some ⟨rp,0,none⟩),.iface O.ty (.pointer (some ⟨O.p,0,none⟩)),.int .i64 (x:Int)] w λe w'=>e=.returned (.bool true)/\∃L',jG w' rp G d L'/\(x::L').Perm L/\Hp O.R d L'/\O.at_ w'/\aa (G++O.wr) w w':=by
 obtain ⟨i,hi,hxi⟩:=List.mem_iff_getElem.1 hxm;have hx:L[i]?=some x:=by rw [ε hi,hxi]
 obtain ⟨n,hln⟩:∃n,L.length=n+1:=⟨L.length-1,ω⟩;obtain ⟨mb,g,cap,f,hM,hP,rfl⟩:=h.open ω;have c1:=hM.h1;have c2:=hM.h2;have hcp:=hM.row.cap;rw [bQ] at hcp;have fr:=hM.head.free 1;have cl:=hM.cell n ω;have hfx:=QC hP hx;have hmb:dW w mb f:=hM.map;have hxl:=h16 x hxm;have hlt:=hM.lt;have RO:=hM.sep;have hlast:L[n]?=some (L.getD n 0):=by simp [φ,hln]
 have hym:=Η hlast;have hyl:=h16 _ hym;have Qf:(L.take n).length=n:=ζ;rw [hln] at c1 hcp;have Kh:∀W f',IZ W g cap (bG L)->dW W mb f'->aJ W rp 228 3 (λj=>[Value.int .i64 (d:Int),.slice (some ⟨g,0,none⟩) n cap,.map (some mb)].getD j undef)->r9 W rp mb g cap d f' (L.take n):=λW f' h1 h2 h3=>
  ⟨by rw [Qf];exact h3,by rw [Pt];exact h1.take n (by rw [bQ];omega),h2,RO⟩
 have DF:aa [rp] w (w.setCell ⟨rp,1,none⟩ (.slice (some ⟨g,0,none⟩) n cap)):=β;have zy:aJ (w.setCell ⟨rp,1,none⟩ (.slice (some ⟨g,0,none⟩) n cap)) rp 228 3 (λj=>[Value.int .i64 (d:Int),.slice (some ⟨g,0,none⟩) n cap,.map (some mb)].getD j undef):=
  (hM.head.set 1 _).ext (λj hj=>by rcases (ω:j=0\/j=1\/j=2) with rfl|rfl|rfl<;>rfl)
 have hI1:=hM.row.upd DF (by simp;exact λe=>RO.2.1 e.symm);have hm1:=hM.map.upd DF (by simp;exact λe=>RO.1 e.symm);have OC:=O.upd hO DF (λz hz=>by simp at hz;rw [hz];exact hsep rp σ);have HX:=χ (ψ hP (ψ hn (ψ hH (ψ hdom (ψ h16 (ψ hsep (ψ hx (ψ hln (ψ Qf (ψ Kh (ψ DF (ψ zy (ψ hI1 (ψ OC RO))))))))))))));have Uy:(i:Int)<(n:Int)+1:=ω;have hin:i<=n:=ω;clear hM hP hn hH hdom h16 hsep hO hx hxi Qf Kh zy hI1 OC hlast hym;generalize hy:L.getD n 0=y at *;have Y1:=χ hy;have hwr:wrap64 ((n:Int)+1-1)=(n:Int):=by rw [show (n:Int)+1-1=n by omega];exact IntWalk.wrap64_in _ ω
 have hwr2:(n:Int)+1-1=(n:Int):=ω;have Wu:(n:Int)<(n:Int)+1:=ω;have hncI:(n:Int)<=(cap:Int):=ω;have hwr3:IntKind.i64.wrap (n:Int)=(n:Int):=Μ _ ω;have hn0I:(0:Int)<=(n:Int):=ω;have HF:=χ (ψ hin hxm);clear hin
 go_enter Tryz.func133,Tryz.ntmps133
 go_upto_region 4 with (first
  | (at_lookup;refine pJ rfl _ _ rfl mb f rfl hmb (x:Int) rfl ω ?_;rw [hfx];simp only [Option.getD_some,Option.isSome_some])
  | fail)
 go_quiet (fail)
 go_upto_region 5 with (fail)
 go_region_law (fail)
 all_goals
  go_upto_region 6 with (fail)
  refine iR (λW=>aa [] (w.setCell ⟨rp,1,none⟩ (.slice (some ⟨g,0,none⟩) n cap)) W) ⟨rfl,rfl,rfl,Θ _,λ_ _ _=>rfl⟩ ?_;intro W hW;obtain ⟨hP,hn,hH,hdom,h16,hsep,hx,hln,Qf,Kh,DF,zy,hI1,OC,RO⟩:=HX.out;have hmW:=hm1.upd hW σ;have Zi:=zy.upd hW σ;have hIW:=hI1.upd hW σ;have V5:=O.upd OC hW σ;have c2W:=Zi.cellAt 2 (v:=.map (some mb)) ω rfl;have P6:aa [rp] w W:=DF.then hW;clear hm1 zy hI1 OC hW c1 c2 fr cl;have VN:∀w3,dW w3 mb (Ji f x)->aa [mb] W w3->r9 w3 rp mb g cap d (Ji f x) (L.take n)/\O.at_ w3:=λw3 LZ hu3=>
   ⟨Kh w3 _ (hIW.upd hu3 (by simp;exact λe=>RO.2.2 e.symm)) LZ (Zi.upd hu3 (by simp;exact RO.1)),O.upd V5 hu3 (λz hz=>by simp at hz;rw [hz];exact hsep mb σ)⟩
  by_cases hin2:i=n
  ·have hyx:y=x:=by
    have h1:L[n]?=some y:=by rw [←Y1.out];simp [φ,hln]
    rw [←hin2,hx] at h1;cases h1;rfl
   have hyx2:((y:Int) == (x:Int))=true:=by simp [hyx]
   have HG:=χ (ψ hP (ψ hn (ψ hH (ψ VN (ψ P6 (ψ hyx hln))))));clear hP hn hH hdom h16 hsep hx hln Qf Kh DF RO Zi hIW V5 VN P6 hyx hin2
   go_upto_region 7 with (first
    | (at_delete;refine jX rfl _ _ rfl mb _ rfl hmW (x:Int) rfl ω ?_;intro w3 LZ hu3)
    | fail)
   go_wp2;go_ret;obtain ⟨hP,hn,hH,VN,P6,hyx,hln⟩:=HG.out;obtain ⟨Y4,hO3⟩:=VN w3 LZ hu3;have hpl:=Rj hP hln hn;rw [Y1.out,hyx] at hpl;refine ⟨rfl,L.take n,Y4.at_ hpl,?_,hH.take hd.1,hO3,(P6.mono (λz hz=>by simp at hz;simp [hz])).trans (hu3.mono (λz hz=>by simp at hz;simp [hz]))⟩;have h0:=uD hln;rw [Y1.out,hyx] at h0
   conv=>rhs;rw [h0]
   exact (Φ (l₁:=L.take n) (l₂:=[x])).symm
  ·have hi2:i<n:=ω;have hyx:y≠x:=λe=>by
    have h1:L[n]?=some y:=by rw [←Y1.out];simp [φ,hln]
    rw [e] at h1;obtain ⟨g1,e1⟩:=List.getElem?_eq_some_iff.1 h1;obtain ⟨g2,e2⟩:=List.getElem?_eq_some_iff.1 hx;exact hin2 ((List.getElem_inj hn).1 (e1.trans e2.symm)).symm
   have hyx2:((y:Int) == (x:Int))=false:=ζ;have LU:=Ki hln hx hi2;have hgo:=RV hP hln hx hi2 hn;rw [Y1.out] at LU hgo;have hHo:=(hH.take (n:=n) hd.1).hole O.tr hd.1 (i:=i) (by rw [Qf];exact hi2);have hnd:=Ζ.1 (LU.nodup_iff.2 hn);have Xu:∀z,z∈(L.take n).set i y->O.dom z:=λz hz=>hdom z (LU.mem_iff.1 (Λ _ hz));have h6m:∀z,z∈(L.take n).set i y->z<=65536:=λz hz=>h16 z (LU.mem_iff.1 (Λ _ hz));have hsq:JP O rp mb g:=⟨hsep rp σ,hsep mb σ,hsep g σ⟩;have ku:=λw3 LZ hu3=>Jf O (VN w3 LZ hu3).2 (VN w3 LZ hu3).1 hd ω i y hHo hgo hnd.2 Xu h6m hsq
   have hit:((L.take n).set i y)[i]?=some y:=by simp [Qf,hi2]
   have hss:((L.take n).set i y).set i y=(L.take n).set i y:=by rw [List.set_set]
   have kd:=λ(w5:World) (f5:Int->Option Int) (BQ:O.at_ w5) (LV:r9 w5 rp mb g cap d f5 ((L.take n).set i y)) (L9:sG f5 ((L.take n).set i y)) (hT:i=0\/O.R ((L.take n).getD (par d i) 0) y)=>
    Ld O BQ LV hd (by rw [Ι,Qf];omega) i y (hHo.any hd.1 y) (L9.hole hit) (by rw [hss];exact hnd.2) (λz hz=>Xu z (by rw [←hss];exact hz)) (λz hz=>h6m z (by rw [←hss];exact hz)) hsq
     (by rcases Nat.eq_zero_or_pos i with h|h;exact Α h;rcases hT with e|e;exact Α e;exact Β (by have:=eB hd.1 h;rw [cZ,Γ ω];exact e))
   simp only [hss] at kd;have HG:=χ (ψ LU (ψ P6 hnd));have hiI2:(i:Int)<(n:Int):=ω;clear hP hn hH hdom h16 hsep hx hln Qf Kh DF RO Zi hIW V5 VN P6 hyx hin2 LU hgo hHo hnd Xu h6m hsq hit hss
   go_upto_region 9 with (first
    | (at_delete;refine jX rfl _ _ rfl mb _ rfl hmW (x:Int) rfl ω ?_;intro w3 LZ hu3)
    | fail)
   have ku3:=ku w3 LZ hu3;clear ku
   go_wp2_with (first
    | ((go_at_call 146;(with_reducible refine (ku3).mono ?_));rintro e w5 ⟨k,f',L',rfl,LV,L9,VB,BQ,cB,hk5,hH5⟩)
    | ((go_at_call 147;(have hki:k=i:=by have h:=(by assumption:((k:Int) == (i:Int))=true);simp at h;omega);(obtain ⟨hL5,Ff⟩:=hk5 hki);(rw [hL5] at LV L9);(refine (kd w5 f' BQ LV L9 Ff).mono ?_));rintro e w6 ⟨f6,L6,rfl,Uw,Zf,hpr6,hO6,jy,hH6⟩)
    | fail)
   all_goals
    go_ret;obtain ⟨LU,P6,hnd⟩:=HG.out;have Yx:aa (rp::mb::g::O.wr) w w5:=((P6.mono (λz hz=>by simp at hz;simp [hz])).trans (hu3.mono (λz hz=>by simp at hz;simp [hz]))).trans (cB.mono (λz hz=>by simp only [ρ] at hz ⊢;rcases hz with h|h|h;exact Β (Β (Α h));exact Β (Α h);exact Β (Β (Β h))))
    first
     | (refine ⟨rfl,L6,Uw.at_ Zf,(hpr6.cons x).trans LU,hH6,hO6,Yx.trans (jy.mono (λz hz=>by simp only [ρ] at hz ⊢;rcases hz with h|h|h;exact Β (Β (Α h));exact Β (Α h);exact Β (Β (Β h))))⟩)
     | (refine ⟨rfl,L',LV.at_ L9,(VB.cons x).trans LU,hH5 (Α (by have h:=(by assumption:((k:Int) == (i:Int))=false);simp at h;omega)),BQ,Yx⟩)
theorem Bv (p c:Nat):∀W:World,W.cell? ⟨p,0,none⟩=some (.pointer (some ⟨c,0,none⟩))->(method 409 122 (.pointer (some ⟨p,0,none⟩)) "Ahead").run Tryz.prog W=.ok (164,.pointer (some ⟨c,0,none⟩)) W:=(by intro W h;unfold method;have hm:∃m,(Array.find? (λx=>x.name == "Ahead") Tryz.t122.methods)=some m/\m.path.toList=[⟨179,0,true⟩]/\m.func=some (164,true)/\m.path.isEmpty=false:=⟨(Array.find? (λx=>x.name == "Ahead") Tryz.t122.methods).get!,by kernel_rfl,by kernel_rfl,by kernel_rfl,by kernel_rfl⟩;obtain ⟨m,h1,h2,h3,h4⟩:=hm;go_simp;simp only [follow,Place.get];go_simp;(try unfold receiverAt);(try simp only [Place.get]);(try go_simp))
theorem BZ (p:Nat):∀W:World,(nilAhead 409 122 (.pointer (some ⟨p,0,none⟩)) "Ahead").run Tryz.prog W=.ok (some false) W:=λW=>by kernel_rfl
structure DB where
 n0:Nat
 c:Nat
 d:Nat
def VP (d:Nat):Yh:=⟨λw p G L=>jG w p G d L,λh hu hS=>h.upd hu hS,λh=>h.lt⟩
def jw (A:NS) (h:Nat):Bool:=bA A (h:Int)
structure vB (w:World) (B:DB) (F Z:List Nat) (gr cr:Nat) (A:NS) (st:Nat) (ptr:Nat->Option Nat) (G L:Nat->List Nat):Prop where
 head:aJ w B.n0 179 3 (λj=>[Value.pointer (some ⟨B.c,0,none⟩),.int .i64 (B.d:Int),.slice (some ⟨gr,0,none⟩) A.hs.length cr].getD j undef)
 cells:aB w B.c F A st
 gV:pR (VP B.d) 174 w gr cr A.hs.length (jw A) Z ptr G L
 bI:B.n0∉F/\gr∉F/\B.n0≠gr
 gH:∀z,z∈Z->z∉F/\z≠B.n0
 dd:2<=B.d/\B.d<=16
def DB.blk (B:DB) (F Z:List Nat) (gr:Nat):List Nat:=B.n0::gr::(F++Z)
section
variable {w:World} {B:DB} {F Z:List Nat} {gr cr st:Nat} {A:NS} {ptr:Nat->Option Nat} {G L:Nat->List Nat}
theorem vB.upd {w':World} {S:List Nat} (h:vB w B F Z gr cr A st ptr G L) (hu:aa S w w') (hS:∀x,x∈S->x∉B.blk F Z gr):vB w' B F Z gr cr A st ptr G L:=by
 have h1:∀x,x∈B.blk F Z gr->x∉S:=λx hx hg=>hS x hg hx;exact ⟨h.head.upd hu (h1 _ (by simp [DB.blk])),h.cells.upd hu (λx hx hm=>hS x hx (by simp [DB.blk,hm])),h.gV.upd hu (λz hz=>⟨λe=>hS z hz (by simp [DB.blk,e]),λe=>hS z hz (by simp [DB.blk,e])⟩),h.bI,h.gH,h.dd⟩
theorem vB.ai {w':World} (h:vB w B F Z gr cr A st ptr G L) (hu:aa [] w w'):vB w' B F Z gr cr A st ptr G L:=h.upd hu σ
theorem vB.lt (h:vB w B F Z gr cr A st ptr G L):∀x,x∈B.blk F Z gr->x<w.heap.size:=by
 intro x hx;simp only [DB.blk,ρ,τ] at hx;rcases hx with rfl|rfl|hx|hx
 ·exact h.head.lt
 ·exact h.gV.lt
 ·exact h.cells.lt x hx
 ·exact h.gV.CL x hx
theorem vB.h0 (h:vB w B F Z gr cr A st ptr G L):w.cell? ⟨B.n0,0,none⟩=some (.pointer (some ⟨B.c,0,none⟩)):=h.head.cellAt 0 ω rfl
theorem vB.h1 (h:vB w B F Z gr cr A st ptr G L):w.cell? ⟨B.n0,1,none⟩=some (.int .i64 (B.d:Int)):=h.head.cellAt 1 ω rfl
theorem vB.h2 (h:vB w B F Z gr cr A st ptr G L):w.cell? ⟨B.n0,2,none⟩=some (.slice (some ⟨gr,0,none⟩) A.hs.length cr):=h.head.cellAt 2 ω rfl
theorem vB.dV {w':World} {F':List Nat} {A':NS} {st':Nat} (h:vB w B F Z gr cr A st ptr G L) (hu:aa F w w') (hC:aB w' B.c F' A' st') (hF:∀x,x∈F'->x∈F\/w.heap.size<=x) (h2:A'.hs=A.hs):vB w' B F' Z gr cr A' st' ptr G L:=by
 have f:=h.bI;have g:=h.lt;have hf:∀x,x<w.heap.size->x∉F->x∉F':=λx hx hn hm=>by rcases hF x hm with h'|h';exact hn h';omega
 have l0:=g B.n0 (by simp [DB.blk]);have l1:=g gr (by simp [DB.blk]);have hh:jw A'=jw A:=funext λk=>by unfold jw bA;rw [h2]
 exact ⟨by rw [h2];exact h.head.upd hu f.1,hC,by rw [h2,hh];exact h.gV.upd hu (λz hz=>⟨λe=>f.2.1 (by rw [←e];exact hz),λhm=>(h.gH z hm).1 hz⟩),⟨hf _ l0 f.1,hf _ l1 f.2.1,f.2.2⟩,λz hz=>⟨hf z (h.gV.CL z hz) (h.gH z hz).1,(h.gH z hz).2⟩,h.dd⟩
def QT (B:DB) (F:List Nat) (A:NS) (hc:B.c∈F):fU where
 ty:=122
 p:=B.n0
 rd:=B.n0::F
 wr:=[B.c]
 lt:=λa b=>decide (dO A a b)
 dom:=λx=>bR A (x:Int)=true
 at_:=λw=>w.cell? ⟨B.n0,0,none⟩=some (.pointer (some ⟨B.c,0,none⟩))/\B.n0∉F/\∃st,aB w B.c F A st
 sub:=λx hx=>by simp at hx;rw [hx];exact Λ _ hc
 low:=λh x hx=>by
  obtain ⟨h1,h3,st,h2⟩:=h;rcases ρ.1 hx with e|e
  ·rw [e];exact Ε _ _ h1
  ·exact h2.lt x e
 upd:=λh hu hS=>by
  obtain ⟨h1,h3,st,h2⟩:=h;exact ⟨hu.kept h1 (λhm=>hS _ hm σ),h3,st,h2.upd hu (λx hx hm=>hS x hx (by simp [hm]))⟩
 trans:=λa b c h1 h2=>Ν (dw (Ϡ h1) (Ϡ h2))
 total:=λa b h=>by rcases jS (A:=A) h with h|h;exact Α (Ν h);exact Β (Ν h)
 asym:=λa b h=>Ξ (qC (Ϡ h))
 fn:=164
 recv:=.pointer (some ⟨B.c,0,none⟩)
 ZF:=λ_ _=>by kernel_rfl
 QY:=λh=>Bv _ _ _ h.1
 Qw:=BZ _
 ask:=λ{w} x y h hx hy=>by
  obtain ⟨h1,h3,st,h2⟩:=h;refine (gW h2 x y hx hy).mono ?_;rintro e w' ⟨rfl,hC,hu⟩;exact ⟨rfl,⟨hu.kept h1 (λhm=>h3 (by simp at hm;rw [hm];exact h2.mem)),h3,_,hC⟩,hu⟩
theorem vB.ord (h:vB w B F Z gr cr A st ptr G L):(QT B F A h.cells.mem).at_ w:=⟨h.h0,h.bI.1,st,h.cells⟩
end
def kK (w:World) (B:DB) (F Z:List Nat) (gr:Nat) (A:NS) (st:Nat):Prop:=∃cr ptr G L,vB w B F Z gr cr A st ptr G L/\pM B.d A L
section
variable {w:World} {B:DB} {F Z:List Nat} {gr st:Nat} {A:NS}
theorem kK.upd {w':World} {S:List Nat} (h:kK w B F Z gr A st) (hu:aa S w w') (hS:∀x,x∈S->x∉B.blk F Z gr):kK w' B F Z gr A st:=by
 obtain ⟨cr,ptr,G,L,hM,hI⟩:=h;exact ⟨cr,ptr,G,L,hM.upd hu hS,hI⟩
theorem kK.ai {w':World} (h:kK w B F Z gr A st) (hu:aa [] w w'):kK w' B F Z gr A st:=h.upd hu σ
theorem DW (h:kK w B F Z gr A st) (g:Nat) (hn:bA A g=true) :
  Calls Tryz.prog 129 #[.pointer (some ⟨B.n0,0,none⟩),.int .i64 (g:Int)] w λe w'=>e=.returned (.tuple #[.int .i64 (pK (dM A g)),.bool (dM A g).isSome])/\w'=w:=by
 obtain ⟨cr,ptr,G,L,hM,hI⟩:=h;have k:=iM hM.cells g;rw [hn] at k;have h0:=hM.h0;have h2:=hM.h2;obtain ⟨rp,hp,hR⟩:=hM.gV.row g hn;have hg:=(aA _ _).1 hn;have hc:=hM.gV.cell ω hp;have VV:(g:Int)<(A.hs.length:Int):=ω;have hR':jG w rp (G g) B.d (L g):=hR;cases hl:L g with
 | nil=>
  rw [hl] at hR';have ka:=OU hR';rw [hI.none hn hl];clear hM hI hn hR hR' hp hl
  go_enter Tryz.func129,Tryz.ntmps129
  go_wp2_with (first|(go_at_call 123;(with_reducible refine (k).mono ?_);rintro e w9 ⟨rfl,aH⟩;rw [aH];clear aH w9)|(go_at_call 144;(with_reducible refine (ka).mono ?_);rintro e w9 ⟨rfl,aH⟩;rw [aH];clear aH w9))
  go_ret2;exact ⟨rfl,rfl⟩
 | cons m l=>
  rw [hl] at hR';have ka:=Ni hR';rw [hI.first hM.dd.1 hn hl];clear hM hI hn hR hR' hp hl
  go_enter Tryz.func129,Tryz.ntmps129
  go_wp2_with (first|(go_at_call 123;(with_reducible refine (k).mono ?_);rintro e w9 ⟨rfl,aH⟩;rw [aH];clear aH w9)|(go_at_call 144;(with_reducible refine (ka).mono ?_);rintro e w9 ⟨rfl,aH⟩;rw [aH];clear aH w9))
  go_ret2;exact ⟨rfl,rfl⟩
end
def WQ (B:HB) (w:World) (rp:Nat) (G L:List Nat):Prop:=∃v,aJ w rp 302 2 (IL B v)/\w.ownsRow 0 3 1 v L.length (aT (bG L))/\G=rp::v.ownBlock.toList/\∀g,v.ownBlock=some g->g≠rp
def Vt (B:HB):Yh:=⟨WQ B,λh hu hS=>by
 obtain ⟨v,h1,h2,rfl,h3⟩:=h;exact ⟨v,h1.upd hu (λhm=>hS _ hm σ),au h2 hu (λk hk hm=>hS k hm (Λ _ (Option.mem_toList.2 hk))),rfl,h3⟩,λh=>by
 obtain ⟨v,h1,h2,rfl,h3⟩:=h;intro z hz;rcases ρ.1 hz with e|e
 ·rw [e];exact h1.lt
 ·exact (h2.lt z (Option.mem_toList.1 e)).2⟩
structure ShM (w:World) (B:HB) (F Z:List Nat) (gr cr:Nat) (A:NS) (st:Nat) (ptr:Nat->Option Nat) (G L:Nat->List Nat) (T:List Nat):Prop where
 head:aJ w B.n0 210 3 (λj=>[Value.pointer (some ⟨B.c,0,none⟩),.slice (some ⟨gr,0,none⟩) A.hs.length cr,.slice (some ⟨B.ga,0,none⟩) T.length T.length].getD j undef)
 cells:aB w B.c F A st
 gV:pR (Vt B) 298 w gr cr A.hs.length (jw A) Z ptr G L
 wN:IZ w B.ga T.length (bG T)
 tl:T.length=A.cs.length
 bI:B.n0∉F/\gr∉F/\B.ga∉F
 sep:B.n0≠gr/\B.ga≠B.n0/\B.ga≠gr
 gH:∀z,z∈Z->z∉F/\z≠B.n0/\z≠B.ga
def HB.blk (B:HB) (F Z:List Nat) (gr:Nat):List Nat:=B.n0::gr::B.ga::(F++Z)
structure Wd (A:NS) (L:Nat->List Nat) (T:List Nat):Prop where
 di:pM 2 A L
 wJ:∀h:Nat,bA A h=true->∀j x,(L h)[j]?=some x->T.getD x 0=j
section
variable {w w':World} {B:HB} {F Z:List Nat} {gr cr st:Nat} {A:NS} {ptr:Nat->Option Nat} {G L:Nat->List Nat} {T:List Nat}
theorem ShM.upd {S:List Nat} (h:ShM w B F Z gr cr A st ptr G L T) (hu:aa S w w') (hS:∀x,x∈S->x∉B.blk F Z gr):ShM w' B F Z gr cr A st ptr G L T:=by
 have h1:∀x,x∈B.blk F Z gr->x∉S:=λx hx hg=>hS x hg hx;exact ⟨h.head.upd hu (h1 _ (by simp [HB.blk])),h.cells.upd hu (λx hx hm=>hS x hx (by simp [HB.blk,hm])),h.gV.upd hu (λz hz=>⟨λe=>hS z hz (by simp [HB.blk,e]),λe=>hS z hz (by simp [HB.blk,e])⟩),h.wN.upd hu (h1 _ (by simp [HB.blk])),h.tl,h.bI,h.sep,h.gH⟩
theorem ShM.ai (h:ShM w B F Z gr cr A st ptr G L T) (hu:aa [] w w'):ShM w' B F Z gr cr A st ptr G L T:=h.upd hu σ
theorem ShM.lt (h:ShM w B F Z gr cr A st ptr G L T):∀x,x∈B.blk F Z gr->x<w.heap.size:=by
 intro x hx;simp only [HB.blk,ρ,τ] at hx;rcases hx with rfl|rfl|rfl|hx|hx
 ·exact h.head.lt
 ·exact h.gV.lt
 ·exact h.wN.lt
 ·exact h.cells.lt x hx
 ·exact h.gV.CL x hx
theorem ShM.h0 (h:ShM w B F Z gr cr A st ptr G L T):w.cell? ⟨B.n0,0,none⟩=some (.pointer (some ⟨B.c,0,none⟩)):=h.head.cellAt 0 ω rfl
theorem ShM.h1 (h:ShM w B F Z gr cr A st ptr G L T):w.cell? ⟨B.n0,1,none⟩=some (.slice (some ⟨gr,0,none⟩) A.hs.length cr):=h.head.cellAt 1 ω rfl
theorem ShM.h2 (h:ShM w B F Z gr cr A st ptr G L T):w.cell? ⟨B.n0,2,none⟩=some (.slice (some ⟨B.ga,0,none⟩) T.length T.length):=h.head.cellAt 2 ω rfl
theorem ShM.II (h:ShM w B F Z gr cr A st ptr G L T) (j:Nat) (hj:j<T.length):w.cell? ⟨B.ga,j,none⟩=some (.int .i64 ((T.getD j 0:Nat):Int)):=by
 have:=h.wN.cell j (by rw [bQ];exact hj);rwa [lV] at this
theorem ShM.dV {F':List Nat} {A':NS} {st':Nat} (h:ShM w B F Z gr cr A st ptr G L T) (hu:aa F w w') (hC:aB w' B.c F' A' st') (hF:∀x,x∈F'->x∈F\/w.heap.size<=x) (h2:A'.hs=A.hs) (h3:A'.cs.length=A.cs.length):ShM w' B F' Z gr cr A' st' ptr G L T:=by
 have f:=h.bI;have g:=h.lt;have hf:∀x,x<w.heap.size->x∉F->x∉F':=λx hx hn hm=>by rcases hF x hm with h'|h';exact hn h';omega
 have l0:=g B.n0 (by simp [HB.blk]);have l1:=g gr (by simp [HB.blk]);have l2:=g B.ga (by simp [HB.blk]);have hh:jw A'=jw A:=funext λk=>by unfold jw bA;rw [h2]
 exact ⟨by rw [h2];exact h.head.upd hu f.1,hC,by rw [h2,hh];exact h.gV.upd hu (λz hz=>⟨λe=>f.2.1 (by rw [←e];exact hz),λhm=>(h.gH z hm).1 hz⟩),h.wN.upd hu f.2.2,by rw [h3];exact h.tl,⟨hf _ l0 f.1,hf _ l1 f.2.1,hf _ l2 f.2.2⟩,h.sep,λz hz=>⟨hf z (h.gV.CL z hz) (h.gH z hz).1,(h.gH z hz).2⟩⟩
theorem ShM.pile (h:ShM w B F Z gr cr A st ptr G L T) {g:Nat} (hg:bA A g=true) (hd:∀y,y∈L g->bR A (y:Int)=true/\y<T.length) (hn:(L g).Nodup) (hpl:∀j x,(L g)[j]?=some x->T.getD x 0=j) :
  ∃rp v,ptr g=some rp/\G g=rp::v.ownBlock.toList/\Ac w B F A rp v (L g) T:=by
 obtain ⟨rp,hp,v,h1,h2,h3,h4⟩:=h.gV.row g hg;have hz:∀z,z∈rp::v.ownBlock.toList->z∈Z:=λz hz=>h.gV.qK g hg z (by rw [h3];exact hz);have hr:=h.gH rp (hz rp σ);have hok:=h.cells.ok.c1;refine ⟨rp,v,hp,h3,h1,h2,h.wN,h.h0,h.h2,⟨st,h.cells⟩,⟨hr.2.2,hr.2.1⟩,λk hk=>?_,h.sep.2.1,⟨hr.1,h.bI.2.2,h.bI.1⟩,hd,hn,hpl,by rw [h.tl];exact hok⟩;have hk':=h.gH k (hz k (Λ _ (Option.mem_toList.2 hk)));exact ⟨h4 k hk,hk'.2.2,hk'.2.1,hk'.1⟩
theorem ShM.DZ (h:ShM w B F Z gr cr A st ptr G L T) {g rp:Nat} (hg:bA A g=true) (hp:ptr g=some rp) {v':Value} {L' T' S:List Nat} (hu:aa S w w') (hS:∀z,z∈S->z∈G g\/z=B.ga\/z=B.c) (hr:rp∈G g) (hP:Ac w' B F A rp v' L' T') (hl:T'.length=T.length) (hG:∀k,v'.ownBlock=some k->k∈G g\/w.heap.size<=k) :
  ∃st',ShM w' B F (Z++(rp::v'.ownBlock.toList)) gr cr A st' ptr (dU G g (rp::v'.ownBlock.toList)) (dU L g L') T':=by
 have om:=h.cells.mem;have hsl:=h.lt;obtain ⟨st',hC⟩:=hP.wV;have hnc:B.n0≠B.c:=λe=>h.bI.1 (by rw [e];exact om);have hSn:B.n0∉S:=λhm=>by
  rcases hS _ hm with e|e|e
  ·exact (h.gH _ (h.gV.qK g hg _ e)).2.1 rfl
  ·exact h.sep.2.1 e.symm
  ·exact hnc e
 have Vf:∀z,z∈rp::v'.ownBlock.toList->z∈G g\/w.heap.size<=z:=λz hz=>by
  rcases ρ.1 hz with e|e
  ·rw [e];exact Α hr
  ·exact hG z (Option.mem_toList.1 e)
 refine ⟨st',⟨?_,hC,h.gV.one hg hp hu (λz hz=>?_) ⟨v',hP.hd,hP.own,rfl,λk hk=>(hP.sg k hk).1⟩ Vf,hP.wN,by rw [hl];exact h.tl,h.bI,h.sep,λz hz=>?_⟩⟩
 ·rw [hl];exact h.head.upd hu hSn
 ·rcases hS z hz with e|e|e
  ·exact Α e
  ·rw [e];exact Β ⟨h.sep.2.2,λhm=>(h.gH _ hm).2.2 rfl⟩
  ·rw [e];exact Β ⟨λe2=>h.bI.2.1 (by rw [←e2];exact om),λhm=>(h.gH _ hm).1 om⟩
 ·rcases τ.1 hz with e|e
  ·exact h.gH z e
  ·rcases Vf z e with e2|e2
   ·exact h.gH z (h.gV.qK g hg z e2)
   ·exact ⟨λhm=>by have:=hsl z (by simp [HB.blk,hm]);omega,λe3=>by have:=hsl B.n0 (by simp [HB.blk]);omega,λe3=>by have:=hsl B.ga (by simp [HB.blk]);omega⟩
end
def ShAt (w:World) (B:HB) (F Z:List Nat) (gr:Nat) (A:NS) (st:Nat):Prop:=∃cr ptr G L T,ShM w B F Z gr cr A st ptr G L T/\Wd A L T
section
variable {w:World} {B:HB} {F Z:List Nat} {gr st:Nat} {A:NS}
theorem ShAt.upd {w':World} {S:List Nat} (h:ShAt w B F Z gr A st) (hu:aa S w w') (hS:∀x,x∈S->x∉B.blk F Z gr):ShAt w' B F Z gr A st:=by
 obtain ⟨cr,ptr,G,L,T,hM,hI⟩:=h;exact ⟨cr,ptr,G,L,T,hM.upd hu hS,hI⟩
theorem ShAt.ai {w':World} (h:ShAt w B F Z gr A st) (hu:aa [] w w'):ShAt w' B F Z gr A st:=h.upd hu σ
theorem Ak (h:ShAt w B F Z gr A st) (g:Nat) (hn:bA A g=true) :
  Calls Tryz.prog 266 #[.pointer (some ⟨B.n0,0,none⟩),.int .i64 (g:Int)] w λe w'=>e=.returned (.tuple #[.int .i64 (pK (dM A g)),.bool (dM A g).isSome])/\w'=w:=by
 obtain ⟨cr,ptr,G,L,T,hM,hI⟩:=h;have hg:=(aA _ _).1 hn;have hok:=hM.cells.ok;have h1:=hok.h1;have k:=nJ hM.cells (g:Int) ω;have h0:=hM.h0;have h2:=hM.h1;obtain ⟨rp,hp,v,r1,r2,r3,r4⟩:=hM.gV.row g hn;have hc:=hM.gV.cell ω hp;have VV:(g:Int)<(A.hs.length:Int):=ω;cases hl:L g with
 | nil=>
  have JA:=hI.di.none hn hl;have hz:=(jg (A:=A) (h:=(g:Int)) ω).1 JA;rw [JA];rw [hz] at k;clear hM hI hn r1 r2 r3 r4 hp hl JA hz hok
  go_enter Tryz.func266,Tryz.ntmps266
  go_wp2_with (first|(go_at_call 126;(with_reducible refine (k).mono ?_);rintro e w9 ⟨rfl,aH⟩;rw [aH];clear aH w9)|fail)
  go_ret2;exact ⟨rfl,rfl⟩
 | cons m l=>
  have JA:=hI.di.first ω hn hl;have hz:¬bU A (g:Int)=0:=λe=>by
   have:=(jg (A:=A) (h:=(g:Int)) ω).2 e;rw [JA] at this;cases this
  have hle:=uT hok (g:Int);rw [JA];rw [hl] at r2;obtain ⟨gs,cap,rfl,_,hgl,hcc,hcap,hcell, -⟩:=ed r2 σ;have c1:w.cell? ⟨rp,1,none⟩=some (.slice (some ⟨gs,0,none⟩) (m::l).length cap):=r1.cellAt 1 ω rfl;have c2:w.cell? ⟨gs,0,none⟩=some (.int .i64 (m:Int)):=hcell 0 _ rfl;have hzb:((bU A (g:Int):Int) == 0)=false:=ι;have hlp:(0:Int)<((m::l).length:Int):=ι;clear hM hI hn r1 r2 r3 r4 hp hl JA hcell hok hz;generalize bU A (g:Int)=ln at *;generalize (m::l).length=nl at *
  go_enter Tryz.func266,Tryz.ntmps266
  go_wp2_with (first|(go_at_call 126;(with_reducible refine (k).mono ?_);rintro e w9 ⟨rfl,aH⟩;rw [aH];clear aH w9)|fail)
  go_ret2;exact ⟨rfl,rfl⟩
end
theorem Jz:(Tryz.prog.info? 174).map (λi=>(i.zero,i.size,i.bytes))=some (some (.pointer none),1,8):=by kernel_rfl
theorem mi (n h:Nat):jw (NS.new n) h=false:=by
 unfold jw;cases hh:bA (NS.new n) (h:Int) with
 | false=>rfl
 | true=>have:=(aA _ _).1 hh;simp [NS.new] at this;omega
theorem Mi (n d:Nat) (w:World) (h:n<=65536) (hd:2<=d/\d<=16) :
  Calls Tryz.prog 57 #[.int .i64 (n:Int),.int .i64 (d:Int)] w λe w'=>∃B F gr,e=.returned (.tuple #[.pointer (some ⟨B.n0,0,none⟩),.int .i64 0])/\kK w' B F [] gr (NS.new n) 0/\aa [] w w'/\(∀x,x∈B.blk F [] gr->w.heap.size<=x)/\B.d=d:=by
 go_enter Tryz.func57,Tryz.ntmps57
 go_wp2_with (first
  | ((go_at_call 84;(with_reducible refine (lX n _ h).mono ?_));rintro e w1 ⟨c,F,rfl,hC,hu1,hF⟩)
  | ((go_at_call 85;(with_reducible refine (Er d hd _).mono ?_));rintro e w2 ⟨rp,G,rfl,hR,hu2,hG⟩)
  | fail)
 go_ret2;have l1:=hu1.size;have l2:=hu2.size;have l7:=hC.lt;have e3:((w2.alloc (.cells #[.pointer none] 174)).heap.size)=w2.heap.size+1:=by rw [Κ]
 have hh:=dL (w2.alloc (.cells #[.pointer none] 174)) [.pointer (some ⟨c,0,none⟩),.int .i64 (d:Int),.slice (some ⟨w2.heap.size,0,none⟩) 1 1] 179;rw [e3] at hh;have hv:aa [] w2 (w2.alloc (.cells #[.pointer none] 174)):=(aa.refl _ _).alloc _;have hv2:aa [] (w2.alloc (.cells #[.pointer none] 174)) ((w2.alloc (.cells #[.pointer none] 174)).alloc (.cells #[.pointer (some ⟨c,0,none⟩),.int .i64 (d:Int),.slice (some ⟨w2.heap.size,0,none⟩) 1 1] 179)):=(aa.refl _ _).alloc _
 have hw:aa [] w2 ((w2.alloc (.cells #[.pointer none] 174)).alloc (.cells #[.pointer (some ⟨c,0,none⟩),.int .i64 (d:Int),.slice (some ⟨w2.heap.size,0,none⟩) 1 1] 179)):=hv.trans hv2;have ho:=ou w2 [.pointer none] 174 0 1 1 rfl ω μ;have hnF:∀x,w1.heap.size<=x->x∉F:=λx hx hm=>by have:=l7 x hm;omega
 refine ⟨⟨w2.heap.size+1,c,d⟩,F,w2.heap.size,rfl,⟨1,λ_=>none,λ_=>[],λ_=>[],⟨hh,(hC.ai hu2).ai hw,⟨?_,λk hk=>?_,λk hk=>?_,λk j hk=>?_,λz hz=>by simp at hz,σ⟩,⟨hnF _ (by first|omega|(simp only;omega)),hnF _ ω,σ⟩,λz hz=>by simp at hz,hd⟩,⟨λk hk=>?_,λk hk=>?_,λk x hk=>?_⟩⟩,(hu1.trans hu2).trans hw,λx hx=>?_,rfl⟩
 ·exact au ho hv2 σ
 ·rw [mi] at hk;cases hk
 ·rw [mi] at hk;cases hk
 ·rw [mi] at hk;cases hk
 ·have:=mi n k;unfold jw at this;rw [this] at hk;cases hk
 ·have:=mi n k;unfold jw at this;rw [this] at hk;cases hk
 ·have:=mi n k;unfold jw at this;rw [this] at hk;cases hk
 ·simp only [DB.blk,ρ,Υ] at hx;rcases hx with rfl|rfl|hx
  ·omega
  ·omega
  ·exact hF x hx
section
variable {w:World} {B:DB} {F Z:List Nat} {gr st:Nat} {A:NS}
theorem Md (h:kK w B F Z gr A st) (hl:65536<A.hs.length) :
  Calls Tryz.prog 127 #[.pointer (some ⟨B.n0,0,none⟩)] w λe w'=>e=.returned (.int .i64 0)/\Goes (B.blk F Z gr) w w' (λF'=>∃F1,F'=B.blk F1 Z gr/\kK w' B F1 Z gr A st):=by
 obtain ⟨cr,ptr,G,L,hM,hI⟩:=h;have k:=gQ hM.cells;have e1:bW A=0:=by unfold bW;rw [Δ hl]
 have e2:aI A=A:=by unfold aI;rw [Δ hl]
 rw [e1,e2] at k;have h0:=hM.h0;have HM:=χ (ψ hM hI);clear hM hI e1 e2
 go_enter Tryz.func127,Tryz.ntmps127
 go_wp2_with (first|((go_at_call 140;(with_reducible refine (k).mono ?_));rintro e w1 ⟨rfl,F1,hC,hu,hF⟩))
 go_ret;refine ⟨rfl,B.blk F1 Z gr,⟨F1,rfl,cr,ptr,G,L,HM.out.1.dV hu hC hF rfl,HM.out.2⟩,hu.mono (λy hy=>by simp [DB.blk,hy]),λx hx=>?_⟩;simp only [DB.blk,ρ,τ] at hx ⊢;rcases hx with rfl|rfl|hx|hx
 ·simp
 ·simp
 ·rcases hF x hx with h|h
  ·simp [h]
  ·exact Β h
 ·simp [hx]
theorem JG (h:kK w B F Z gr A st) (hl:¬65536<A.hs.length) :
  Calls Tryz.prog 127 #[.pointer (some ⟨B.n0,0,none⟩)] w λe w'=>e=.returned (.int .i64 (A.hs.length:Int))/\Goes (B.blk F Z gr) w w' (λF'=>∃F1 Z1 Cw,F'=B.blk F1 Z1 Cw/\kK w' B F1 Z1 Cw (aI A) st):=by
 obtain ⟨cr,ptr,G,L,hM,hI⟩:=h;have k:=gQ hM.cells;have e1:bW A=A.hs.length:=by unfold bW;rw [Γ hl]
 rw [e1] at k;have iN:(aI A).hs.length=A.hs.length+1:=by unfold aI;rw [Γ hl];simp
 have hh0:=hM.cells.ok.h0;have hI2:=hI.make hM.dd.1 hM.cells.ok hl ω;have h0:=hM.h0;have kr:=λW=>Er B.d hM.dd W;have HM:=χ (ψ hM (ψ hI2 iN));clear hM hI e1 hI2 iN;generalize hm:A.hs.length=m at *;have Df:=χ hm;clear hm
 go_enter Tryz.func127,Tryz.ntmps127
 go_wp2_with (first
  | ((go_at_call 140;(with_reducible refine (k).mono ?_));rintro e w1 ⟨rfl,F1,hC,hu,hF⟩;(have q1:=hu.kept HM.out.1.h1 HM.out.1.bI.1);(have q2:=hu.kept HM.out.1.h2 HM.out.1.bI.1);(have f2:=hu.aM HM.out.1.h2 HM.out.1.bI.1 (HM.out.1.head.free 2));(have ho1:=au HM.out.1.gV.rows hu (λk hk hm=>by cases hk;exact HM.out.1.bI.2.1 hm));(rw [Df.out] at q2 ho1))
  | ((go_at_call 85;(with_reducible refine (kr _).mono ?_));rintro e w2 ⟨rp,G2,rfl,hR,hu2,hG2⟩;(have q3:=hu2.was q2);(have f3:=hu2.aM q2 σ f2);(have ho2:=au ho1 hu2 σ))
  | (at_builtin;refine aW rfl _ _ 177 rfl 0 174 (.pointer none) 1 8 Tryz.underlying177 Jz rfl δ _ _ _ rfl (ho2) [sj (some rp)] rfl (by simp [Value.oneCell',sj]) (by first|rfl|(rw [Κ];rfl)) μ ω ω ?_;intro v3 w3 ho3 hu3 El;(have hu3:aa [gr] w2 w3:=hu3);obtain ⟨g3,c3,ev, -⟩:=ed ho3 ω;subst ev;(have d4:=hu3.kept q3 (by simp;exact HM.out.1.bI.2.2));(have f4:=hu3.aM q3 (by simp;exact HM.out.1.bI.2.2) f3))
  | fail)
 go_ret;obtain ⟨hM,hI2,iN⟩:=HM.out;have hlt:=hM.lt;have l0:=hlt B.n0 (by simp [DB.blk]);have l1:=hlt gr (by simp [DB.blk]);have hs1:=hu.size;have hs2:=hu2.size;have hs3:=hu3.size;have gK:=hC.lt;have hg3:g3=gr\/w2.heap.size<g3:=by
  rcases El with h|h
  ·exact Α (Option.some.inj h)
  ·exact Β (h g3 rfl)
 have hw4:aa [B.n0] w3 (w3.setCell ⟨B.n0,2,none⟩ (.slice (some ⟨g3,0,none⟩) (m+1) c3)):=β;have hnF:∀y,y<w.heap.size->y∉F->y∉F1:=λy hy hn hm=>by rcases hF y hm with h'|h';exact hn h';omega
 have Ir:B.n0≠g3:=by have:=hM.bI.2.2;omega
 have V3:g3∉F1:=by
  rcases hg3 with e|e
  ·rw [e];exact hnF gr l1 hM.bI.2.1
  ·exact λhm=>by have:=gK g3 hm;omega
 have MK:∀z,z∈F1->z≠gr/\z≠B.n0:=λz hz=>⟨λe=>hnF gr l1 hM.bI.2.1 (by rw [←e];exact hz),λe=>hnF _ l0 hM.bI.1 (by rw [←e];exact hz)⟩
 have hG2l:=hR.lt;have hRk:(VP B.d).at_ (w3.setCell ⟨B.n0,2,none⟩ (.slice (some ⟨g3,0,none⟩) (m+1) c3)) rp G2 []:=(hR.upd hu3 (λz hz hm=>by simp at hz;have:=hG2 z hm;omega)).upd hw4 (λz hz hm=>by simp at hz;have:=hG2 z hm;omega);have huA:aa (B.n0::gr::F) w (w3.setCell ⟨B.n0,2,none⟩ (.slice (some ⟨g3,0,none⟩) (m+1) c3)):=(((hu.mono (λy hy=>by simp [hy])).then hu2).trans (hu3.mono (λy hy=>by simp at hy;simp [hy]))).trans (hw4.mono (λy hy=>by simp at hy;simp [hy]))
 have hfs:=hM.gV.snoc (by rw [Df.out];cases hh:jw A m with
  | false=>rfl
  | true=>have:=(aA _ _).1 hh;have:=Df.out;omega) huA (λz hz=>by
   simp only [ρ] at hz;rcases hz with rfl|rfl|hz
   ·exact λhm=>(hM.gH _ hm).2 rfl
   ·exact hM.gV.Cx
   ·exact λhm=>(hM.gH z hm).1 hz) hRk (λz hz=>by have:=hG2 z hz;omega) (WJ:=g3) (Zu:=c3) (by
   rcases hg3 with e|e
   ·rw [e];exact hM.gV.Cx
   ·exact λhm=>by have:=hM.gV.CL _ hm;omega) (by
   rcases hg3 with e|e
   ·rw [e];exact λhm=>by have:=hG2 _ hm;omega
   ·exact λhm=>by have:=hG2l _ hm;omega) (by rw [Df.out];exact au ho3 hw4 (λk hk hm=>by cases hk;simp at hm;exact Ir hm.symm))
 rw [Df.out] at hfs;have hhF:(λh=>jw A h || h == m)=jw (aI A):=funext λq=>by unfold jw;rw [←Df.out];exact (qa A (by rw [Df.out];exact hl) (by have:=Df.out;omega) q).symm
 rw [hhF] at hfs;refine ⟨rfl,B.blk F1 (Z++G2) g3,⟨F1,Z++G2,g3,rfl,c3,dU ptr m (some rp),dU G m G2,dU L m [],⟨?_,?_,by rw [iN];exact hfs,⟨hnF _ l0 hM.bI.1,V3,Ir⟩,λz hz=>?_,hM.dd⟩,hI2⟩,huA.mono (λy hy=>?_),λy hy=>?_⟩
 ·rw [iN];refine ((((hM.head.upd hu hM.bI.1).upd hu2 σ).upd hu3 (by simp;exact hM.bI.2.2)).set 2 _).ext (λj hj=>?_);rcases (ω:j=0\/j=1\/j=2) with rfl|rfl|rfl<;>rfl
 ·exact ((hC.ai hu2).upd hu3 (λz hz hm=>by simp at hz;exact (MK z hm).1 hz)).upd hw4 (λz hz hm=>by simp at hz;exact (MK z hm).2 hz)
 ·rcases τ.1 hz with h|h
  ·exact ⟨hnF z (hM.gV.CL z h) (hM.gH z h).1,(hM.gH z h).2⟩
  ·have:=hG2 z h;exact ⟨λhm=>by have:=gK z hm;omega,ω⟩
 ·simp only [DB.blk,ρ,τ] at hy ⊢;rcases hy with h|h|h
  ·exact Α h
  ·exact Β (Α h)
  ·exact Β (Β (Α h))
 ·simp only [DB.blk,ρ,τ] at hy ⊢;rcases hy with h|h|h|h|h
  ·exact Α (Α h)
  ·rcases hg3 with e|e
   ·exact Α (Β (Α (by rw [h,e])))
   ·exact Β ω
  ·rcases hF y h with h|h
   ·exact Α (Β (Β (Α h)))
   ·exact Β h
  ·exact Α (Β (Β (Β h)))
  ·exact Β (by have:=hG2 y h;omega)
end
theorem UK:(Tryz.prog.info? 298).map (λi=>(i.zero,i.size,i.bytes))=some (some (.pointer none),1,8):=by kernel_rfl
theorem RU (W:World) (n:Nat) (hn:n<=65536):IZ (W.alloc (.cells (madeCells #[.int .i64 0] n) 3)) W.heap.size n (bG (List.replicate n 0)):=by
 have hl:(bG (List.replicate n 0)).length=n:=by rw [bQ];simp
 refine ⟨⟨by rw [hl];simp [fM,hl],Β ⟨W.heap.size,n,madeCells #[.int .i64 0] n,by rw [hl],Nat.zero_le _,?_,by rw [hl];exact Θ _,μ,by simp [madeCells],?_⟩⟩⟩
 ·show (W.heap.push _)[W.heap.size]?=_;simp
 ·rw [hl];apply List.ext_getElem?;intro j
  by_cases hj:j<n
  ·simp [madeCells,hj,aT,bG,Nat.mod_one]
  ·rw [List.getElem?_eq_none (by simp [madeCells];omega),List.getElem?_eq_none (by rw [fM,hl];omega)]
theorem Le (n:Nat) (w:World) (h:n<=65536) :
  Calls Tryz.prog 70 #[.int .i64 (n:Int)] w λe w'=>∃B F gr,e=.returned (.tuple #[.pointer (some ⟨B.n0,0,none⟩),.int .i64 0])/\ShAt w' B F [] gr (NS.new n) 0/\aa [] w w'/\∀x,x∈B.blk F [] gr->w.heap.size<=x:=by
 have hmk:=run_make_row' (P:=Tryz.prog) 77 3 (.int .i64 0) 8 Tryz.underlying77 fF rfl .i64 .i64 n ω ω
 go_enter Tryz.func70,Tryz.ntmps70
 go_wp2_with (first
  | ((go_at_call 84;(with_reducible refine (lX n _ h).mono ?_));rintro e w1 ⟨c,F,rfl,hC,hu1,hF⟩)
  | fail)
 go_ret2;have l1:=hu1.size;have l7:=hC.lt;have hv:aa [] w1 (w1.alloc (.cells #[.pointer none] 298)):=(aa.refl _ _).alloc _;obtain ⟨w2,hw2⟩:∃w2,w2=w1.alloc (.cells #[.pointer none] 298):=⟨_,rfl⟩;have e2:w2.heap.size=w1.heap.size+1:=by rw [hw2,Κ]
 have hz:=RU w2 n h;obtain ⟨w3,hw3⟩:∃w3,w3=w2.alloc (.cells (madeCells #[.int .i64 0] n) 3):=⟨_,rfl⟩;have e3:w3.heap.size=w1.heap.size+1+1:=by rw [hw3,Κ,e2]
 have hh:=dL w3 [.pointer (some ⟨c,0,none⟩),.slice (some ⟨w1.heap.size,0,none⟩) 1 1,.slice (some ⟨w1.heap.size+1,0,none⟩) n n] 210;rw [e3] at hh;have Ve:aa [] w2 w3:=by rw [hw3];exact (aa.refl _ _).alloc _
 have hv3:aa [] w3 (w3.alloc (.cells #[.pointer (some ⟨c,0,none⟩),.slice (some ⟨w1.heap.size,0,none⟩) 1 1,.slice (some ⟨w1.heap.size+1,0,none⟩) n n] 210)):=(aa.refl _ _).alloc _;have Y9:aa [] w1 w2:=by rw [hw2];exact hv
 have ho:=ou w1 [.pointer none] 298 0 1 1 rfl ω μ;rw [←hw3,e2] at hz;have hnF:∀x,w1.heap.size<=x->x∉F:=λx hx hm=>by have:=l7 x hm;omega
 have hno:∀k:Nat,bA (NS.new n) k=false:=λk=>mi n k;have hrep:(List.replicate n 0).length=n:=σ;rw [←hw2,←hw3]
 refine ⟨⟨w1.heap.size+1+1,c,w1.heap.size+1⟩,F,w1.heap.size,rfl,⟨1,λ_=>none,λ_=>[],λ_=>[],List.replicate n 0,⟨?_,((hC.ai Y9).ai Ve).ai hv3,⟨?_,λk hk=>?_,λk hk=>?_,λk j hk=>?_,λz hz=>by simp at hz,σ⟩,?_,?_,⟨hnF _ (by first|omega|(simp only;omega)),hnF _ ω,hnF _ (by first|omega|(simp only;omega))⟩,⟨by simp only;omega,by simp only;omega,by simp only;omega⟩,λz hz=>by simp at hz⟩,⟨⟨λk hk=>?_,λk hk=>?_,λk x hk=>?_⟩,λk hk=>?_⟩⟩,((hu1.trans Y9).trans Ve).trans hv3,λx hx=>?_⟩
 ·rw [hrep];exact hh
 ·rw [←hw2] at ho;exact au (au ho Ve σ) hv3 σ
 ·unfold jw at hk;rw [hno] at hk;cases hk
 ·unfold jw at hk;rw [hno] at hk;cases hk
 ·unfold jw at hk;rw [hno] at hk;cases hk
 ·rw [hrep];exact hz.upd hv3 σ
 ·simp [NS.new]
 ·rw [hno] at hk;cases hk
 ·rw [hno] at hk;cases hk
 ·rw [hno] at hk;cases hk
 ·rw [hno] at hk;cases hk
 ·simp only [HB.blk,ρ,Υ] at hx;rcases hx with rfl|rfl|rfl|hx
  ·omega
  ·omega
  ·omega
  ·exact hF x hx
section
variable {w:World} {B:HB} {F Z:List Nat} {gr st:Nat} {A:NS}
theorem Jk (h:ShAt w B F Z gr A st) (hl:65536<A.hs.length) :
  Calls Tryz.prog 264 #[.pointer (some ⟨B.n0,0,none⟩)] w λe w'=>e=.returned (.int .i64 0)/\Goes (B.blk F Z gr) w w' (λF'=>∃F1,F'=B.blk F1 Z gr/\ShAt w' B F1 Z gr A st):=by
 obtain ⟨cr,ptr,G,L,T,hM,hI⟩:=h;have k:=gQ hM.cells;have e1:bW A=0:=by unfold bW;rw [Δ hl]
 have e2:aI A=A:=by unfold aI;rw [Δ hl]
 rw [e1,e2] at k;have h0:=hM.h0;have HM:=χ (ψ hM hI);clear hM hI e1 e2
 go_enter Tryz.func264,Tryz.ntmps264
 go_wp2_with (first|((go_at_call 140;(with_reducible refine (k).mono ?_));rintro e w1 ⟨rfl,F1,hC,hu,hF⟩))
 go_ret;refine ⟨rfl,B.blk F1 Z gr,⟨F1,rfl,cr,ptr,G,L,T,HM.out.1.dV hu hC hF rfl rfl,HM.out.2⟩,hu.mono (λy hy=>by simp [HB.blk,hy]),λx hx=>?_⟩;simp only [HB.blk,ρ,τ] at hx ⊢;rcases hx with rfl|rfl|rfl|hx|hx
 ·simp
 ·simp
 ·simp
 ·rcases hF x hx with h|h
  ·simp [h]
  ·exact Β h
 ·simp [hx]
theorem GJ (h:ShAt w B F Z gr A st) (hl:¬65536<A.hs.length) :
  Calls Tryz.prog 264 #[.pointer (some ⟨B.n0,0,none⟩)] w λe w'=>e=.returned (.int .i64 (A.hs.length:Int))/\Goes (B.blk F Z gr) w w' (λF'=>∃F1 Z1 Cw,F'=B.blk F1 Z1 Cw/\ShAt w' B F1 Z1 Cw (aI A) st):=by
 obtain ⟨cr,ptr,G,L,T,hM,hI⟩:=h;have k:=gQ hM.cells;have e1:bW A=A.hs.length:=by unfold bW;rw [Γ hl]
 rw [e1] at k;have iN:(aI A).hs.length=A.hs.length+1:=by unfold aI;rw [Γ hl];simp
 have hh0:=hM.cells.ok.h0;have hIp:Wd (aI A) (dU L A.hs.length []) T:=by
  refine ⟨hI.di.make ω hM.cells.ok hl ω,λk hk j x hj=>?_⟩
  by_cases e:k=A.hs.length
  ·subst e;rw [bg] at hj;simp at hj
  ·rw [aL _ _ e] at hj;rw [qa A hl ω] at hk;exact hI.wJ k (by simpa [e] using hk) j x hj
 have h0:=hM.h0;have HM:=χ (ψ hM (ψ hIp iN));clear hM hI e1 hIp iN;generalize hm:A.hs.length=m at *;have Df:=χ hm;clear hm
 go_enter Tryz.func264,Tryz.ntmps264
 go_wp2_with (first
  | ((go_at_call 140;(with_reducible refine (k).mono ?_));rintro e w1 ⟨rfl,F1,hC,hu,hF⟩;(have q2:=hu.kept HM.out.1.h1 HM.out.1.bI.1);(have f2:=hu.aM HM.out.1.h1 HM.out.1.bI.1 (HM.out.1.head.free 1));(have ho1:=au HM.out.1.gV.rows hu (λk hk hm=>by cases hk;exact HM.out.1.bI.2.1 hm));(rw [Df.out] at q2 ho1);(have ho2:(w1.alloc (.cells #[.pointer (some ⟨B.n0,0,none⟩),.slice none 0 0] 302)).ownsRow _ _ _ _ _ _:=au ho1 ((aa.refl [] w1).alloc (.cells #[.pointer (some ⟨B.n0,0,none⟩),.slice none 0 0] 302)) σ))
  | (at_builtin;refine aW rfl _ _ 208 rfl 0 298 (.pointer none) 1 8 Tryz.underlying208 UK rfl δ _ _ _ rfl (ho2) [sj (some w1.heap.size)] rfl (by simp [Value.oneCell',sj]) (by first|rfl|(rw [Κ];rfl)) μ ω ω ?_;intro v3 w3 ho3 hu3 El;(have hu3:aa [gr] (w1.alloc (.cells #[.pointer (some ⟨B.n0,0,none⟩),.slice none 0 0] 302)) w3:=hu3);obtain ⟨g3,c3,ev, -⟩:=ed ho3 ω;subst ev;(have q3:(w1.alloc (.cells #[.pointer (some ⟨B.n0,0,none⟩),.slice none 0 0] 302)).cell? ⟨B.n0,1,none⟩=_:=((aa.refl [] w1).alloc _).was q2);(have f3:(w1.alloc (.cells #[.pointer (some ⟨B.n0,0,none⟩),.slice none 0 0] 302)).frozen? ⟨B.n0,1,none⟩=false:=((aa.refl [] w1).alloc _).aM q2 σ f2);(have d4:=hu3.kept q3 (by simp;exact HM.out.1.sep.1));(have f4:=hu3.aM q3 (by simp;exact HM.out.1.sep.1) f3))
  | fail)
 go_ret;obtain ⟨hM,hI2,iN⟩:=HM.out;have hlt:=hM.lt;have l0:=hlt B.n0 (by simp [HB.blk]);have l1:=hlt gr (by simp [HB.blk]);have l2:=hlt B.ga (by simp [HB.blk]);have hs1:=hu.size;have hs3:=hu3.size;rw [Κ] at hs3;have gK:=hC.lt;have hrow:=dL w1 [.pointer (some ⟨B.n0,0,none⟩),.slice none 0 0] 302;have Rp:aa [] w1 (w1.alloc (.cells #[.pointer (some ⟨B.n0,0,none⟩),.slice none 0 0] 302)):=(aa.refl _ _).alloc _;have hg3:g3=gr\/w1.heap.size+1<g3:=by
  rcases El with h|h
  ·exact Α (Option.some.inj h)
  ·right;have:=h g3 rfl;rwa [Κ] at this
 have hw4:aa [B.n0] w3 (w3.setCell ⟨B.n0,1,none⟩ (.slice (some ⟨g3,0,none⟩) (m+1) c3)):=β;have hnF:∀y,y<w.heap.size->y∉F->y∉F1:=λy hy hn hm=>by rcases hF y hm with h'|h';exact hn h';omega
 have Ir:B.n0≠g3:=by have:=hM.sep.1;omega
 have V3:g3∉F1:=by
  rcases hg3 with e|e
  ·rw [e];exact hnF gr l1 hM.bI.2.1
  ·exact λhm=>by have:=gK g3 hm;omega
 have MK:∀z,z∈F1->z≠gr/\z≠B.n0:=λz hz=>⟨λe=>hnF gr l1 hM.bI.2.1 (by rw [←e];exact hz),λe=>hnF _ l0 hM.bI.1 (by rw [←e];exact hz)⟩
 have hRk:(Vt B).at_ (w3.setCell ⟨B.n0,1,none⟩ (.slice (some ⟨g3,0,none⟩) (m+1) c3)) w1.heap.size [w1.heap.size] []:=by
  refine ⟨.slice none 0 0,((hrow.ext (λj hj=>rfl)).upd hu3 ζ).upd hw4 ζ,⟨rfl,Α ⟨rfl,rfl⟩⟩,rfl,λg hg=>by cases hg⟩
 have huA:aa (B.n0::gr::F) w (w3.setCell ⟨B.n0,1,none⟩ (.slice (some ⟨g3,0,none⟩) (m+1) c3)):=(((hu.mono (λy hy=>by simp [hy])).then Rp).trans (hu3.mono (λy hy=>by simp at hy;simp [hy]))).trans (hw4.mono (λy hy=>by simp at hy;simp [hy]))
 have hfs:=hM.gV.snoc (by rw [Df.out];cases hh:jw A m with
  | false=>rfl
  | true=>have:=(aA _ _).1 hh;have:=Df.out;omega) huA (λz hz=>by
   simp only [ρ] at hz;rcases hz with rfl|rfl|hz
   ·exact λhm=>(hM.gH _ hm).2.1 rfl
   ·exact hM.gV.Cx
   ·exact λhm=>(hM.gH z hm).1 hz) hRk (λz hz=>by simp at hz;omega) (WJ:=g3) (Zu:=c3) (by
   rcases hg3 with e|e
   ·rw [e];exact hM.gV.Cx
   ·exact λhm=>by have:=hM.gV.CL _ hm;omega) ζ (by rw [Df.out];exact au ho3 hw4 (λk hk hm=>by cases hk;simp at hm;exact Ir hm.symm))
 rw [Df.out] at hfs;have hhF:(λh=>jw A h || h == m)=jw (aI A):=funext λq=>by unfold jw;rw [←Df.out];exact (qa A (by rw [Df.out];exact hl) (by have:=Df.out;omega) q).symm
 rw [hhF] at hfs;have hcs:(aI A).cs.length=A.cs.length:=by unfold aI;split<;>rfl
 refine ⟨rfl,B.blk F1 (Z++[w1.heap.size]) g3,⟨F1,Z++[w1.heap.size],g3,rfl,c3,dU ptr m (some w1.heap.size),dU G m [w1.heap.size],dU L m [],T,⟨?_,?_,by rw [iN];exact hfs,?_,by rw [hcs];exact hM.tl,⟨hnF _ l0 hM.bI.1,V3,hnF _ l2 hM.bI.2.2⟩,⟨Ir,hM.sep.2.1,by have:=hM.sep.2.2;omega⟩,λz hz=>?_⟩,hI2⟩,huA.mono (λy hy=>?_),λy hy=>?_⟩
 ·rw [iN];refine ((((hM.head.upd hu hM.bI.1).upd Rp σ).upd hu3 (by simp;exact hM.sep.1)).set 1 _).ext (λj hj=>?_);rcases (ω:j=0\/j=1\/j=2) with rfl|rfl|rfl<;>rfl
 ·exact ((hC.ai Rp).upd hu3 (λz hz hm=>by simp at hz;exact (MK z hm).1 hz)).upd hw4 (λz hz hm=>by simp at hz;exact (MK z hm).2 hz)
 ·exact (((hM.wN.upd hu hM.bI.2.2).upd Rp σ).upd hu3 (by simp;exact hM.sep.2.2)).upd hw4 (by simp;exact hM.sep.2.1)
 ·rcases τ.1 hz with h|h
  ·exact ⟨hnF z (hM.gV.CL z h) (hM.gH z h).1,(hM.gH z h).2⟩
  ·simp at h;subst h;exact ⟨λhm=>by have:=gK _ hm;omega,ω,ω⟩
 ·simp only [HB.blk,ρ,τ] at hy ⊢;rcases hy with h|h|h
  ·exact Α h
  ·exact Β (Α h)
  ·exact Β (Β (Β (Α h)))
 ·simp only [HB.blk,ρ,τ,ς,or_false] at hy ⊢;rcases hy with h|h|h|h|h|h
  ·exact Α (Α h)
  ·rcases hg3 with e|e
   ·exact Α (Β (Α (by rw [h,e])))
   ·exact Β ω
  ·exact Α (Β (Β (Α h)))
  ·rcases hF y h with h|h
   ·exact Α (Β (Β (Β (Α h))))
   ·exact Β h
  ·exact Α (Β (Β (Β (Β h))))
  ·exact Β ω
end
theorem pM.ready {d:Nat} {A:NS} {L:Nat->List Nat} (h:pM d A L) (hd:2<=d) (ok:A.Ok) {g x:Nat} {k s:Int} (hB:nX A g x=true) :
  x∉L g/\(L g).length+1<=A.cs.length/\Hp (mX (aG A g x k s)) d (L g)/\(∀y,y∈x::L g->bR (aG A g x k s) (y:Int)=true)/\(∀y,y∈x::L g->y<A.cs.length):=by
 obtain ⟨b1,b2,b3⟩:=(dP _ _ _).1 hB;have hx:x<A.cs.length:=by have:=(fJ _ _).1 b2;omega
 have hg0:=(aA _ _).1 b1;have hc:∀y,(aG A g x k s).c y=if y=x then ⟨g,k,s⟩ else A.c y:=λy=>by
  unfold aG;rw [Δ hB,π,jA]
  by_cases e:y=x
  ·rw [Δ ⟨e,hx⟩,Δ e]
  ·rw [Γ (λh=>e h.1),Γ e]
 have hl:(aG A g x k s).cs.length=A.cs.length:=by unfold aG;rw [Δ hB,fD]
 have Ws:x∉L g:=λhm=>by
  have:=(h.len b1 hm).2.1;rw [this] at b3;cases b3
 have hlt:∀y,y∈x::L g->y<A.cs.length:=λy hy=>by
  rcases ρ.1 hy with e|e
  ·rw [e];exact hx
  ·exact (h.len b1 e).1
 refine ⟨Ws,?_,pM.frame (h.hp g b1) hd (λy hy=>by rw [hc,Γ (λe=>Ws (by rw [←e];exact hy))]),λy hy=>?_,hlt⟩
 ·have h1:=nodup_range A.cs.length ((x::L g).map (λ(x:Nat)=>(x:Int))) (by
   have hn:=Ζ.2 ⟨Ws,h.nd g b1⟩;unfold List.Nodup at hn ⊢;rw [List.pairwise_map];exact hn.imp (λh e=>h ω)) (λz hz=>by
   obtain ⟨y,hy,rfl⟩:=List.mem_map.1 hz
   have:=hlt y hy;omega)
  simpa using h1
 ·refine (ay _ _).2 ⟨by rw [hl];exact hlt y hy,?_⟩;rw [hc]
  by_cases e:y=x
  ·rw [Δ e];simp only;omega
  ·rw [Γ e];rcases ρ.1 hy with e2|e2
   ·exact absurd e2 e
   ·have:=(h.len b1 e2).2.2;omega
section
variable {w w':World} {B:DB} {F Z:List Nat} {gr cr st:Nat} {A:NS} {ptr:Nat->Option Nat} {G L:Nat->List Nat}
theorem vB.clear (h:vB w B F Z gr cr A st ptr G L) {g:Nat} (hg:bA A g=true):∀z,z∈G g->z∉(QT B F A h.cells.mem).rd:=λz hz hm=>by
 have h1:=h.gH z (h.gV.qK g hg z hz);rcases ρ.1 hm with e|e
 ·exact h1.2 e
 ·exact h1.1 e
theorem vB.DZ (h:vB w B F Z gr cr A st ptr G L) {g rp:Nat} (hg:bA A g=true) (hp:ptr g=some rp) {G' L':List Nat} (hu:aa (G g++[B.c]) w w') (hr:jG w' rp G' B.d L') (hG:∀z,z∈G'->z∈G g\/w.heap.size<=z) (hO:(QT B F A h.cells.mem).at_ w') :
  ∃st',vB w' B F (Z++G') gr cr A st' ptr (dU G g G') (dU L g L'):=by
 obtain ⟨h1, -,st',h2⟩:=hO;have hcl:=h.clear hg;have om:=h.cells.mem;have hsl:=h.lt;refine ⟨st',⟨h.head.upd hu (λhm=>?_),h2,h.gV.one hg hp hu (λz hz=>?_) hr hG,h.bI,λz hz=>?_,h.dd⟩⟩
 ·rcases τ.1 hm with e|e
  ·exact hcl _ e (ρ.2 (Α rfl))
  ·simp at e;exact h.bI.1 (by rw [e];exact om)
 ·rcases τ.1 hz with e|e
  ·exact Α e
  ·simp at e;refine Β ⟨λe2=>h.bI.2.1 (by rw [←e2,e];exact om),λhm=>(h.gH z hm).1 (by rw [e];exact om)⟩
 ·rcases τ.1 hz with e|e
  ·exact h.gH z e
  ·rcases hG z e with e2|e2
   ·exact h.gH z (h.gV.qK g hg z e2)
   ·exact ⟨λhm=>by have:=hsl z (by simp [DB.blk,hm]);omega,λe3=>by have:=hsl B.n0 (by simp [DB.blk]);omega⟩
def WY (B:DB) (F Z:List Nat) (gr cr:Nat) (A':NS) (st:Nat) (ptr:Nat->Option Nat) (G L:Nat->List Nat) (g rp x:Nat) (w2:World):Prop:=vB w2 B F Z gr cr A' st ptr G L/\∀Y,aa [] w2 Y->
   Calls Tryz.prog 139 #[.pointer (some ⟨rp,0,none⟩),.iface 122 (.pointer (some ⟨B.n0,0,none⟩)),.int .i64 (x:Int)] Y λe w'=>e=.returned (.bool true)/\∃G' L',jG w' rp G' B.d L'/\L'.Perm (x::L g)/\Hp (mX A') B.d L'/\(∃hc,(QT B F A' hc).at_ w')/\aa (G g++[B.c]) Y w'/\∀z,z∈G'->z∈G g\/Y.heap.size<=z
theorem ES (h:kK w B F Z gr A st) (g x:Nat) (k s:Int) (hk:-9223372036854775808<=k/\k<=9223372036854775807/\0<=s/\s<=18446744073709551615) (hB:nX A g x=true) :
  Calls Tryz.prog 125 #[.pointer (some ⟨B.n0,0,none⟩),.int .i64 (g:Int),.int .i64 (x:Int),.agg #[.int .i64 k,.int .u64 s]] w λe w'=>e=.returned (.bool true)/\Goes (B.blk F Z gr) w w' (λF'=>∃Z' st',F'=B.blk F Z' gr/\kK w' B F Z' gr (aG A g x k s) st'):=by
 obtain ⟨cr,ptr,G,L,hM,hI⟩:=h;have hb1:=(dP _ _ _).1 hB;have hgN:=(aA _ _).1 hb1.1;have hok:=hM.cells.ok;have hcs:=hok.c1;obtain ⟨r1,r2,r3,r4,r5⟩:=hI.ready hM.dd.1 hok (k:=k) (s:=s) hB;obtain ⟨rp,hp,hR⟩:=hM.gV.row g hb1.1;have zh:(aG A g x k s).hs=A.hs:=by unfold aG;rw [Δ hB];rfl
 have pG:bA (aG A g x k s) g=true:=by have:=hb1.1;unfold bA at this ⊢;rw [zh];exact this
 have EJ:∀X w2,aa [] w X->aB w2 B.c F (aG A g x k s) st->aa F X w2->WY B F Z gr cr (aG A g x k s) st ptr G L g rp x w2:=by
  intro X w2 hX hC2 hu2;have hM2:=(hM.ai hX).dV hu2 hC2 (λx hx=>Α hx) zh;refine ⟨hM2,λY hY=>?_⟩;have QB:=hM2.ai hY;obtain ⟨rp',hp',hRY⟩:=QB.gV.row g pG;rw [hp] at hp';cases hp';have Vh:jG Y rp (G g) B.d (L g):=hRY;refine (D7 (QT B F (aG A g x k s) QB.cells.mem) QB.ord Vh hM.dd ω r3 x r1 (hI.nd g hb1.1) r4 (λy hy=>by have:=r5 y hy;omega) (QB.clear pG)).mono ?_;rintro e w' ⟨rfl,G',L',h1,h2,h3,h4,h5,h6⟩;exact ⟨rfl,G',L',h1,h2,h3,⟨_,h4⟩,h5,h6⟩
 have OA:∀W (hW:aa [] w W),Calls Tryz.prog 138 #[.pointer (some ⟨B.c,0,none⟩),.int .i64 (g:Int),.int .i64 (x:Int),.agg #[.int .i64 k,.int .u64 s]] W λe w2=>e=.returned (.bool true)/\aa F W w2/\WY B F Z gr cr (aG A g x k s) st ptr G L g rp x w2:=λW hW=>(lS (hM.ai hW).cells g x k s hk hB).mono (λe w2 h=>by
  obtain ⟨rfl,hC2,hu2⟩:=h
  exact ⟨rfl,hu2,EJ W w2 hW hC2 hu2⟩)
 have c0:=hM.h0;have c2:=hM.h2;have cg:=hM.gV.cell ω hp;have hlt:=hM.lt;have HX:=χ (ψ hM (ψ hI (ψ hok (ψ hB (ψ hp (ψ pG hlt))))));have n1:B.n0∉F++Z:=λhm=>by rcases τ.1 hm with e|e;exact hM.bI.1 e;exact (hM.gH _ e).2 rfl
 have n2:gr∉F++Z:=λhm=>by rcases τ.1 hm with e|e;exact hM.bI.2.1 e;exact hM.gV.Cx e
 have n3:∀z,z∈F++Z->z<w.heap.size:=λz hm=>hlt z (by simp only [DB.blk,ρ,τ] at hm ⊢;exact Β (Β hm));have VV:(g:Int)<(A.hs.length:Int):=ω;have hgz:∀z,z∈G g++[B.c]->z∈F++Z:=λz hz=>by
  rcases τ.1 hz with e|e
  ·exact τ.2 (Β (hM.gV.qK g hb1.1 z e))
  ·simp at e;rw [e];exact τ.2 (Α hM.cells.mem)
 clear hM hI hok hB hp pG hlt hR r1 r3 r4 r5 hb1 hgN r2 hcs zh;generalize A.hs.length=m at *
 go_enter Tryz.func125,Tryz.ntmps125
 go_upto_region 1 with (fail)
 refine iR (λW=>W.cell? ⟨w.heap.size,0,none⟩=some (.int .i64 k)/\W.cell? ⟨w.heap.size,1,none⟩=some (.int .u64 s)/\aa [] w W) ⟨γ,γ,β⟩ ?_;rintro W ⟨x0,x1,hW⟩;have hb:w.heap.size∉F++Z:=λhm=>by have:=n3 _ hm;omega
 have e0:∀X,aa (F++Z) W X->X.cell? ⟨w.heap.size,0,none⟩=some (.int .i64 k):=λX h=>h.kept x0 hb;have e1:∀X,aa (F++Z) W X->X.cell? ⟨w.heap.size,1,none⟩=some (.int .u64 s):=λX h=>h.kept x1 hb;have e2:∀X,aa (F++Z) W X->X.cell? ⟨B.n0,0,none⟩=some (.pointer (some ⟨B.c,0,none⟩)):=λX h=>h.kept (hW.was c0) n1;have e3:∀X,aa (F++Z) W X->X.cell? ⟨B.n0,2,none⟩=some (.slice (some ⟨gr,0,none⟩) m cr):=λX h=>h.kept (hW.was c2) n1;have e4:∀X,aa (F++Z) W X->X.cell? ⟨gr,g,none⟩=some (.pointer (some ⟨rp,0,none⟩)):=λX h=>h.kept (hW.was cg) n2;have HW:=χ hW
 have Ii:=λX (hX:aa [] W X)=>OA X (hW.trans hX);clear x0 x1 hW OA c0 c2 cg
 go_region_held3 (aa (F++Z) W) (exact ν)
  (first
   | ((go_at_call 138;(with_reducible refine (Ii _ ν).mono ?_));rintro e w2 ⟨rfl,hu2,hM2,Ms⟩;(have hv2:aa (F++Z) W w2:=aa.trans ν (hu2.mono (λz hz=>τ.2 (Α hz)))))
   | ((go_at_call 139;(with_reducible refine (Ms _ ν).mono ?_));rintro e w3 ⟨rfl,G',L',Y4,hp3,hH3,hO3,hu3,hG3⟩;(have hv3:aa (F++Z) W w3:=aa.trans ν (hu3.mono hgz))))
 obtain ⟨hM,hI,hok,hB,hp,pG,hlt⟩:=HX.out;obtain ⟨hc3,hO3⟩:=hO3;have Xt:∀z,z∈G'->z∈G g\/w2.heap.size<=z:=hG3;have VX:aa (G g++[B.c]) w2 w3:=aa.trans ν hu3;obtain ⟨st',lq⟩:=hM2.DZ pG hp VX Y4 Xt hO3;have hI3:=hI.put hM.dd.1 hok hB hp3 hH3;go_wp2;go_ret;have hsz:=(HW.out).size;have hsz2:=hv2.size;refine ⟨rfl,B.blk F (Z++G') gr,⟨Z++G',st',rfl,cr,ptr,_,_,lq,hI3.1⟩,((HW.out).mono σ).trans (hv3.mono (λz hz=>?_)),λz hz=>?_⟩
 ·simp only [DB.blk,ρ,τ] at hz ⊢;exact Β (Β hz)
 ·simp only [DB.blk,ρ,τ] at hz ⊢;rcases hz with h|h|h|h|h
  ·exact Α (Α h)
  ·exact Α (Β (Α h))
  ·exact Α (Β (Β (Α h)))
  ·exact Α (Β (Β (Β h)))
  ·rcases Xt z h with h|h
   ·have:=hgz z (τ.2 (Α h));rcases τ.1 this with h|h
    ·exact Α (Β (Β (Α h)))
    ·exact Α (Β (Β (Β h)))
   ·exact Β ω
end
section
variable {w w':World} {B:HB} {F Z:List Nat} {gr cr st:Nat} {A:NS} {ptr:Nat->Option Nat} {G L:Nat->List Nat} {T:List Nat}
theorem Wd.turn {A':NS} {g:Nat} {l T':List Nat} (h:Wd A L T) (hd:pM 2 A' (dU L g l)) (hh:∀k:Nat,bA A' k=bA A k) (hg:bA A g=true) (hl:∀j x,l[j]?=some x->T'.getD x 0=j) (ho:∀x,x∉l->x∉L g->T'.getD x 0=T.getD x 0) (hm:∀k x,k≠g->bA A k=true->x∈L k->x∉l/\x∉L g):Wd A' (dU L g l) T':=by
 refine ⟨hd,λk hk j x hj=>?_⟩;rw [hh] at hk
 by_cases e:k=g
 ·subst e;rw [bg] at hj;exact hl j x hj
 ·rw [aL _ _ e] at hj;have hx:=hm k x e hk (Η hj);rw [ho x hx.1 hx.2];exact h.wJ k hk j x hj
theorem pM.apart (h:pM 2 A L) {k g x:Nat} (e:k≠g) (hk:bA A k=true) (hg:bA A g=true) (hx:x∈L k):x∉L g:=λhm=>by
 have h1:=(h.mem k x hk).1 hx;have h2:=(h.mem g x hg).1 hm;omega
def PuR (B:HB) (F Z:List Nat) (gr cr:Nat) (A':NS) (st:Nat) (ptr:Nat->Option Nat) (G L:Nat->List Nat) (T:List Nat) (g rp x:Nat) (v:Value) (w2:World):Prop:=ShM w2 B F Z gr cr A' st ptr G L T/\∀Y,aa [] w2 Y->
   Calls Tryz.prog 269 #[.iface 298 (.pointer (some ⟨rp,0,none⟩)),.iface 3 (.int .i64 (x:Int))] Y λe w'=>e=.returned (.tuple #[])/\PuE Y B F A' rp v (L g) T x w'
theorem Ck (h:ShAt w B F Z gr A st) (g x:Nat) (k s:Int) (hk:-9223372036854775808<=k/\k<=9223372036854775807/\0<=s/\s<=18446744073709551615) (hB:nX A g x=true) :
  Calls Tryz.prog 263 #[.pointer (some ⟨B.n0,0,none⟩),.int .i64 (g:Int),.int .i64 (x:Int),.agg #[.int .i64 k,.int .u64 s]] w λe w'=>e=.returned (.bool true)/\Goes (B.blk F Z gr) w w' (λF'=>∃Z' st',F'=B.blk F Z' gr/\ShAt w' B F Z' gr (aG A g x k s) st'):=by
 obtain ⟨cr,ptr,G,L,T,hM,hI⟩:=h;have hb1:=(dP _ _ _).1 hB;have hgN:=(aA _ _).1 hb1.1;have hok:=hM.cells.ok;have hcs:=hok.c1;obtain ⟨r1,r2,r3,r4,r5⟩:=hI.di.ready ω hok (k:=k) (s:=s) hB;have zh:(aG A g x k s).hs=A.hs:=by unfold aG;rw [Δ hB];rfl
 have Rt:(aG A g x k s).cs.length=A.cs.length:=by unfold aG;rw [Δ hB];exact fD _ _ _
 have pG:bA (aG A g x k s) g=true:=by have:=hb1.1;unfold bA at this ⊢;rw [zh];exact this
 have hdom:∀y,y∈L g->bR (aG A g x k s) (y:Int)=true/\y<T.length:=λy hy=>⟨r4 y (by simp [hy]),by rw [hM.tl];exact r5 y (by simp [hy])⟩
 obtain ⟨rp,hp,v, -, -,DC, -⟩:=hM.gV.row g hb1.1;have EJ:∀X w2,aa [] w X->aB w2 B.c F (aG A g x k s) st->aa F X w2->PuR B F Z gr cr (aG A g x k s) st ptr G L T g rp x v w2:=by
  intro X w2 hX hC2 hu2;have hM2:=(hM.ai hX).dV hu2 hC2 (λx hx=>Α hx) zh Rt;refine ⟨hM2,λY hY=>?_⟩;obtain ⟨rp',v',hp',hG',hP⟩:=(hM2.ai hY).pile pG hdom (hI.di.nd g hb1.1) (hI.wJ g hb1.1);rw [hp] at hp';cases hp';rw [DC] at hG';have ev:v'.ownBlock.toList=v.ownBlock.toList:=(List.cons.inj hG').2.symm;refine (Af hP x r1 (r4 x σ) (by rw [hM.tl];exact r5 x σ) (by rw [hM.tl];omega) r3).mono ?_;rintro e w' ⟨rfl,gs,cap,L',T',q1,q2,q3,q4,q5,q6,q7⟩;refine ⟨rfl,gs,cap,L',T',q1,q2,q3,q4,q5,by rw [←ev];exact q6,?_⟩;rcases q7 with e|e
  ·left;have:gs∈v.ownBlock.toList:=by rw [←ev];exact Option.mem_toList.2 e
   exact Option.mem_toList.1 this
  ·exact Β e
 have OA:∀W (hW:aa [] w W),Calls Tryz.prog 138 #[.pointer (some ⟨B.c,0,none⟩),.int .i64 (g:Int),.int .i64 (x:Int),.agg #[.int .i64 k,.int .u64 s]] W λe w2=>e=.returned (.bool true)/\aa F W w2/\PuR B F Z gr cr (aG A g x k s) st ptr G L T g rp x v w2:=λW hW=>(lS (hM.ai hW).cells g x k s hk hB).mono (λe w2 h=>by
  obtain ⟨rfl,hC2,hu2⟩:=h
  exact ⟨rfl,hu2,EJ W w2 hW hC2 hu2⟩)
 have c0:=hM.h0;have c2:=hM.h1;have cg:=hM.gV.cell ω hp;have hlt:=hM.lt;have HX:=χ (ψ hM (ψ hI (ψ hok (ψ hB (ψ hp (ψ pG (ψ hlt (ψ DC (ψ hb1.1 (ψ zh Rt))))))))));have n1:B.n0∉F:=hM.bI.1;have n2:gr∉F:=hM.bI.2.1;have n3:∀z,z∈F->z<w.heap.size:=λz hm=>hlt z (by simp only [HB.blk,ρ,τ];exact Β (Β (Β (Α hm))));have VV:(g:Int)<(A.hs.length:Int):=ω;clear hM hI hok hB hp pG hlt r1 r3 r4 r5 hb1 hgN r2 hcs zh Rt EJ hdom DC;generalize A.hs.length=m at *
 go_enter Tryz.func263,Tryz.ntmps263
 go_upto_region 1 with (fail)
 refine iR (λW=>W.cell? ⟨w.heap.size,0,none⟩=some (.int .i64 k)/\W.cell? ⟨w.heap.size,1,none⟩=some (.int .u64 s)/\aa [] w W) ⟨γ,γ,β⟩ ?_;rintro W ⟨x0,x1,hW⟩;have hb:w.heap.size∉F:=λhm=>by have:=n3 _ hm;omega
 have e0:∀X,aa F W X->X.cell? ⟨w.heap.size,0,none⟩=some (.int .i64 k):=λX h=>h.kept x0 hb;have e1:∀X,aa F W X->X.cell? ⟨w.heap.size,1,none⟩=some (.int .u64 s):=λX h=>h.kept x1 hb;have e2:∀X,aa F W X->X.cell? ⟨B.n0,0,none⟩=some (.pointer (some ⟨B.c,0,none⟩)):=λX h=>h.kept (hW.was c0) n1;have e3:∀X,aa F W X->X.cell? ⟨B.n0,1,none⟩=some (.slice (some ⟨gr,0,none⟩) m cr):=λX h=>h.kept (hW.was c2) n1;have e4:∀X,aa F W X->X.cell? ⟨gr,g,none⟩=some (.pointer (some ⟨rp,0,none⟩)):=λX h=>h.kept (hW.was cg) n2;have HW:=χ hW;have Ii:=λX (hX:aa [] W X)=>OA X (hW.trans hX)
 clear x0 x1 hW OA c0 c2 cg
 go_region_held3 (aa F W) (exact ν)
  (first
   | ((go_at_call 138;(with_reducible refine (Ii _ ν).mono ?_));rintro e w2 ⟨rfl,hu2,hM2,Ms⟩;(have hv2:aa F W w2:=aa.trans ν hu2)))
 have a3:=e3 w2 hv2;have a4:=e4 w2 hv2;have HV:=χ hv2;clear e0 e1 e2 e3 e4 Ii hv2 hu2
 go_wp2_with (first
  | ((go_at_call 269;(with_reducible refine (Ms _ (aa.refl _ _)).mono ?_));rintro e w3 ⟨rfl,hQ⟩)
  | fail)
 go_ret;obtain ⟨hM,hI,hok,hB,hp,pG,hlt,DC,hg1,zh,Rt⟩:=HX.out;obtain ⟨gs,cap,L',T',q1,q2,q3,q4,q5,q6,q7⟩:=hQ;have hPE:=q1.any;have A7:∀z,z∈rp::v.ownBlock.toList->z∈G g:=λz hz=>by rw [DC];exact hz
 obtain ⟨st',lq⟩:=hM2.DZ (g:=g) pG hp q6 (λz hz=>by
  simp only [ρ] at hz;rcases hz with e|e|e|e
  ·exact Α (A7 z (by simp [e]))
  ·exact Β (Α e)
  ·exact Β (Β e)
  ·exact Α (A7 z (Λ _ e))) (A7 rp σ) hPE q5 (λk hk=>by
  cases hk;rcases q7 with e|e
  ·exact Α (A7 _ (Λ _ (Option.mem_toList.2 e)))
  ·exact Β e)
 have hI3:=hI.di.put ω hok hB q2 q3
 have hsd:Wd (aG A g x k s) (dU L g L') T':=hI.turn hI3.1 (λq=>by unfold bA;rw [zh]) hg1 q1.wJ (λy h1 h2=>q4 y (λhm=>h1 (q2.mem_iff.2 hm))) (λq y e hq hy=>by
  have h2:=hI.di.apart e hq hg1 hy;refine ⟨λhm=>?_,h2⟩;rcases ρ.1 (q2.mem_iff.1 hm) with e3|e3
  ·subst e3;have h4:=(hI.di.mem q y hq).1 hy;have h5:=((dP _ _ _).1 hB).2.2;have h6:=(aA _ _).1 hq;rw [(ay A y).2 ⟨h4.1,ω⟩] at h5;cases h5
  ·exact h2 e3)
 have hsz:=HW.out.size;have hsz2:=HV.out.size;have hbl:∀z,z∈F->z∈B.blk F Z gr:=λz hz=>by simp only [HB.blk,ρ,τ];exact Β (Β (Β (Α hz)))
 have hbz:∀z,z∈G g->z∈B.blk F Z gr:=λz hz=>by simp only [HB.blk,ρ,τ];exact Β (Β (Β (Β (hM.gV.qK g hg1 z hz))))
 refine ⟨rfl,B.blk F (Z++(rp::Option.toList (some gs))) gr,⟨_,st',rfl,cr,ptr,_,_,T',lq,hsd⟩,((HW.out.mono σ).trans (HV.out.mono hbl)).trans (q6.mono (λz hz=>?_)),λz hz=>?_⟩
 ·simp only [ρ] at hz;rcases hz with e|e|e|e
  ·exact hbz z (A7 z (by simp [e]))
  ·simp [HB.blk,e]
  ·exact hbl z (by rw [e];exact hM.cells.mem)
  ·exact hbz z (A7 z (Λ _ e))
 ·simp only [HB.blk,ρ,τ,Option.toList_some,ς,or_false] at hz;rcases hz with h|h|h|h|h|h|h
  ·left;simp [HB.blk,h]
  ·left;simp [HB.blk,h]
  ·left;simp [HB.blk,h]
  ·exact Α (hbl z h)
  ·left;simp [HB.blk,h]
  ·exact Α (hbz z (A7 z (by simp [h])))
  ·rcases q7 with e|e
   ·exact Α (hbz z (A7 z (Λ _ (by rw [h];exact Option.mem_toList.2 e))))
   ·exact Β ω
end
end Go.Proofs.YtnpdakpagnpanaaGreat
