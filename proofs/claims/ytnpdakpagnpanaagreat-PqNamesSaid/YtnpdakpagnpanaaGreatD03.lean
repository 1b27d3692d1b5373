/-
  Lemmas for PqOpens: SfP, ShP, DrP, Sf, Sf2, Sd, Sd2, Sd3, Sd5, Sd6, Sf5, Dr, Sd7, Dr2, Sd8, Dr3, Sd9, Arity, DrQ. Conditions: those of each lemma.
-/
import Derived.IntWalk
import Derived.Deep.RegionHeldLaw
import Derived.BigRegion
import Derived.Deep.OwnRows
import Derived.Test.YtnpdakpagnpanaaGreatD02
set_option linter.all false
set_option maxHeartbeats 8000000
set_option maxRecDepth 10000
namespace Go.Proofs.YtnpdakpagnpanaaGreat
open Go Go.RowKit
def par (d i:Nat):Nat:=(i-1) / d
theorem dK {d i:Nat} (hd:2<=d) (hi:0<i):par d i<i:=by
 unfold par;have:(i-1) / d<=(i-1) / 2:=Nat.div_le_div_left hd ω;omega
theorem bJ (L:List Nat) (i x j:Nat):(L.set i x).getD j 0=if j=i/\i<L.length then x else L.getD j 0:=by
 simp only [φ,ύ]
 by_cases h:i=j
 ·subst h
  by_cases h2:i<L.length
  ·simp [h2]
  ·simp [h2]
 ·have h':¬j=i:=λe=>h e.symm;simp [h,h']
section
variable {R:Nat->Nat->Prop} {d:Nat} {L:List Nat} {i x:Nat}
def Hp (R:Nat->Nat->Prop) (d:Nat) (L:List Nat):Prop:=∀j,0<j->j<L.length->R (L.getD (par d j) 0) (L.getD j 0)
structure ed (R:Nat->Nat->Prop) (d:Nat) (L:List Nat) (i:Nat):Prop where
 lt:i<L.length
 a:∀j,0<j->j<L.length->j≠i->par d j≠i->R (L.getD (par d j) 0) (L.getD j 0)
 b:∀j,0<j->j<L.length->par d j=i->0<i->R (L.getD (par d i) 0) (L.getD j 0)
def Below (R:Nat->Nat->Prop) (d:Nat) (L:List Nat) (i x:Nat):Prop:=∀j,0<j->j<L.length->par d j=i->R x (L.getD j 0)
theorem ed.fill (hd:2<=d) (h:ed R d L i) (hb:Below R d L i x) (hu:i=0\/R (L.getD (par d i) 0) x):Hp R d (L.set i x):=by
 intro j h0 hj;rw [Ι] at hj;have hl:=h.lt;rw [bJ,bJ]
 by_cases e:j=i
 ·subst e;have hp:=dK hd h0;rw [Γ ω,Δ ⟨rfl,hj⟩];rcases hu with hu|hu
  ·omega
  ·exact hu
 ·rw [Γ (show ¬ (j=i/\i<L.length) by omega)]
  by_cases ep:par d j=i
  ·rw [Δ ⟨ep,hl⟩];exact hb j h0 hj ep
  ·rw [Γ (show ¬ (par d j=i/\i<L.length) from λe=>ep e.1)];exact h.a j h0 hj e ep
theorem ed.up (ht:∀a b c,R a b->R b c->R a c) (hd:2<=d) (h:ed R d L i) (h0:0<i) (hx:R x (L.getD (par d i) 0)) :
  ed R d (L.set i (L.getD (par d i) 0)) (par d i)/\Below R d (L.set i (L.getD (par d i) 0)) (par d i) x:=by
 have hp:=dK hd h0;have hl:=h.lt;have hpp:∀j,0<j->par d j=par d i->par d j≠i:=λj hj e=>ω;refine ⟨⟨by rw [Ι];omega,λj j0 hj hji hjp=>?_,λj j0 hj hjp hp0=>?_⟩,λj j0 hj hjp=>?_⟩
 ·rw [Ι] at hj;have e:j≠i:=λe=>hjp (by rw [e]);rw [bJ,bJ,Γ (show ¬ (j=i/\i<L.length) by omega)]
  by_cases ep:par d j=i
  ·rw [Δ ⟨ep,hl⟩];exact h.b j j0 hj ep h0
  ·rw [Γ (show ¬ (par d j=i/\i<L.length) from λe=>ep e.1)];exact h.a j j0 hj e ep
 ·rw [Ι] at hj;have hp2:=dK hd hp0;rw [bJ,bJ,Γ (show ¬ (par d (par d i)=i/\i<L.length) by omega)];have h1:=h.a (par d i) hp0 ω ω ω
  by_cases e:j=i
  ·rw [Δ ⟨e,hl⟩];exact h1
  ·rw [Γ (show ¬ (j=i/\i<L.length) by omega)];have h2:=h.a j j0 hj e ω;rw [hjp] at h2;exact ht _ _ _ h1 h2
 ·rw [Ι] at hj;rw [bJ]
  by_cases e:j=i
  ·rw [Δ ⟨e,hl⟩];exact hx
  ·rw [Γ (show ¬ (j=i/\i<L.length) by omega)];have h2:=h.a j j0 hj e ω;rw [hjp] at h2;exact ht _ _ _ hx h2
theorem Hp.first (ht:∀a b c,R a b->R b c->R a c) (hd:2<=d) (h:Hp R d L):∀ (k j:Nat),j<=k->j<L.length->j=0\/R (L.getD 0 0) (L.getD j 0)
 | 0,j,hk,_=>Α ω
 | k+1,j,hk,hj=>by
  by_cases j0:j=0
  ·exact Α j0
  ·right;have hp:=dK (i:=j) hd ω;have h1:=h j ω hj;rcases Hp.first ht hd h k (par d j) ω ω with e|e
   ·rw [e] at h1;exact h1
   ·exact ht _ _ _ e h1
theorem Hp.frame {R':Nat->Nat->Prop} (h:Hp R d L) (hR:∀a b,a∈L->b∈L->R a b->R' a b) (hd:2<=d):Hp R' d L:=λj h0 hj=>by
 have hp:=dK hd h0;have hm:∀q,q<L.length->L.getD q 0∈L:=λq hq=>by
  rw [φ,ε hq];exact ϓ hq
 exact hR _ _ (hm _ ω) (hm _ hj) (h j h0 hj)
end
def vU (f:Int->Option Int) (L:List Nat):Prop:=∀z v,f z=some v↔∃ (y j:Nat),z=y/\v=j/\L[j]?=some y
def jd (f:Int->Option Int) (L:List Nat) (i x:Nat):Prop:=∀z v,z≠(x:Int)->(f z=some v↔∃ (y j:Nat),z=y/\v=j/\j≠i/\L[j]?=some y)
def zm (f:Int->Option Int) (k z:Int):Int->Option Int:=λq=>if q=k then some z else f q
theorem jd.fill {f:Int->Option Int} {L:List Nat} {i x:Nat} (h:jd f L i x) (hi:i<L.length) (hn:(L.set i x).Nodup):vU (zm f x i) (L.set i x):=by
 intro z v;unfold zm
 by_cases hz:z=(x:Int)
 ·rw [Δ hz];constructor
  ·intro e;cases e;exact ⟨x,i,hz,rfl,by simp [hi]⟩
  ·rintro ⟨y,j,rfl,rfl,hj⟩;have e:y=x:=ω;subst e;have h1:(L.set i y)[i]?=some y:=by simp [hi]
   obtain ⟨g1,e1⟩:=List.getElem?_eq_some_iff.1 hj;obtain ⟨g2,e2⟩:=List.getElem?_eq_some_iff.1 h1;have:j=i:=(List.getElem_inj hn).1 (e1.trans e2.symm);rw [this]
 ·rw [Γ hz,h z v hz];constructor
  ·rintro ⟨y,j,rfl,rfl,hj,hg⟩;exact ⟨y,j,rfl,rfl,by rw [ώ (λe=>hj e.symm)];exact hg⟩
  ·rintro ⟨y,j,rfl,rfl,hg⟩
   by_cases e:j=i
   ·subst e;rw [List.getElem?_set_self hi] at hg;cases hg;exact absurd rfl hz
   ·rw [ώ (λe'=>e e'.symm)] at hg;exact ⟨y,j,rfl,rfl,e,hg⟩
theorem jd.move {f:Int->Option Int} {L:List Nat} {i p x:Nat} (h:jd f L i x) (hi:i<L.length) (hp:p<L.length) (hpi:p≠i) (hn:(L.set i x).Nodup):jd (zm f (L.getD p 0) i) (L.set i (L.getD p 0)) p x:=by
 intro z v hz;have yN:L[p]?=some (L.getD p 0):=by simp [φ,hp]
 have Ka:∀j,j≠i->L[j]?=some (L.getD p 0)->j=p:=λj hj hg=>by
  have h1:(L.set i x)[j]?=some (L.getD p 0):=by rw [ώ (λe=>hj e.symm)];exact hg
  have h2:(L.set i x)[p]?=some (L.getD p 0):=by rw [ώ (λe=>hpi e.symm)];exact yN
  obtain ⟨g1,e1⟩:=List.getElem?_eq_some_iff.1 h1;obtain ⟨g2,e2⟩:=List.getElem?_eq_some_iff.1 h2;exact (List.getElem_inj hn).1 (e1.trans e2.symm)
 generalize hy:L.getD p 0=y at *;unfold zm
 by_cases e:z=(y:Int)
 ·rw [Δ e];constructor
  ·intro e2;cases e2;exact ⟨y,i,e,rfl,λe=>hpi e.symm,by simp [hi]⟩
  ·rintro ⟨y',j,e1,rfl,hj,hg⟩;have:y'=y:=ω;subst this
   by_cases hji:j=i
   ·rw [hji]
   ·rw [ώ (λe'=>hji e'.symm)] at hg;exact absurd (Ka j hji hg) hj
 ·rw [Γ e,h z v hz];constructor
  ·rintro ⟨y',j,rfl,rfl,hj,hg⟩;refine ⟨y',j,rfl,rfl,?_,by rw [ώ (λe'=>hj e'.symm)];exact hg⟩;rintro rfl;rw [yN] at hg;cases hg;exact e rfl
  ·rintro ⟨y',j,rfl,rfl,hj,hg⟩
   by_cases hji:j=i
   ·subst hji;rw [List.getElem?_set_self hi] at hg;cases hg;exact absurd rfl e
   ·rw [ώ (λe'=>hji e'.symm)] at hg;exact ⟨y',j,rfl,rfl,hji,hg⟩
theorem pG {L:List Nat} {i p x:Nat} (hi:i<L.length) (hp:p<L.length) (hpi:p≠i):((L.set i (L.getD p 0)).set p x).Perm (L.set i x):=by
 have h:=@List.set_set_perm _ (L.set i x) i p (by simpa using hi) (by simpa using hp);have e1:(L.set i x)[p]'(by simpa using hp)=L.getD p 0:=by
  rw [List.getElem_set_ne (λe=>hpi e.symm)];simp [φ,hp]
 have e2:(L.set i x)[i]'(by simpa using hi)=x:=σ;rw [e1,e2,List.set_set] at h;exact h
def dC (L:List Nat) (i j:Nat):List Nat:=(L.set i (L.getD j 0)).set j (L.getD i 0)
theorem jv (L:List Nat) (i j:Nat):(dC L i j).length=L.length:=by unfold dC;simp
theorem jw {L:List Nat} {i j:Nat} (hi:i<L.length) (hj:j<L.length) (k:Nat):(dC L i j).getD k 0=if k=j then L.getD i 0 else if k=i then L.getD j 0 else L.getD k 0:=by
 unfold dC;rw [bJ,bJ]
 by_cases h1:k=j
 ·rw [Δ ⟨h1,by simpa using hj⟩,Δ h1]
 ·rw [Γ (λe=>h1 e.1),Γ h1]
  by_cases h2:k=i
  ·rw [Δ ⟨h2,hi⟩,Δ h2]
  ·rw [Γ (λe=>h2 e.1),Γ h2]
theorem vQ {L:List Nat} {i j:Nat} (hi:i<L.length) (hj:j<L.length):dC L i j=dC L j i:=by
 apply List.ext_getElem
 ·rw [jv,jv]
 ·intro k h1 h2;have a:=jw hi hj k;have b:=jw hj hi k;rw [φ,ε h1] at a;rw [φ,ε h2] at b;simp only [Option.getD_some] at a b;rw [a,b]
  by_cases e1:k=j
  ·by_cases e2:k=i
   ·rw [Δ e1,Δ e2,←e1,←e2]
   ·rw [Δ e1,Γ e2,Δ e1]
  ·by_cases e2:k=i
   ·rw [Γ e1,Δ e2,Δ e2]
   ·rw [Γ e1,Γ e2,Γ e2,Γ e1]
theorem nM {L:List Nat} {i j:Nat} (hi:i<L.length) (hj:j<L.length) (hne:i≠j):(dC L i j).Perm L:=by
 have h:=pG (L:=L) (i:=i) (p:=j) (x:=L.getD i 0) hi hj (λe=>hne e.symm);have e:L.set i (L.getD i 0)=L:=by
  rw [φ,ε hi];simp
 rw [e] at h;exact h
section
variable {R:Nat->Nat->Prop} {L:List Nat} {i:Nat}
theorem ed.any {d:Nat} (hd:2<=d) (h:ed R d L i) (y:Nat):ed R d (L.set i y) i:=by
 have g:∀k,k≠i->(L.set i y).getD k 0=L.getD k 0:=λk hk=>by rw [bJ,Γ (λe=>hk e.1)]
 refine ⟨by rw [Ι];exact h.lt,λj j0 hj hji hp=>?_,λj j0 hj hp hi0=>?_⟩
 ·rw [Ι] at hj;rw [g _ hji,g _ hp];exact h.a j j0 hj hji hp
 ·rw [Ι] at hj;have h1:=dK hd j0;have h2:=dK hd hi0;rw [g _ ω,g _ ω];exact h.b j j0 hj hp hi0
theorem Below.any {d x:Nat} (hd:2<=d) (h:Below R d L i x) (y:Nat):Below R d (L.set i y) i x:=λj j0 hj hp=>by
 rw [Ι] at hj;have h1:=dK hd j0;rw [bJ,Γ (show ¬ (j=i/\i<L.length) by omega)];exact h j j0 hj hp
theorem ed.done {d:Nat} (hd:2<=d) (h:ed R d L i) (hb:Below R d L i (L.getD i 0)) (hu:i=0\/R (L.getD (par d i) 0) (L.getD i 0)):Hp R d L:=by
 have h1:=h.fill hd hb hu;have e:L.set i (L.getD i 0)=L:=by
  have:=h.lt;rw [φ,ε this];simp
 rwa [e] at h1
theorem ed.EH (ht:∀a b c,R a b->R b c->R a c) (h:ed R 2 L i) (h0:0<i) (hx:R (L.getD i 0) (L.getD (par 2 i) 0)) :
  ed R 2 (dC L (par 2 i) i) (par 2 i)/\Below R 2 (dC L (par 2 i) i) (par 2 i) ((dC L (par 2 i) i).getD (par 2 i) 0):=by
 have hp:=dK (d:=2) ω h0;have hl:=h.lt;obtain ⟨h1,h2⟩:=h.up ht ω h0 hx;rw [jw ω hl,Γ ω,Δ rfl,vQ ω hl];exact ⟨h1.any ω _,h2.any ω _⟩
theorem Hp.snoc {d x:Nat} (h:Hp R d L) (ht:∀a b c,R a b->R b c->R a c) (hd:2<=d):ed R d (L++[x]) L.length/\Below R d (L++[x]) L.length x:=by
 have g:∀k,k<L.length->(L++[x]).getD k 0=L.getD k 0:=λk hk=>by simp [φ,Ρ,hk]
 have hno:∀j,0<j->j<(L++[x]).length->par d j=L.length->False:=λj j0 hj hp=>by
  simp at hj;have:=dK hd j0;omega
 refine ⟨⟨σ,λj j0 hj hji hp=>?_,λj j0 hj hp _=>(hno j j0 hj hp).elim⟩,λj j0 hj hp=>(hno j j0 hj hp).elim⟩;simp at hj;have:=dK hd j0;rw [g _ ω,g _ ω];exact h j j0 ω
end
def om (A:NS) (a b:Nat):Prop:=decide (dm A a b)=true
theorem dP {A:NS} {a b:Nat}:om A a b↔dm A a b:=by unfold om;simp
theorem lq (A:NS):∀a b c,om A a b->om A b c->om A a c:=λa b c h1 h2=>dP.2 (bK (dP.1 h1) (dP.1 h2))
structure lU (d:Nat) (A:NS) (L:Nat->List Nat):Prop where
 hp:∀h:Nat,aR A h=true->Hp (om A) d (L h)
 nd:∀h:Nat,aR A h=true->(L h).Nodup
 mem:∀h x:Nat,aR A h=true->(x∈L h↔x<A.cs.length/\(A.c x).i=h)
section
variable {d:Nat} {A:NS} {L:Nat->List Nat}
theorem lU.frame {A':NS} {l:List Nat} (h:Hp (om A) d l) (hd:2<=d) (hs:∀y,y∈l->A'.c y=A.c y):Hp (om A') d l:=
 h.frame (λa b ha hb hab=>dP.2 ((dM (hs a ha) (hs b hb)).2 (dP.1 hab))) hd
theorem lU.len (h:lU d A L) {g x:Nat} (hg:aR A g=true) (hx:x∈L g):x<A.cs.length/\dh A (x:Int)=true/\(A.c x).i=g:=by
 have h1:=(h.mem g x hg).1 hx;have h2:=(aA _ _).1 hg;exact ⟨h1.1,(aK _ _).2 ⟨h1.1,ω⟩,h1.2⟩
theorem lU.first (h:lU d A L) (hd:2<=d) {g m:Nat} {l:List Nat} (hg:aR A g=true) (hl:L g=m::l):bQ A g=some m:=by
 have h0:=(aA _ _).1 hg;have hm:=(h.mem g m hg).1 (by rw [hl];simp);refine (eO ω).2 ⟨hm.1,hm.2,λy hy hyi=>?_⟩;have hym:=(h.mem g y hg).2 ⟨hy,hyi⟩;have hH:=h.hp g hg;rw [hl] at hym hH;obtain ⟨j,hj,e⟩:=List.mem_iff_getElem.1 hym;rcases Hp.first (lq A) hd hH j j (Θ _) hj with e2|e2
 ·subst e2;left;rw [←e];rfl
 ·right;have e3:(m::l).getD j 0=y:=by rw [φ,ε hj,e];rfl
  rw [e3] at e2;exact dP.1 e2
theorem lU.none (h:lU d A L) {g:Nat} (hg:aR A g=true) (hl:L g=[]):bQ A g=none:=by
 refine (eB (by have:=(aA _ _).1 hg;omega)).2 ?_;rcases Nat.eq_zero_or_pos (bO A (g:Int)) with e|e
 ·exact e
 ·obtain ⟨x,hx,hi,_⟩:=bX.1 e;have:=(h.mem g x hg).2 ⟨hx,hi⟩;rw [hl] at this;cases this
theorem lU.next {A':NS} {g:Nat} {l:List Nat} (h:lU d A L) (hd:2<=d) (hh:∀k:Nat,aR A' k=aR A k) (hc:A'.cs.length=A.cs.length)
  (k1:∀k:Nat,k≠g->∀x,x<A.cs.length->1<=k->((A'.c x).i=k↔(A.c x).i=k)) (k2:∀x,(A.c x).i≠g->(A'.c x).i≠g->A'.c x=A.c x)
  (n1:Hp (om A') d l) (n2:l.Nodup) (n3:aR A g=true->∀x,x∈l↔x<A.cs.length/\(A'.c x).i=g):lU d A' (d9 L g l):=by
 refine ⟨λk hk=>?_,λk hk=>?_,λk x hk=>?_⟩
 all_goals rw [hh] at hk
 ·by_cases e:k=g
  ·subst e;rw [aX];exact n1
  ·rw [aN _ _ e];refine lU.frame (h.hp k hk) hd (λy hy=>?_);have hy2:=(h.mem k y hk).1 hy;have hk0:=(aA _ _).1 hk;exact k2 y ω (by rw [(k1 k e y hy2.1 ω).2 hy2.2];omega)
 ·by_cases e:k=g
  ·subst e;rw [aX];exact n2
  ·rw [aN _ _ e];exact h.nd k hk
 ·rw [hc]
  by_cases e:k=g
  ·subst e;rw [aX];exact n3 hk x
  ·rw [aN _ _ e,h.mem k x hk];have hk0:=(aA _ _).1 hk;constructor
   ·rintro ⟨a,b⟩;exact ⟨a,(k1 k e x a ω).2 b⟩
   ·rintro ⟨a,b⟩;exact ⟨a,(k1 k e x a ω).1 b⟩
theorem lU.put (h:lU d A L) (hd:2<=d) (ok:A.Ok) {g x:Nat} {k s:Int} (hB:iq A g x=true) {l:List Nat} (hp:l.Perm (x::L g)) (hH:Hp (om (af A g x k s)) d l):lU d (af A g x k s) (d9 L g l)/\x∉L g:=by
 obtain ⟨b1,b2,b3⟩:=(bG _ _ _).1 hB;have hx:x<A.cs.length:=by have:=(bS _ _).1 b2;omega
 have h0:(A.c x).i=0:=by
  have:=(ok.nat x hx).1;have h3:¬ (0<(A.c x).i):=λh'=>by rw [(aK A x).2 ⟨hx,h'⟩] at b3;cases b3
  omega
 have hg0:=(aA _ _).1 b1;have hc:∀y,(af A g x k s).c y=if y=x then ⟨g,k,s⟩ else A.c y:=λy=>by
  unfold af;rw [Δ hB,π,fE]
  by_cases e:y=x
  ·rw [Δ ⟨e,hx⟩,Δ e]
  ·rw [Γ (λh=>e h.1),Γ e]
 have F9:x∉L g:=λhm=>by have:=(h.mem g x b1).1 hm;omega
 refine ⟨h.next hd (λq=>by unfold af;rw [Δ hB];rfl) (by unfold af;rw [Δ hB,bU]) (λq hq y hy hq1=>?_) (λy hy1 hy2=>?_) hH (hp.nodup_iff.2 (Ζ.2 ⟨F9,h.nd g b1⟩)) (λ_ y=>?_),F9⟩
 ·rw [hc]
  by_cases e:y=x
  ·rw [Δ e,e];simp only;omega
  ·rw [Γ e]
 ·rw [hc] at hy2 ⊢
  by_cases e:y=x
  ·rw [Δ e] at hy2;exact absurd rfl hy2
  ·rw [Γ e]
 ·rw [hp.mem_iff,ρ,h.mem g y b1,hc]
  by_cases e:y=x
  ·rw [Δ e,e];simp [hx]
  ·rw [Γ e];simp [e]
theorem jX (A:NS) (hl:¬65536<A.hs.length) (hl0:1<=A.hs.length) (k:Nat):aR (ag A) k=(aR A k || k == A.hs.length):=by
 unfold ag aR;rw [Γ hl];simp only [υ,List.length_singleton,π,φ]
 by_cases e:k=A.hs.length
 ·subst e;simp;omega
 ·by_cases e2:k<A.hs.length
  ·rw [Ρ e2];have e3:(k:Int)<(A.hs.length:Int):=ω;have e4:(k:Int)<(A.hs.length:Int)+1:=ω;simp [e,e2,e3,e4]
  ·have e3:¬ (k:Int)<(A.hs.length:Int):=ω;have e4:¬ (k:Int)<(A.hs.length:Int)+1:=ω;simp [e,e2,e3,e4]
theorem lU.make (h:lU d A L) (hd:2<=d) (ok:A.Ok) (hl:¬65536<A.hs.length) (hl0:1<=A.hs.length):lU d (ag A) (d9 L A.hs.length []):=by
 have hc:(ag A).cs=A.cs:=by unfold ag;rw [Γ hl]
 have hcc:∀x,(ag A).c x=A.c x:=λx=>by unfold NS.c;rw [hc]
 have hno:aR A (A.hs.length:Int)=false:=by
  cases hh:aR A (A.hs.length:Int) with
  | false=>rfl
  | true=>have:=(aA _ _).1 hh;omega
 have hcase:∀k:Nat,aR (ag A) k=true->k=A.hs.length\/(k≠A.hs.length/\aR A k=true):=λk hk=>by
  rw [jX A hl hl0] at hk
  by_cases e:k=A.hs.length
  ·exact Α e
  ·right;simp [e] at hk;exact ⟨e,hk⟩
 refine ⟨λk hk=>?_,λk hk=>?_,λk x hk=>?_⟩
 ·rcases hcase k hk with rfl|⟨e,hk'⟩
  ·rw [aX];intro j _ hj;simp at hj
  ·rw [aN _ _ e];exact (h.hp k hk').frame (λa b _ _ hab=>dP.2 ((dM (hcc a) (hcc b)).2 (dP.1 hab))) hd
 ·rcases hcase k hk with rfl|⟨e,hk'⟩
  ·rw [aX];exact List.nodup_nil
  ·rw [aN _ _ e];exact h.nd k hk'
 ·rw [hc,hcc];rcases hcase k hk with rfl|⟨e,hk'⟩
  ·rw [aX];simp only [ς,false_iff,not_and];intro hx hi;have:=(ok.nat x hx).2;omega
  ·rw [aN _ _ e];exact h.mem k x hk'
end
structure eH where
 ty:TypeId
 p:Nat
 rd:List Nat
 wr:List Nat
 lt:Nat->Nat->Bool
 dom:Nat->Prop
 at_:World->Prop
 sub:∀x,x∈wr->x∈rd
 low:∀ {w:World},at_ w->∀x,x∈rd->x<w.heap.size
 upd:∀ {w w':World} {S:List Nat},at_ w->aa S w w'->(∀x,x∈S->x∉rd)->at_ w'
 trans:∀a b c,lt a b=true->lt b c=true->lt a c=true
 total:∀a b,a≠b->lt a b=true\/lt b a=true
 asym:∀a b,lt a b=true->lt b a=false
 fn:FuncId
 recv:Value
 ent:Enters fn
 Ik:∀ {w:World},at_ w->(method 409 ty (.pointer (some ⟨p,0,none⟩)) "Ahead").run Tryz.prog w=.ok (fn,recv) w
 G9:∀w:World,(nilAhead 409 ty (.pointer (some ⟨p,0,none⟩)) "Ahead").run Tryz.prog w=.ok (some false) w
 ask:∀ {w:World} (x y:Nat),at_ w->dom x->dom y->Calls Tryz.prog fn #[recv,.int .i64 (x:Int),.int .i64 (y:Int)] w λe w'=>e=.returned (.bool (lt x y))/\at_ w'/\aa wr w w'
structure eH.On (O:eH) (w0 w:World):Prop where
 at_:O.at_ w
 upd:aa O.wr w0 w
theorem eH.On.start {O:eH} {w:World} (h:O.at_ w):O.On w w:=⟨h,aa.refl _ _⟩
theorem eH.On.drew {O:eH} {w0 w:World} (h:O.On w0 w):O.On w0 w.drew:=⟨O.upd h.at_ ((aa.refl [] w).drew) σ,h.upd.drew⟩
theorem eH.On.drewN {O:eH} {w0 w:World} (h:O.On w0 w) (n:Nat):O.On w0 (w.drewN n):=⟨O.upd h.at_ ((aa.refl [] w).drewN n) σ,h.upd.drewN n⟩
theorem eH.On.asked {O:eH} {w0 w w':World} (h:O.On w0 w) (ha:O.at_ w') (hu:aa O.wr w w'):O.On w0 w':=⟨ha,h.upd.trans hu⟩
def eH.R (O:eH) (a b:Nat):Prop:=O.lt a b=true
theorem eH.tr (O:eH):∀a b c,O.R a b->O.R b c->O.R a c:=O.trans
structure lV (w:World) (rp mb g cap d:Nat) (f:Int->Option Int) (L:List Nat):Prop where
 head:ak w rp 228 3 (λj=>[Value.int .i64 (d:Int),.slice (some ⟨g,0,none⟩) L.length cap,.map (some mb)].getD j undef)
 row:IZ w g cap (aU L)
 map:cu w mb f
 sep:rp≠mb/\rp≠g/\mb≠g
theorem bE (L:List Nat):(aU L).length=L.length:=by unfold aU;simp
theorem jS {L:List Nat} {j:Nat}:(aU L).getD j 0=((L.getD j 0:Nat):Int):=by
 unfold aU;simp only [φ,List.getElem?_map];cases L[j]?<;>rfl
theorem fK (L:List Nat) (i x:Nat):aU (L.set i x)=(aU L).set i (x:Int):=by unfold aU;rw [List.map_set]
section
variable {w:World} {rp mb g cap d:Nat} {f:Int->Option Int} {L:List Nat}
theorem lV.upd {w':World} {S:List Nat} (h:lV w rp mb g cap d f L) (hu:aa S w w') (h1:rp∉S) (h2:mb∉S) (h3:g∉S):lV w' rp mb g cap d f L:=
 ⟨h.head.upd hu h1,h.row.upd hu h3,h.map.upd hu h2,h.sep⟩
theorem lV.ah {w':World} (h:lV w rp mb g cap d f L) (hu:aa [] w w'):lV w' rp mb g cap d f L:=h.upd hu σ σ σ
theorem lV.h0 (h:lV w rp mb g cap d f L):w.cell? ⟨rp,0,none⟩=some (.int .i64 (d:Int)):=h.head.cellAt 0 ω rfl
theorem lV.h1 (h:lV w rp mb g cap d f L):w.cell? ⟨rp,1,none⟩=some (.slice (some ⟨g,0,none⟩) L.length cap):=h.head.cellAt 1 ω rfl
theorem lV.h2 (h:lV w rp mb g cap d f L):w.cell? ⟨rp,2,none⟩=some (.map (some mb)):=h.head.cellAt 2 ω rfl
theorem lV.lt (h:lV w rp mb g cap d f L):rp<w.heap.size/\mb<w.heap.size/\g<w.heap.size:=⟨h.head.lt,h.map.lt,h.row.lt⟩
theorem lV.cell (h:lV w rp mb g cap d f L) (j:Nat) (hj:j<L.length):w.cell? ⟨g,j,none⟩=some (.int .i64 ((L.getD j 0:Nat):Int)):=by
 have:=h.row.cell j (by rw [bE];exact hj);rwa [jS] at this
/-! ### places -/
theorem vD (d i:Nat) (hd:2<=d/\d<=16) (hi:i<=65536) (w:World) :
  Calls Tryz.prog 154 #[.int .i64 (d:Int),.int .i64 (i:Int)] w λe w'=>e=.returned (.tuple #[.int .i64 (if i=0 then 0 else (par d i:Int)),.bool (decide (0<i))])/\aa [] w w':=by
 have kf:∀W,Calls Tryz.prog 101 #[.int .i64 (d:Int)] W λe w'=>e=.returned (.bool true)/\w'=W:=λW=>by
  have h1:(d:Int)≥2:=ω;have h2:(d:Int)<=16:=ω
  go_enter Tryz.func101,Tryz.ntmps101
  go_wp2;go_ret;exact ⟨rfl,rfl⟩
 by_cases h0:i=0
 ·subst h0
  go_enter Tryz.func154,Tryz.ntmps154
  go_wp2_with (first|(go_at_call 101;(with_reducible refine (kf _).mono ?_);rintro e w9 ⟨rfl,aB⟩;rw [aB];clear aB w9)|fail)
  go_ret2;exact ⟨rfl,aa.refl _ _⟩
 ·have h1:¬ (i:Int)<1:=ω;have hd0:¬ (d:Int)=0:=ω;rw [Γ h0,Ν (ω:0<i)];have hq:((i:Int)-1).tdiv (d:Int)=(par d i:Int):=by
   unfold par;rw [show (i:Int)-1=((i-1:Nat):Int) by omega]
   rfl
  go_enter Tryz.func154,Tryz.ntmps154
  go_wp2_with (first|(go_at_call 101;(with_reducible refine (kf _).mono ?_);rintro e w9 ⟨rfl,aB⟩;rw [aB];clear aB w9)|fail)
  go_ret2;have hp:=dK hd.1 (show 0<i by omega);rw [IntWalk.wrap64_in _ ω];exact ⟨rfl,aa.refl _ _⟩
theorem mV (h:lV w rp mb g cap d f L) (i x:Nat) (hi:i<L.length) (hx:x<=65536) (hl:L.length<=65536) :
  Calls Tryz.prog 155 #[.pointer (some ⟨rp,0,none⟩),.int .i64 (i:Int),.int .i64 (x:Int)] w λe w'=>e=.returned (.tuple #[])/\lV w' rp mb g cap d (zm f x i) (L.set i x)/\aa [g,mb] w w':=by
 have c0:=h.h0;have c1:=h.h1;have c2:=h.h2;have hc:=h.row.cap;rw [bE] at hc;have fg:=h.row.free i;have cg:=h.cell i hi;have hlt:=h.lt;have s:=h.sep;have hu1:aa [g] w (w.setCell ⟨g,i,none⟩ (.int .i64 (x:Int))):=β;have hM1:cu (w.setCell ⟨g,i,none⟩ (.int .i64 (x:Int))) mb f:=h.map.upd hu1 ζ;have H1:ak (w.setCell ⟨g,i,none⟩ (.int .i64 (x:Int))) rp 228 3 (λj=>[Value.int .i64 (d:Int),.slice (some ⟨g,0,none⟩) L.length cap,.map (some mb)].getD j undef):=h.head.upd hu1 ζ;have H2:IZ (w.setCell ⟨g,i,none⟩ (.int .i64 (x:Int))) g cap (aU (L.set i x)):=by rw [fK];exact h.row.set i _
 have HH:=χ (ψ H1 (ψ H2 (ψ s hu1)));have hil:(i:Int)<(L.length:Int):=ω;have e1:rp≠g:=s.2.1;generalize hn:L.length=n at *;have HN:=χ hn;clear h H1 H2 hu1 hn
 go_enter Tryz.func155,Tryz.ntmps155
 go_wp2_with (first
  | (at_mapUpdate;refine jc rfl _ _ _ rfl mb f rfl hM1 (x:Int) (i:Int) rfl rfl ω ω ?_;intro w2 hm2 hu2)
  | fail)
 go_end0;obtain ⟨H1,H2,s,hu1⟩:=HH.out;refine ⟨rfl,⟨?_,H2.upd hu2 ζ,hm2,s⟩,(hu1.mono σ).trans (hu2.mono σ)⟩;rw [Ι,HN.out];exact H1.upd hu2 ζ
end
structure EL (O:eH) (rp mb g:Nat):Prop where
 a:rp∉O.rd
 b:mb∉O.rd
 c:g∉O.rd
theorem EL.wr {O:eH} {rp mb g:Nat} (h:EL O rp mb g):rp∉O.wr/\mb∉O.wr/\g∉O.wr:=⟨λhm=>h.a (O.sub _ hm),λhm=>h.b (O.sub _ hm),λhm=>h.c (O.sub _ hm)⟩
theorem sS {L:List Nat} {i x p:Nat} (hp:p<L.length) (hne:p≠i):L.getD p 0∈L.set i x:=by
 have h1:(L.set i x)[p]?=some (L.getD p 0):=by rw [ώ (λe=>hne e.symm)];simp [φ,hp]
 exact Η h1
theorem CE {L:List Nat} {i x p:Nat} (hi:i<L.length) (hp:p<L.length) (hne:p≠i) (hn:(L.set i x).Nodup):L.getD p 0≠x:=λe=>by
 have h1:(L.set i x)[p]?=some x:=by rw [ώ (λe=>hne e.symm),←e];simp [φ,hp]
 have h2:(L.set i x)[i]?=some x:=by simp [hi]
 obtain ⟨g1,e1⟩:=List.getElem?_eq_some_iff.1 h1;obtain ⟨g2,e2⟩:=List.getElem?_eq_some_iff.1 h2;exact hne ((List.getElem_inj hn).1 (e1.trans e2.symm))
theorem CB (O:eH) {w:World} {rp mb g cap d:Nat} {f:Int->Option Int} {L:List Nat} (hO:O.at_ w) (h:lV w rp mb g cap d f L) (hd:2<=d/\d<=16) (hl:L.length<=65536) (i x:Nat) (hH:ed O.R d L i) (hP:jd f L i x)
  (hn:(L.set i x).Nodup) (hdom:∀y,y∈L.set i x->O.dom y) (h16:∀y,y∈L.set i x->y<=65536) (hsep:EL O rp mb g) :
  Calls Tryz.prog 146 #[.pointer (some ⟨rp,0,none⟩),.iface O.ty (.pointer (some ⟨O.p,0,none⟩)),.int .i64 (i:Int),.int .i64 (x:Int)] w λe w'=>∃ (k:Nat) (f':Int->Option Int) (L':List Nat),e=.returned (.int .i64 (k:Int))/\lV w' rp mb g cap d f' L'/\vU f' L'/\L'.Perm (L.set i x)/\O.at_ w'/\aa (g::mb::O.wr) w w'/\
   (k=i->L'=L.set i x/\(i=0\/O.R (L.getD (par d i) 0) x))/\(k≠i\/Below O.R d L i x->Hp O.R d L'):=by
 have hi0:=hH.lt;have hxm:x∈L.set i x:=Η (show (L.set i x)[i]?=some x by simp [hi0]);have hdx:=hdom x hxm;have hxl:=h16 x hxm;have HX:=χ (ψ hn (ψ hdom (ψ h16 (ψ hsep hd))));have hwr:=hsep.wr
 go_enter Tryz.func146,Tryz.ntmps146
 go_wp2
 go_loopw [2,9,10] (λiv _ _ wr=>∃ (i':Nat) (f':Int->Option Int) (L':List Nat),iv=.int .i64 (i':Int)/\lV wr rp mb g cap d f' L'/\ed O.R d L' i'/\jd f' L' i' x/\L'.length=L.length/\(L'.set i' x).Perm (L.set i x)/\O.at_ wr/\aa (g::mb::O.wr) w wr/\((i'=i/\L'=L)\/(i'<i/\Below O.R d L' i' x))) (λiv _ _ _=>(intOf iv).toNat)
 case atStart=>exact ⟨i,f,L,rfl,h,hH,hP,rfl,ό _,hO,aa.refl _ _,Α ⟨rfl,rfl⟩⟩
 case round=>
  clear h hH hP hO;obtain ⟨i1,f1,L1,rfl,h,hH,hP,hl1,hpm,hO,hu,hst⟩:=hrel;rename World=>wr;have hi1:=hH.lt;have hn1:(L1.set i1 x).Nodup:=hpm.nodup_iff.2 HX.out.1;have kp:=λW=>vD d i1 hd ω W;have c0:=h.h0;have c1:=h.h1;have hlt:=h.lt
  by_cases hz:i1=0
  ·have ks:=λW (hW:aa [] wr W)=>mV (h.ah hW) i1 x hi1 hxl ω;have e1:(if i1=0 then (0:Int) else (par d i1:Int))=0:=Δ hz;have e2:decide (0<i1)=false:=by simp [hz]
   simp only [e1,e2] at kp;have HF:=χ (ψ hH (ψ hP (ψ hn1 (ψ hpm (ψ hO (ψ hst (ψ hu (ψ hl1 hz))))))));clear hH hP hn1 hpm hO hst hu hl1 h hz e1 e2
   go_upto_region 2 with (first
    | ((go_at_call 154;(with_reducible refine (kp _).mono ?_));rintro e w1 ⟨rfl,hu1⟩)
    | fail)
   go_quiet (fail)
   have ks1:=ks _ (hu1.drewN nq)
   go_wp2_with (first
    | ((go_at_call 155;(with_reducible refine (ks1).mono ?_));rintro e w2 ⟨rfl,hR,hu2⟩)
    | fail)
   go_ret;obtain ⟨hH,hP,hn1,hpm,hO,hst,hu,hl1,hz⟩:=HF.out;have hu3:aa [g,mb] wr w2:=(hu1.drewN nq).mono σ |>.trans hu2;refine ⟨i1,_,_,rfl,hR,hP.fill hi1 hn1,hpm,O.upd hO hu3 (λy hy=>by have:=HX.out.2.2.2.1;simp at hy;rcases hy with rfl|rfl;exact this.c;exact this.b),hu.trans (hu3.mono (by simp +contextual)),λe=>?_,λe=>?_⟩
   ·rcases hst with ⟨_,rfl⟩|⟨h1,_⟩
    ·subst e;exact ⟨rfl,Α hz⟩
    ·omega
   ·have hb:Below O.R d L1 i1 x:=by
     rcases hst with ⟨e1,e2⟩|⟨_,h2⟩
     ·rcases e with e|e
      ·exact absurd e1 e
      ·rw [e1,e2];exact e
     ·exact h2
    exact hH.fill hd.1 hb (Α hz)
  ·obtain ⟨p,hp⟩:∃p,p=par d i1:=⟨_,rfl⟩;have hpl:p<i1:=by rw [hp];exact dK hd.1 ω
   have e1:(if i1=0 then (0:Int) else (par d i1:Int))=(p:Int):=by rw [Γ hz,hp]
   have e2:decide (0<i1)=true:=ζ;simp only [e1,e2] at kp;have hcp:=h.cell p ω;have hcg:=h.h1;have hdp:=HX.out.2.1 (L1.getD p 0) (hpm.mem_iff.1 (sS ω ω));have hpx:=CE hi1 (show p<L1.length by omega) ω hn1;have ks2:=λW (hW:aa O.wr wr W)=>mV (h.upd hW hwr.1 hwr.2.1 hwr.2.2) i1 (L1.getD p 0) hi1 (HX.out.2.2.1 _ (hpm.mem_iff.1 (sS ω ω))) ω;have ks:=λW (hW:aa O.wr wr W)=>mV (h.upd hW hwr.1 hwr.2.1 hwr.2.2) i1 x hi1 hxl ω;have HF:=χ (ψ hH (ψ hP (ψ hn1 (ψ hpm (ψ hO (ψ hst (ψ hu (ψ hl1 (ψ hz (ψ hp (ψ hpx h)))))))))));have hi1L:(p:Int)<(L1.length:Int):=ω;have J4:=hwr.1;have hgw:=hwr.2.2
   clear hH hP hn1 hpm hst hu hl1 h hz e1 e2 hp hpx hpl hwr;generalize hy:L1.getD p 0=y at *
   go_upto_region 2 with (first
    | ((go_at_call 154;(with_reducible refine (kp _).mono ?_));rintro e w1 ⟨rfl,hu1⟩)
    | fail)
   have BC:O.On w1 w1:=.start (O.upd hO hu1 σ);have cp1:∀W,O.On w1 W->W.cell? ⟨g,p,none⟩=some (.int .i64 (y:Int)):=λW hW=>hW.upd.kept (hu1.was hcp) hgw;have cg1:∀W,O.On w1 W->W.cell? ⟨rp,1,none⟩=some (.slice (some ⟨g,0,none⟩) L1.length cap):=λW hW=>hW.upd.kept (hu1.was hcg) J4;have hm:∀W,O.On w1 W->_:=λW hW=>O.Ik hW.at_;have hnl:=O.G9;have hen:=O.ent;unfold Enters at hen
   go_region_held3 (O.On w1) (first|assumption|exact BC|(refine eH.On.drew ?_;first|assumption|exact BC)|(refine eH.On.drewN ?_ _;first|assumption|exact BC))
    (first
     | ((with_reducible refine (O.ask x y (eH.On.at_ (w0:=w1) (by first|assumption|exact BC|(refine eH.On.drew ?_;first|assumption|exact BC)|(refine eH.On.drewN ?_ _;first|assumption|exact BC))) hdx hdp).mono ?_);rintro e w5 ⟨rfl,D8,dV⟩;(have zg:O.On w1 w5:=eH.On.asked (by first|assumption|exact BC|(refine eH.On.drew ?_;first|assumption|exact BC)|(refine eH.On.drewN ?_ _;first|assumption|exact BC)) D8 dV)))
   have zF:aa O.wr wr w5:=(hu1.mono σ).trans zg.upd;have ks5:=ks w5 zF;have ks6:=ks2 w5 zF;have HY:=χ (ψ hy (ψ zg.at_ zF));have cp5:=cp1 w5 zg;have cg5:=cg1 w5 zg;clear ks ks2 cp1 cg1 hm BC zg dV D8 hO hcp hcg;cases hxy:O.lt x y with
   | false=>
    clear ks6
    go_wp2_with (first
     | ((go_at_call 155;(with_reducible refine (ks5).mono ?_));rintro e w2 ⟨rfl,hR,hu2⟩)
     | fail)
    go_ret;obtain ⟨hH,hP,hn1,hpm,hO,hst,hu,hl1,hz,hp,hpx,h⟩:=HF.out;obtain ⟨hy,hat,dV⟩:=HY.out;have hup:O.R (L1.getD (par d i1) 0) x:=by
     rw [←hp,hy];rcases O.total x y (λe=>hpx e.symm) with e|e
     ·rw [e] at hxy;cases hxy
     ·exact e
    refine ⟨i1,_,_,rfl,hR,hP.fill hi1 hn1,hpm,O.upd hat hu2 (λy hy=>by have:=HX.out.2.2.2.1;simp at hy;rcases hy with rfl|rfl;exact this.c;exact this.b),(hu.trans (dV.mono (by simp +contextual))).trans (hu2.mono (by simp +contextual)),λe=>?_,λe=>?_⟩
    ·rcases hst with ⟨_,e2⟩|⟨h1,_⟩
     ·rw [e2] at hup ⊢;rw [e] at hup ⊢;exact ⟨rfl,Β hup⟩
     ·omega
    ·have hb:Below O.R d L1 i1 x:=by
      rcases hst with ⟨e1,e2⟩|⟨_,h2⟩
      ·rcases e with e|e
       ·exact absurd e1 e
       ·rw [e1,e2];exact e
      ·exact h2
     exact hH.fill hd.1 hb (Β hup)
   | true=>
    clear ks5
    go_wp2_with (first
     | ((go_at_call 155;(with_reducible refine (ks6).mono ?_));rintro e w2 ⟨rfl,hR,hu2⟩)
     | fail)
    go_roundw
    case rel=>
     obtain ⟨hH,hP,hn1,hpm,hO,hst,hu,hl1,hz,hp,hpx,h⟩:=HF.out;obtain ⟨hy,hat,dV⟩:=HY.out;have hpl:p<i1:=by rw [hp];exact dK hd.1 ω
     have hup:=hH.up O.tr hd.1 ω (x:=x) (by rw [←hp,hy];exact hxy);rw [←hp,hy] at hup;have hmv:=hP.move hi1 (p:=p) ω ω hn1;rw [hy] at hmv;have hpr:=pG (L:=L1) (i:=i1) (p:=p) (x:=x) hi1 ω ω;rw [hy] at hpr;refine ⟨p,_,_,rfl,hR,hup.1,hmv,by rw [Ι];exact hl1,hpr.trans hpm,O.upd hat hu2 (λy hy=>by have:=HX.out.2.2.2.1;simp at hy;rcases hy with rfl|rfl;exact this.c;exact this.b),(hu.trans (dV.mono (by simp +contextual))).trans (hu2.mono (by simp +contextual)),Β ⟨?_,hup.2⟩⟩;rcases hst with ⟨e,_⟩|⟨e,_⟩<;>omega
    case measure=>
     have hpl:p<i1:=by rw [HF.out.2.2.2.2.2.2.2.2.2.1];exact dK hd.1 (by have:=HF.out.2.2.2.2.2.2.2.2.1;omega)
     simp [intOf];omega
structure HB where
 n0:Nat
 c:Nat
 ga:Nat
def zD (B:HB) (v:Value) (j:Nat):Value:=[Value.pointer (some ⟨B.n0,0,none⟩),v].getD j undef
structure gU (w:World) (B:HB) (F:List Nat) (A:NS) (rp g cap:Nat) (L T:List Nat):Prop where
 hd:ak w rp 302 2 (zD B (.slice (some ⟨g,0,none⟩) L.length cap))
 row:IZ w g cap (aU L)
 oN:IZ w B.ga T.length (aU T)
 Cy:w.cell? ⟨B.n0,0,none⟩=some (.pointer (some ⟨B.c,0,none⟩))
 Ce:w.cell? ⟨B.n0,2,none⟩=some (.slice (some ⟨B.ga,0,none⟩) T.length T.length)
 Bz:∃st,ai w B.c F A st
 s1:rp≠g/\rp≠B.ga/\rp≠B.n0
 s2:g≠B.ga/\g≠B.n0/\B.ga≠B.n0
 s3:rp∉F/\g∉F/\B.ga∉F/\B.n0∉F
 dom:∀x,x∈L->dh A (x:Int)=true/\x<T.length
 nd:L.Nodup
 yQ:∀j x,L[j]?=some x->T.getD x 0=j
 tl:T.length<=65536
section
variable {w:World} {B:HB} {F:List Nat} {A:NS} {rp g cap:Nat} {L T:List Nat}
theorem gU.mem (h:gU w B F A rp g cap L T):B.c∈F:=by obtain ⟨st,hC⟩:=h.Bz;exact hC.mem
theorem gU.cne (h:gU w B F A rp g cap L T):rp≠B.c/\g≠B.c/\B.ga≠B.c/\B.n0≠B.c:=by
 have hm:=h.mem;have h3:=h.s3;exact ⟨λe=>h3.1 (by rw [e];exact hm),λe=>h3.2.1 (by rw [e];exact hm),λe=>h3.2.2.1 (by rw [e];exact hm),λe=>h3.2.2.2 (by rw [e];exact hm)⟩
theorem gU.h0 (h:gU w B F A rp g cap L T):w.cell? ⟨rp,0,none⟩=some (.pointer (some ⟨B.n0,0,none⟩)):=h.hd.cellAt 0 ω rfl
theorem gU.h1 (h:gU w B F A rp g cap L T):w.cell? ⟨rp,1,none⟩=some (.slice (some ⟨g,0,none⟩) L.length cap):=h.hd.cellAt 1 ω rfl
theorem gU.wL (h:gU w B F A rp g cap L T) (j:Nat) (hj:j<L.length):w.cell? ⟨g,j,none⟩=some (.int .i64 ((L.getD j 0:Nat):Int)):=by
 have:=h.row.cell j (by rw [bE];exact hj);rwa [jS] at this
theorem gU.Ea (h:gU w B F A rp g cap L T) (j:Nat) (hj:j<T.length):w.cell? ⟨B.ga,j,none⟩=some (.int .i64 ((T.getD j 0:Nat):Int)):=by
 have:=h.oN.cell j (by rw [bE];exact hj);rwa [jS] at this
theorem gU.len (h:gU w B F A rp g cap L T):L.length<=65536:=by
 have h1:=nodup_range T.length (L.map (λ(x:Nat)=>(x:Int))) (by
  have hn:=h.nd;unfold List.Nodup at hn ⊢;rw [List.pairwise_map];exact hn.imp (λh e=>h ω)) (λx hx=>by
  obtain ⟨y,hy,rfl⟩:=List.mem_map.1 hx
  have:=(h.dom y hy).2;omega)
 have:=h.tl;simp at h1;omega
theorem gU.upd {w':World} {S:List Nat} (h:gU w B F A rp g cap L T) (hu:aa S w w') (hS:∀x,x∈S->x∉rp::g::B.ga::B.n0::F):gU w' B F A rp g cap L T:=by
 have h1:∀x,x∈rp::g::B.ga::B.n0::F->x∉S:=λx hx hg=>hS x hg hx;refine ⟨h.hd.upd hu (h1 _ σ),h.row.upd hu (h1 _ σ),h.oN.upd hu (h1 _ σ),hu.kept h.Cy (h1 _ σ),hu.kept h.Ce (h1 _ σ),?_,h.s1,h.s2,h.s3,h.dom,h.nd,h.yQ,h.tl⟩;obtain ⟨st,hC⟩:=h.Bz;exact ⟨st,hC.upd hu (λx hx hm=>hS x hx (by simp [hm]))⟩
theorem gU.ah {w':World} (h:gU w B F A rp g cap L T) (hu:aa [] w w'):gU w' B F A rp g cap L T:=h.upd hu σ
theorem gU.counted {w':World} {st:Nat} (h:gU w B F A rp g cap L T) (hu:aa [B.c] w w') (hC:ai w' B.c F A st):gU w' B F A rp g cap L T:=by
 have h1:=h.cne;exact ⟨h.hd.upd hu (by simp;exact h1.1),h.row.upd hu (by simp;exact h1.2.1),h.oN.upd hu (by simp;exact h1.2.2.1),hu.kept h.Cy (by simp;exact h1.2.2.2),hu.kept h.Ce (by simp;exact h1.2.2.2),⟨st,hC⟩,h.s1,h.s2,h.s3,h.dom,h.nd,h.yQ,h.tl⟩
theorem xz (h:gU w B F A rp g cap L T) :
  Calls Tryz.prog 270 #[.pointer (some ⟨rp,0,none⟩)] w λe w'=>e=.returned (.int .i64 (L.length:Int))/\w'=w:=by
 have c1:=h.h1;have hl:=h.len;clear h;generalize L.length=n at *
 go_enter Tryz.func270,Tryz.ntmps270
 go_wp2;go_ret;exact ⟨rfl,rfl⟩
theorem uY (h:gU w B F A rp g cap L T) (i j:Nat) (hi:i<L.length) (hj:j<L.length) :
  Calls Tryz.prog 275 #[.pointer (some ⟨rp,0,none⟩),.int .i64 (i:Int),.int .i64 (j:Int)] w λe w'=>e=.returned (.bool (decide (dm A (L.getD i 0) (L.getD j 0))))/\gU w' B F A rp g cap L T/\aa [B.c] w w':=by
 have hm:∀k,k<L.length->L.getD k 0∈L:=λk hk=>by
  rw [φ,ε hk];exact ϓ hk
 have d1:=(h.dom _ (hm i hi)).1;have d2:=(h.dom _ (hm j hj)).1;have hce:=h.cne;have c0:∀X,aa [B.c] w X->_:=λX hX=>hX.kept h.h0 (by simp;exact hce.1);have c1:∀X,aa [B.c] w X->_:=λX hX=>hX.kept h.h1 (by simp;exact hce.1);have n0:∀X,aa [B.c] w X->_:=λX hX=>hX.kept h.Cy (by simp;exact hce.2.2.2);have ci:∀X,aa [B.c] w X->_:=λX hX=>hX.kept (h.wL i hi) (by simp;exact hce.2.1);have cj:∀X,aa [B.c] w X->_:=λX hX=>hX.kept (h.wL j hj) (by simp;exact hce.2.1);have hl:=h.len;clear hce
 have ka:∀W,aa [] w W->Calls Tryz.prog 164 #[.pointer (some ⟨B.c,0,none⟩),.int .i64 ((L.getD i 0:Nat):Int),.int .i64 ((L.getD j 0:Nat):Int)] W λe w'=>e=.returned (.bool (decide (dm A (L.getD i 0) (L.getD j 0))))/\gU w' B F A rp g cap L T/\aa [B.c] W w':=λW hW=>by
  obtain ⟨st,hC⟩:=h.Bz;refine (dE (hC.ah hW) _ _ d1 d2).mono ?_;rintro e w' ⟨rfl,hC',hu⟩;exact ⟨rfl,(h.ah hW).counted hu hC',hu⟩
 clear h hm d1 d2;generalize L.getD i 0=x at *;generalize L.getD j 0=y at *;generalize hn:L.length=n at *;clear hn;generalize decide (dm A x y)=b at *;have hiI:(i:Int)<(n:Int):=ω;have hjI:(j:Int)<(n:Int):=ω
 go_enter Tryz.func275,Tryz.ntmps275
 go_upto_region 1 with (fail)
 go_region_held3 (aa [B.c] w) (exact ν)
  (first
   | ((go_at_call 164;(with_reducible refine (ka _ β).mono ?_));rintro e w1 ⟨rfl,hP1,hu1⟩;(have hv1:aa [B.c] w w1:=aa.trans ν hu1)))
 go_wp2;go_ret;exact ⟨rfl,hP1,hv1⟩
end
def uH (T L:List Nat) (i j:Nat):List Nat:=(T.set (L.getD j 0) i).set (L.getD i 0) j
theorem jT (T L:List Nat) (i j:Nat):(uH T L i j).length=T.length:=by unfold uH;simp
theorem jl {L:List Nat} {k:Nat} (hk:k<L.length):L.getD k 0∈L:=by
 rw [φ,ε hk];exact ϓ hk
theorem jW {L:List Nat} (hn:L.Nodup) {i j:Nat} (hi:i<L.length) (hj:j<L.length) (h:L.getD i 0=L.getD j 0):i=j:=by
 rw [φ,φ,ε hi,ε hj] at h;exact (List.getElem_inj hn).1 h
theorem CW {T L:List Nat} {i j x:Nat} (hi:i<L.length) (hj:j<L.length) (hx:x∉L):(uH T L i j).getD x 0=T.getD x 0:=by
 unfold uH;rw [bJ,bJ,Γ (λe=>hx (by rw [e.1];exact jl hi)),Γ (λe=>hx (by rw [e.1];exact jl hj))]
theorem Dy {T L:List Nat} {i j:Nat} (hi:i<L.length) (hj:j<L.length) (hne:i≠j) (hn:L.Nodup) (hd:∀x,x∈L->x<T.length) (hp:∀j x,L[j]?=some x->T.getD x 0=j) :
  ∀k x,(dC L i j)[k]?=some x->(uH T L i j).getD x 0=k:=by
 intro k x hk;have hkl:k<L.length:=by
  obtain ⟨h1,_⟩:=List.getElem?_eq_some_iff.1 hk;rwa [jv] at h1
 have hx:x=(dC L i j).getD k 0:=by rw [φ,hk];rfl
 rw [jw hi hj] at hx;unfold uH;rw [bJ,bJ];have hdi:=hd _ (jl hi);have hdj:=hd _ (jl hj)
 by_cases e1:k=j
 ·rw [Δ e1] at hx;rw [Δ ⟨hx,by simpa using hdi⟩,e1]
 ·rw [Γ e1] at hx
  by_cases e2:k=i
  ·rw [Δ e2] at hx;rw [Γ (λe=>hne (jW hn hi hj (by rw [←hx,←e.1]))),Δ ⟨hx,hdj⟩,e2]
  ·rw [Γ e2] at hx;rw [Γ (λe=>e2 (jW hn hkl hi (by rw [←hx,←e.1]))),Γ (λe=>e1 (jW hn hkl hj (by rw [←hx,←e.1])))];exact hp k x (by rw [hx,φ,ε hkl];rfl)
section
variable {w:World} {B:HB} {F:List Nat} {A:NS} {rp g cap:Nat} {L T:List Nat}
theorem vG (h:gU w B F A rp g cap L T) (i j:Nat) (hi:i<L.length) (hj:j<L.length) (hne:i≠j) :
  Calls Tryz.prog 278 #[.pointer (some ⟨rp,0,none⟩),.int .i64 (i:Int),.int .i64 (j:Int)] w λe w'=>e=.returned (.tuple #[])/\gU w' B F A rp g cap (dC L i j) (uH T L i j)/\aa [g,B.ga] w w':=by
 have h0:=h;have c0:=h.h0;have c1:=h.h1;have n2:=h.Ce;have ci:=h.wL i hi;have cj:=h.wL j hj;have fi:=h.row.free i;have fj:=h.row.free j;have hl:=h.len;have htl:=h.tl;have hx:=(h.dom _ (jl hi)).2;have hy:=(h.dom _ (jl hj)).2;have ctx:=h.Ea _ hx;have cty:=h.Ea _ hy;have ftx:=h.oN.free (L.getD i 0);have fty:=h.oN.free (L.getD j 0);have s1:=h.s1;have s2:=h.s2;have hxy:L.getD i 0≠L.getD j 0:=λe=>hne (jW h.nd hi hj e);have hs1:aU (dC L i j)=((aU L).set i ((L.getD j 0:Nat):Int)).set j ((L.getD i 0:Nat):Int):=by unfold dC;rw [fK,fK]
 have hs2:aU (uH T L i j)=((aU T).set (L.getD j 0) (i:Int)).set (L.getD i 0) (j:Int):=by unfold uH;rw [fK,fK]
 have GI:=Dy hi hj hne h.nd (λx hx=>(h.dom x hx).2) h.yQ;have hperm:=nM hi hj hne;have HF:Hid (∀W W2,IZ W g cap (aU (dC L i j))->aa [g] w W->aa [B.ga] W W2->IZ W2 B.ga T.length (aU (uH T L i j))->gU W2 B F A rp g cap (dC L i j) (uH T L i j)/\aa [g,B.ga] w W2):=by
  intro W W2 hr hu hu2 ht;have hu':aa [g,B.ga] w W2:=(hu.mono σ).trans (hu2.mono σ);have h3:=h.s3;refine ⟨⟨?_,hr.upd hu2 (by simp;exact s2.1),by rw [jT];exact ht,hu'.kept h.Cy (by simp;exact ⟨λe=>s2.2.1 e.symm,λe=>s2.2.2 e.symm⟩),by rw [jT];exact hu'.kept h.Ce (by simp;exact ⟨λe=>s2.2.1 e.symm,λe=>s2.2.2 e.symm⟩),?_,s1,s2,h3,λx hx=>by rw [jT];exact h.dom x (hperm.mem_iff.1 hx),hperm.nodup_iff.2 h.nd,GI,by rw [jT];exact htl⟩,hu'⟩
  ·rw [jv];exact h.hd.upd hu' (by simp;exact ⟨s1.1,s1.2.1⟩)
  ·obtain ⟨st,hC⟩:=h.Bz;exact ⟨st,hC.upd hu' (λx hx hm=>by simp at hx;rcases hx with rfl|rfl;exact h3.2.1 hm;exact h3.2.2.1 hm)⟩
 have HR:Hid (IZ w g cap (aU L)/\IZ w B.ga T.length (aU T)):=⟨h.row,h.oN⟩;clear h h0 GI hperm;generalize dC L i j=L' at *;generalize uH T L i j=T' at *;generalize L.getD i 0=x at *;generalize L.getD j 0=y at *;generalize T.getD x 0=tx at *;generalize T.getD y 0=ty at *;generalize L.length=n at *;generalize T.length=m at *;have hiI:(i:Int)<(n:Int):=ω;have hjI:(j:Int)<(n:Int):=ω;have Jn:(x:Int)<(m:Int):=ω;have hyI:(y:Int)<(m:Int):=ω;have HS1:=χ hs1;have HS2:=χ hs2;clear hs1 hs2;have hgl:rp≠g:=s1.1;have hne2:¬i=j:=hne
 go_enter Tryz.func278,Tryz.ntmps278
 go_upto_region 0 with (fail)
 go_cut [] (λW=>aa [] ((w.setCell ⟨g,i,none⟩ (.int .i64 (y:Int))).setCell ⟨g,j,none⟩ (.int .i64 (x:Int))) W)
 case first=>
  go_wp2
  go_region
  all_goals
   go_wp2
   go_meet
   first|exact ⟨rfl,rfl,rfl,Θ _,λ_ _ _=>rfl⟩|exact ν
 case rest=>
 have CL:=hcut;clear hcut;rename World=>W;have hr:IZ W g cap (aU L'):=by rw [HS1.out];exact ((HR.out.1.set i _).set j _).upd CL σ
 have hu:aa [g] w W:=aa.then β CL;have d1:W.cell? ⟨g,i,none⟩=some (.int .i64 (y:Int)):=CL.was γ;have d2:W.cell? ⟨g,j,none⟩=some (.int .i64 (x:Int)):=CL.was γ;have e0:=hu.kept c0 (by simp;exact s1.1);have e1:=hu.kept c1 (by simp;exact s1.1);have e2:=hu.kept n2 (by simp;exact λe=>s2.2.1 e.symm);have ex:=hu.kept ctx (by simp;exact λe=>s2.1 e.symm);have ey:=hu.kept cty (by simp;exact λe=>s2.1 e.symm);have gx:=hu.aF ctx (by simp;exact λe=>s2.1 e.symm) ftx;have gy:=hu.aF cty (by simp;exact λe=>s2.1 e.symm) fty;have e00:W.cell? ⟨B.n0,2,none⟩=some (.slice (some ⟨B.ga,0,none⟩) m m):=e2
 have ht:=HR.out.2.upd hu (by simp;exact λe=>s2.1 e.symm);have HT:=χ (ψ ht (ψ hr hu));clear c0 c1 n2 ctx cty ftx fty ci cj fi fj ht hr hu e2 CL;go_wp2
 go_region
 all_goals
  go_wp2;go_end0;obtain ⟨ht,hr,hu⟩:=HT.out;exact ⟨rfl,HF.out _ _ hr hu β (by rw [HS2.out];exact ((ht.drewN _).set y _).set x _)⟩
end
theorem kP {M t:List Nat} {k:Nat} (hk:k<M.length):(M++t).getD k 0=M.getD k 0:=by
 rw [φ,φ,Ρ hk]
theorem xN {M t:List Nat} {i j:Nat} (hi:i<M.length) (hj:j<M.length):dC (M++t) i j=dC M i j++t:=by
 unfold dC;rw [kP hi,kP hj,List.set_append_left _ _ hi,List.set_append_left _ _ (by simpa using hj)]
structure nz (w0:World) (B:HB) (F:List Nat) (A:NS) (rp g cap:Nat) (t M T:List Nat) (w:World) (M' T':List Nat):Prop where
 pi:gU w B F A rp g cap (M'++t) T'
 perm:M'.Perm M
 off:∀x,x∉M++t->T'.getD x 0=T.getD x 0
 tl:T'.length=T.length
 upd:aa [g,B.ga,B.c] w0 w
section
variable {w0 w:World} {B:HB} {F:List Nat} {A:NS} {rp g cap:Nat} {t M T M' T':List Nat}
theorem nz.start (h:gU w B F A rp g cap (M++t) T):nz w B F A rp g cap t M T w M T:=⟨h,ό _,λ_ _=>rfl,rfl,aa.refl _ _⟩
theorem nz.asked {w':World} (h:nz w0 B F A rp g cap t M T w M' T') (hp:gU w' B F A rp g cap (M'++t) T') (hu:aa [B.c] w w'):nz w0 B F A rp g cap t M T w' M' T':=
 ⟨hp,h.perm,h.off,h.tl,h.upd.trans (hu.mono σ)⟩
theorem nz.swap {w':World} {i j:Nat} (h:nz w0 B F A rp g cap t M T w M' T') (hi:i<M'.length) (hj:j<M'.length) (hne:i≠j) (hp:gU w' B F A rp g cap (dC (M'++t) i j) (uH T' (M'++t) i j)) (hu:aa [g,B.ga] w w') :
  nz w0 B F A rp g cap t M T w' (dC M' i j) (uH T' (M'++t) i j):=by
 refine ⟨by rw [←xN hi hj];exact hp,(nM hi hj hne).trans h.perm,λx hx=>?_,by rw [jT];exact h.tl,h.upd.trans (hu.mono σ)⟩;rw [CW (by rw [υ];omega) (by rw [υ];omega) (λhm=>hx ?_)]
 ·exact h.off x hx
 ·exact (h.perm.append_right t).mem_iff.1 hm
theorem FD {a b:Nat} (hne:a≠b) (h:¬om A a b):om A b a:=by
 rcases eU (A:=A) hne with h1|h1
 ·exact absurd (dP.2 h1) h
 ·exact dP.2 h1
theorem nz.ne (h:nz w0 B F A rp g cap t M T w M' T') {i j:Nat} (hi:i<M'.length) (hj:j<M'.length) (hne:i≠j):M'.getD i 0≠M'.getD j 0:=λe=>hne (jW (θ.1 h.pi.nd).1 hi hj e)
theorem De (rp:Nat):∀W:World,(method 409 298 (.pointer (some ⟨rp,0,none⟩)) "Less").run Tryz.prog W=.ok (275,.pointer (some ⟨rp,0,none⟩)) W:=λ_=>by kernel_rfl
theorem Dg (rp:Nat):∀W:World,(method 409 298 (.pointer (some ⟨rp,0,none⟩)) "Swap").run Tryz.prog W=.ok (278,.pointer (some ⟨rp,0,none⟩)) W:=λ_=>by kernel_rfl
theorem EB (rp:Nat):∀W:World,(method 409 298 (.pointer (some ⟨rp,0,none⟩)) "Len").run Tryz.prog W=.ok (270,.pointer (some ⟨rp,0,none⟩)) W:=λ_=>by kernel_rfl
theorem Cw (rp:Nat):∀W:World,(method 409 298 (.pointer (some ⟨rp,0,none⟩)) "Push").run Tryz.prog W=.ok (277,.pointer (some ⟨rp,0,none⟩)) W:=λ_=>by kernel_rfl
theorem nz.less (h:nz w0 B F A rp g cap t M T w M' T') {i j:Nat} (hi:i<M'.length) (hj:j<M'.length) {b:Bool} (hb:decide (dm A (M'.getD i 0) (M'.getD j 0))=b) :
  Calls Tryz.prog 275 #[.pointer (some ⟨rp,0,none⟩),.int .i64 (i:Int),.int .i64 (j:Int)] w λe w'=>e=.returned (.bool b)/\nz w0 B F A rp g cap t M T w' M' T':=by
 have k:=uY h.pi i j (by rw [υ];omega) (by rw [υ];omega);rw [kP hi,kP hj,hb] at k;exact k.mono (λe w' hh=>⟨hh.1,h.asked hh.2.1 hh.2.2⟩)
theorem nz.swaps (h:nz w0 B F A rp g cap t M T w M' T') {i j:Nat} (hi:i<M'.length) (hj:j<M'.length) (hne:i≠j) :
  Calls Tryz.prog 278 #[.pointer (some ⟨rp,0,none⟩),.int .i64 (i:Int),.int .i64 (j:Int)] w λe w'=>e=.returned (.tuple #[])/\nz w0 B F A rp g cap t M T w' (dC M' i j) (uH T' (M'++t) i j):=
 (vG h.pi i j (by rw [υ];omega) (by rw [υ];omega) hne).mono (λe w' hh=>⟨hh.1,h.swap hi hj hne hh.2.1 hh.2.2⟩)
theorem Ap (h0:nz w0 B F A rp g cap t M T w M' T') (j0:Nat) (hH:ed (om A) 2 M' j0) (hB:Below (om A) 2 M' j0 (M'.getD j0 0)) :
  Calls Tryz.prog 272 #[.iface 298 (.pointer (some ⟨rp,0,none⟩)),.int .i64 (j0:Int)] w λe w'=>e=.returned (.tuple #[])/\∃M2 T2,nz w0 B F A rp g cap t M T w' M2 T2/\Hp (om A) 2 M2:=by
 have m1:=De rp;have m2:=Dg rp;have HI:=χ (ψ h0 (ψ hH hB));clear h0 hH hB
 go_enter Tryz.func272,Tryz.ntmps272
 go_wp2
 go_loopw [1,4] (λv1 v4 wr=>∃ (j:Nat) (M2 T2:List Nat),v1=.int .i64 (j:Int)/\nz w0 B F A rp g cap t M T wr M2 T2/\ed (om A) 2 M2 j/\Below (om A) 2 M2 j (M2.getD j 0)) (λv1 _ _=>(intOf v1).toNat)
 case atStart=>exact ⟨j0,M',T',rfl,HI.out.1,HI.out.2.1,HI.out.2.2⟩
 case round=>
  obtain ⟨j,M2,T2,rfl,hP,hH,hB⟩:=hrel;rename World=>wr;have hjl:=hH.lt;have hlen:(M2++t).length<=65536:=hP.pi.len;rw [υ] at hlen
  by_cases hj0:j=0
  ·subst hj0;have hF:=hH.done ω hB (Α rfl);have HQ:=χ (ψ hP hF);clear hP hH hB hF hjl hlen;go_wp2;go_end0;exact ⟨rfl,M2,T2,HQ.out.1,HQ.out.2⟩
  ·have hp:=dK (d:=2) ω (show 0<j by omega);have hq:((j:Int)-1).tdiv 2=(par 2 j:Int):=by
    unfold par;rw [show (j:Int)-1=((j-1:Nat):Int) by omega]
    rfl
   have hne:=hP.ne hjl (show par 2 j<M2.length by omega) ω;cases hb:decide (dm A (M2.getD j 0) (M2.getD (par 2 j) 0)) with
   | false=>
    have kl:=hP.less hjl (show par 2 j<M2.length by omega) hb;have hF:=hH.done ω hB (Β (FD hne (λh=>by rw [dP] at h;rw [decide_eq_false_iff_not] at hb;exact hb h)));have HQ:=χ hF;clear hP hH hB hF hb hne;generalize par 2 j=p at *;have hpI:(p:Int)<(j:Int):=ω;have hpj:((p:Int) == (j:Int))=false:=ζ;have hj1:0<j:=ω;clear hj0
    go_wp2_with (first
     | ((go_at_call 275;(with_reducible refine (kl).mono ?_));rintro e w1 ⟨rfl,hP1⟩)
     | fail)
    go_end0;exact ⟨rfl,M2,T2,hP1,HQ.out⟩
   | true=>
    have kl:=hP.less hjl (show par 2 j<M2.length by omega) hb;have hS:=hH.EH (lq A) ω (dP.2 (Ϙ hb));have ks:∀w1,nz w0 B F A rp g cap t M T w1 M2 T2->_:=λw1 h1=>nz.swaps h1 (show par 2 j<M2.length by omega) hjl ω;have HQ:=χ hS;clear hP hH hB hS hb hne;generalize par 2 j=p at *;have hpI:(p:Int)<(j:Int):=ω;have hpj:((p:Int) == (j:Int))=false:=ζ;have hj1:0<j:=ω;clear hj0
    go_wp2_with (first
     | ((go_at_call 275;(with_reducible refine (kl).mono ?_));rintro e w1 ⟨rfl,hP1⟩)
     | ((go_at_call 278;(with_reducible refine (ks _ hP1).mono ?_));rintro e w2 ⟨rfl,hP2⟩)
     | fail)
    go_roundw
    case rel=>exact ⟨p,_,_,by go_num,hP2,HQ.out.1,HQ.out.2⟩
    case measure=>simp [intOf];omega
end
structure Dq (w:World) (B:HB) (F:List Nat) (A:NS) (rp:Nat) (v:Value) (L T:List Nat):Prop where
 hd:ak w rp 302 2 (zD B v)
 own:w.ownsRow 0 3 1 v L.length (bD (aU L))
 oN:IZ w B.ga T.length (aU T)
 Cy:w.cell? ⟨B.n0,0,none⟩=some (.pointer (some ⟨B.c,0,none⟩))
 Ce:w.cell? ⟨B.n0,2,none⟩=some (.slice (some ⟨B.ga,0,none⟩) T.length T.length)
 Bz:∃st,ai w B.c F A st
 s1:rp≠B.ga/\rp≠B.n0
 sg:∀g,v.ownBlock=some g->g≠rp/\g≠B.ga/\g≠B.n0/\g∉F
 s2:B.ga≠B.n0
 s3:rp∉F/\B.ga∉F/\B.n0∉F
 dom:∀x,x∈L->dh A (x:Int)=true/\x<T.length
 nd:L.Nodup
 yQ:∀j x,L[j]?=some x->T.getD x 0=j
 tl:T.length<=65536
section
variable {w:World} {B:HB} {F:List Nat} {A:NS} {rp g cap:Nat} {v:Value} {L T:List Nat}
theorem Dq.full (h:Dq w B F A rp v L T) (hl:0<L.length):∃g cap,v=.slice (some ⟨g,0,none⟩) L.length cap/\gU w B F A rp g cap L T:=by
 have ho:=h.own;rw [←bE] at ho;obtain ⟨g,cap,rfl,hz, -⟩:=IZ.gp ho (by rw [bE];exact hl);have hs:=h.sg g rfl;rw [bE];refine ⟨g,cap,rfl,?_,hz,h.oN,h.Cy,h.Ce,h.Bz,⟨λe=>hs.1 e.symm,h.s1.1,h.s1.2⟩,⟨hs.2.1,hs.2.2.1,h.s2⟩,⟨h.s3.1,hs.2.2.2,h.s3.2.1,h.s3.2.2⟩,h.dom,h.nd,h.yQ,h.tl⟩;have:=h.hd;rwa [bE] at this
theorem gU.any (h:gU w B F A rp g cap L T):Dq w B F A rp (.slice (some ⟨g,0,none⟩) L.length cap) L T:=by
 have ho:=h.row.own;rw [bE] at ho;refine ⟨h.hd,ho,h.oN,h.Cy,h.Ce,h.Bz,h.s1.2,λk hk=>?_,h.s2.2.2,⟨h.s3.1,h.s3.2.2⟩,h.dom,h.nd,h.yQ,h.tl⟩;cases hk;exact ⟨λe=>h.s1.1 e.symm,h.s2.1,h.s2.2.1,h.s3.2.1⟩
theorem Dq.len (h:Dq w B F A rp v L T):L.length<=65536:=by
 rcases Nat.eq_zero_or_pos L.length with e|e
 ·omega
 ·obtain ⟨g,cap, -,hM⟩:=h.full e;exact hM.len
theorem yI (l:List Nat) (x:Nat):aU (l++[x])=aU l++[(x:Int)]:=by unfold aU;simp
theorem Bv {L T:List Nat} {x:Nat} (hx:x∉L) (Fv:x<T.length) (h:∀j x,L[j]?=some x->T.getD x 0=j):∀j y,(L++[x])[j]?=some y->(T.set x L.length).getD y 0=j:=by
 intro j y hj;rw [bJ]
 by_cases e:j<L.length
 ·rw [Ρ e] at hj;rw [Γ (λh'=>hx (by rw [←h'.1];exact Η hj))];exact h j y hj
 ·rw [ϊ ω] at hj;have e2:j-L.length=0:=by
   rcases Nat.eq_zero_or_pos (j-L.length) with h'|h'
   ·exact h'
   ·rw [List.getElem?_eq_none ζ] at hj;cases hj
  rw [e2] at hj;simp at hj;rw [Δ ⟨hj.symm,Fv⟩];omega
theorem u6 (h:Dq w B F A rp v L T) (x:Nat) (hx:x∉L) (hin:dh A (x:Int)=true) (Fv:x<T.length) (hl:L.length<T.length) :
  Calls Tryz.prog 277 #[.pointer (some ⟨rp,0,none⟩),.iface 3 (.int .i64 (x:Int))] w λe w'=>e=.returned (.tuple #[])/\∃g cap,gU w' B F A rp g cap (L++[x]) (T.set x L.length)/\aa (rp::B.ga::v.ownBlock.toList) w w'/\(v.ownBlock=some g\/w.heap.size<=g):=by
 have hle:=h.len;obtain ⟨av,cv,rfl,hcv⟩:=bM h.own;have c0:w.cell? ⟨rp,0,none⟩=some (.pointer (some ⟨B.n0,0,none⟩)):=h.hd.cellAt 0 ω rfl;have c1:w.cell? ⟨rp,1,none⟩=some (.slice av L.length cv):=h.hd.cellAt 1 ω rfl;have n2:=h.Ce;have ct:w.cell? ⟨B.ga,x,none⟩=some (.int .i64 ((T.getD x 0:Nat):Int)):=by
  have:=h.oN.cell x (by rw [bE];exact Fv);rwa [jS] at this
 have ft:=h.oN.free x;have fr:=h.hd.free 1;have htl:=h.tl;have HH:=χ (ψ h (ψ hx (ψ hin Fv)));have Jn:(x:Int)<(T.length:Int):=ω;have s1:=h.s1;have s2:=h.s2;clear h hx hin;generalize hn:L.length=n at *;generalize hm:T.length=m at *;have HN:=χ (ψ hn hm);clear hn hm;generalize T.getD x 0=tx at *;have vY:∀W:World,(Instr.typeAssert (.iface 3 (.int .i64 (x:Int))) 20 3 false).run Tryz.prog W=.ok (.int .i64 (x:Int)) W:=λW=>by kernel_rfl
 go_enter Tryz.func277,Tryz.ntmps277
 go_upto_region 1 with (fail)
 go_cut [] (λW=>aa [] (w.setCell ⟨B.ga,x,none⟩ (.int .i64 (n:Int))) W)
 case first=>
  go_wp2
  go_region
  all_goals
   go_wp2
   go_meet
   first|exact ⟨rfl,rfl,rfl,Θ _,λ_ _ _=>rfl⟩|exact ν
 case rest=>
 have CL:=hcut;clear hcut;rename World=>W;obtain ⟨h,hx,hin,Ep⟩:=HH.out;have hu:aa [B.ga] w W:=aa.then β CL;have e1:W.cell? ⟨rp,1,none⟩=some (.slice av n cv):=hu.kept c1 (by simp;exact s1.1);have Ck:=hu.aF c1 (by simp;exact s1.1) fr;have hT:IZ W B.ga m (aU (T.set x n)):=by
  rw [fK];have:=h.oN;rw [HN.out.2] at this;exact (this.set x _).upd CL σ
 have ho:W.ownsRow 0 3 1 (.slice av n cv) n (bD (aU L)):=by
  have:=ay h.own hu (λk hk=>by simp;exact (h.sg k hk).2.1);rwa [HN.out.1] at this
 have HP:=χ (ψ hu hT);clear h hx hin hu hT c0 c1 n2 ct ft fr CL;have hrl:rp<W.heap.size:=Ε _ _ e1
 go_wp2_with (first
  | ((at_builtin;refine aL rfl _ _ 77 rfl 0 3 (.int .i64 0) 1 8 Tryz.underlying77 dO rfl δ _ _ _ rfl (ho) [.int .i64 (x:Int)] rfl (by simp [Value.oneCell']) (by first|rfl|(rw [Κ];rfl)) μ ω (ω) ?_;intro v2 w3 ho3 hu3 sN);obtain ⟨g3,c3,rfl,_,hg3l,_,hc3, -, -⟩:=dI ho3 ω;(have er:¬ (Value.slice av n cv).ownBlock=some rp:=λe=>(HH.out.1.sg rp e).1 rfl);(have e2:=hu3.kept e1 (λhm=>er (Option.mem_toList.1 hm)));(have fr2:=hu3.aF e1 (λhm=>er (Option.mem_toList.1 hm)) Ck))
  | fail)
 go_end0;obtain ⟨h,hx,hin,Ep⟩:=HH.out;obtain ⟨hu,hT⟩:=HP.out;have hsz:=hu.size;have hgx:(Value.slice av n cv).ownBlock=some g3\/w.heap.size<=g3:=by
  rcases sN with e|e
  ·exact Α (e.symm.trans rfl)
  ·exact Β (by have:=e g3 rfl;omega)
 have hw4:aa [rp] w3 (w3.setCell ⟨rp,1,none⟩ (.slice (some ⟨g3,0,none⟩) (n+1) c3)):=β;have huA:aa (rp::B.ga::(Value.slice av n cv).ownBlock.toList) w (w3.setCell ⟨rp,1,none⟩ (.slice (some ⟨g3,0,none⟩) (n+1) c3)):=((hu.mono σ).trans (hu3.mono (λz hz=>Λ _ (Λ _ hz)))).trans (hw4.mono σ);have hgs:g3≠rp/\g3≠B.ga/\g3≠B.n0/\g3∉F:=by
  rcases hgx with e|e
  ·exact h.sg g3 e
  ·refine ⟨λe2=>?_,λe2=>?_,λe2=>?_,λhm=>?_⟩
   ·have:=h.hd.lt;omega
   ·have:=h.oN.lt;omega
   ·have:=Ε _ _ h.Cy;dsimp only at this;omega
   ·obtain ⟨st,hC⟩:=h.Bz;have:=hC.lt g3 hm;omega
 have hoff:∀z,z∈rp::B.ga::(Value.slice av n cv).ownBlock.toList->z≠B.n0/\z∉F:=λz hz=>by
  simp only [ρ] at hz;rcases hz with rfl|rfl|hz
  ·exact ⟨h.s1.2,h.s3.1⟩
  ·exact ⟨h.s2,h.s3.2.1⟩
  ·have:=h.sg z (Option.mem_toList.1 hz);exact ⟨this.2.2.1,this.2.2.2⟩
 refine ⟨rfl,g3,c3,⟨?_,?_,?_,huA.kept h.Cy (λhm=>(hoff _ hm).1 rfl),?_,?_,⟨λe=>hgs.1 e.symm,h.s1⟩,⟨hgs.2.1,hgs.2.2.1,h.s2⟩,⟨h.s3.1,hgs.2.2.2,h.s3.2⟩,λy hy=>?_,?_,?_,?_⟩,huA,hgx⟩
 ·rw [υ,HN.out.1];refine (((h.hd.upd hu (by simp;exact s1.1)).upd hu3 (λhm=>er (Option.mem_toList.1 hm))).set 1 _).ext (λj hj=>?_);rcases (ω:j=0\/j=1) with rfl|rfl<;>rfl
 ·refine ⟨?_⟩;rw [yI,υ,bE,HN.out.1,bT];exact ay ho3 hw4 (λk hk=>by cases hk;simp;exact hgs.1)
 ·rw [Ι,HN.out.2];exact (hT.upd hu3 (λhm=>(h.sg B.ga (Option.mem_toList.1 hm)).2.1 rfl)).upd hw4 (by simp;exact λe=>s1.1 e.symm)
 ·rw [Ι];exact huA.kept h.Ce (λhm=>(hoff _ hm).1 rfl)
 ·obtain ⟨st,hC⟩:=h.Bz;exact ⟨st,hC.upd huA (λz hz=>(hoff z hz).2)⟩
 ·rw [Ι];rcases τ.1 hy with e|e
  ·exact h.dom y e
  ·simp at e;subst e;exact ⟨hin,by rw [HN.out.2];exact Ep⟩
 ·rw [θ];exact ⟨h.nd,σ,λa ha b hb e=>by simp at hb;subst hb;subst e;exact hx ha⟩
 ·have:=Bv hx (by rw [HN.out.2];exact Ep) h.yQ;rwa [HN.out.1] at this
 ·rw [Ι];exact h.tl
end
section
variable {w:World} {B:HB} {F:List Nat} {A:NS} {rp g cap:Nat} {v:Value} {L T M:List Nat}
def J8 (w0:World) (B:HB) (F:List Nat) (A:NS) (rp:Nat) (v:Value) (L T:List Nat) (x:Nat) (w:World):Prop:=∃g cap L' T',gU w B F A rp g cap L' T'/\L'.Perm (x::L)/\Hp (om A) 2 L'/\(∀y,y∉x::L->T'.getD y 0=T.getD y 0)/\T'.length=T.length/\aa (rp::B.ga::B.c::v.ownBlock.toList) w0 w/\(v.ownBlock=some g\/w0.heap.size<=g)
theorem xM (h:Dq w B F A rp v L T) (x:Nat) (hx:x∉L) (hin:dh A (x:Int)=true) (Fv:x<T.length) (hl:L.length<T.length) (hH:Hp (om A) 2 L) :
  Calls Tryz.prog 269 #[.iface 298 (.pointer (some ⟨rp,0,none⟩)),.iface 3 (.int .i64 (x:Int))] w λe w'=>e=.returned (.tuple #[])/\J8 w B F A rp v L T x w':=by
 have m1:=Cw rp;have m2:=EB rp;have hle:=h.len;have kp:=u6 h x hx hin Fv hl;have ku:∀w1 g cap,gU w1 B F A rp g cap (L++[x]) (T.set x L.length)->aa (rp::B.ga::v.ownBlock.toList) w w1->(v.ownBlock=some g\/w.heap.size<=g)->Calls Tryz.prog 272 #[.iface 298 (.pointer (some ⟨rp,0,none⟩)),.int .i64 (L.length:Int)] w1 λe w'=>e=.returned (.tuple #[])/\J8 w B F A rp v L T x w':=by
  intro w1 g cap h1 hu1 hg;obtain ⟨hs1,hs2⟩:=Hp.snoc (x:=x) hH (lq A) ω;have hP:nz w1 B F A rp g cap [] (L++[x]) (T.set x L.length) w1 (L++[x]) (T.set x L.length):=nz.start (by rw [Υ];exact h1);have hgx:(L++[x]).getD L.length 0=x:=by simp [φ]
  refine (Ap hP L.length hs1 (by rw [hgx];exact hs2)).mono ?_;rintro e w' ⟨rfl,M2,T2,hP2,hH2⟩;have hpm:=hP2.pi;rw [Υ] at hpm;refine ⟨rfl,g,cap,M2,T2,hpm,hP2.perm.trans Φ,hH2,λy hy=>?_,by rw [hP2.tl,Ι],(hu1.mono (λz hz=>?_)).joined hP2.upd (λz hz=>?_),hg⟩
  ·simp only [ρ,not_or] at hy;rw [hP2.off y (by simp [hy.1,hy.2]),bJ,Γ (λe=>hy.1 e.1)]
  ·simp only [ρ] at hz ⊢;rcases hz with h'|h'|h'
   ·exact Α h'
   ·exact Β (Α h')
   ·exact Β (Β (Β h'))
  ·simp only [ρ,ς,or_false] at hz ⊢;rcases hz with h'|h'|h'
   ·rcases hg with e|e
    ·left;right;right;right;rw [h'];exact Option.mem_toList.2 e
    ·right;omega
   ·exact Α (Β (Α h'))
   ·exact Α (Β (Β (Α h')))
 have kl:∀w1 g cap,gU w1 B F A rp g cap (L++[x]) (T.set x L.length)->Calls Tryz.prog 270 #[.pointer (some ⟨rp,0,none⟩)] w1 λe w'=>e=.returned (.int .i64 ((L.length:Int)+1))/\w'=w1:=λw1 g cap h1=>by
  have:=xz h1;rw [υ,List.length_singleton] at this;exact this
 clear h hx hin Fv hl hH;generalize L.length=n at *;have hnI:(n:Int)+1-1=(n:Int):=ω
 go_enter Tryz.func269,Tryz.ntmps269
 go_wp2_with (first
  | ((go_at_call 277;(with_reducible refine (kp).mono ?_));rintro e w1 ⟨rfl,g,cap,hP1,hu1,hg1⟩)
  | ((go_at_call 270;(with_reducible refine (kl _ _ _ hP1).mono ?_));rintro e w2 ⟨rfl,hw2⟩;subst hw2)
  | ((go_at_call 272;(with_reducible refine (ku _ _ _ hP1 hu1 hg1).mono ?_));rintro e w3 ⟨rfl,hQ⟩)
  | fail)
 go_end0;exact ⟨rfl,hQ⟩
end
def iR (w:World) (rp:Nat) (G:List Nat) (d:Nat) (L:List Nat):Prop:=
 ∃mb f v,ak w rp 228 3 (λj=>[Value.int .i64 (d:Int),v,.map (some mb)].getD j undef)/\w.ownsRow 0 3 1 v L.length (bD (aU L))/\cu w mb f/\vU f L/\rp≠mb/\(∀g,v.ownBlock=some g->rp≠g/\mb≠g)/\G=rp::mb::v.ownBlock.toList
theorem lV.at_ {w:World} {rp mb g cap d:Nat} {f:Int->Option Int} {L:List Nat} (h:lV w rp mb g cap d f L) (hP:vU f L):iR w rp [rp,mb,g] d L:=
 ⟨mb,f,.slice (some ⟨g,0,none⟩) L.length cap,h.head,by have:=h.row.own;rwa [bE] at this,h.map,hP,h.sep.1,λg' hg=>by cases hg;exact ⟨h.sep.2.1,h.sep.2.2⟩,rfl⟩
theorem iR.open {w:World} {rp d:Nat} {G L:List Nat} (h:iR w rp G d L) (hl:0<L.length):∃mb g cap f,lV w rp mb g cap d f L/\vU f L/\G=[rp,mb,g]:=by
 obtain ⟨mb,f,v,h1,h2,h3,h4,h5,h6,rfl⟩:=h;obtain ⟨g,cap,e,hI, -⟩:=IZ.gp (l:=aU L) (by rw [bE];exact h2) (by rw [bE];exact hl);rw [bE] at e;subst e;obtain ⟨s1,s2⟩:=h6 g rfl;exact ⟨mb,g,cap,f,⟨h1,hI,h3,h5,s1,s2⟩,h4,rfl⟩
theorem iR.lt {w:World} {rp d:Nat} {G L:List Nat} (h:iR w rp G d L):∀z,z∈G->z<w.heap.size:=by
 obtain ⟨mb,f,v,h1,h2,h3,h4,h5,h6,rfl⟩:=h;intro z hz;simp only [ρ] at hz;rcases hz with rfl|rfl|hz
 ·exact h1.lt
 ·exact h3.lt
 ·exact (h2.lt z (by simpa using hz)).2
theorem iR.upd {w w':World} {rp d:Nat} {G L S:List Nat} (h:iR w rp G d L) (hu:aa S w w') (hS:∀z,z∈S->z∉G):iR w' rp G d L:=by
 obtain ⟨mb,f,v,h1,h2,h3,h4,h5,h6,rfl⟩:=h;have hn:∀z,z∈rp::mb::v.ownBlock.toList->z∉S:=λz hz hm=>hS z hm hz;exact ⟨mb,f,v,h1.upd hu (hn _ σ),ay h2 hu (λk hk=>hn k (by simp [hk])),h3.upd hu (hn _ σ),h4,h5,h6,rfl⟩
theorem Dc {f:Int->Option Int} {L:List Nat} (h:vU f L) {x:Nat} (hx:x∉L):f x=none:=by
 cases hf:f x with
 | none=>rfl
 | some v=>
  obtain ⟨y,j,e1, -,hj⟩:=(h x v).1 hf;have:y=x:=ω;subst this;exact absurd (Η hj) hx
theorem C9 {f:Int->Option Int} {L:List Nat} (h:vU f L) (x:Nat):jd f (L++[x]) L.length x:=λz v hz=>by
 rw [h z v];constructor
 ·rintro ⟨y,j,rfl,rfl,hj⟩;have:=(List.getElem?_eq_some_iff.1 hj).1;exact ⟨y,j,rfl,rfl,ω,by rw [Ρ this];exact hj⟩
 ·rintro ⟨y,j,rfl,rfl,hne,hj⟩;have h1:=(List.getElem?_eq_some_iff.1 hj).1;simp at h1;rw [Ρ ω] at hj;exact ⟨y,j,rfl,rfl,hj⟩
theorem tC (d:Nat) (hd:2<=d/\d<=16) (w:World) :
  Calls Tryz.prog 85 #[.int .i64 (d:Int)] w λe w'=>∃rp G,e=.returned (.tuple #[.pointer (some ⟨rp,0,none⟩),.int .i64 0])/\iR w' rp G d []/\aa [] w w'/\∀z,z∈G->w.heap.size<=z:=by
 have kf:∀W,Calls Tryz.prog 101 #[.int .i64 (d:Int)] W λe w'=>e=.returned (.bool true)/\w'=W:=λW=>by
  have h1:(d:Int)≥2:=ω;have h2:(d:Int)<=16:=ω
  go_enter Tryz.func101,Tryz.ntmps101
  go_wp2;go_ret;exact ⟨rfl,rfl⟩
 have hmm:=@run_makeMap Tryz.prog
 go_enter Tryz.func85,Tryz.ntmps85
 go_wp2_with (first|(go_at_call 101;(with_reducible refine (kf _).mono ?_);rintro e w9 ⟨rfl,aB⟩;rw [aB];clear aB w9)|fail)
 go_ret2;have hm:=cu.made w;have hh:=aY (w.alloc (.map #[] 0)) [.int .i64 (d:Int),.slice none 0 0,.map (some w.heap.size)] 228;have e1:(w.alloc (.map #[] 0)).heap.size=w.heap.size+1:=by rw [Κ]
 rw [e1] at hh;have hv:aa [] (w.alloc (.map #[] 0)) ((w.alloc (.map #[] 0)).alloc (.cells #[.int .i64 (d:Int),.slice none 0 0,.map (some w.heap.size)] 228)):=(aa.refl _ _).alloc _;refine ⟨w.heap.size+1,[w.heap.size+1,w.heap.size],rfl,⟨w.heap.size,λ_=>none,.slice none 0 0,hh,⟨rfl,Α ⟨rfl,rfl⟩⟩,hm.upd hv σ,λz v=>σ,ω,λg hg=>(by cases hg),rfl⟩,β,λz hz=>?_⟩;simp at hz;omega
theorem Ay {w:World} {rp d:Nat} {G:List Nat} (h:iR w rp G d []):Calls Tryz.prog 144 #[.pointer (some ⟨rp,0,none⟩),.int .i64 0] w λe w'=>e=.returned (.tuple #[.int .i64 0,.bool false])/\w'=w:=by
 obtain ⟨mb,f,v,h1,h2, -, -, -, -, -⟩:=h;obtain ⟨a,c,rfl,hc⟩:=bM h2;have c1:=h1.cellAt 1 (v:=.slice a 0 c) ω rfl;clear h1 h2
 go_enter Tryz.func144,Tryz.ntmps144
 go_wp2;go_ret2;exact ⟨rfl,rfl⟩
theorem zZ {w:World} {rp d x:Nat} {G L:List Nat} (h:iR w rp G d (x::L)):Calls Tryz.prog 144 #[.pointer (some ⟨rp,0,none⟩),.int .i64 0] w λe w'=>e=.returned (.tuple #[.int .i64 (x:Int),.bool true])/\w'=w:=by
 obtain ⟨mb,g,cap,f,hM, -, -⟩:=h.open σ;have c1:=hM.h1;have c2:=hM.cell 0 σ;rw [show (x::L).getD 0 0=x from rfl] at c2;have hn:0<(x::L).length:=σ;generalize (x::L).length=n at *;have hn1:¬ (0:Int)≥(n:Int):=ω;have hn2:(0:Int)<(n:Int):=ω;have F8:¬n=0:=ω;clear hM h
 go_enter Tryz.func144,Tryz.ntmps144
 go_wp2;go_ret2;exact ⟨rfl,rfl⟩
theorem yY (O:eH) {w:World} {rp d:Nat} {G L:List Nat} (hO:O.at_ w) (h:iR w rp G d L) (hd:2<=d/\d<=16) (hl:L.length+1<=65536) (hH:Hp O.R d L) (x:Nat) (hx:x∉L) (hn:L.Nodup)
  (hdom:∀y,y∈x::L->O.dom y) (h16:∀y,y∈x::L->y<=65536) (hsep:∀z,z∈G->z∉O.rd) :
  Calls Tryz.prog 139 #[.pointer (some ⟨rp,0,none⟩),.iface O.ty (.pointer (some ⟨O.p,0,none⟩)),.int .i64 (x:Int)] w λe w'=>e=.returned (.bool true)/\∃G' L',iR w' rp G' d L'/\L'.Perm (x::L)/\Hp O.R d L'/\O.at_ w'/\aa (G++O.wr) w w'/\∀z,z∈G'->z∈G\/w.heap.size<=z:=by
 obtain ⟨mb,f,v,h1,h2,h3,h4,h5,h6,rfl⟩:=h;have hfx:=Dc h4 hx;have HXx:=χ hx;have hxl:=h16 x σ;obtain ⟨a,cc,rfl,hcc⟩:=bM h2;have c1:=h1.cellAt 1 (v:=.slice a L.length cc) ω rfl;have c2:=h1.cellAt 2 (v:=.map (some mb)) ω rfl;have f1:=h1.free 1;have hlr:=h1.lt;have hlo:=h2.lt;have hms:∀z,z∈(Value.slice a L.length cc).ownBlock.toList->rp≠z/\mb≠z:=λz hz=>h6 z (by simpa using hz);have hp:=hH.snoc O.tr hd.1 (x:=x);have hpl:=C9 h4 x;have hset:(L++[x]).set L.length x=L++[x]:=σ;have oz:(L++[x]).Perm (x::L):=Φ (l₁:=L) (l₂:=[x])
 have HX:=χ (ψ hO (ψ h1 (ψ h3 (ψ h5 (ψ hms (ψ hp (ψ hpl (ψ hset (ψ oz (ψ hn (ψ hdom (ψ h16 (ψ hsep hlo)))))))))))));have hmb:cu w mb f:=h3;have hgl:(Value.slice a L.length cc).ownBlock.toList=(Value.slice a L.length cc).ownBlock.toList:=rfl;clear h1 h3 h4 h6 hH hx hn hdom h16 hsep hO hms hp hpl hset oz hlo;generalize hnl:L.length=n at *;have HN:=χ hnl;clear hnl
 go_enter Tryz.func139,Tryz.ntmps139
 go_upto_region 5 with (first
  | (at_lookup;refine lY rfl _ _ rfl mb f rfl hmb (x:Int) rfl ω ?_;rw [hfx];simp only [Option.getD_none,Option.isSome_none])
  | ((at_builtin;refine aL rfl _ _ 77 rfl 0 3 (.int .i64 0) 1 8 Tryz.underlying77 dO rfl δ _ _ _ rfl (h2) [.int .i64 (x:Int)] rfl (by simp [Value.oneCell']) (by first|rfl|(rw [Κ];rfl)) μ ω (ω) ?_;intro v2 w2 ho2 hu2 iI);obtain ⟨a2,IP,rfl,hcc2⟩:=bM ho2;(have d1:w2.cell? ⟨rp,1,none⟩=some (.slice a n cc):=hu2.kept c1 (λhm=>(HX.out.2.2.2.2.1 rp hm).1 rfl));(have e1:=hu2.aF c1 (λhm=>(HX.out.2.2.2.2.1 rp hm).1 rfl) f1))
  | fail)
 obtain ⟨hO,h1,h3,h5,hms,hp,hpl,hset,oz,hn,hdom,h16,hsep,hlo⟩:=HX.out;have hnz:aU (L++[x])=aU L++[(x:Int)]:=by unfold aU;simp
 have hL1:(L++[x]).length=n+1:=by rw [υ,HN.out];rfl
 obtain ⟨g2,cap2,e2,hI2, -⟩:=IZ.gp (l:=aU (L++[x])) (by rw [bE,hL1,hnz,bT];exact ho2) (by rw [bE,hL1];omega);rw [bE,hL1] at e2;cases e2;have hg2:rp≠g2/\mb≠g2/\(g2∈(Value.slice a n cc).ownBlock.toList\/w.heap.size<g2):=by
  rcases iI with e|e
  ·have hm:g2∈(Value.slice a n cc).ownBlock.toList:=by have e':(Value.slice a n cc).ownBlock=some g2:=e.symm;rw [e'];simp
   have:=hms g2 hm;exact ⟨this.1,this.2,Α hm⟩
  ·have h7:=e g2 rfl;have h8:=h3.lt;exact ⟨ω,ω,Β h7⟩
 have hw0:aa (Value.slice a n cc).ownBlock.toList w w2:=hu2;have EM:aa [rp] w2 (w2.setCell ⟨rp,1,none⟩ (.slice (some ⟨g2,0,none⟩) (n+1) IP)):=β;have hnm:∀z,z∈(Value.slice a n cc).ownBlock.toList->rp≠z/\mb≠z:=hms;have hR:lV (w2.setCell ⟨rp,1,none⟩ (.slice (some ⟨g2,0,none⟩) (n+1) IP)) rp mb g2 IP d f (L++[x]):=by
  refine ⟨((h1.upd hw0 (λhm=>(hnm rp hm).1 rfl)).set 1 _).ext (λj hj=>?_),hI2.upd EM (by simp;exact λe=>hg2.1 e.symm),(h3.upd hw0 (λhm=>(hnm mb hm).2 rfl)).upd EM (by simp;exact λe=>h5 e.symm),h5,hg2.1,hg2.2.1⟩;rw [hL1];rcases (ω:j=0\/j=1\/j=2) with rfl|rfl|rfl<;>rfl
 have hrd:∀z,z∈(Value.slice a n cc).ownBlock.toList->z∉O.rd:=λz hz=>hsep z (Λ _ (Λ _ hz));have hOl:=O.low hO;have hat:O.at_ (w2.setCell ⟨rp,1,none⟩ (.slice (some ⟨g2,0,none⟩) (n+1) IP)):=O.upd (O.upd hO hw0 hrd) EM (λz hz=>by simp at hz;rw [hz];exact hsep rp σ);have ku:=CB O hat hR hd ω n x hp.1 hpl (by rw [hset];exact oz.nodup_iff.2 (Ζ.2 ⟨HXx.out,hn⟩)) (λy hy=>hdom y (oz.mem_iff.1 (by rw [←hset];exact hy))) (λy hy=>h16 y (oz.mem_iff.1 (by rw [←hset];exact hy)))
  ⟨hsep rp σ,hsep mb σ,λhm=>by rcases hg2.2.2 with e|e;exact hrd g2 e hm;have:=hOl g2 hm;omega⟩
 rw [hset] at ku;have k1:((n+1:Nat):Int)-1=(n:Int):=ω;have HR:=χ (ψ hp.2 (ψ oz (ψ hg2 (ψ hw0 EM))));have c9:=hR.h1;rw [hL1] at c9;have hwr9:wrap64 ((n:Int)+1-1)=(n:Int):=by rw [show (n:Int)+1-1=n by omega];exact IntWalk.wrap64_in _ ω
 clear hR hat hp hpl oz hms hdom h16 hI2 ho2 hu2 iI d1 e1 hw0 EM hsep hset
 go_wp2_with (first
  | ((go_at_call 146;(with_reducible refine (ku).mono ?_));rintro e w5 ⟨k,f',L',rfl,hR5,Gt,Jr,D8,dV,hk5,hH5⟩)
  | fail)
 obtain ⟨hb,oz,hg2,hw0,EM⟩:=HR.out;have hsz:=hw0.size;go_ret;refine ⟨rfl,_,L',hR5.at_ Gt,Jr.trans oz,hH5 (Β hb),D8,?_,λz hz=>?_⟩
 ·refine ((hw0.mono (λz hz=>by simp [hz])).trans (EM.mono (λz hz=>by simp at hz;simp [hz]))).joined dV (λz hz=>?_);simp only [ρ,τ] at hz ⊢;rcases hz with rfl|rfl|hz
  ·rcases hg2.2.2 with e|e
   ·exact Α (Β (Β (Α e)))
   ·exact Β ω
  ·exact Α (Β (Α rfl))
  ·exact Α (Β (Β (Β hz)))
 ·simp only [ρ,ς,or_false] at hz;rcases hz with rfl|rfl|rfl
  ·exact Α σ
  ·exact Α σ
  ·rcases hg2.2.2 with e|e
   ·exact Α (by simp [e])
   ·exact Β ω
theorem qF (p c:Nat):∀W:World,W.cell? ⟨p,0,none⟩=some (.pointer (some ⟨c,0,none⟩))->(method 409 122 (.pointer (some ⟨p,0,none⟩)) "Ahead").run Tryz.prog W=.ok (164,.pointer (some ⟨c,0,none⟩)) W:=(by intro W h;unfold method;have hm:∃m,(Array.find? (λx=>x.name == "Ahead") Tryz.t122.methods)=some m/\m.path.toList=[⟨179,0,true⟩]/\m.func=some (164,true)/\m.path.isEmpty=false:=⟨(Array.find? (λx=>x.name == "Ahead") Tryz.t122.methods).get!,by kernel_rfl,by kernel_rfl,by kernel_rfl,by kernel_rfl⟩;obtain ⟨m,h1,h2,h3,h4⟩:=hm;go_simp;simp only [follow,Place.get];go_simp;(try unfold receiverAt);(try simp only [Place.get]);(try go_simp))
theorem qy (p:Nat):∀W:World,(nilAhead 409 122 (.pointer (some ⟨p,0,none⟩)) "Ahead").run Tryz.prog W=.ok (some false) W:=λW=>by kernel_rfl
structure DB where
 n0:Nat
 c:Nat
 d:Nat
def Hg (d:Nat):Ja:=⟨λw p G L=>iR w p G d L,λh hu hS=>h.upd hu hS,λh=>h.lt⟩
def fJ (A:NS) (h:Nat):Bool:=aR A (h:Int)
structure lN (w:World) (B:DB) (F Z:List Nat) (gr cr:Nat) (A:NS) (st:Nat) (ptr:Nat->Option Nat) (G L:Nat->List Nat):Prop where
 head:ak w B.n0 179 3 (λj=>[Value.pointer (some ⟨B.c,0,none⟩),.int .i64 (B.d:Int),.slice (some ⟨gr,0,none⟩) A.hs.length cr].getD j undef)
 cells:ai w B.c F A st
 gM:jK (Hg B.d) 174 w gr cr A.hs.length (fJ A) Z ptr G L
 aS:B.n0∉F/\gr∉F/\B.n0≠gr
 dX:∀z,z∈Z->z∉F/\z≠B.n0
 dd:2<=B.d/\B.d<=16
def DB.blk (B:DB) (F Z:List Nat) (gr:Nat):List Nat:=B.n0::gr::(F++Z)
section
variable {w:World} {B:DB} {F Z:List Nat} {gr cr st:Nat} {A:NS} {ptr:Nat->Option Nat} {G L:Nat->List Nat}
theorem lN.upd {w':World} {S:List Nat} (h:lN w B F Z gr cr A st ptr G L) (hu:aa S w w') (hS:∀x,x∈S->x∉B.blk F Z gr):lN w' B F Z gr cr A st ptr G L:=by
 have h1:∀x,x∈B.blk F Z gr->x∉S:=λx hx hg=>hS x hg hx;exact ⟨h.head.upd hu (h1 _ (by simp [DB.blk])),h.cells.upd hu (λx hx hm=>hS x hx (by simp [DB.blk,hm])),h.gM.upd hu (λz hz=>⟨λe=>hS z hz (by simp [DB.blk,e]),λe=>hS z hz (by simp [DB.blk,e])⟩),h.aS,h.dX,h.dd⟩
theorem lN.ah {w':World} (h:lN w B F Z gr cr A st ptr G L) (hu:aa [] w w'):lN w' B F Z gr cr A st ptr G L:=h.upd hu σ
theorem lN.lt (h:lN w B F Z gr cr A st ptr G L):∀x,x∈B.blk F Z gr->x<w.heap.size:=by
 intro x hx;simp only [DB.blk,ρ,τ] at hx;rcases hx with rfl|rfl|hx|hx
 ·exact h.head.lt
 ·exact h.gM.lt
 ·exact h.cells.lt x hx
 ·exact h.gM.vX x hx
theorem lN.h0 (h:lN w B F Z gr cr A st ptr G L):w.cell? ⟨B.n0,0,none⟩=some (.pointer (some ⟨B.c,0,none⟩)):=h.head.cellAt 0 ω rfl
theorem lN.h1 (h:lN w B F Z gr cr A st ptr G L):w.cell? ⟨B.n0,1,none⟩=some (.int .i64 (B.d:Int)):=h.head.cellAt 1 ω rfl
theorem lN.h2 (h:lN w B F Z gr cr A st ptr G L):w.cell? ⟨B.n0,2,none⟩=some (.slice (some ⟨gr,0,none⟩) A.hs.length cr):=h.head.cellAt 2 ω rfl
theorem lN.fw {w':World} {F':List Nat} {A':NS} {st':Nat} (h:lN w B F Z gr cr A st ptr G L) (hu:aa F w w') (hC:ai w' B.c F' A' st') (hF:∀x,x∈F'->x∈F\/w.heap.size<=x) (h2:A'.hs=A.hs):lN w' B F' Z gr cr A' st' ptr G L:=by
 have f:=h.aS;have g:=h.lt;have hf:∀x,x<w.heap.size->x∉F->x∉F':=λx hx hn hm=>by rcases hF x hm with h'|h';exact hn h';omega
 have l0:=g B.n0 (by simp [DB.blk]);have l1:=g gr (by simp [DB.blk]);have hh:fJ A'=fJ A:=funext λk=>by unfold fJ aR;rw [h2]
 exact ⟨by rw [h2];exact h.head.upd hu f.1,hC,by rw [h2,hh];exact h.gM.upd hu (λz hz=>⟨λe=>f.2.1 (by rw [←e];exact hz),λhm=>(h.dX z hm).1 hz⟩),⟨hf _ l0 f.1,hf _ l1 f.2.1,f.2.2⟩,λz hz=>⟨hf z (h.gM.vX z hz) (h.dX z hz).1,(h.dX z hz).2⟩,h.dd⟩
def Hr (B:DB) (F:List Nat) (A:NS) (hc:B.c∈F):eH where
 ty:=122
 p:=B.n0
 rd:=B.n0::F
 wr:=[B.c]
 lt:=λa b=>decide (dm A a b)
 dom:=λx=>dh A (x:Int)=true
 at_:=λw=>w.cell? ⟨B.n0,0,none⟩=some (.pointer (some ⟨B.c,0,none⟩))/\B.n0∉F/\∃st,ai w B.c F A st
 sub:=λx hx=>by simp at hx;rw [hx];exact Λ _ hc
 low:=λh x hx=>by
  obtain ⟨h1,h3,st,h2⟩:=h;rcases ρ.1 hx with e|e
  ·rw [e];exact Ε _ _ h1
  ·exact h2.lt x e
 upd:=λh hu hS=>by
  obtain ⟨h1,h3,st,h2⟩:=h;exact ⟨hu.kept h1 (λhm=>hS _ hm σ),h3,st,h2.upd hu (λx hx hm=>hS x hx (by simp [hm]))⟩
 trans:=λa b c h1 h2=>Ν (bK (Ϙ h1) (Ϙ h2))
 total:=λa b h=>by rcases eU (A:=A) h with h|h;exact Α (Ν h);exact Β (Ν h)
 asym:=λa b h=>Ξ (jb (Ϙ h))
 fn:=164
 recv:=.pointer (some ⟨B.c,0,none⟩)
 ent:=λ_ _=>by kernel_rfl
 Ik:=λh=>qF _ _ _ h.1
 G9:=qy _
 ask:=λ{w} x y h hx hy=>by
  obtain ⟨h1,h3,st,h2⟩:=h;refine (dE h2 x y hx hy).mono ?_;rintro e w' ⟨rfl,hC,hu⟩;exact ⟨rfl,⟨hu.kept h1 (λhm=>h3 (by simp at hm;rw [hm];exact h2.mem)),h3,_,hC⟩,hu⟩
theorem lN.ord (h:lN w B F Z gr cr A st ptr G L):(Hr B F A h.cells.mem).at_ w:=⟨h.h0,h.aS.1,st,h.cells⟩
end
def iX (w:World) (B:DB) (F Z:List Nat) (gr:Nat) (A:NS) (st:Nat):Prop:=∃cr ptr G L,lN w B F Z gr cr A st ptr G L/\lU B.d A L
section
variable {w:World} {B:DB} {F Z:List Nat} {gr st:Nat} {A:NS}
theorem iX.upd {w':World} {S:List Nat} (h:iX w B F Z gr A st) (hu:aa S w w') (hS:∀x,x∈S->x∉B.blk F Z gr):iX w' B F Z gr A st:=by
 obtain ⟨cr,ptr,G,L,hM,hI⟩:=h;exact ⟨cr,ptr,G,L,hM.upd hu hS,hI⟩
theorem iX.ah {w':World} (h:iX w B F Z gr A st) (hu:aa [] w w'):iX w' B F Z gr A st:=h.upd hu σ
theorem Aa (h:iX w B F Z gr A st) (g:Nat) (hn:aR A g=true) :
  Calls Tryz.prog 129 #[.pointer (some ⟨B.n0,0,none⟩),.int .i64 (g:Int)] w λe w'=>e=.returned (.tuple #[.int .i64 (nI (bQ A g)),.bool (bQ A g).isSome])/\w'=w:=by
 obtain ⟨cr,ptr,G,L,hM,hI⟩:=h;have k:=dF hM.cells g;rw [hn] at k;have h0:=hM.h0;have h2:=hM.h2;obtain ⟨rp,hp,hR⟩:=hM.gM.row g hn;have hg:=(aA _ _).1 hn;have hc:=hM.gM.cell ω hp;have JF:(g:Int)<(A.hs.length:Int):=ω;have hR':iR w rp (G g) B.d (L g):=hR;cases hl:L g with
 | nil=>
  rw [hl] at hR';have ka:=Ay hR';rw [hI.none hn hl];clear hM hI hn hR hR' hp hl
  go_enter Tryz.func129,Tryz.ntmps129
  go_wp2_with (first|(go_at_call 123;(with_reducible refine (k).mono ?_);rintro e w9 ⟨rfl,aB⟩;rw [aB];clear aB w9)|(go_at_call 144;(with_reducible refine (ka).mono ?_);rintro e w9 ⟨rfl,aB⟩;rw [aB];clear aB w9))
  go_ret2;exact ⟨rfl,rfl⟩
 | cons m l=>
  rw [hl] at hR';have ka:=zZ hR';rw [hI.first hM.dd.1 hn hl];clear hM hI hn hR hR' hp hl
  go_enter Tryz.func129,Tryz.ntmps129
  go_wp2_with (first|(go_at_call 123;(with_reducible refine (k).mono ?_);rintro e w9 ⟨rfl,aB⟩;rw [aB];clear aB w9)|(go_at_call 144;(with_reducible refine (ka).mono ?_);rintro e w9 ⟨rfl,aB⟩;rw [aB];clear aB w9))
  go_ret2;exact ⟨rfl,rfl⟩
end
def Ha (B:HB) (w:World) (rp:Nat) (G L:List Nat):Prop:=∃v,ak w rp 302 2 (zD B v)/\w.ownsRow 0 3 1 v L.length (bD (aU L))/\G=rp::v.ownBlock.toList/\∀g,v.ownBlock=some g->g≠rp
def Gj (B:HB):Ja:=⟨Ha B,λh hu hS=>by
 obtain ⟨v,h1,h2,rfl,h3⟩:=h;exact ⟨v,h1.upd hu (λhm=>hS _ hm σ),ay h2 hu (λk hk hm=>hS k hm (Λ _ (Option.mem_toList.2 hk))),rfl,h3⟩,λh=>by
 obtain ⟨v,h1,h2,rfl,h3⟩:=h;intro z hz;rcases ρ.1 hz with e|e
 ·rw [e];exact h1.lt
 ·exact (h2.lt z (Option.mem_toList.1 e)).2⟩
structure ShM (w:World) (B:HB) (F Z:List Nat) (gr cr:Nat) (A:NS) (st:Nat) (ptr:Nat->Option Nat) (G L:Nat->List Nat) (T:List Nat):Prop where
 head:ak w B.n0 210 3 (λj=>[Value.pointer (some ⟨B.c,0,none⟩),.slice (some ⟨gr,0,none⟩) A.hs.length cr,.slice (some ⟨B.ga,0,none⟩) T.length T.length].getD j undef)
 cells:ai w B.c F A st
 gM:jK (Gj B) 298 w gr cr A.hs.length (fJ A) Z ptr G L
 oN:IZ w B.ga T.length (aU T)
 tl:T.length=A.cs.length
 aS:B.n0∉F/\gr∉F/\B.ga∉F
 sep:B.n0≠gr/\B.ga≠B.n0/\B.ga≠gr
 dX:∀z,z∈Z->z∉F/\z≠B.n0/\z≠B.ga
def HB.blk (B:HB) (F Z:List Nat) (gr:Nat):List Nat:=B.n0::gr::B.ga::(F++Z)
structure Gb (A:NS) (L:Nat->List Nat) (T:List Nat):Prop where
 di:lU 2 A L
 yQ:∀h:Nat,aR A h=true->∀j x,(L h)[j]?=some x->T.getD x 0=j
section
variable {w w':World} {B:HB} {F Z:List Nat} {gr cr st:Nat} {A:NS} {ptr:Nat->Option Nat} {G L:Nat->List Nat} {T:List Nat}
theorem ShM.upd {S:List Nat} (h:ShM w B F Z gr cr A st ptr G L T) (hu:aa S w w') (hS:∀x,x∈S->x∉B.blk F Z gr):ShM w' B F Z gr cr A st ptr G L T:=by
 have h1:∀x,x∈B.blk F Z gr->x∉S:=λx hx hg=>hS x hg hx;exact ⟨h.head.upd hu (h1 _ (by simp [HB.blk])),h.cells.upd hu (λx hx hm=>hS x hx (by simp [HB.blk,hm])),h.gM.upd hu (λz hz=>⟨λe=>hS z hz (by simp [HB.blk,e]),λe=>hS z hz (by simp [HB.blk,e])⟩),h.oN.upd hu (h1 _ (by simp [HB.blk])),h.tl,h.aS,h.sep,h.dX⟩
theorem ShM.ah (h:ShM w B F Z gr cr A st ptr G L T) (hu:aa [] w w'):ShM w' B F Z gr cr A st ptr G L T:=h.upd hu σ
theorem ShM.lt (h:ShM w B F Z gr cr A st ptr G L T):∀x,x∈B.blk F Z gr->x<w.heap.size:=by
 intro x hx;simp only [HB.blk,ρ,τ] at hx;rcases hx with rfl|rfl|rfl|hx|hx
 ·exact h.head.lt
 ·exact h.gM.lt
 ·exact h.oN.lt
 ·exact h.cells.lt x hx
 ·exact h.gM.vX x hx
theorem ShM.h0 (h:ShM w B F Z gr cr A st ptr G L T):w.cell? ⟨B.n0,0,none⟩=some (.pointer (some ⟨B.c,0,none⟩)):=h.head.cellAt 0 ω rfl
theorem ShM.h1 (h:ShM w B F Z gr cr A st ptr G L T):w.cell? ⟨B.n0,1,none⟩=some (.slice (some ⟨gr,0,none⟩) A.hs.length cr):=h.head.cellAt 1 ω rfl
theorem ShM.h2 (h:ShM w B F Z gr cr A st ptr G L T):w.cell? ⟨B.n0,2,none⟩=some (.slice (some ⟨B.ga,0,none⟩) T.length T.length):=h.head.cellAt 2 ω rfl
theorem ShM.fw {F':List Nat} {A':NS} {st':Nat} (h:ShM w B F Z gr cr A st ptr G L T) (hu:aa F w w') (hC:ai w' B.c F' A' st') (hF:∀x,x∈F'->x∈F\/w.heap.size<=x) (h2:A'.hs=A.hs) (h3:A'.cs.length=A.cs.length):ShM w' B F' Z gr cr A' st' ptr G L T:=by
 have f:=h.aS;have g:=h.lt;have hf:∀x,x<w.heap.size->x∉F->x∉F':=λx hx hn hm=>by rcases hF x hm with h'|h';exact hn h';omega
 have l0:=g B.n0 (by simp [HB.blk]);have l1:=g gr (by simp [HB.blk]);have l2:=g B.ga (by simp [HB.blk]);have hh:fJ A'=fJ A:=funext λk=>by unfold fJ aR;rw [h2]
 exact ⟨by rw [h2];exact h.head.upd hu f.1,hC,by rw [h2,hh];exact h.gM.upd hu (λz hz=>⟨λe=>f.2.1 (by rw [←e];exact hz),λhm=>(h.dX z hm).1 hz⟩),h.oN.upd hu f.2.2,by rw [h3];exact h.tl,⟨hf _ l0 f.1,hf _ l1 f.2.1,hf _ l2 f.2.2⟩,h.sep,λz hz=>⟨hf z (h.gM.vX z hz) (h.dX z hz).1,(h.dX z hz).2⟩⟩
theorem ShM.pile (h:ShM w B F Z gr cr A st ptr G L T) {g:Nat} (hg:aR A g=true) (hd:∀y,y∈L g->dh A (y:Int)=true/\y<T.length) (hn:(L g).Nodup) (hpl:∀j x,(L g)[j]?=some x->T.getD x 0=j) :
  ∃rp v,ptr g=some rp/\G g=rp::v.ownBlock.toList/\Dq w B F A rp v (L g) T:=by
 obtain ⟨rp,hp,v,h1,h2,h3,h4⟩:=h.gM.row g hg;have hz:∀z,z∈rp::v.ownBlock.toList->z∈Z:=λz hz=>h.gM.qa g hg z (by rw [h3];exact hz);have hr:=h.dX rp (hz rp σ);have hok:=h.cells.ok.c1;refine ⟨rp,v,hp,h3,h1,h2,h.oN,h.h0,h.h2,⟨st,h.cells⟩,⟨hr.2.2,hr.2.1⟩,λk hk=>?_,h.sep.2.1,⟨hr.1,h.aS.2.2,h.aS.1⟩,hd,hn,hpl,by rw [h.tl];exact hok⟩;have hk':=h.dX k (hz k (Λ _ (Option.mem_toList.2 hk)));exact ⟨h4 k hk,hk'.2.2,hk'.2.1,hk'.1⟩
theorem ShM.zL (h:ShM w B F Z gr cr A st ptr G L T) {g rp:Nat} (hg:aR A g=true) (hp:ptr g=some rp) {v':Value} {L' T' S:List Nat} (hu:aa S w w') (hS:∀z,z∈S->z∈G g\/z=B.ga\/z=B.c) (hr:rp∈G g) (hP:Dq w' B F A rp v' L' T') (hl:T'.length=T.length) (hG:∀k,v'.ownBlock=some k->k∈G g\/w.heap.size<=k) :
  ∃st',ShM w' B F (Z++(rp::v'.ownBlock.toList)) gr cr A st' ptr (d9 G g (rp::v'.ownBlock.toList)) (d9 L g L') T':=by
 have qz:=h.cells.mem;have hsl:=h.lt;obtain ⟨st',hC⟩:=hP.Bz;have hnc:B.n0≠B.c:=λe=>h.aS.1 (by rw [e];exact qz);have hSn:B.n0∉S:=λhm=>by
  rcases hS _ hm with e|e|e
  ·exact (h.dX _ (h.gM.qa g hg _ e)).2.1 rfl
  ·exact h.sep.2.1 e.symm
  ·exact hnc e
 have hGz:∀z,z∈rp::v'.ownBlock.toList->z∈G g\/w.heap.size<=z:=λz hz=>by
  rcases ρ.1 hz with e|e
  ·rw [e];exact Α hr
  ·exact hG z (Option.mem_toList.1 e)
 refine ⟨st',⟨?_,hC,h.gM.one hg hp hu (λz hz=>?_) ⟨v',hP.hd,hP.own,rfl,λk hk=>(hP.sg k hk).1⟩ hGz,hP.oN,by rw [hl];exact h.tl,h.aS,h.sep,λz hz=>?_⟩⟩
 ·rw [hl];exact h.head.upd hu hSn
 ·rcases hS z hz with e|e|e
  ·exact Α e
  ·rw [e];exact Β ⟨h.sep.2.2,λhm=>(h.dX _ hm).2.2 rfl⟩
  ·rw [e];exact Β ⟨λe2=>h.aS.2.1 (by rw [←e2];exact qz),λhm=>(h.dX _ hm).1 qz⟩
 ·rcases τ.1 hz with e|e
  ·exact h.dX z e
  ·rcases hGz z e with e2|e2
   ·exact h.dX z (h.gM.qa g hg z e2)
   ·exact ⟨λhm=>by have:=hsl z (by simp [HB.blk,hm]);omega,λe3=>by have:=hsl B.n0 (by simp [HB.blk]);omega,λe3=>by have:=hsl B.ga (by simp [HB.blk]);omega⟩
end
def ShAt (w:World) (B:HB) (F Z:List Nat) (gr:Nat) (A:NS) (st:Nat):Prop:=∃cr ptr G L T,ShM w B F Z gr cr A st ptr G L T/\Gb A L T
section
variable {w:World} {B:HB} {F Z:List Nat} {gr st:Nat} {A:NS}
theorem ShAt.upd {w':World} {S:List Nat} (h:ShAt w B F Z gr A st) (hu:aa S w w') (hS:∀x,x∈S->x∉B.blk F Z gr):ShAt w' B F Z gr A st:=by
 obtain ⟨cr,ptr,G,L,T,hM,hI⟩:=h;exact ⟨cr,ptr,G,L,T,hM.upd hu hS,hI⟩
theorem ShAt.ah {w':World} (h:ShAt w B F Z gr A st) (hu:aa [] w w'):ShAt w' B F Z gr A st:=h.upd hu σ
theorem xX (h:ShAt w B F Z gr A st) (g:Nat) (hn:aR A g=true) :
  Calls Tryz.prog 266 #[.pointer (some ⟨B.n0,0,none⟩),.int .i64 (g:Int)] w λe w'=>e=.returned (.tuple #[.int .i64 (nI (bQ A g)),.bool (bQ A g).isSome])/\w'=w:=by
 obtain ⟨cr,ptr,G,L,T,hM,hI⟩:=h;have hg:=(aA _ _).1 hn;have hok:=hM.cells.ok;have h1:=hok.h1;have k:=gZ hM.cells (g:Int) ω;have h0:=hM.h0;have h2:=hM.h1;obtain ⟨rp,hp,v,r1,r2,r3,r4⟩:=hM.gM.row g hn;have hc:=hM.gM.cell ω hp;have JF:(g:Int)<(A.hs.length:Int):=ω;cases hl:L g with
 | nil=>
  have Fh:=hI.di.none hn hl;have hz:=(eB (A:=A) (h:=(g:Int)) ω).1 Fh;rw [Fh];rw [hz] at k;clear hM hI hn r1 r2 r3 r4 hp hl Fh hz hok
  go_enter Tryz.func266,Tryz.ntmps266
  go_wp2_with (first|(go_at_call 126;(with_reducible refine (k).mono ?_);rintro e w9 ⟨rfl,aB⟩;rw [aB];clear aB w9)|fail)
  go_ret2;exact ⟨rfl,rfl⟩
 | cons m l=>
  have Fh:=hI.di.first ω hn hl;have hz:¬bO A (g:Int)=0:=λe=>by
   have:=(eB (A:=A) (h:=(g:Int)) ω).2 e;rw [Fh] at this;cases this
  have hle:=wD hok (g:Int);rw [Fh];rw [hl] at r2;obtain ⟨gs,cap,rfl,_,hgl,hcc,hcap,hcell, -⟩:=dI r2 σ;have c1:w.cell? ⟨rp,1,none⟩=some (.slice (some ⟨gs,0,none⟩) (m::l).length cap):=r1.cellAt 1 ω rfl;have c2:w.cell? ⟨gs,0,none⟩=some (.int .i64 (m:Int)):=hcell 0 _ rfl;have hzb:((bO A (g:Int):Int) == 0)=false:=ι;have hlp:(0:Int)<((m::l).length:Int):=ι;clear hM hI hn r1 r2 r3 r4 hp hl Fh hcell hok hz;generalize bO A (g:Int)=ln at *;generalize (m::l).length=nl at *
  go_enter Tryz.func266,Tryz.ntmps266
  go_wp2_with (first|(go_at_call 126;(with_reducible refine (k).mono ?_);rintro e w9 ⟨rfl,aB⟩;rw [aB];clear aB w9)|fail)
  go_ret2;exact ⟨rfl,rfl⟩
end
theorem xJ:(Tryz.prog.info? 174).map (λi=>(i.zero,i.size,i.bytes))=some (some (.pointer none),1,8):=by kernel_rfl
theorem fQ (n h:Nat):fJ (NS.new n) h=false:=by
 unfold fJ;cases hh:aR (NS.new n) (h:Int) with
 | false=>rfl
 | true=>have:=(aA _ _).1 hh;simp [NS.new] at this;omega
theorem A7 (n d:Nat) (w:World) (h:n<=65536) (hd:2<=d/\d<=16) :
  Calls Tryz.prog 57 #[.int .i64 (n:Int),.int .i64 (d:Int)] w λe w'=>∃B F gr,e=.returned (.tuple #[.pointer (some ⟨B.n0,0,none⟩),.int .i64 0])/\iX w' B F [] gr (NS.new n) 0/\aa [] w w'/\(∀x,x∈B.blk F [] gr->w.heap.size<=x)/\B.d=d:=by
 go_enter Tryz.func57,Tryz.ntmps57
 go_wp2_with (first
  | ((go_at_call 84;(with_reducible refine (gu n _ h).mono ?_));rintro e w1 ⟨c,F,rfl,hC,hu1,hF⟩)
  | ((go_at_call 85;(with_reducible refine (tC d hd _).mono ?_));rintro e w2 ⟨rp,G,rfl,hR,hu2,hG⟩)
  | fail)
 go_ret2;have l1:=hu1.size;have l2:=hu2.size;have l7:=hC.lt;have e3:((w2.alloc (.cells #[.pointer none] 174)).heap.size)=w2.heap.size+1:=by rw [Κ]
 have hh:=aY (w2.alloc (.cells #[.pointer none] 174)) [.pointer (some ⟨c,0,none⟩),.int .i64 (d:Int),.slice (some ⟨w2.heap.size,0,none⟩) 1 1] 179;rw [e3] at hh;have hv:aa [] w2 (w2.alloc (.cells #[.pointer none] 174)):=(aa.refl _ _).alloc _;have hv2:aa [] (w2.alloc (.cells #[.pointer none] 174)) ((w2.alloc (.cells #[.pointer none] 174)).alloc (.cells #[.pointer (some ⟨c,0,none⟩),.int .i64 (d:Int),.slice (some ⟨w2.heap.size,0,none⟩) 1 1] 179)):=(aa.refl _ _).alloc _
 have hw:aa [] w2 ((w2.alloc (.cells #[.pointer none] 174)).alloc (.cells #[.pointer (some ⟨c,0,none⟩),.int .i64 (d:Int),.slice (some ⟨w2.heap.size,0,none⟩) 1 1] 179)):=hv.trans hv2;have ho:=kG w2 [.pointer none] 174 0 1 1 rfl ω μ;have hnF:∀x,w1.heap.size<=x->x∉F:=λx hx hm=>by have:=l7 x hm;omega
 refine ⟨⟨w2.heap.size+1,c,d⟩,F,w2.heap.size,rfl,⟨1,λ_=>none,λ_=>[],λ_=>[],⟨hh,(hC.ah hu2).ah hw,⟨?_,λk hk=>?_,λk hk=>?_,λk j hk=>?_,λz hz=>by simp at hz,σ⟩,⟨hnF _ (by first|omega|(simp only;omega)),hnF _ ω,σ⟩,λz hz=>by simp at hz,hd⟩,⟨λk hk=>?_,λk hk=>?_,λk x hk=>?_⟩⟩,(hu1.trans hu2).trans hw,λx hx=>?_,rfl⟩
 ·exact ay ho hv2 σ
 ·rw [fQ] at hk;cases hk
 ·rw [fQ] at hk;cases hk
 ·rw [fQ] at hk;cases hk
 ·have:=fQ n k;unfold fJ at this;rw [this] at hk;cases hk
 ·have:=fQ n k;unfold fJ at this;rw [this] at hk;cases hk
 ·have:=fQ n k;unfold fJ at this;rw [this] at hk;cases hk
 ·simp only [DB.blk,ρ,Υ] at hx;rcases hx with rfl|rfl|hx
  ·omega
  ·omega
  ·exact hF x hx
section
variable {w:World} {B:DB} {F Z:List Nat} {gr st:Nat} {A:NS}
theorem Av (h:iX w B F Z gr A st) (hl:65536<A.hs.length) :
  Calls Tryz.prog 127 #[.pointer (some ⟨B.n0,0,none⟩)] w λe w'=>e=.returned (.int .i64 0)/\Goes (B.blk F Z gr) w w' (λF'=>∃F1,F'=B.blk F1 Z gr/\iX w' B F1 Z gr A st):=by
 obtain ⟨cr,ptr,G,L,hM,hI⟩:=h;have k:=cZ hM.cells;have e1:aT A=0:=by unfold aT;rw [Δ hl]
 have e2:ag A=A:=by unfold ag;rw [Δ hl]
 rw [e1,e2] at k;have h0:=hM.h0;have HM:=χ (ψ hM hI);clear hM hI e1 e2
 go_enter Tryz.func127,Tryz.ntmps127
 go_wp2_with (first|((go_at_call 140;(with_reducible refine (k).mono ?_));rintro e w1 ⟨rfl,F1,hC,hu,hF⟩))
 go_ret;refine ⟨rfl,B.blk F1 Z gr,⟨F1,rfl,cr,ptr,G,L,HM.out.1.fw hu hC hF rfl,HM.out.2⟩,hu.mono (λy hy=>by simp [DB.blk,hy]),λx hx=>?_⟩;simp only [DB.blk,ρ,τ] at hx ⊢;rcases hx with rfl|rfl|hx|hx
 ·simp
 ·simp
 ·rcases hF x hx with h|h
  ·simp [h]
  ·exact Β h
 ·simp [hx]
theorem yB (h:iX w B F Z gr A st) (hl:¬65536<A.hs.length) :
  Calls Tryz.prog 127 #[.pointer (some ⟨B.n0,0,none⟩)] w λe w'=>e=.returned (.int .i64 (A.hs.length:Int))/\Goes (B.blk F Z gr) w w' (λF'=>∃F1 Z1 qM,F'=B.blk F1 Z1 qM/\iX w' B F1 Z1 qM (ag A) st):=by
 obtain ⟨cr,ptr,G,L,hM,hI⟩:=h;have k:=cZ hM.cells;have e1:aT A=A.hs.length:=by unfold aT;rw [Γ hl]
 rw [e1] at k;have gW:(ag A).hs.length=A.hs.length+1:=by unfold ag;rw [Γ hl];simp
 have hh0:=hM.cells.ok.h0;have hI2:=hI.make hM.dd.1 hM.cells.ok hl ω;have h0:=hM.h0;have kr:=λW=>tC B.d hM.dd W;have HM:=χ (ψ hM (ψ hI2 gW));clear hM hI e1 hI2 gW;generalize hm:A.hs.length=m at *;have rE:=χ hm;clear hm
 go_enter Tryz.func127,Tryz.ntmps127
 go_wp2_with (first
  | ((go_at_call 140;(with_reducible refine (k).mono ?_));rintro e w1 ⟨rfl,F1,hC,hu,hF⟩;(have q1:=hu.kept HM.out.1.h1 HM.out.1.aS.1);(have q2:=hu.kept HM.out.1.h2 HM.out.1.aS.1);(have f2:=hu.aF HM.out.1.h2 HM.out.1.aS.1 (HM.out.1.head.free 2));(have ho1:=ay HM.out.1.gM.rows hu (λk hk hm=>by cases hk;exact HM.out.1.aS.2.1 hm));(rw [rE.out] at q2 ho1))
  | ((go_at_call 85;(with_reducible refine (kr _).mono ?_));rintro e w2 ⟨rp,G2,rfl,hR,hu2,hG2⟩;(have q3:=hu2.was q2);(have f3:=hu2.aF q2 σ f2);(have ho2:=ay ho1 hu2 σ))
  | (at_builtin;refine aL rfl _ _ 177 rfl 0 174 (.pointer none) 1 8 Tryz.underlying177 xJ rfl δ _ _ _ rfl (ho2) [nZ (some rp)] rfl (by simp [Value.oneCell',nZ]) (by first|rfl|(rw [Κ];rfl)) μ ω ω ?_;intro v3 w3 ho3 hu3 sN;(have hu3:aa [gr] w2 w3:=hu3);obtain ⟨g3,c3,ev, -⟩:=dI ho3 ω;subst ev;(have d4:=hu3.kept q3 (by simp;exact HM.out.1.aS.2.2));(have f4:=hu3.aF q3 (by simp;exact HM.out.1.aS.2.2) f3))
  | fail)
 go_ret;obtain ⟨hM,hI2,gW⟩:=HM.out;have hlt:=hM.lt;have l0:=hlt B.n0 (by simp [DB.blk]);have l1:=hlt gr (by simp [DB.blk]);have hs1:=hu.size;have hs2:=hu2.size;have hs3:=hu3.size;have iU:=hC.lt;have hg3:g3=gr\/w2.heap.size<g3:=by
  rcases sN with h|h
  ·exact Α (Option.some.inj h)
  ·exact Β (h g3 rfl)
 have hw4:aa [B.n0] w3 (w3.setCell ⟨B.n0,2,none⟩ (.slice (some ⟨g3,0,none⟩) (m+1) c3)):=β;have hnF:∀y,y<w.heap.size->y∉F->y∉F1:=λy hy hn hm=>by rcases hF y hm with h'|h';exact hn h';omega
 have F8:B.n0≠g3:=by have:=hM.aS.2.2;omega
 have EP:g3∉F1:=by
  rcases hg3 with e|e
  ·rw [e];exact hnF gr l1 hM.aS.2.1
  ·exact λhm=>by have:=iU g3 hm;omega
 have AO:∀z,z∈F1->z≠gr/\z≠B.n0:=λz hz=>⟨λe=>hnF gr l1 hM.aS.2.1 (by rw [←e];exact hz),λe=>hnF _ l0 hM.aS.1 (by rw [←e];exact hz)⟩
 have Ky:=hR.lt;have hRk:(Hg B.d).at_ (w3.setCell ⟨B.n0,2,none⟩ (.slice (some ⟨g3,0,none⟩) (m+1) c3)) rp G2 []:=(hR.upd hu3 (λz hz hm=>by simp at hz;have:=hG2 z hm;omega)).upd hw4 (λz hz hm=>by simp at hz;have:=hG2 z hm;omega);have huA:aa (B.n0::gr::F) w (w3.setCell ⟨B.n0,2,none⟩ (.slice (some ⟨g3,0,none⟩) (m+1) c3)):=(((hu.mono (λy hy=>by simp [hy])).then hu2).trans (hu3.mono (λy hy=>by simp at hy;simp [hy]))).trans (hw4.mono (λy hy=>by simp at hy;simp [hy]))
 have hfs:=hM.gM.snoc (by rw [rE.out];cases hh:fJ A m with
  | false=>rfl
  | true=>have:=(aA _ _).1 hh;have:=rE.out;omega) huA (λz hz=>by
   simp only [ρ] at hz;rcases hz with rfl|rfl|hz
   ·exact λhm=>(hM.dX _ hm).2 rfl
   ·exact hM.gM.CU
   ·exact λhm=>(hM.dX z hm).1 hz) hRk (λz hz=>by have:=hG2 z hz;omega) (FO:=g3) (IC:=c3) (by
   rcases hg3 with e|e
   ·rw [e];exact hM.gM.CU
   ·exact λhm=>by have:=hM.gM.vX _ hm;omega) (by
   rcases hg3 with e|e
   ·rw [e];exact λhm=>by have:=hG2 _ hm;omega
   ·exact λhm=>by have:=Ky _ hm;omega) (by rw [rE.out];exact ay ho3 hw4 (λk hk hm=>by cases hk;simp at hm;exact F8 hm.symm))
 rw [rE.out] at hfs;have JK:(λh=>fJ A h || h == m)=fJ (ag A):=funext λq=>by unfold fJ;rw [←rE.out];exact (jX A (by rw [rE.out];exact hl) (by have:=rE.out;omega) q).symm
 rw [JK] at hfs;refine ⟨rfl,B.blk F1 (Z++G2) g3,⟨F1,Z++G2,g3,rfl,c3,d9 ptr m (some rp),d9 G m G2,d9 L m [],⟨?_,?_,by rw [gW];exact hfs,⟨hnF _ l0 hM.aS.1,EP,F8⟩,λz hz=>?_,hM.dd⟩,hI2⟩,huA.mono (λy hy=>?_),λy hy=>?_⟩
 ·rw [gW];refine ((((hM.head.upd hu hM.aS.1).upd hu2 σ).upd hu3 (by simp;exact hM.aS.2.2)).set 2 _).ext (λj hj=>?_);rcases (ω:j=0\/j=1\/j=2) with rfl|rfl|rfl<;>rfl
 ·exact ((hC.ah hu2).upd hu3 (λz hz hm=>by simp at hz;exact (AO z hm).1 hz)).upd hw4 (λz hz hm=>by simp at hz;exact (AO z hm).2 hz)
 ·rcases τ.1 hz with h|h
  ·exact ⟨hnF z (hM.gM.vX z h) (hM.dX z h).1,(hM.dX z h).2⟩
  ·have:=hG2 z h;exact ⟨λhm=>by have:=iU z hm;omega,ω⟩
 ·simp only [DB.blk,ρ,τ] at hy ⊢;rcases hy with h|h|h
  ·exact Α h
  ·exact Β (Α h)
  ·exact Β (Β (Α h))
 ·simp only [DB.blk,ρ,τ] at hy ⊢;rcases hy with h|h|h|h|h
  ·exact Α (Α h)
  ·rcases hg3 with e|e
   ·exact Α (Β (Α (by rw [h,e])))
   ·exact Β ω
  ·rcases hF y h with h|h
   ·exact Α (Β (Β (Α h)))
   ·exact Β h
  ·exact Α (Β (Β (Β h)))
  ·exact Β (by have:=hG2 y h;omega)
end
theorem E8:(Tryz.prog.info? 298).map (λi=>(i.zero,i.size,i.bytes))=some (some (.pointer none),1,8):=by kernel_rfl
theorem Cb (W:World) (n:Nat) (hn:n<=65536):IZ (W.alloc (.cells (madeCells #[.int .i64 0] n) 3)) W.heap.size n (aU (List.replicate n 0)):=by
 have hl:(aU (List.replicate n 0)).length=n:=by rw [bE];simp
 refine ⟨⟨by rw [hl];simp [fM,hl],Β ⟨W.heap.size,n,madeCells #[.int .i64 0] n,by rw [hl],Nat.zero_le _,?_,by rw [hl];exact Θ _,μ,by simp [madeCells],?_⟩⟩⟩
 ·show (W.heap.push _)[W.heap.size]?=_;simp
 ·rw [hl];apply List.ext_getElem?;intro j
  by_cases hj:j<n
  ·simp [madeCells,hj,bD,aU,Nat.mod_one]
  ·rw [List.getElem?_eq_none (by simp [madeCells];omega),List.getElem?_eq_none (by rw [fM,hl];omega)]
theorem xU (n:Nat) (w:World) (h:n<=65536) :
  Calls Tryz.prog 70 #[.int .i64 (n:Int)] w λe w'=>∃B F gr,e=.returned (.tuple #[.pointer (some ⟨B.n0,0,none⟩),.int .i64 0])/\ShAt w' B F [] gr (NS.new n) 0/\aa [] w w'/\∀x,x∈B.blk F [] gr->w.heap.size<=x:=by
 have hmk:=run_make_row' (P:=Tryz.prog) 77 3 (.int .i64 0) 8 Tryz.underlying77 dO rfl .i64 .i64 n ω ω
 go_enter Tryz.func70,Tryz.ntmps70
 go_wp2_with (first
  | ((go_at_call 84;(with_reducible refine (gu n _ h).mono ?_));rintro e w1 ⟨c,F,rfl,hC,hu1,hF⟩)
  | fail)
 go_ret2;have l1:=hu1.size;have l7:=hC.lt;have hv:aa [] w1 (w1.alloc (.cells #[.pointer none] 298)):=(aa.refl _ _).alloc _;obtain ⟨w2,hw2⟩:∃w2,w2=w1.alloc (.cells #[.pointer none] 298):=⟨_,rfl⟩;have e2:w2.heap.size=w1.heap.size+1:=by rw [hw2,Κ]
 have hz:=Cb w2 n h;obtain ⟨w3,hw3⟩:∃w3,w3=w2.alloc (.cells (madeCells #[.int .i64 0] n) 3):=⟨_,rfl⟩;have e3:w3.heap.size=w1.heap.size+1+1:=by rw [hw3,Κ,e2]
 have hh:=aY w3 [.pointer (some ⟨c,0,none⟩),.slice (some ⟨w1.heap.size,0,none⟩) 1 1,.slice (some ⟨w1.heap.size+1,0,none⟩) n n] 210;rw [e3] at hh;have Fw:aa [] w2 w3:=by rw [hw3];exact (aa.refl _ _).alloc _
 have hv3:aa [] w3 (w3.alloc (.cells #[.pointer (some ⟨c,0,none⟩),.slice (some ⟨w1.heap.size,0,none⟩) 1 1,.slice (some ⟨w1.heap.size+1,0,none⟩) n n] 210)):=(aa.refl _ _).alloc _;have Hy:aa [] w1 w2:=by rw [hw2];exact hv
 have ho:=kG w1 [.pointer none] 298 0 1 1 rfl ω μ;rw [←hw3,e2] at hz;have hnF:∀x,w1.heap.size<=x->x∉F:=λx hx hm=>by have:=l7 x hm;omega
 have hno:∀k:Nat,aR (NS.new n) k=false:=λk=>fQ n k;have hrep:(List.replicate n 0).length=n:=σ;rw [←hw2,←hw3]
 refine ⟨⟨w1.heap.size+1+1,c,w1.heap.size+1⟩,F,w1.heap.size,rfl,⟨1,λ_=>none,λ_=>[],λ_=>[],List.replicate n 0,⟨?_,((hC.ah Hy).ah Fw).ah hv3,⟨?_,λk hk=>?_,λk hk=>?_,λk j hk=>?_,λz hz=>by simp at hz,σ⟩,?_,?_,⟨hnF _ (by first|omega|(simp only;omega)),hnF _ ω,hnF _ (by first|omega|(simp only;omega))⟩,⟨by simp only;omega,by simp only;omega,by simp only;omega⟩,λz hz=>by simp at hz⟩,⟨⟨λk hk=>?_,λk hk=>?_,λk x hk=>?_⟩,λk hk=>?_⟩⟩,((hu1.trans Hy).trans Fw).trans hv3,λx hx=>?_⟩
 ·rw [hrep];exact hh
 ·rw [←hw2] at ho;exact ay (ay ho Fw σ) hv3 σ
 ·unfold fJ at hk;rw [hno] at hk;cases hk
 ·unfold fJ at hk;rw [hno] at hk;cases hk
 ·unfold fJ at hk;rw [hno] at hk;cases hk
 ·rw [hrep];exact hz.upd hv3 σ
 ·simp [NS.new]
 ·rw [hno] at hk;cases hk
 ·rw [hno] at hk;cases hk
 ·rw [hno] at hk;cases hk
 ·rw [hno] at hk;cases hk
 ·simp only [HB.blk,ρ,Υ] at hx;rcases hx with rfl|rfl|rfl|hx
  ·omega
  ·omega
  ·omega
  ·exact hF x hx
section
variable {w:World} {B:HB} {F Z:List Nat} {gr st:Nat} {A:NS}
theorem xV (h:ShAt w B F Z gr A st) (hl:65536<A.hs.length) :
  Calls Tryz.prog 264 #[.pointer (some ⟨B.n0,0,none⟩)] w λe w'=>e=.returned (.int .i64 0)/\Goes (B.blk F Z gr) w w' (λF'=>∃F1,F'=B.blk F1 Z gr/\ShAt w' B F1 Z gr A st):=by
 obtain ⟨cr,ptr,G,L,T,hM,hI⟩:=h;have k:=cZ hM.cells;have e1:aT A=0:=by unfold aT;rw [Δ hl]
 have e2:ag A=A:=by unfold ag;rw [Δ hl]
 rw [e1,e2] at k;have h0:=hM.h0;have HM:=χ (ψ hM hI);clear hM hI e1 e2
 go_enter Tryz.func264,Tryz.ntmps264
 go_wp2_with (first|((go_at_call 140;(with_reducible refine (k).mono ?_));rintro e w1 ⟨rfl,F1,hC,hu,hF⟩))
 go_ret;refine ⟨rfl,B.blk F1 Z gr,⟨F1,rfl,cr,ptr,G,L,T,HM.out.1.fw hu hC hF rfl rfl,HM.out.2⟩,hu.mono (λy hy=>by simp [HB.blk,hy]),λx hx=>?_⟩;simp only [HB.blk,ρ,τ] at hx ⊢;rcases hx with rfl|rfl|rfl|hx|hx
 ·simp
 ·simp
 ·simp
 ·rcases hF x hx with h|h
  ·simp [h]
  ·exact Β h
 ·simp [hx]
theorem uh (h:ShAt w B F Z gr A st) (hl:¬65536<A.hs.length) :
  Calls Tryz.prog 264 #[.pointer (some ⟨B.n0,0,none⟩)] w λe w'=>e=.returned (.int .i64 (A.hs.length:Int))/\Goes (B.blk F Z gr) w w' (λF'=>∃F1 Z1 qM,F'=B.blk F1 Z1 qM/\ShAt w' B F1 Z1 qM (ag A) st):=by
 obtain ⟨cr,ptr,G,L,T,hM,hI⟩:=h;have k:=cZ hM.cells;have e1:aT A=A.hs.length:=by unfold aT;rw [Γ hl]
 rw [e1] at k;have gW:(ag A).hs.length=A.hs.length+1:=by unfold ag;rw [Γ hl];simp
 have hh0:=hM.cells.ok.h0;have hIp:Gb (ag A) (d9 L A.hs.length []) T:=by
  refine ⟨hI.di.make ω hM.cells.ok hl ω,λk hk j x hj=>?_⟩
  by_cases e:k=A.hs.length
  ·subst e;rw [aX] at hj;simp at hj
  ·rw [aN _ _ e] at hj;rw [jX A hl ω] at hk;exact hI.yQ k (by simpa [e] using hk) j x hj
 have h0:=hM.h0;have HM:=χ (ψ hM (ψ hIp gW));clear hM hI e1 hIp gW;generalize hm:A.hs.length=m at *;have rE:=χ hm;clear hm
 go_enter Tryz.func264,Tryz.ntmps264
 go_wp2_with (first
  | ((go_at_call 140;(with_reducible refine (k).mono ?_));rintro e w1 ⟨rfl,F1,hC,hu,hF⟩;(have q2:=hu.kept HM.out.1.h1 HM.out.1.aS.1);(have f2:=hu.aF HM.out.1.h1 HM.out.1.aS.1 (HM.out.1.head.free 1));(have ho1:=ay HM.out.1.gM.rows hu (λk hk hm=>by cases hk;exact HM.out.1.aS.2.1 hm));(rw [rE.out] at q2 ho1);(have ho2:(w1.alloc (.cells #[.pointer (some ⟨B.n0,0,none⟩),.slice none 0 0] 302)).ownsRow _ _ _ _ _ _:=ay ho1 ((aa.refl [] w1).alloc (.cells #[.pointer (some ⟨B.n0,0,none⟩),.slice none 0 0] 302)) σ))
  | (at_builtin;refine aL rfl _ _ 208 rfl 0 298 (.pointer none) 1 8 Tryz.underlying208 E8 rfl δ _ _ _ rfl (ho2) [nZ (some w1.heap.size)] rfl (by simp [Value.oneCell',nZ]) (by first|rfl|(rw [Κ];rfl)) μ ω ω ?_;intro v3 w3 ho3 hu3 sN;(have hu3:aa [gr] (w1.alloc (.cells #[.pointer (some ⟨B.n0,0,none⟩),.slice none 0 0] 302)) w3:=hu3);obtain ⟨g3,c3,ev, -⟩:=dI ho3 ω;subst ev;(have q3:(w1.alloc (.cells #[.pointer (some ⟨B.n0,0,none⟩),.slice none 0 0] 302)).cell? ⟨B.n0,1,none⟩=_:=((aa.refl [] w1).alloc _).was q2);(have f3:(w1.alloc (.cells #[.pointer (some ⟨B.n0,0,none⟩),.slice none 0 0] 302)).frozen? ⟨B.n0,1,none⟩=false:=((aa.refl [] w1).alloc _).aF q2 σ f2);(have d4:=hu3.kept q3 (by simp;exact HM.out.1.sep.1));(have f4:=hu3.aF q3 (by simp;exact HM.out.1.sep.1) f3))
  | fail)
 go_ret;obtain ⟨hM,hI2,gW⟩:=HM.out;have hlt:=hM.lt;have l0:=hlt B.n0 (by simp [HB.blk]);have l1:=hlt gr (by simp [HB.blk]);have l2:=hlt B.ga (by simp [HB.blk]);have hs1:=hu.size;have hs3:=hu3.size;rw [Κ] at hs3;have iU:=hC.lt;have hrow:=aY w1 [.pointer (some ⟨B.n0,0,none⟩),.slice none 0 0] 302;have CG:aa [] w1 (w1.alloc (.cells #[.pointer (some ⟨B.n0,0,none⟩),.slice none 0 0] 302)):=(aa.refl _ _).alloc _;have hg3:g3=gr\/w1.heap.size+1<g3:=by
  rcases sN with h|h
  ·exact Α (Option.some.inj h)
  ·right;have:=h g3 rfl;rwa [Κ] at this
 have hw4:aa [B.n0] w3 (w3.setCell ⟨B.n0,1,none⟩ (.slice (some ⟨g3,0,none⟩) (m+1) c3)):=β;have hnF:∀y,y<w.heap.size->y∉F->y∉F1:=λy hy hn hm=>by rcases hF y hm with h'|h';exact hn h';omega
 have F8:B.n0≠g3:=by have:=hM.sep.1;omega
 have EP:g3∉F1:=by
  rcases hg3 with e|e
  ·rw [e];exact hnF gr l1 hM.aS.2.1
  ·exact λhm=>by have:=iU g3 hm;omega
 have AO:∀z,z∈F1->z≠gr/\z≠B.n0:=λz hz=>⟨λe=>hnF gr l1 hM.aS.2.1 (by rw [←e];exact hz),λe=>hnF _ l0 hM.aS.1 (by rw [←e];exact hz)⟩
 have hRk:(Gj B).at_ (w3.setCell ⟨B.n0,1,none⟩ (.slice (some ⟨g3,0,none⟩) (m+1) c3)) w1.heap.size [w1.heap.size] []:=by
  refine ⟨.slice none 0 0,((hrow.ext (λj hj=>rfl)).upd hu3 ζ).upd hw4 ζ,⟨rfl,Α ⟨rfl,rfl⟩⟩,rfl,λg hg=>by cases hg⟩
 have huA:aa (B.n0::gr::F) w (w3.setCell ⟨B.n0,1,none⟩ (.slice (some ⟨g3,0,none⟩) (m+1) c3)):=(((hu.mono (λy hy=>by simp [hy])).then CG).trans (hu3.mono (λy hy=>by simp at hy;simp [hy]))).trans (hw4.mono (λy hy=>by simp at hy;simp [hy]))
 have hfs:=hM.gM.snoc (by rw [rE.out];cases hh:fJ A m with
  | false=>rfl
  | true=>have:=(aA _ _).1 hh;have:=rE.out;omega) huA (λz hz=>by
   simp only [ρ] at hz;rcases hz with rfl|rfl|hz
   ·exact λhm=>(hM.dX _ hm).2.1 rfl
   ·exact hM.gM.CU
   ·exact λhm=>(hM.dX z hm).1 hz) hRk (λz hz=>by simp at hz;omega) (FO:=g3) (IC:=c3) (by
   rcases hg3 with e|e
   ·rw [e];exact hM.gM.CU
   ·exact λhm=>by have:=hM.gM.vX _ hm;omega) ζ (by rw [rE.out];exact ay ho3 hw4 (λk hk hm=>by cases hk;simp at hm;exact F8 hm.symm))
 rw [rE.out] at hfs;have JK:(λh=>fJ A h || h == m)=fJ (ag A):=funext λq=>by unfold fJ;rw [←rE.out];exact (jX A (by rw [rE.out];exact hl) (by have:=rE.out;omega) q).symm
 rw [JK] at hfs;have hcs:(ag A).cs.length=A.cs.length:=by unfold ag;split<;>rfl
 refine ⟨rfl,B.blk F1 (Z++[w1.heap.size]) g3,⟨F1,Z++[w1.heap.size],g3,rfl,c3,d9 ptr m (some w1.heap.size),d9 G m [w1.heap.size],d9 L m [],T,⟨?_,?_,by rw [gW];exact hfs,?_,by rw [hcs];exact hM.tl,⟨hnF _ l0 hM.aS.1,EP,hnF _ l2 hM.aS.2.2⟩,⟨F8,hM.sep.2.1,by have:=hM.sep.2.2;omega⟩,λz hz=>?_⟩,hI2⟩,huA.mono (λy hy=>?_),λy hy=>?_⟩
 ·rw [gW];refine ((((hM.head.upd hu hM.aS.1).upd CG σ).upd hu3 (by simp;exact hM.sep.1)).set 1 _).ext (λj hj=>?_);rcases (ω:j=0\/j=1\/j=2) with rfl|rfl|rfl<;>rfl
 ·exact ((hC.ah CG).upd hu3 (λz hz hm=>by simp at hz;exact (AO z hm).1 hz)).upd hw4 (λz hz hm=>by simp at hz;exact (AO z hm).2 hz)
 ·exact (((hM.oN.upd hu hM.aS.2.2).upd CG σ).upd hu3 (by simp;exact hM.sep.2.2)).upd hw4 (by simp;exact hM.sep.2.1)
 ·rcases τ.1 hz with h|h
  ·exact ⟨hnF z (hM.gM.vX z h) (hM.dX z h).1,(hM.dX z h).2⟩
  ·simp at h;subst h;exact ⟨λhm=>by have:=iU _ hm;omega,ω,ω⟩
 ·simp only [HB.blk,ρ,τ] at hy ⊢;rcases hy with h|h|h
  ·exact Α h
  ·exact Β (Α h)
  ·exact Β (Β (Β (Α h)))
 ·simp only [HB.blk,ρ,τ,ς,or_false] at hy ⊢;rcases hy with h|h|h|h|h|h
  ·exact Α (Α h)
  ·rcases hg3 with e|e
   ·exact Α (Β (Α (by rw [h,e])))
   ·exact Β ω
  ·exact Α (Β (Β (Α h)))
  ·rcases hF y h with h|h
   ·exact Α (Β (Β (Β (Α h))))
   ·exact Β h
  ·exact Α (Β (Β (Β (Β h))))
  ·exact Β ω
end
theorem lU.ready {d:Nat} {A:NS} {L:Nat->List Nat} (h:lU d A L) (hd:2<=d) (ok:A.Ok) {g x:Nat} {k s:Int} (hB:iq A g x=true) :
  x∉L g/\(L g).length+1<=A.cs.length/\Hp (om (af A g x k s)) d (L g)/\(∀y,y∈x::L g->dh (af A g x k s) (y:Int)=true)/\(∀y,y∈x::L g->y<A.cs.length):=by
 obtain ⟨b1,b2,b3⟩:=(bG _ _ _).1 hB;have hx:x<A.cs.length:=by have:=(bS _ _).1 b2;omega
 have hg0:=(aA _ _).1 b1;have hc:∀y,(af A g x k s).c y=if y=x then ⟨g,k,s⟩ else A.c y:=λy=>by
  unfold af;rw [Δ hB,π,fE]
  by_cases e:y=x
  ·rw [Δ ⟨e,hx⟩,Δ e]
  ·rw [Γ (λh=>e h.1),Γ e]
 have hl:(af A g x k s).cs.length=A.cs.length:=by unfold af;rw [Δ hB,bU]
 have F9:x∉L g:=λhm=>by
  have:=(h.len b1 hm).2.1;rw [this] at b3;cases b3
 have hlt:∀y,y∈x::L g->y<A.cs.length:=λy hy=>by
  rcases ρ.1 hy with e|e
  ·rw [e];exact hx
  ·exact (h.len b1 e).1
 refine ⟨F9,?_,lU.frame (h.hp g b1) hd (λy hy=>by rw [hc,Γ (λe=>F9 (by rw [←e];exact hy))]),λy hy=>?_,hlt⟩
 ·have h1:=nodup_range A.cs.length ((x::L g).map (λ(x:Nat)=>(x:Int))) (by
   have hn:=Ζ.2 ⟨F9,h.nd g b1⟩;unfold List.Nodup at hn ⊢;rw [List.pairwise_map];exact hn.imp (λh e=>h ω)) (λz hz=>by
   obtain ⟨y,hy,rfl⟩:=List.mem_map.1 hz
   have:=hlt y hy;omega)
  simpa using h1
 ·refine (aK _ _).2 ⟨by rw [hl];exact hlt y hy,?_⟩;rw [hc]
  by_cases e:y=x
  ·rw [Δ e];simp only;omega
  ·rw [Γ e];rcases ρ.1 hy with e2|e2
   ·exact absurd e2 e
   ·have:=(h.len b1 e2).2.2;omega
section
variable {w w':World} {B:DB} {F Z:List Nat} {gr cr st:Nat} {A:NS} {ptr:Nat->Option Nat} {G L:Nat->List Nat}
theorem lN.clear (h:lN w B F Z gr cr A st ptr G L) {g:Nat} (hg:aR A g=true):∀z,z∈G g->z∉(Hr B F A h.cells.mem).rd:=λz hz hm=>by
 have h1:=h.dX z (h.gM.qa g hg z hz);rcases ρ.1 hm with e|e
 ·exact h1.2 e
 ·exact h1.1 e
theorem lN.zL (h:lN w B F Z gr cr A st ptr G L) {g rp:Nat} (hg:aR A g=true) (hp:ptr g=some rp) {G' L':List Nat} (hu:aa (G g++[B.c]) w w') (hr:iR w' rp G' B.d L') (hG:∀z,z∈G'->z∈G g\/w.heap.size<=z) (hO:(Hr B F A h.cells.mem).at_ w') :
  ∃st',lN w' B F (Z++G') gr cr A st' ptr (d9 G g G') (d9 L g L'):=by
 obtain ⟨h1, -,st',h2⟩:=hO;have hcl:=h.clear hg;have qz:=h.cells.mem;have hsl:=h.lt;refine ⟨st',⟨h.head.upd hu (λhm=>?_),h2,h.gM.one hg hp hu (λz hz=>?_) hr hG,h.aS,λz hz=>?_,h.dd⟩⟩
 ·rcases τ.1 hm with e|e
  ·exact hcl _ e (ρ.2 (Α rfl))
  ·simp at e;exact h.aS.1 (by rw [e];exact qz)
 ·rcases τ.1 hz with e|e
  ·exact Α e
  ·simp at e;refine Β ⟨λe2=>h.aS.2.1 (by rw [←e2,e];exact qz),λhm=>(h.dX z hm).1 (by rw [e];exact qz)⟩
 ·rcases τ.1 hz with e|e
  ·exact h.dX z e
  ·rcases hG z e with e2|e2
   ·exact h.dX z (h.gM.qa g hg z e2)
   ·exact ⟨λhm=>by have:=hsl z (by simp [DB.blk,hm]);omega,λe3=>by have:=hsl B.n0 (by simp [DB.blk]);omega⟩
def GH (B:DB) (F Z:List Nat) (gr cr:Nat) (A':NS) (st:Nat) (ptr:Nat->Option Nat) (G L:Nat->List Nat) (g rp x:Nat) (w2:World):Prop:=lN w2 B F Z gr cr A' st ptr G L/\∀Y,aa [] w2 Y->
   Calls Tryz.prog 139 #[.pointer (some ⟨rp,0,none⟩),.iface 122 (.pointer (some ⟨B.n0,0,none⟩)),.int .i64 (x:Int)] Y λe w'=>e=.returned (.bool true)/\∃G' L',iR w' rp G' B.d L'/\L'.Perm (x::L g)/\Hp (om A') B.d L'/\(∃hc,(Hr B F A' hc).at_ w')/\aa (G g++[B.c]) Y w'/\∀z,z∈G'->z∈G g\/Y.heap.size<=z
theorem rO (h:iX w B F Z gr A st) (g x:Nat) (k s:Int) (hk:-9223372036854775808<=k/\k<=9223372036854775807/\0<=s/\s<=18446744073709551615) (hB:iq A g x=true) :
  Calls Tryz.prog 125 #[.pointer (some ⟨B.n0,0,none⟩),.int .i64 (g:Int),.int .i64 (x:Int),.agg #[.int .i64 k,.int .u64 s]] w λe w'=>e=.returned (.bool true)/\Goes (B.blk F Z gr) w w' (λF'=>∃Z' st',F'=B.blk F Z' gr/\iX w' B F Z' gr (af A g x k s) st'):=by
 obtain ⟨cr,ptr,G,L,hM,hI⟩:=h;have hb1:=(bG _ _ _).1 hB;have hgN:=(aA _ _).1 hb1.1;have hok:=hM.cells.ok;have hcs:=hok.c1;obtain ⟨r1,r2,r3,r4,r5⟩:=hI.ready hM.dd.1 hok (k:=k) (s:=s) hB;obtain ⟨rp,hp,hR⟩:=hM.gM.row g hb1.1;have oo:(af A g x k s).hs=A.hs:=by unfold af;rw [Δ hB];rfl
 have iM:aR (af A g x k s) g=true:=by have:=hb1.1;unfold aR at this ⊢;rw [oo];exact this
 have DJ:∀X w2,aa [] w X->ai w2 B.c F (af A g x k s) st->aa F X w2->GH B F Z gr cr (af A g x k s) st ptr G L g rp x w2:=by
  intro X w2 hX hC2 hu2;have hM2:=(hM.ah hX).fw hu2 hC2 (λx hx=>Α hx) oo;refine ⟨hM2,λY hY=>?_⟩;have IM:=hM2.ah hY;obtain ⟨rp',hp',hRY⟩:=IM.gM.row g iM;rw [hp] at hp';cases hp';have Kw:iR Y rp (G g) B.d (L g):=hRY;refine (yY (Hr B F (af A g x k s) IM.cells.mem) IM.ord Kw hM.dd ω r3 x r1 (hI.nd g hb1.1) r4 (λy hy=>by have:=r5 y hy;omega) (IM.clear iM)).mono ?_;rintro e w' ⟨rfl,G',L',h1,h2,h3,h4,h5,h6⟩;exact ⟨rfl,G',L',h1,h2,h3,⟨_,h4⟩,h5,h6⟩
 have Bg:∀W (hW:aa [] w W),Calls Tryz.prog 138 #[.pointer (some ⟨B.c,0,none⟩),.int .i64 (g:Int),.int .i64 (x:Int),.agg #[.int .i64 k,.int .u64 s]] W λe w2=>e=.returned (.bool true)/\aa F W w2/\GH B F Z gr cr (af A g x k s) st ptr G L g rp x w2:=λW hW=>(fZ (hM.ah hW).cells g x k s hk hB).mono (λe w2 h=>by
  obtain ⟨rfl,hC2,hu2⟩:=h
  exact ⟨rfl,hu2,DJ W w2 hW hC2 hu2⟩)
 have c0:=hM.h0;have c2:=hM.h2;have cg:=hM.gM.cell ω hp;have hlt:=hM.lt;have HX:=χ (ψ hM (ψ hI (ψ hok (ψ hB (ψ hp (ψ iM hlt))))));have n1:B.n0∉F++Z:=λhm=>by rcases τ.1 hm with e|e;exact hM.aS.1 e;exact (hM.dX _ e).2 rfl
 have n2:gr∉F++Z:=λhm=>by rcases τ.1 hm with e|e;exact hM.aS.2.1 e;exact hM.gM.CU e
 have n3:∀z,z∈F++Z->z<w.heap.size:=λz hm=>hlt z (by simp only [DB.blk,ρ,τ] at hm ⊢;exact Β (Β hm));have JF:(g:Int)<(A.hs.length:Int):=ω;have hgz:∀z,z∈G g++[B.c]->z∈F++Z:=λz hz=>by
  rcases τ.1 hz with e|e
  ·exact τ.2 (Β (hM.gM.qa g hb1.1 z e))
  ·simp at e;rw [e];exact τ.2 (Α hM.cells.mem)
 clear hM hI hok hB hp iM hlt hR r1 r3 r4 r5 hb1 hgN r2 hcs oo;generalize A.hs.length=m at *
 go_enter Tryz.func125,Tryz.ntmps125
 go_upto_region 1 with (fail)
 refine dW (λW=>W.cell? ⟨w.heap.size,0,none⟩=some (.int .i64 k)/\W.cell? ⟨w.heap.size,1,none⟩=some (.int .u64 s)/\aa [] w W) ⟨γ,γ,β⟩ ?_;rintro W ⟨x0,x1,hW⟩;have hb:w.heap.size∉F++Z:=λhm=>by have:=n3 _ hm;omega
 have e0:∀X,aa (F++Z) W X->X.cell? ⟨w.heap.size,0,none⟩=some (.int .i64 k):=λX h=>h.kept x0 hb;have e1:∀X,aa (F++Z) W X->X.cell? ⟨w.heap.size,1,none⟩=some (.int .u64 s):=λX h=>h.kept x1 hb;have e2:∀X,aa (F++Z) W X->X.cell? ⟨B.n0,0,none⟩=some (.pointer (some ⟨B.c,0,none⟩)):=λX h=>h.kept (hW.was c0) n1;have e3:∀X,aa (F++Z) W X->X.cell? ⟨B.n0,2,none⟩=some (.slice (some ⟨gr,0,none⟩) m cr):=λX h=>h.kept (hW.was c2) n1;have e4:∀X,aa (F++Z) W X->X.cell? ⟨gr,g,none⟩=some (.pointer (some ⟨rp,0,none⟩)):=λX h=>h.kept (hW.was cg) n2;have HW:=χ hW
 have wQ:=λX (hX:aa [] W X)=>Bg X (hW.trans hX);clear x0 x1 hW Bg c0 c2 cg
 go_region_held3 (aa (F++Z) W) (exact ν)
  (first
   | ((go_at_call 138;(with_reducible refine (wQ _ ν).mono ?_));rintro e w2 ⟨rfl,hu2,hM2,AL⟩;(have hv2:aa (F++Z) W w2:=aa.trans ν (hu2.mono (λz hz=>τ.2 (Α hz)))))
   | ((go_at_call 139;(with_reducible refine (AL _ ν).mono ?_));rintro e w3 ⟨rfl,G',L',rU,hp3,hH3,hO3,hu3,hG3⟩;(have hv3:aa (F++Z) W w3:=aa.trans ν (hu3.mono hgz))))
 obtain ⟨hM,hI,hok,hB,hp,iM,hlt⟩:=HX.out;obtain ⟨hc3,hO3⟩:=hO3;have GX:∀z,z∈G'->z∈G g\/w2.heap.size<=z:=hG3;have KC:aa (G g++[B.c]) w2 w3:=aa.trans ν hu3;obtain ⟨st',Dx⟩:=hM2.zL iM hp KC rU GX hO3;have Jq:=hI.put hM.dd.1 hok hB hp3 hH3;go_wp2;go_ret;have hsz:=(HW.out).size;have hsz2:=hv2.size;refine ⟨rfl,B.blk F (Z++G') gr,⟨Z++G',st',rfl,cr,ptr,_,_,Dx,Jq.1⟩,((HW.out).mono σ).trans (hv3.mono (λz hz=>?_)),λz hz=>?_⟩
 ·simp only [DB.blk,ρ,τ] at hz ⊢;exact Β (Β hz)
 ·simp only [DB.blk,ρ,τ] at hz ⊢;rcases hz with h|h|h|h|h
  ·exact Α (Α h)
  ·exact Α (Β (Α h))
  ·exact Α (Β (Β (Α h)))
  ·exact Α (Β (Β (Β h)))
  ·rcases GX z h with h|h
   ·have:=hgz z (τ.2 (Α h));rcases τ.1 this with h|h
    ·exact Α (Β (Β (Α h)))
    ·exact Α (Β (Β (Β h)))
   ·exact Β ω
end
section
variable {w w':World} {B:HB} {F Z:List Nat} {gr cr st:Nat} {A:NS} {ptr:Nat->Option Nat} {G L:Nat->List Nat} {T:List Nat}
theorem Gb.turn {A':NS} {g:Nat} {l T':List Nat} (h:Gb A L T) (hd:lU 2 A' (d9 L g l)) (hh:∀k:Nat,aR A' k=aR A k) (hg:aR A g=true) (hl:∀j x,l[j]?=some x->T'.getD x 0=j) (ho:∀x,x∉l->x∉L g->T'.getD x 0=T.getD x 0) (hm:∀k x,k≠g->aR A k=true->x∈L k->x∉l/\x∉L g):Gb A' (d9 L g l) T':=by
 refine ⟨hd,λk hk j x hj=>?_⟩;rw [hh] at hk
 by_cases e:k=g
 ·subst e;rw [aX] at hj;exact hl j x hj
 ·rw [aN _ _ e] at hj;have hx:=hm k x e hk (Η hj);rw [ho x hx.1 hx.2];exact h.yQ k hk j x hj
theorem lU.apart (h:lU 2 A L) {k g x:Nat} (e:k≠g) (hk:aR A k=true) (hg:aR A g=true) (hx:x∈L k):x∉L g:=λhm=>by
 have h1:=(h.mem k x hk).1 hx;have h2:=(h.mem g x hg).1 hm;omega
def PuR (B:HB) (F Z:List Nat) (gr cr:Nat) (A':NS) (st:Nat) (ptr:Nat->Option Nat) (G L:Nat->List Nat) (T:List Nat) (g rp x:Nat) (v:Value) (w2:World):Prop:=ShM w2 B F Z gr cr A' st ptr G L T/\∀Y,aa [] w2 Y->
   Calls Tryz.prog 269 #[.iface 298 (.pointer (some ⟨rp,0,none⟩)),.iface 3 (.int .i64 (x:Int))] Y λe w'=>e=.returned (.tuple #[])/\J8 Y B F A' rp v (L g) T x w'
theorem pX (h:ShAt w B F Z gr A st) (g x:Nat) (k s:Int) (hk:-9223372036854775808<=k/\k<=9223372036854775807/\0<=s/\s<=18446744073709551615) (hB:iq A g x=true) :
  Calls Tryz.prog 263 #[.pointer (some ⟨B.n0,0,none⟩),.int .i64 (g:Int),.int .i64 (x:Int),.agg #[.int .i64 k,.int .u64 s]] w λe w'=>e=.returned (.bool true)/\Goes (B.blk F Z gr) w w' (λF'=>∃Z' st',F'=B.blk F Z' gr/\ShAt w' B F Z' gr (af A g x k s) st'):=by
 obtain ⟨cr,ptr,G,L,T,hM,hI⟩:=h;have hb1:=(bG _ _ _).1 hB;have hgN:=(aA _ _).1 hb1.1;have hok:=hM.cells.ok;have hcs:=hok.c1;obtain ⟨r1,r2,r3,r4,r5⟩:=hI.di.ready ω hok (k:=k) (s:=s) hB;have oo:(af A g x k s).hs=A.hs:=by unfold af;rw [Δ hB];rfl
 have Dv:(af A g x k s).cs.length=A.cs.length:=by unfold af;rw [Δ hB];exact bU _ _ _
 have iM:aR (af A g x k s) g=true:=by have:=hb1.1;unfold aR at this ⊢;rw [oo];exact this
 have hdom:∀y,y∈L g->dh (af A g x k s) (y:Int)=true/\y<T.length:=λy hy=>⟨r4 y (by simp [hy]),by rw [hM.tl];exact r5 y (by simp [hy])⟩
 obtain ⟨rp,hp,v, -, -,Gr, -⟩:=hM.gM.row g hb1.1;have DJ:∀X w2,aa [] w X->ai w2 B.c F (af A g x k s) st->aa F X w2->PuR B F Z gr cr (af A g x k s) st ptr G L T g rp x v w2:=by
  intro X w2 hX hC2 hu2;have hM2:=(hM.ah hX).fw hu2 hC2 (λx hx=>Α hx) oo Dv;refine ⟨hM2,λY hY=>?_⟩;obtain ⟨rp',v',hp',hG',hP⟩:=(hM2.ah hY).pile iM hdom (hI.di.nd g hb1.1) (hI.yQ g hb1.1);rw [hp] at hp';cases hp';rw [Gr] at hG';have ev:v'.ownBlock.toList=v.ownBlock.toList:=(List.cons.inj hG').2.symm;refine (xM hP x r1 (r4 x σ) (by rw [hM.tl];exact r5 x σ) (by rw [hM.tl];omega) r3).mono ?_;rintro e w' ⟨rfl,gs,cap,L',T',q1,q2,q3,q4,q5,q6,q7⟩;refine ⟨rfl,gs,cap,L',T',q1,q2,q3,q4,q5,by rw [←ev];exact q6,?_⟩;rcases q7 with e|e
  ·left;have:gs∈v.ownBlock.toList:=by rw [←ev];exact Option.mem_toList.2 e
   exact Option.mem_toList.1 this
  ·exact Β e
 have Bg:∀W (hW:aa [] w W),Calls Tryz.prog 138 #[.pointer (some ⟨B.c,0,none⟩),.int .i64 (g:Int),.int .i64 (x:Int),.agg #[.int .i64 k,.int .u64 s]] W λe w2=>e=.returned (.bool true)/\aa F W w2/\PuR B F Z gr cr (af A g x k s) st ptr G L T g rp x v w2:=λW hW=>(fZ (hM.ah hW).cells g x k s hk hB).mono (λe w2 h=>by
  obtain ⟨rfl,hC2,hu2⟩:=h
  exact ⟨rfl,hu2,DJ W w2 hW hC2 hu2⟩)
 have c0:=hM.h0;have c2:=hM.h1;have cg:=hM.gM.cell ω hp;have hlt:=hM.lt;have HX:=χ (ψ hM (ψ hI (ψ hok (ψ hB (ψ hp (ψ iM (ψ hlt (ψ Gr (ψ hb1.1 (ψ oo Dv))))))))));have n1:B.n0∉F:=hM.aS.1;have n2:gr∉F:=hM.aS.2.1;have n3:∀z,z∈F->z<w.heap.size:=λz hm=>hlt z (by simp only [HB.blk,ρ,τ];exact Β (Β (Β (Α hm))));have JF:(g:Int)<(A.hs.length:Int):=ω;clear hM hI hok hB hp iM hlt r1 r3 r4 r5 hb1 hgN r2 hcs oo Dv DJ hdom Gr;generalize A.hs.length=m at *
 go_enter Tryz.func263,Tryz.ntmps263
 go_upto_region 1 with (fail)
 refine dW (λW=>W.cell? ⟨w.heap.size,0,none⟩=some (.int .i64 k)/\W.cell? ⟨w.heap.size,1,none⟩=some (.int .u64 s)/\aa [] w W) ⟨γ,γ,β⟩ ?_;rintro W ⟨x0,x1,hW⟩;have hb:w.heap.size∉F:=λhm=>by have:=n3 _ hm;omega
 have e0:∀X,aa F W X->X.cell? ⟨w.heap.size,0,none⟩=some (.int .i64 k):=λX h=>h.kept x0 hb;have e1:∀X,aa F W X->X.cell? ⟨w.heap.size,1,none⟩=some (.int .u64 s):=λX h=>h.kept x1 hb;have e2:∀X,aa F W X->X.cell? ⟨B.n0,0,none⟩=some (.pointer (some ⟨B.c,0,none⟩)):=λX h=>h.kept (hW.was c0) n1;have e3:∀X,aa F W X->X.cell? ⟨B.n0,1,none⟩=some (.slice (some ⟨gr,0,none⟩) m cr):=λX h=>h.kept (hW.was c2) n1;have e4:∀X,aa F W X->X.cell? ⟨gr,g,none⟩=some (.pointer (some ⟨rp,0,none⟩)):=λX h=>h.kept (hW.was cg) n2;have HW:=χ hW;have wQ:=λX (hX:aa [] W X)=>Bg X (hW.trans hX)
 clear x0 x1 hW Bg c0 c2 cg
 go_region_held3 (aa F W) (exact ν)
  (first
   | ((go_at_call 138;(with_reducible refine (wQ _ ν).mono ?_));rintro e w2 ⟨rfl,hu2,hM2,AL⟩;(have hv2:aa F W w2:=aa.trans ν hu2)))
 have a3:=e3 w2 hv2;have a4:=e4 w2 hv2;have HV:=χ hv2;clear e0 e1 e2 e3 e4 wQ hv2 hu2
 go_wp2_with (first
  | ((go_at_call 269;(with_reducible refine (AL _ (aa.refl _ _)).mono ?_));rintro e w3 ⟨rfl,hQ⟩)
  | fail)
 go_ret;obtain ⟨hM,hI,hok,hB,hp,iM,hlt,Gr,hg1,oo,Dv⟩:=HX.out;obtain ⟨gs,cap,L',T',q1,q2,q3,q4,q5,q6,q7⟩:=hQ;have hPE:=q1.any;have DY:∀z,z∈rp::v.ownBlock.toList->z∈G g:=λz hz=>by rw [Gr];exact hz
 obtain ⟨st',Dx⟩:=hM2.zL (g:=g) iM hp q6 (λz hz=>by
  simp only [ρ] at hz;rcases hz with e|e|e|e
  ·exact Α (DY z (by simp [e]))
  ·exact Β (Α e)
  ·exact Β (Β e)
  ·exact Α (DY z (Λ _ e))) (DY rp σ) hPE q5 (λk hk=>by
  cases hk;rcases q7 with e|e
  ·exact Α (DY _ (Λ _ (Option.mem_toList.2 e)))
  ·exact Β e)
 have Jq:=hI.di.put ω hok hB q2 q3
 have hsd:Gb (af A g x k s) (d9 L g L') T':=hI.turn Jq.1 (λq=>by unfold aR;rw [oo]) hg1 q1.yQ (λy h1 h2=>q4 y (λhm=>h1 (q2.mem_iff.2 hm))) (λq y e hq hy=>by
  have h2:=hI.di.apart e hq hg1 hy;refine ⟨λhm=>?_,h2⟩;rcases ρ.1 (q2.mem_iff.1 hm) with e3|e3
  ·subst e3;have h4:=(hI.di.mem q y hq).1 hy;have h5:=((bG _ _ _).1 hB).2.2;have h6:=(aA _ _).1 hq;rw [(aK A y).2 ⟨h4.1,ω⟩] at h5;cases h5
  ·exact h2 e3)
 have hsz:=HW.out.size;have hsz2:=HV.out.size;have hbl:∀z,z∈F->z∈B.blk F Z gr:=λz hz=>by simp only [HB.blk,ρ,τ];exact Β (Β (Β (Α hz)))
 have hbz:∀z,z∈G g->z∈B.blk F Z gr:=λz hz=>by simp only [HB.blk,ρ,τ];exact Β (Β (Β (Β (hM.gM.qa g hg1 z hz))))
 refine ⟨rfl,B.blk F (Z++(rp::Option.toList (some gs))) gr,⟨_,st',rfl,cr,ptr,_,_,T',Dx,hsd⟩,((HW.out.mono σ).trans (HV.out.mono hbl)).trans (q6.mono (λz hz=>?_)),λz hz=>?_⟩
 ·simp only [ρ] at hz;rcases hz with e|e|e|e
  ·exact hbz z (DY z (by simp [e]))
  ·simp [HB.blk,e]
  ·exact hbl z (by rw [e];exact hM.cells.mem)
  ·exact hbz z (DY z (Λ _ e))
 ·simp only [HB.blk,ρ,τ,Option.toList_some,ς,or_false] at hz;rcases hz with h|h|h|h|h|h|h
  ·left;simp [HB.blk,h]
  ·left;simp [HB.blk,h]
  ·left;simp [HB.blk,h]
  ·exact Α (hbl z h)
  ·left;simp [HB.blk,h]
  ·exact Α (hbz z (DY z (by simp [h])))
  ·rcases q7 with e|e
   ·exact Α (hbz z (DY z (Λ _ (by rw [h];exact Option.mem_toList.2 e))))
   ·exact Β ω
end
end Go.Proofs.YtnpdakpagnpanaaGreat
namespace Go.Proofs.YtnpdakpagnpanaaGreat
open Go.RowKit
def arity (k d:Int):Int:=if k=1 then 2 else d
theorem xK (k d:Int) (hc:jE k d=0) (w:World) :
  Calls Tryz.prog 58 #[.agg #[.int .i64 k,.int .i64 d]] w λe w'=>e=.returned (.int .i64 (arity k d))/\aa [] w w':=by
 have kc:=λW=>jq k d W;rw [hc] at kc;unfold arity;clear hc
 by_cases h1:k=1
 ·rw [Δ h1];subst h1
  go_enter Tryz.func58,Tryz.ntmps58
  go_wp2_with (first|((go_at_call 33;(with_reducible refine (kc _).mono ?_));rintro e w1 ⟨rfl,hb⟩;obtain ⟨hc,hf⟩:=DU hb)|fail)
  go_ret;exact ⟨rfl,((aa.refl _ _).alloc _).trans (hb.mono σ)⟩
 ·rw [Γ h1];have h2:(k == 1)=false:=by simpa using h1
  go_enter Tryz.func58,Tryz.ntmps58
  go_wp2_with (first|((go_at_call 33;(with_reducible refine (kc _).mono ?_));rintro e w1 ⟨rfl,hb⟩;obtain ⟨hc,hf⟩:=DU hb)|fail)
  go_ret;exact ⟨rfl,((aa.refl _ _).alloc _).trans (hb.mono σ)⟩
end Go.Proofs.YtnpdakpagnpanaaGreat
namespace Go.Proofs.YtnpdakpagnpanaaGreat
open Go Go.RowKit
theorem vN (p c:Nat):∀W:World,W.cell? ⟨p,0,none⟩=some (.pointer (some ⟨c,0,none⟩))->(method 409 122 (.pointer (some ⟨p,0,none⟩)) "Has").run Tryz.prog W=.ok (123,.pointer (some ⟨c,0,none⟩)) W:=(by intro W h;unfold method;have hm:∃m,(Array.find? (λx=>x.name == "Has") Tryz.t122.methods)=some m/\m.path.toList=[⟨179,0,true⟩]/\m.func=some (123,true)/\m.path.isEmpty=false:=⟨(Array.find? (λx=>x.name == "Has") Tryz.t122.methods).get!,by kernel_rfl,by kernel_rfl,by kernel_rfl,by kernel_rfl⟩;obtain ⟨m,h1,h2,h3,h4⟩:=hm;go_simp;simp only [follow,Place.get];go_simp;(try unfold receiverAt);(try simp only [Place.get]);(try go_simp))
theorem qj (p c:Nat):∀W:World,W.cell? ⟨p,0,none⟩=some (.pointer (some ⟨c,0,none⟩))->(method 409 122 (.pointer (some ⟨p,0,none⟩)) "Entry").run Tryz.prog W=.ok (121,.pointer (some ⟨c,0,none⟩)) W:=(by intro W h;unfold method;have hm:∃m,(Array.find? (λx=>x.name == "Entry") Tryz.t122.methods)=some m/\m.path.toList=[⟨179,0,true⟩]/\m.func=some (121,true)/\m.path.isEmpty=false:=⟨(Array.find? (λx=>x.name == "Entry") Tryz.t122.methods).get!,by kernel_rfl,by kernel_rfl,by kernel_rfl,by kernel_rfl⟩;obtain ⟨m,h1,h2,h3,h4⟩:=hm;go_simp;simp only [follow,Place.get];go_simp;(try unfold receiverAt);(try simp only [Place.get]);(try go_simp))
theorem BM (p:Nat):∀W:World,(method 409 122 (.pointer (some ⟨p,0,none⟩)) "Make").run Tryz.prog W=.ok (127,.pointer (some ⟨p,0,none⟩)) W:=λ_=>by kernel_rfl
theorem xQ (p:Nat):∀W:World,(method 409 122 (.pointer (some ⟨p,0,none⟩)) "Insert").run Tryz.prog W=.ok (125,.pointer (some ⟨p,0,none⟩)) W:=λ_=>by kernel_rfl
theorem Fg (p:Nat):∀W:World,(method 409 122 (.pointer (some ⟨p,0,none⟩)) "Min").run Tryz.prog W=.ok (129,.pointer (some ⟨p,0,none⟩)) W:=λ_=>by kernel_rfl
def GA (d:Nat) (w:World) (p:Nat) (F:List Nat) (A:NS):Prop:=∃B F1 Z gr st,p=B.n0/\F=B.blk F1 Z gr/\B.d=d/\iX w B F1 Z gr A st
theorem GA.of {d:Nat} {B:DB} {F1:List Nat} {gr:Nat} {A:NS} {F:List Nat} {w w':World} (hd:B.d=d) (h:Goes F w w' (λF'=>∃Z' st',F'=B.blk F1 Z' gr/\iX w' B F1 Z' gr A st')):Goes F w w' (λF'=>GA d w' B.n0 F' A):=by
 obtain ⟨F',⟨Z',st',rfl,hA⟩,hu,hf⟩:=h;exact ⟨_,⟨B,F1,Z',gr,st',rfl,rfl,hd,hA⟩,hu,hf⟩
def mF (d:Nat):bV where
 ty:=122
 at_:=GA d
 upd:=λh hu hS=>by
  obtain ⟨B,F1,Z,gr,st,rfl,rfl,hd,hL⟩:=h;exact ⟨B,F1,Z,gr,st,rfl,rfl,hd,hL.upd hu hS⟩
 lt:=λh=>by
  obtain ⟨B,F1,Z,gr,st,rfl,rfl,hd,cr,ptr,G,L,hM,hI⟩:=h;exact hM.lt
 ok:=λh=>by
  obtain ⟨B,F1,Z,gr,st,rfl,rfl,hd,cr,ptr,G,L,hM,hI⟩:=h;exact hM.cells.ok
 make:=λ{w p F A} h=>by
  obtain ⟨B,F1,Z,gr,st,rfl,rfl,hd,hL⟩:=h;refine aQ 127 (λ_ _=>by kernel_rfl) (BM _) (λW hW=>?_);have jg:=hL.ah hW
  by_cases hl:65536<A.hs.length
  ·have e1:aT A=0:=by unfold aT;rw [Δ hl]
   have e2:ag A=A:=by unfold ag;rw [Δ hl]
   rw [e1,e2];refine (Av jg hl).mono ?_;rintro e w' ⟨rfl,F',⟨F2,rfl,hA⟩,hu,hf⟩;exact ⟨rfl,_,⟨B,F2,Z,gr,st,rfl,rfl,hd,hA⟩,hu,hf⟩
  ·have e1:aT A=A.hs.length:=by unfold aT;rw [Γ hl]
   rw [e1];refine (yB jg hl).mono ?_;rintro e w' ⟨rfl,F',⟨F2,Z2,Jm,rfl,hA⟩,hu,hf⟩;exact ⟨rfl,_,⟨B,F2,Z2,Jm,st,rfl,rfl,hd,hA⟩,hu,hf⟩
 insert:=λ{w p F A} g y k s hk hB h=>by
  obtain ⟨B,F1,Z,gr,st,rfl,rfl,hd,hL⟩:=h;refine aQ 125 (λ_ _=>by kernel_rfl) (xQ _) (λW hW=>?_);exact (rO (hL.ah hW) g y k s hk hB).mono (λe w' h=>⟨h.1,GA.of hd h.2⟩)
 min:=λ{w p F A} g hB h=>by
  obtain ⟨B,F1,Z,gr,st,rfl,rfl,hd,hL⟩:=h;refine aQ 129 (λ_ _=>by kernel_rfl) (Fg _) (λW hW=>?_);refine (Aa (hL.ah hW) g hB).mono ?_;rintro e w' ⟨rfl,rfl⟩;exact ⟨rfl,Goes.stay ⟨B,F1,Z,gr,st,rfl,rfl,hd,hL.ah hW⟩ (aa.refl _ _)⟩
 has:=λx h=>by
  obtain ⟨B,F1,Z,gr,st,rfl,rfl,hd,cr,ptr,G,L,hM,hI⟩:=h;exact cB 123 (λ_ _=>by kernel_rfl) hM.h0 (vN _ _) (λW hW=>dF (hM.ah hW).cells x)
 entry:=λ{w p F A} x h=>by
  obtain ⟨B,F1,Z,gr,st,rfl,rfl,hd,cr,ptr,G,L,hM,hI⟩:=h;refine cB 121 (λ_ _=>by kernel_rfl) hM.h0 (qj _ _) (λW hW=>?_);cases hin:dh A x with
  | false=>simpa using eQ (hM.ah hW).cells x hin
  | true=>
   obtain ⟨y,rfl⟩:=iD hin;simpa using dQ (hM.ah hW).cells y hin
theorem uX (p:Nat) (w:World):Calls Tryz.prog 56 #[.pointer (some ⟨p,0,none⟩),.int .i64 0] w λe w'=>e=.returned (.tuple #[.iface 122 (.pointer (some ⟨p,0,none⟩)),.int .i64 0])/\w'=w:=by
 go_enter Tryz.func56,Tryz.ntmps56
 go_wp2;go_ret2;exact ⟨rfl,rfl⟩
theorem sW (kd d:Int) (n m:Nat) (hc:jE kd d=0) (hk:kd=1\/kd=2) (hm:arity kd d=(m:Int)) (hn:n<=65536):fP (mF m) kd d n:=by
 intro w;have hd:2<=m/\m<=16:=by
  have h1:=ql hc;unfold arity at hm;rcases hk with e|e
  ·rw [Δ e] at hm;omega
  ·rw [Γ ω] at hm;have:=h1.2.2.1 e;omega
 have kn:=λW=>A7 n m W hn hd;have km:=uX;have ka:=λW=>xK kd d hc W;rw [hm] at ka;have hty:(mF m).ty=122:=rfl;have hat:∀w' B F Z gr,B.d=m->iX w' B F Z gr (NS.new n) 0->(mF m).at_ w' B.n0 (B.blk F Z gr) (NS.new n)/\lX w' B.n0 n:=λw' B F Z gr hd h=>⟨⟨B,F,Z,gr,0,rfl,rfl,hd,h⟩,by obtain ⟨cr,ptr,G,L,hM,hI⟩:=h;exact ⟨_,_,hM.h0,hM.cells⟩⟩
 generalize mF m=K at *;rw [hty];clear hm hc;rcases hk with rfl|rfl
 all_goals
  go_enter Tryz.func35,Tryz.ntmps35
  go_wp2_with (first
   | ((go_at_call 58;(with_reducible refine (ka _).mono ?_));rintro e w0 ⟨rfl,hu0⟩)
   | ((go_at_call 57;(with_reducible refine (kn _).mono ?_));rintro e w1 ⟨B,F,gr,rfl,hS,hu1,hf,hBd⟩)
   | ((go_at_call 56;(with_reducible refine (km _ _).mono ?_));rintro e w2 ⟨rfl,rfl⟩)
   | fail)
  go_ret2;have hs:=hu0.size;exact ⟨B.n0,B.blk F [] gr,rfl,(hat _ _ _ _ _ hBd hS).1,(hat _ _ _ _ _ hBd hS).2,aa.trans (aa.trans β hu0) hu1,λx hx=>by have:=hf x hx;simp at hs;omega⟩
end Go.Proofs.YtnpdakpagnpanaaGreat
