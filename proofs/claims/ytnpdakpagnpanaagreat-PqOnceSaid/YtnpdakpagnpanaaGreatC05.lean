/-
  Lemmas for PqAlike: SfP, ShP, DrP, Sf, Sf2, Sd, Sd2, Sd3, Sd4, Sd5, Sd6, Sf3, Sf4, Sf5, Sf6, Dr, Sd7, Dr2, Sd8, Dr3, Sd9. Conditions: those of each lemma.
-/
import Derived.IntWalk
import Derived.BigRegion
import Derived.Deep.OwnRows
import Derived.Test.YtnpdakpagnpanaaGreatC04
set_option linter.all false
set_option maxHeartbeats 8000000
set_option maxRecDepth 10000
namespace Go.Proofs.YtnpdakpagnpanaaGreat
open Tryz
open Go Go.RowKit
def par(d i:Nat):Nat:=(i-1) / d
theorem fA{d i:Nat}(hd:2<=d)(hi:0<i):par d i<i:=by
 unfold par;have:(i-1) / d<=(i-1) / 2:=Nat.div_le_div_left hd ω;omega
theorem vv{d i j:Nat}(hd:2<=d):(0<j/\par d j=i)↔d*i+1<=j/\j<=d*i+d:=by
 unfold par;have e:d*(i+1)=d*i+d:=by rw[Nat.mul_add,Nat.mul_one]
 constructor
 ·rintro⟨h0,h⟩;have h1:=Nat.div_mul_le_self (j-1) d;have h2:=Nat.lt_mul_div_succ (j-1) (show 0<d by omega);rw[h] at h1 h2;rw[Nat.mul_comm] at h1;omega
 ·rintro⟨h1,h2⟩;refine⟨ω,?_⟩;rw[Nat.div_eq_iff ω];rw[Nat.mul_comm i d];omega
theorem dZ(L:List Nat)(i x j:Nat):(L.set i x).getD j 0=if j=i/\i<L.length then x else L.getD j 0:=by
 simp only[φ,ύ]
 by_cases h:i=j
 ·subst h
  by_cases h2:i<L.length
  ·simp[h2]
  ·simp[h2]
 ·have h':¬j=i:=λe=>h e.symm;simp[h,h']
section
variable{R:Nat->Nat->Prop}{d:Nat}{L:List Nat}{i x:Nat}
def Hp(R:Nat->Nat->Prop)(d:Nat)(L:List Nat):Prop:=∀j,0<j->j<L.length->R (L.getD (par d j) 0) (L.getD j 0)
structure fH(R:Nat->Nat->Prop)(d:Nat)(L:List Nat)(i:Nat):Prop where
 lt:i<L.length
 a:∀j,0<j->j<L.length->j≠i->par d j≠i->R (L.getD (par d j) 0) (L.getD j 0)
 b:∀j,0<j->j<L.length->par d j=i->0<i->R (L.getD (par d i) 0) (L.getD j 0)
def Below(R:Nat->Nat->Prop)(d:Nat)(L:List Nat)(i x:Nat):Prop:=∀j,0<j->j<L.length->par d j=i->R x (L.getD j 0)
theorem Hp.hole(ht:∀a b c,R a b->R b c->R a c)(hd:2<=d)(h:Hp R d L)(hi:i<L.length):fH R d L i:=
 ⟨hi,λj h0 hj _ _=>h j h0 hj,λj h0 hj hp hi0=>by
  have h1:=h j h0 hj;rw[hp] at h1
  exact ht _ _ _ (h i hi0 hi) h1⟩
theorem fH.fill(hd:2<=d)(h:fH R d L i)(hb:Below R d L i x)(hu:i=0\/R (L.getD (par d i) 0) x):Hp R d (L.set i x):=by
 intro j h0 hj;rw[Ι] at hj;have hl:=h.lt;rw[dZ,dZ]
 by_cases e:j=i
 ·subst e;have hp:=fA hd h0;rw[Γ ω,Δ ⟨rfl,hj⟩];rcases hu with hu|hu
  ·omega
  ·exact hu
 ·rw[Γ (show ¬(j=i/\i<L.length) by omega)]
  by_cases ep:par d j=i
  ·rw[Δ ⟨ep,hl⟩];exact hb j h0 hj ep
  ·rw[Γ (show ¬(par d j=i/\i<L.length) from λe=>ep e.1)];exact h.a j h0 hj e ep
theorem fH.up(ht:∀a b c,R a b->R b c->R a c)(hd:2<=d)(h:fH R d L i)(h0:0<i)(hx:R x (L.getD (par d i) 0)) :
  fH R d (L.set i (L.getD (par d i) 0)) (par d i)/\Below R d (L.set i (L.getD (par d i) 0)) (par d i) x:=by
 have hp:=fA hd h0;have hl:=h.lt;refine⟨⟨by rw[Ι];omega,λj j0 hj hji hjp=>?_,λj j0 hj hjp hp0=>?_⟩,λj j0 hj hjp=>?_⟩
 ·rw[Ι] at hj;have e:j≠i:=λe=>hjp (by rw[e]);rw[dZ,dZ,Γ (show ¬(j=i/\i<L.length) by omega)]
  by_cases ep:par d j=i
  ·rw[Δ ⟨ep,hl⟩];exact h.b j j0 hj ep h0
  ·rw[Γ (show ¬(par d j=i/\i<L.length) from λe=>ep e.1)];exact h.a j j0 hj e ep
 ·rw[Ι] at hj;have hp2:=fA hd hp0;rw[dZ,dZ,Γ (show ¬(par d (par d i)=i/\i<L.length) by omega)];have h1:=h.a (par d i) hp0 ω ω ω
  by_cases e:j=i
  ·rw[Δ ⟨e,hl⟩];exact h1
  ·rw[Γ (show ¬(j=i/\i<L.length) by omega)];have h2:=h.a j j0 hj e ω;rw[hjp] at h2;exact ht _ _ _ h1 h2
 ·rw[Ι] at hj;rw[dZ]
  by_cases e:j=i
  ·rw[Δ ⟨e,hl⟩];exact hx
  ·rw[Γ (show ¬(j=i/\i<L.length) by omega)];have h2:=h.a j j0 hj e ω;rw[hjp] at h2;exact ht _ _ _ hx h2
structure rW(R:Nat->Nat->Prop)(d:Nat)(L:List Nat)(i c:Nat):Prop where
 c0:0<c
 lt:c<L.length
 pc:par d c=i
 all:∀j,0<j->j<L.length->par d j=i->j≠c->R (L.getD c 0) (L.getD j 0)
theorem fH.down(ht:∀a b c,R a b->R b c->R a c)(hd:2<=d)(h:fH R d L i){c:Nat}(hc:rW R d L i c)(hx:R (L.getD c 0) x) :
  fH R d (L.set i (L.getD c 0)) c/\R ((L.set i (L.getD c 0)).getD (par d c) 0) x:=by
 have hl:=h.lt;have hci:i<c:=by have:=fA hd hc.c0;have:=hc.pc;omega
 refine⟨⟨by rw[Ι];exact hc.lt,λj j0 hj hjc hjp=>?_,λj j0 hj hjp _=>?_⟩,?_⟩
 ·rw[Ι] at hj;rw[dZ,dZ]
  by_cases e:j=i
  ·subst e;have:=fA hd j0;rw[Γ (show ¬(par d j=j/\j<L.length) by omega),Δ ⟨rfl,hl⟩];exact h.b c hc.c0 hc.lt hc.pc j0
  ·rw[Γ (show ¬(j=i/\i<L.length) by omega)]
   by_cases ep:par d j=i
   ·rw[Δ ⟨ep,hl⟩];exact hc.all j j0 hj ep hjc
   ·rw[Γ (show ¬(par d j=i/\i<L.length) from λe=>ep e.1)];exact h.a j j0 hj e ep
 ·rw[Ι] at hj;have hpj:=fA hd j0;rw[hc.pc,dZ,dZ,Δ ⟨rfl,hl⟩,Γ (show ¬(j=i/\i<L.length) by omega)];have h2:=h.a j j0 hj ω ω;rw[hjp] at h2;exact h2
 ·rw[hc.pc,dZ,Δ ⟨rfl,hl⟩];exact hx
theorem Hp.first(ht:∀a b c,R a b->R b c->R a c)(hd:2<=d)(h:Hp R d L):∀(k j:Nat),j<=k->j<L.length->j=0\/R (L.getD 0 0) (L.getD j 0)
 |0,j,hk,_=>Α ω
 |k+1,j,hk,hj=>by
  by_cases j0:j=0
  ·exact Α j0
  ·right;have hp:=fA (i:=j) hd ω;have h1:=h j ω hj;rcases Hp.first ht hd h k (par d j) ω ω with e|e
   ·rw[e] at h1;exact h1
   ·exact ht _ _ _ e h1
theorem Hp.frame{R':Nat->Nat->Prop}(h:Hp R d L)(hR:∀a b,a∈L->b∈L->R a b->R' a b)(hd:2<=d):Hp R' d L:=λj h0 hj=>by
 have hp:=fA hd h0;have hm:∀q,q<L.length->L.getD q 0∈L:=λq hq=>by
  rw[φ,ε hq];exact Ϙ hq
 exact hR _ _ (hm _ ω) (hm _ hj) (h j h0 hj)
theorem fH.frame{R':Nat->Nat->Prop}(h:fH R d L i)(hR:∀a b,a∈L.eraseIdx i->b∈L.eraseIdx i->R a b->R' a b)(hd:2<=d):fH R' d L i:=by
 have hm:∀q,q<L.length->q≠i->L.getD q 0∈L.eraseIdx i:=λq hq hne=>by
  rw[φ,ε hq,List.mem_eraseIdx_iff_getElem?];exact⟨q,hne,by simp[ε hq]⟩
 refine⟨h.lt,λj h0 hj hji hp=>?_,λj h0 hj hp hi0=>?_⟩
 ·have:=fA hd h0;exact hR _ _ (hm _ ω hp) (hm _ hj hji) (h.a j h0 hj hji hp)
 ·have h1:=fA hd h0;have h2:=fA hd hi0;have:=h.lt;exact hR _ _ (hm _ ω ω) (hm _ hj ω) (h.b j h0 hj hp hi0)
end
def wG(f:Int->Option Int)(L:List Nat):Prop:=∀z v,f z=some v↔∃(y j:Nat),z=y/\v=j/\L[j]?=some y
def nz(f:Int->Option Int)(L:List Nat)(i x:Nat):Prop:=∀z v,z≠(x:Int)->(f z=some v↔∃(y j:Nat),z=y/\v=j/\j≠i/\L[j]?=some y)
def TZ(f:Int->Option Int)(k z:Int):Int->Option Int:=λq=>if q=k then some z else f q
theorem nz.fill{f:Int->Option Int}{L:List Nat}{i x:Nat}(h:nz f L i x)(hi:i<L.length)(hn:(L.set i x).Nodup):wG (TZ f x i) (L.set i x):=by
 intro z v;unfold TZ
 by_cases hz:z=(x:Int)
 ·rw[Δ hz];constructor
  ·intro e;cases e;exact⟨x,i,hz,rfl,by simp[hi]⟩
  ·rintro⟨y,j,rfl,rfl,hj⟩;have e:y=x:=ω;subst e;have h1:(L.set i y)[i]?=some y:=by simp[hi]
   obtain⟨g1,e1⟩:=List.getElem?_eq_some_iff.1 hj;obtain⟨g2,e2⟩:=List.getElem?_eq_some_iff.1 h1;have:j=i:=(List.getElem_inj hn).1 (e1.trans e2.symm);rw[this]
 ·rw[Γ hz,h z v hz];constructor
  ·rintro⟨y,j,rfl,rfl,hj,hg⟩;exact⟨y,j,rfl,rfl,by rw[Ϗ (λe=>hj e.symm)];exact hg⟩
  ·rintro⟨y,j,rfl,rfl,hg⟩
   by_cases e:j=i
   ·subst e;rw[ώ hi] at hg;cases hg;exact absurd rfl hz
   ·rw[Ϗ (λe'=>e e'.symm)] at hg;exact⟨y,j,rfl,rfl,e,hg⟩
theorem nz.move{f:Int->Option Int}{L:List Nat}{i p x:Nat}(h:nz f L i x)(hi:i<L.length)(hp:p<L.length)(hpi:p≠i)(hn:(L.set i x).Nodup):nz (TZ f (L.getD p 0) i) (L.set i (L.getD p 0)) p x:=by
 intro z v hz;have QS:L[p]?=some (L.getD p 0):=by simp[φ,hp]
 have huni:∀j,j≠i->L[j]?=some (L.getD p 0)->j=p:=λj hj hg=>by
  have h1:(L.set i x)[j]?=some (L.getD p 0):=by rw[Ϗ (λe=>hj e.symm)];exact hg
  have h2:(L.set i x)[p]?=some (L.getD p 0):=by rw[Ϗ (λe=>hpi e.symm)];exact QS
  obtain⟨g1,e1⟩:=List.getElem?_eq_some_iff.1 h1;obtain⟨g2,e2⟩:=List.getElem?_eq_some_iff.1 h2;exact(List.getElem_inj hn).1 (e1.trans e2.symm)
 generalize hy:L.getD p 0=y at *;unfold TZ
 by_cases e:z=(y:Int)
 ·rw[Δ e];constructor
  ·intro e2;cases e2;exact⟨y,i,e,rfl,λe=>hpi e.symm,by simp[hi]⟩
  ·rintro⟨y',j,e1,rfl,hj,hg⟩;have:y'=y:=ω;subst this
   by_cases hji:j=i
   ·rw[hji]
   ·rw[Ϗ (λe'=>hji e'.symm)] at hg;exact absurd (huni j hji hg) hj
 ·rw[Γ e,h z v hz];constructor
  ·rintro⟨y',j,rfl,rfl,hj,hg⟩;refine⟨y',j,rfl,rfl,?_,by rw[Ϗ (λe'=>hj e'.symm)];exact hg⟩;rintro rfl;rw[QS] at hg;cases hg;exact e rfl
  ·rintro⟨y',j,rfl,rfl,hj,hg⟩
   by_cases hji:j=i
   ·subst hji;rw[ώ hi] at hg;cases hg;exact absurd rfl e
   ·rw[Ϗ (λe'=>hji e'.symm)] at hg;exact⟨y',j,rfl,rfl,hji,hg⟩
theorem wG.hole{f:Int->Option Int}{L:List Nat}{i x:Nat}(h:wG f L)(hx:L[i]?=some x):nz f L i x:=λz v hz=>by
 rw[h z v];constructor
 ·rintro⟨y,j,rfl,rfl,hg⟩;refine⟨y,j,rfl,rfl,?_,hg⟩;rintro rfl;rw[hx] at hg;cases hg;exact hz rfl
 ·rintro⟨y,j,h1,h2,_,h3⟩;exact⟨y,j,h1,h2,h3⟩
theorem yB{L:List Nat}{i p x:Nat}(hi:i<L.length)(hp:p<L.length)(hpi:p≠i):((L.set i (L.getD p 0)).set p x).Perm (L.set i x):=by
 have h:=@List.set_set_perm _ (L.set i x) i p (by simpa using hi) (by simpa using hp);have e1:(L.set i x)[p]'(by simpa using hp)=L.getD p 0:=by
  rw[List.getElem_set_ne (λe=>hpi e.symm)];simp[φ,hp]
 have e2:(L.set i x)[i]'(by simpa using hi)=x:=σ;rw[e1,e2,List.set_set] at h;exact h
def gP(L:List Nat)(i j:Nat):List Nat:=(L.set i (L.getD j 0)).set j (L.getD i 0)
theorem jX(L:List Nat)(i j:Nat):(gP L i j).length=L.length:=by unfold gP;simp
theorem lS{L:List Nat}{i j:Nat}(hi:i<L.length)(hj:j<L.length)(k:Nat):(gP L i j).getD k 0=if k=j then L.getD i 0 else if k=i then L.getD j 0 else L.getD k 0:=by
 unfold gP;rw[dZ,dZ]
 by_cases h1:k=j
 ·rw[Δ ⟨h1,by simpa using hj⟩,Δ h1]
 ·rw[Γ (λe=>h1 e.1),Γ h1]
  by_cases h2:k=i
  ·rw[Δ ⟨h2,hi⟩,Δ h2]
  ·rw[Γ (λe=>h2 e.1),Γ h2]
theorem LW{L:List Nat}{i j:Nat}(hi:i<L.length)(hj:j<L.length):gP L i j=gP L j i:=by
 apply List.ext_getElem
 ·rw[jX,jX]
 ·intro k h1 h2;have a:=lS hi hj k;have b:=lS hj hi k;rw[φ,ε h1] at a;rw[φ,ε h2] at b;simp only[Option.getD_some] at a b;rw[a,b]
  by_cases e1:k=j
  ·by_cases e2:k=i
   ·rw[Δ e1,Δ e2,←e1,←e2]
   ·rw[Δ e1,Γ e2,Δ e1]
  ·by_cases e2:k=i
   ·rw[Γ e1,Δ e2,Δ e2]
   ·rw[Γ e1,Γ e2,Γ e2,Γ e1]
theorem wu{L:List Nat}{i j:Nat}(hi:i<L.length)(hj:j<L.length)(hne:i≠j):(gP L i j).Perm L:=by
 have h:=yB (L:=L) (i:=i) (p:=j) (x:=L.getD i 0) hi hj (λe=>hne e.symm);have e:L.set i (L.getD i 0)=L:=by
  rw[φ,ε hi];simp
 rw[e] at h;exact h
section
variable{R:Nat->Nat->Prop}{L:List Nat}{i:Nat}
theorem fH.any{d:Nat}(hd:2<=d)(h:fH R d L i)(y:Nat):fH R d (L.set i y) i:=by
 have g:∀k,k≠i->(L.set i y).getD k 0=L.getD k 0:=λk hk=>by rw[dZ,Γ (λe=>hk e.1)]
 refine⟨by rw[Ι];exact h.lt,λj j0 hj hji hp=>?_,λj j0 hj hp hi0=>?_⟩
 ·rw[Ι] at hj;rw[g _ hji,g _ hp];exact h.a j j0 hj hji hp
 ·rw[Ι] at hj;have h1:=fA hd j0;have h2:=fA hd hi0;rw[g _ ω,g _ ω];exact h.b j j0 hj hp hi0
theorem Below.any{d x:Nat}(hd:2<=d)(h:Below R d L i x)(y:Nat):Below R d (L.set i y) i x:=λj j0 hj hp=>by
 rw[Ι] at hj;have h1:=fA hd j0;rw[dZ,Γ (show ¬(j=i/\i<L.length) by omega)];exact h j j0 hj hp
theorem fH.done{d:Nat}(hd:2<=d)(h:fH R d L i)(hb:Below R d L i (L.getD i 0))(hu:i=0\/R (L.getD (par d i) 0) (L.getD i 0)):Hp R d L:=by
 have h1:=h.fill hd hb hu;have e:L.set i (L.getD i 0)=L:=by
  have:=h.lt;rw[φ,ε this];simp
 rwa[e] at h1
theorem fH.aaY(ht:∀a b c,R a b->R b c->R a c)(h:fH R 2 L i)(h0:0<i)(hx:R (L.getD i 0) (L.getD (par 2 i) 0)) :
  fH R 2 (gP L (par 2 i) i) (par 2 i)/\Below R 2 (gP L (par 2 i) i) (par 2 i) ((gP L (par 2 i) i).getD (par 2 i) 0):=by
 have hp:=fA (d:=2) ω h0;have hl:=h.lt;obtain⟨h1,h2⟩:=h.up ht ω h0 hx;rw[lS ω hl,Γ ω,Δ rfl,LW ω hl];exact⟨h1.any ω _,h2.any ω _⟩
theorem fH.BH(ht:∀a b c,R a b->R b c->R a c)(h:fH R 2 L i){c:Nat}(hc:rW R 2 L i c)(hx:R (L.getD c 0) (L.getD i 0)) :
  fH R 2 (gP L i c) c/\R ((gP L i c).getD (par 2 c) 0) ((gP L i c).getD c 0):=by
 have hl:=h.lt;have hcl:=hc.lt;have hci:i<c:=by have:=fA (d:=2) ω hc.c0;have:=hc.pc;omega
 obtain⟨h1,h2⟩:=h.down ht ω hc hx;refine⟨h1.any ω _,?_⟩;rw[lS hl hcl,lS hl hcl,Δ rfl,hc.pc,Γ ω,Δ rfl];exact hx
theorem Po{n:Nat}(hn:L.length=n)(h1:2*i+1<n):(2*i+2<n->¬R (L.getD (2*i+2) 0) (L.getD (2*i+1) 0)->R (L.getD (2*i+1) 0) (L.getD (2*i+2) 0))->
  ((¬(2*i+2<n/\R (L.getD (2*i+2) 0) (L.getD (2*i+1) 0)))->rW R 2 L i (2*i+1))/\(2*i+2<n/\R (L.getD (2*i+2) 0) (L.getD (2*i+1) 0)->rW R 2 L i (2*i+2)):=by
 intro ht;have hk:∀j,0<j->par 2 j=i->j=2*i+1\/j=2*i+2:=λj j0 hj=>by
  have:=(vv (d:=2) (i:=i) (j:=j) ω).1 ⟨j0,hj⟩;omega
 have p1:=(vv (d:=2) (i:=i) (j:=2*i+1) ω).2 ω;have p2:=(vv (d:=2) (i:=i) (j:=2*i+2) ω).2 ω;constructor
 ·intro h;refine⟨ω,ω,p1.2,λj j0 hj hp hne=>?_⟩;rcases hk j j0 hp with e|e
  ·exact absurd e hne
  ·subst e;exact ht ω (λhr=>h ⟨ω,hr⟩)
 ·rintro⟨h,hr⟩;refine⟨ω,ω,p2.2,λj j0 hj hp hne=>?_⟩;rcases hk j j0 hp with e|e
  ·subst e;exact hr
  ·exact absurd e hne
theorem pq{d x c:Nat}(ht:∀a b c,R a b->R b c->R a c)(hc:rW R d L i c)(hx:R x (L.getD c 0)):Below R d L i x:=λj j0 hj hp=>by
 by_cases e:j=c
 ·rw[e];exact hx
 ·exact ht _ _ _ hx (hc.all j j0 hj hp e)
theorem AP{d x:Nat}(hd:2<=d)(h:L.length<=d*i+1):Below R d L i x:=λj j0 hj hp=>by
 have:=(vv hd).1 ⟨j0,hp⟩;omega
theorem Hp.take{d n:Nat}(h:Hp R d L)(hd:2<=d):Hp R d (L.take n):=λj j0 hj=>by
 simp only[ϑ] at hj;have hp:=fA hd j0;have g:∀k,k<n->(L.take n).getD k 0=L.getD k 0:=λk hk=>by simp[φ,List.getElem?_take,hk]
 rw[g _ ω,g _ ω];exact h j j0 ω
theorem Hp.snoc{d x:Nat}(h:Hp R d L)(ht:∀a b c,R a b->R b c->R a c)(hd:2<=d):fH R d (L++[x]) L.length/\Below R d (L++[x]) L.length x:=by
 have g:∀k,k<L.length->(L++[x]).getD k 0=L.getD k 0:=λk hk=>by simp[φ,Ρ,hk]
 have hno:∀j,0<j->j<(L++[x]).length->par d j=L.length->False:=λj j0 hj hp=>by
  simp at hj;have:=fA hd j0;omega
 refine⟨⟨σ,λj j0 hj hji hp=>?_,λj j0 hj hp _=>(hno j j0 hj hp).elim⟩,λj j0 hj hp=>(hno j j0 hj hp).elim⟩;simp at hj;have:=fA hd j0;rw[g _ ω,g _ ω];exact h j j0 ω
end
def nD(A:NS)(a b:Nat):Prop:=decide (dB A a b)=true
theorem dY{A:NS}{a b:Nat}:nD A a b↔dB A a b:=by unfold nD;simp
theorem iR(A:NS):∀a b c,nD A a b->nD A b c->nD A a c:=λa b c h1 h2=>dY.2 (dI (dY.1 h1) (dY.1 h2))
structure pK(d:Nat)(A:NS)(L:Nat->List Nat):Prop where
 hp:∀h:Nat,aY A h=true->Hp (nD A) d (L h)
 nd:∀h:Nat,aY A h=true->(L h).Nodup
 mem:∀h x:Nat,aY A h=true->(x∈L h↔x<A.cs.length/\(A.c x).i=h)
section
variable{d:Nat}{A:NS}{L:Nat->List Nat}
theorem pK.frame{A':NS}{l:List Nat}(h:Hp (nD A) d l)(hd:2<=d)(hs:∀y,y∈l->A'.c y=A.c y):Hp (nD A') d l:=
 h.frame (λa b ha hb hab=>dY.2 ((fE (hs a ha) (hs b hb)).2 (dY.1 hab))) hd
theorem pK.len(h:pK d A L){g x:Nat}(hg:aY A g=true)(hx:x∈L g):x<A.cs.length/\bY A (x:Int)=true/\(A.c x).i=g:=by
 have h1:=(h.mem g x hg).1 hx;have h2:=(aC _ _).1 hg;exact⟨h1.1,(aj _ _).2 ⟨h1.1,ω⟩,h1.2⟩
theorem pK.many(h:pK d A L){g:Nat}(hg:aY A g=true):(L g).length<=A.cs.length:=by
 have h1:=nodup_range A.cs.length ((L g).map (λ(x:Nat)=>(x:Int))) (by
  have hn:=h.nd g hg;unfold List.Nodup at hn ⊢;rw[List.pairwise_map];exact hn.imp (λh e=>h ω)) (λx hx=>by
  obtain⟨y,hy,rfl⟩:=List.mem_map.1 hx
  have:=(h.mem g y hg).1 hy;omega)
 simpa using h1
theorem pK.first(h:pK d A L)(hd:2<=d){g m:Nat}{l:List Nat}(hg:aY A g=true)(hl:L g=m::l):dN A g=some m:=by
 have h0:=(aC _ _).1 hg;have hm:=(h.mem g m hg).1 (by rw[hl];simp);refine(iY ω).2 ⟨hm.1,hm.2,λy hy hyi=>?_⟩;have hym:=(h.mem g y hg).2 ⟨hy,hyi⟩;have hH:=h.hp g hg;rw[hl] at hym hH;obtain⟨j,hj,e⟩:=List.mem_iff_getElem.1 hym;rcases Hp.first (iR A) hd hH j j (Θ _) hj with e2|e2
 ·subst e2;left;rw[←e];rfl
 ·right;have e3:(m::l).getD j 0=y:=by rw[φ,ε hj,e];rfl
  rw[e3] at e2;exact dY.1 e2
theorem pK.none(h:pK d A L){g:Nat}(hg:aY A g=true)(hl:L g=[]):dN A g=none:=by
 refine(jF (by have:=(aC _ _).1 hg;omega)).2 ?_;rcases Nat.eq_zero_or_pos (dD A (g:Int)) with e|e
 ·exact e
 ·obtain⟨x,hx,hi,_⟩:=fM.1 e;have:=(h.mem g x hg).2 ⟨hx,hi⟩;rw[hl] at this;cases this
theorem pK.V9(h:pK d A L){g:Int}{m:Nat}(hm:dN A g=some m)(ok:A.Ok):∃q:Nat,g=q/\aY A q=true/\m∈L q:=by
 have hpos:0<g:=by
  rcases Int.lt_or_le 0 g with h|h
  ·exact h
  ·rw[qm ω] at hm;cases hm
 have h1:=(iY hpos).1 hm;obtain⟨q,rfl⟩:∃q:Nat,g=q:=⟨g.toNat,ω⟩;have hin:bY A (m:Int)=true:=(aj _ _).2 ⟨h1.1,by rw[h1.2.1];exact hpos⟩;have hh:=iL ok hin;rw[π,h1.2.1] at hh;exact⟨q,rfl,hh,(h.mem q m hh).2 ⟨h1.1,h1.2.1⟩⟩
theorem pK.next{A':NS}{g:Nat}{l:List Nat}(h:pK d A L)(hd:2<=d)(hh:∀k:Nat,aY A' k=aY A k)(hc:A'.cs.length=A.cs.length)
  (k1:∀k:Nat,k≠g->∀x,x<A.cs.length->1<=k->((A'.c x).i=k↔(A.c x).i=k)) (k2:∀x,(A.c x).i≠g->(A'.c x).i≠g->A'.c x=A.c x)
  (n1:Hp (nD A') d l) (n2:l.Nodup) (n3:aY A g=true->∀x,x∈l↔x<A.cs.length/\(A'.c x).i=g):pK d A' (fG L g l):=by
 refine⟨λk hk=>?_,λk hk=>?_,λk x hk=>?_⟩
 all_goals rw[hh] at hk
 ·by_cases e:k=g
  ·subst e;rw[bO];exact n1
  ·rw[bf _ _ e];refine pK.frame (h.hp k hk) hd (λy hy=>?_);have hy2:=(h.mem k y hk).1 hy;have hk0:=(aC _ _).1 hk;exact k2 y ω (by rw[(k1 k e y hy2.1 ω).2 hy2.2];omega)
 ·by_cases e:k=g
  ·subst e;rw[bO];exact n2
  ·rw[bf _ _ e];exact h.nd k hk
 ·rw[hc]
  by_cases e:k=g
  ·subst e;rw[bO];exact n3 hk x
  ·rw[bf _ _ e,h.mem k x hk];have hk0:=(aC _ _).1 hk;constructor
   ·rintro⟨a,b⟩;exact⟨a,(k1 k e x a ω).2 b⟩
   ·rintro⟨a,b⟩;exact⟨a,(k1 k e x a ω).1 b⟩
theorem pK.put(h:pK d A L)(hd:2<=d)(ok:A.Ok){g x:Nat}{k s:Int}(hB:rG A g x=true){l:List Nat}(hp:l.Perm (x::L g))(hH:Hp (nD (aO A g x k s)) d l):pK d (aO A g x k s) (fG L g l)/\x∉L g:=by
 obtain⟨b1,b2,b3⟩:=(fP _ _ _).1 hB;have hx:x<A.cs.length:=by have:=(ic _ _).1 b2;omega
 have h0:(A.c x).i=0:=by
  have:=(ok.nat x hx).1;have h3:¬(0<(A.c x).i):=λh'=>by rw[(aj A x).2 ⟨hx,h'⟩] at b3;cases b3
  omega
 have hg0:=(aC _ _).1 b1;have hc:∀y,(aO A g x k s).c y=if y=x then⟨g,k,s⟩ else A.c y:=λy=>by
  unfold aO;rw[Δ hB,π,lg]
  by_cases e:y=x
  ·rw[Δ ⟨e,hx⟩,Δ e]
  ·rw[Γ (λh=>e h.1),Γ e]
 have hxL:x∉L g:=λhm=>by have:=(h.mem g x b1).1 hm;omega
 refine⟨h.next hd (λq=>by unfold aO;rw[Δ hB];rfl) (by unfold aO;rw[Δ hB,fO]) (λq hq y hy hq1=>?_) (λy hy1 hy2=>?_) hH (hp.nodup_iff.2 (Ζ.2 ⟨hxL,h.nd g b1⟩)) (λ_ y=>?_),hxL⟩
 ·rw[hc]
  by_cases e:y=x
  ·rw[Δ e,e];simp only;omega
  ·rw[Γ e]
 ·rw[hc] at hy2 ⊢
  by_cases e:y=x
  ·rw[Δ e] at hy2;exact absurd rfl hy2
  ·rw[Γ e]
 ·rw[hp.mem_iff,ρ,h.mem g y b1,hc]
  by_cases e:y=x
  ·rw[Δ e,e];simp[hx]
  ·rw[Γ e];simp[e]
theorem pK.low(h:pK d A L)(hd:2<=d){g x:Nat}{k s:Int}(hB:jf A x k s=true)(hg:aY A g=true)(hx:x∈L g){l:List Nat}(hp:l.Perm (L g))(hH:Hp (nD (aA A x k s)) d l):pK d (aA A x k s) (fG L g l):=by
 have hm:=(h.mem g x hg).1 hx;have hc:=uo hB hm.1;have hi:=iH hB hm.1;refine h.next hd (λq=>by unfold aY;rw[lQ]) (gD _ _ _ _) (λq hq y hy hq1=>by rw[hi]) (λy hy1 hy2=>?_) hH (hp.nodup_iff.2 (h.nd g hg)) (λ_ y=>by rw[hp.mem_iff,h.mem g y hg,hi]);rw[hc,Γ (λe=>hy1 (by rw[e];exact hm.2))]
theorem pK.drop(h:pK d A L)(hd:2<=d){g x:Nat}(hg:aY A g=true)(hx:x∈L g){l:List Nat}(hp:(x::l).Perm (L g))(hH:Hp (nD A) d l):pK d (bg A x) (fG L g l):=by
 have hm:=(h.mem g x hg).1 hx;have hg0:=(aC _ _).1 hg;have hin:bY A (x:Int)=true:=(aj A x).2 ⟨hm.1,ω⟩;have hc:=yA hin;have hnd:(x::l).Nodup:=hp.nodup_iff.2 (h.nd g hg);have hxt:x∉l:=(Ζ.1 hnd).1;have hcy:∀y,y≠x->(bg A x).c y=A.c y:=λy hy=>by rw[hc,Γ hy]
 refine h.next hd (λq=>by unfold aY;rw[iV]) (fD _ _) (λq hq y hy hq1=>?_) (λy hy1 hy2=>hcy y (λe=>hy1 (by rw[e];exact hm.2))) (pK.frame hH hd (λy hy=>hcy y (λe=>hxt (by rw[←e];exact hy)))) (Ζ.1 hnd).2 (λ_ y=>?_)
 ·rw[hc]
  by_cases e:y=x
  ·rw[Δ e,e];show(0:Int)=(q:Int)↔_;omega
  ·rw[Γ e]
 ·have e1:=hp.mem_iff (a:=y);rw[ρ,h.mem g y hg] at e1;rw[hc]
  by_cases e:y=x
  ·rw[Δ e,e];refine⟨λhh=>absurd hh hxt,λhh=>?_⟩;have:(0:Int)=(g:Int):=hh.2;omega
  ·rw[Γ e,←e1];simp[e]
theorem xQ(A:NS)(hl:¬65536<A.hs.length)(hl0:1<=A.hs.length)(k:Nat):aY (aU A) k=(aY A k || k == A.hs.length):=by
 unfold aU aY;rw[Γ hl];simp only[υ,List.length_singleton,π,φ]
 by_cases e:k=A.hs.length
 ·subst e;simp;omega
 ·by_cases e2:k<A.hs.length
  ·rw[Ρ e2];have e3:(k:Int)<(A.hs.length:Int):=ω;have e4:(k:Int)<(A.hs.length:Int)+1:=ω;simp[e,e2,e3,e4]
  ·have e3:¬(k:Int)<(A.hs.length:Int):=ω;have e4:¬(k:Int)<(A.hs.length:Int)+1:=ω;simp[e,e2,e3,e4]
theorem pK.make(h:pK d A L)(hd:2<=d)(ok:A.Ok)(hl:¬65536<A.hs.length)(hl0:1<=A.hs.length):pK d (aU A) (fG L A.hs.length []):=by
 have hc:(aU A).cs=A.cs:=by unfold aU;rw[Γ hl]
 have hcc:∀x,(aU A).c x=A.c x:=λx=>by unfold NS.c;rw[hc]
 have hcase:∀k:Nat,aY (aU A) k=true->k=A.hs.length\/(k≠A.hs.length/\aY A k=true):=λk hk=>by
  rw[xQ A hl hl0] at hk
  by_cases e:k=A.hs.length
  ·exact Α e
  ·right;simp[e] at hk;exact⟨e,hk⟩
 refine⟨λk hk=>?_,λk hk=>?_,λk x hk=>?_⟩
 ·rcases hcase k hk with rfl|⟨e,hk'⟩
  ·rw[bO];intro j _ hj;simp at hj
  ·rw[bf _ _ e];exact(h.hp k hk').frame (λa b _ _ hab=>dY.2 ((fE (hcc a) (hcc b)).2 (dY.1 hab))) hd
 ·rcases hcase k hk with rfl|⟨e,hk'⟩
  ·rw[bO];exact Ϥ
  ·rw[bf _ _ e];exact h.nd k hk'
 ·rw[hc,hcc];rcases hcase k hk with rfl|⟨e,hk'⟩
  ·rw[bO];simp only[ς,false_iff,not_and];intro hx hi;have:=(ok.nat x hx).2;omega
  ·rw[bf _ _ e];exact h.mem k x hk'
end
structure gW where
 ty:TypeId
 p:Nat
 rd:List Nat
 wr:List Nat
 lt:Nat->Nat->Bool
 dom:Nat->Prop
 at_:World->Prop
 sub:∀x,x∈wr->x∈rd
 low:∀{w:World},at_ w->∀x,x∈rd->x<w.heap.size
 upd:∀{w w':World} {S:List Nat},at_ w->ae S w w'->(∀x,x∈S->x∉rd)->at_ w'
 trans:∀a b c,lt a b=true->lt b c=true->lt a c=true
 total:∀a b,a≠b->lt a b=true\/lt b a=true
 asym:∀a b,lt a b=true->lt b a=false
 fn:FuncId
 recv:Value
 ent:Enters fn
 WA:∀{w:World},at_ w->(method 409 ty (.pointer (some ⟨p,0,none⟩)) "Ahead").run prog w=.ok (fn,recv) w
 Xt:∀w:World,(nilAhead 409 ty (.pointer (some ⟨p,0,none⟩)) "Ahead").run prog w=.ok (some false) w
 ask:∀{w:World} (x y:Nat),at_ w->dom x->dom y->Calls prog fn #[recv,.int .i64 (x:Int),.int .i64 (y:Int)] w λe w'=>e=.returned (.bool (lt x y))/\at_ w'/\ae wr w w'
structure gW.On(O:gW)(w0 w:World):Prop where
 at_:O.at_ w
 upd:ae O.wr w0 w
theorem gW.On.start{O:gW}{w:World}(h:O.at_ w):O.On w w:=⟨h,ae.refl _ _⟩
theorem gW.On.drew{O:gW}{w0 w:World}(h:O.On w0 w):O.On w0 w.drew:=⟨O.upd h.at_ ((ae.refl [] w).drew) σ,h.upd.drew⟩
theorem gW.On.drewN{O:gW}{w0 w:World}(h:O.On w0 w)(n:Nat):O.On w0 (w.drewN n):=⟨O.upd h.at_ ((ae.refl [] w).drewN n) σ,h.upd.drewN n⟩
theorem gW.On.asked{O:gW}{w0 w w':World}(h:O.On w0 w)(ha:O.at_ w')(hu:ae O.wr w w'):O.On w0 w':=⟨ha,h.upd.trans hu⟩
def gW.R(O:gW)(a b:Nat):Prop:=O.lt a b=true
theorem gW.tr(O:gW):∀a b c,O.R a b->O.R b c->O.R a c:=O.trans
structure vR(w:World)(rp mb g cap d:Nat)(f:Int->Option Int)(L:List Nat):Prop where
 head:aS w rp 228 3 (λj=>[Value.int .i64 (d:Int),.slice (some ⟨g,0,none⟩) L.length cap,.map (some mb)].getD j undef)
 row:IZ w g cap (bZ L)
 map:fJ w mb f
 sep:rp≠mb/\rp≠g/\mb≠g
theorem dK(L:List Nat):(bZ L).length=L.length:=by unfold bZ;simp
theorem oM{L:List Nat}{j:Nat}:(bZ L).getD j 0=((L.getD j 0:Nat):Int):=by
 unfold bZ;simp only[φ,ϒ];cases L[j]?<;>rfl
theorem nQ(L:List Nat)(i x:Nat):bZ (L.set i x)=(bZ L).set i (x:Int):=by unfold bZ;rw[List.map_set]
section
variable{w:World}{rp mb g cap d:Nat}{f:Int->Option Int}{L:List Nat}
theorem vR.upd{w':World}{S:List Nat}(h:vR w rp mb g cap d f L)(hu:ae S w w')(h1:rp∉S)(h2:mb∉S)(h3:g∉S):vR w' rp mb g cap d f L:=
 ⟨h.head.upd hu h1,h.row.upd hu h3,h.map.upd hu h2,h.sep⟩
theorem vR.ag{w':World}(h:vR w rp mb g cap d f L)(hu:ae [] w w'):vR w' rp mb g cap d f L:=h.upd hu σ σ σ
theorem vR.h0(h:vR w rp mb g cap d f L):w.cell? ⟨rp,0,none⟩=some (.int .i64 (d:Int)):=h.head.cellAt 0 ω rfl
theorem vR.h1(h:vR w rp mb g cap d f L):w.cell? ⟨rp,1,none⟩=some (.slice (some ⟨g,0,none⟩) L.length cap):=h.head.cellAt 1 ω rfl
theorem vR.h2(h:vR w rp mb g cap d f L):w.cell? ⟨rp,2,none⟩=some (.map (some mb)):=h.head.cellAt 2 ω rfl
theorem vR.lt(h:vR w rp mb g cap d f L):rp<w.heap.size/\mb<w.heap.size/\g<w.heap.size:=⟨h.head.lt,h.map.lt,h.row.lt⟩
theorem vR.cell(h:vR w rp mb g cap d f L)(j:Nat)(hj:j<L.length):w.cell? ⟨g,j,none⟩=some (.int .i64 ((L.getD j 0:Nat):Int)):=by
 have:=h.row.cell j (by rw[dK];exact hj);rwa[oM] at this
/-! ### places -/
theorem Ms(d i:Nat)(hd:2<=d/\d<=16)(hi:i<=65536)(w:World) :
  Calls prog 154 #[.int .i64 (d:Int),.int .i64 (i:Int)] w λe w'=>e=.returned (.tuple #[.int .i64 (if i=0 then 0 else(par d i:Int)),.bool (decide (0<i))])/\ae [] w w':=by
 have kf:∀W,Calls prog 101 #[.int .i64 (d:Int)] W λe w'=>e=.returned (.bool true)/\w'=W:=λW=>by
  have h1:(d:Int)≥2:=ω;have h2:(d:Int)<=16:=ω
  go_enter func101,ntmps101
  go_wp2;go_ret;exact⟨rfl,rfl⟩
 by_cases h0:i=0
 ·subst h0
  go_enter func154,ntmps154
  go_wp2_with (first|(go_at_call 101;(with_reducible refine aT (kf _) ?_))|fail)
  go_ret2;exact⟨rfl,ae.refl _ _⟩
 ·have h1:¬(i:Int)<1:=ω;rw[Γ h0,Ν (ω:0<i)];have hq:((i:Int)-1).tdiv (d:Int)=(par d i:Int):=by
   unfold par;rw[show(i:Int)-1=((i-1:Nat):Int) by omega]
   rfl
  go_enter func154,ntmps154
  go_wp2_with (first|(go_at_call 101;(with_reducible refine aT (kf _) ?_))|fail)
  go_ret2;have hp:=fA hd.1 (show 0<i by omega);rw[IntWalk.wrap64_in _ ω];exact⟨rfl,ae.refl _ _⟩
theorem Pt(d i k:Nat)(hd:2<=d/\d<=16)(hi:i<=65536)(hk:1<=k/\k<=d)(w:World) :
  Calls prog 161 #[.int .i64 (d:Int),.int .i64 (i:Int),.int .i64 (k:Int)] w λe w'=>e=.returned (.tuple #[.int .i64 ((d*i+k:Nat):Int),.bool true])/\ae [] w w':=by
 have kf:∀W,Calls prog 101 #[.int .i64 (d:Int)] W λe w'=>e=.returned (.bool true)/\w'=W:=λW=>by
  have h1:(d:Int)≥2:=ω;have h2:(d:Int)<=16:=ω
  go_enter func101,ntmps101
  go_wp2;go_ret;exact⟨rfl,rfl⟩
 have h1:¬(i:Int)<0:=ω;have h2:¬(i:Int) > 1099511627776:=ω;have h3:¬(k:Int)<1:=ω;have hm:d*i<=16*65536:=Nat.mul_le_mul hd.2 hi;have hmul:(d:Int)*(i:Int)=((d*i:Nat):Int):=σ;generalize d * i=m at *;have hw1:wrap64 (m:Int)=(m:Int):=IntWalk.wrap64_in _ ω;have hw2:wrap64 ((m:Int)+(k:Int))=(m:Int)+(k:Int):=IntWalk.wrap64_in _ ω
 go_enter func161,ntmps161
 go_wp2_with (first|(go_at_call 101;(with_reducible refine aT (kf _) ?_))|fail)
 go_ret2;exact⟨by first|rfl|simp[hmul],ae.refl _ _⟩
theorem sV(h:vR w rp mb g cap d f L)(i x:Nat)(hi:i<L.length)(hx:x<=65536)(hl:L.length<=65536) :
  Calls prog 155 #[.pointer (some ⟨rp,0,none⟩),.int .i64 (i:Int),.int .i64 (x:Int)] w λe w'=>e=.returned (.tuple #[])/\vR w' rp mb g cap d (TZ f x i) (L.set i x)/\ae [g,mb] w w':=by
 have c1:=h.h1;have c2:=h.h2;have hc:=h.row.cap;rw[dK] at hc;have fg:=h.row.free i;have cg:=h.cell i hi;have s:=h.sep;have hu1:ae [g] w (w.setCell ⟨g,i,none⟩ (.int .i64 (x:Int))):=β;have hM1:fJ (w.setCell ⟨g,i,none⟩ (.int .i64 (x:Int))) mb f:=h.map.upd hu1 ζ;have H1:aS (w.setCell ⟨g,i,none⟩ (.int .i64 (x:Int))) rp 228 3 (λj=>[Value.int .i64 (d:Int),.slice (some ⟨g,0,none⟩) L.length cap,.map (some mb)].getD j undef):=h.head.upd hu1 ζ;have H2:IZ (w.setCell ⟨g,i,none⟩ (.int .i64 (x:Int))) g cap (bZ (L.set i x)):=by rw[nQ];exact h.row.set i _
 have HH:=χ (ψ H1 (ψ H2 (ψ s hu1)));have hil:(i:Int)<(L.length:Int):=ω;have e1:rp≠g:=s.2.1;generalize hn:L.length=n at *;have HN:=χ hn;clear h H1 H2 hu1 hn
 go_enter func155,ntmps155
 go_wp2_with (first
  |(at_mapUpdate;refine kG rfl _ _ _ rfl mb f rfl hM1 (x:Int) (i:Int) rfl rfl ω ω ?_;intro w2 hm2 hu2)
  | fail)
 go_end0;obtain⟨H1,H2,s,hu1⟩:=HH.out;refine⟨rfl,⟨?_,H2.upd hu2 ζ,hm2,s⟩,(hu1.mono σ).trans (hu2.mono σ)⟩;rw[Ι,HN.out];exact H1.upd hu2 ζ
end
structure Ol(O:gW)(rp mb g:Nat):Prop where
 a:rp∉O.rd
 b:mb∉O.rd
 c:g∉O.rd
theorem Ol.wr{O:gW}{rp mb g:Nat}(h:Ol O rp mb g):rp∉O.wr/\mb∉O.wr/\g∉O.wr:=⟨λhm=>h.a (O.sub _ hm),λhm=>h.b (O.sub _ hm),λhm=>h.c (O.sub _ hm)⟩
theorem qM{L:List Nat}{i x p:Nat}(hp:p<L.length)(hne:p≠i):L.getD p 0∈L.set i x:=by
 have h1:(L.set i x)[p]?=some (L.getD p 0):=by rw[Ϗ (λe=>hne e.symm)];simp[φ,hp]
 exact Η h1
theorem NR{L:List Nat}{i x p:Nat}(hi:i<L.length)(hp:p<L.length)(hne:p≠i)(hn:(L.set i x).Nodup):L.getD p 0≠x:=λe=>by
 have h1:(L.set i x)[p]?=some x:=by rw[Ϗ (λe=>hne e.symm),←e];simp[φ,hp]
 have h2:(L.set i x)[i]?=some x:=by simp[hi]
 obtain⟨g1,e1⟩:=List.getElem?_eq_some_iff.1 h1;obtain⟨g2,e2⟩:=List.getElem?_eq_some_iff.1 h2;exact hne ((List.getElem_inj hn).1 (e1.trans e2.symm))
theorem Gd(O:gW){w:World}{rp mb g cap d:Nat}{f:Int->Option Int}{L:List Nat}(hO:O.at_ w)(h:vR w rp mb g cap d f L)(hd:2<=d/\d<=16)(hl:L.length<=65536)(i x:Nat)(hH:fH O.R d L i)(hP:nz f L i x)
  (hn:(L.set i x).Nodup) (hdom:∀y,y∈L.set i x->O.dom y) (h16:∀y,y∈L.set i x->y<=65536) (hsep:Ol O rp mb g) :
  Calls prog 146 #[.pointer (some ⟨rp,0,none⟩),.iface O.ty (.pointer (some ⟨O.p,0,none⟩)),.int .i64 (i:Int),.int .i64 (x:Int)] w λe w'=>∃(k:Nat) (f':Int->Option Int) (L':List Nat),e=.returned (.int .i64 (k:Int))/\vR w' rp mb g cap d f' L'/\wG f' L'/\L'.Perm (L.set i x)/\O.at_ w'/\ae (g::mb::O.wr) w w'/\
   (k=i->L'=L.set i x/\(i=0\/O.R (L.getD (par d i) 0) x))/\(k≠i\/Below O.R d L i x->Hp O.R d L'):=by
 have hi0:=hH.lt;have hxm:x∈L.set i x:=Η (show(L.set i x)[i]?=some x by simp[hi0]);have hdx:=hdom x hxm;have hxl:=h16 x hxm;have HX:=χ (ψ hn (ψ hdom (ψ h16 (ψ hsep hd))));have hwr:=hsep.wr
 go_enter func146,ntmps146
 go_wp2
 go_loopw [2,9,10] (λiv _ _ wr=>∃(i':Nat) (f':Int->Option Int) (L':List Nat),iv=.int .i64 (i':Int)/\vR wr rp mb g cap d f' L'/\fH O.R d L' i'/\nz f' L' i' x/\L'.length=L.length/\(L'.set i' x).Perm (L.set i x)/\O.at_ wr/\ae (g::mb::O.wr) w wr/\((i'=i/\L'=L)\/(i'<i/\Below O.R d L' i' x))) (λiv _ _ _=>(intOf iv).toNat)
 case atStart=>exact⟨i,f,L,rfl,h,hH,hP,rfl,ό _,hO,ae.refl _ _,Α ⟨rfl,rfl⟩⟩
 case round=>
  clear h hH hP hO;obtain⟨i1,f1,L1,rfl,h,hH,hP,hl1,hpm,hO,hu,hst⟩:=hrel;rename World=>wr;have hi1:=hH.lt;have hn1:(L1.set i1 x).Nodup:=hpm.nodup_iff.2 HX.out.1;have kp:=λW=>Ms d i1 hd ω W;have c0:=h.h0;have c1:=h.h1;have hlt:=h.lt
  by_cases hz:i1=0
  ·have ks:=λW (hW:ae [] wr W)=>sV (h.ag hW) i1 x hi1 hxl ω;have e1:(if i1=0 then(0:Int) else(par d i1:Int))=0:=Δ hz;have e2:decide (0<i1)=false:=by simp[hz]
   simp only[e1,e2] at kp;have HF:=χ (ψ hH (ψ hP (ψ hn1 (ψ hpm (ψ hO (ψ hst (ψ hu (ψ hl1 hz))))))));clear hH hP hn1 hpm hO hst hu hl1 h hz e1 e2
   go_upto_region 2 with (first
    |((go_at_call 154;(with_reducible refine(kp _).mono ?_));rintro e w1 ⟨rfl,hu1⟩)
    | fail)
   go_quiet (fail)
   have ks1:=ks _ (hu1.drewN nq)
   go_wp2_with (first
    |((go_at_call 155;(with_reducible refine(ks1).mono ?_));rintro e w2 ⟨rfl,hR,hu2⟩)
    | fail)
   go_ret;obtain⟨hH,hP,hn1,hpm,hO,hst,hu,hl1,hz⟩:=HF.out;have hu3:ae [g,mb] wr w2:=(hu1.drewN nq).mono σ |>.trans hu2;refine⟨i1,_,_,rfl,hR,hP.fill hi1 hn1,hpm,O.upd hO hu3 (λy hy=>by have:=HX.out.2.2.2.1;simp at hy;rcases hy with rfl|rfl;exact this.c;exact this.b),hu.trans (hu3.mono (by simp +contextual)),λe=>?_,λe=>?_⟩
   ·rcases hst with⟨_,rfl⟩|⟨h1,_⟩
    ·subst e;exact⟨rfl,Α hz⟩
    ·omega
   ·have hb:Below O.R d L1 i1 x:=by
     rcases hst with⟨e1,e2⟩|⟨_,h2⟩
     ·rcases e with e|e
      ·exact absurd e1 e
      ·rw[e1,e2];exact e
     ·exact h2
    exact hH.fill hd.1 hb (Α hz)
  ·obtain⟨p,hp⟩:∃p,p=par d i1:=⟨_,rfl⟩;have hpl:p<i1:=by rw[hp];exact fA hd.1 ω
   have e1:(if i1=0 then(0:Int) else(par d i1:Int))=(p:Int):=by rw[Γ hz,hp]
   have e2:decide (0<i1)=true:=ζ;simp only[e1,e2] at kp;have hcp:=h.cell p ω;have hcg:=h.h1;have hdp:=HX.out.2.1 (L1.getD p 0) (hpm.mem_iff.1 (qM ω ω));have hpx:=NR hi1 (show p<L1.length by omega) ω hn1;have ks2:=λW (hW:ae O.wr wr W)=>sV (h.upd hW hwr.1 hwr.2.1 hwr.2.2) i1 (L1.getD p 0) hi1 (HX.out.2.2.1 _ (hpm.mem_iff.1 (qM ω ω))) ω;have ks:=λW (hW:ae O.wr wr W)=>sV (h.upd hW hwr.1 hwr.2.1 hwr.2.2) i1 x hi1 hxl ω;have HF:=χ (ψ hH (ψ hP (ψ hn1 (ψ hpm (ψ hO (ψ hst (ψ hu (ψ hl1 (ψ hz (ψ hp (ψ hpx h)))))))))));have hi1L:(p:Int)<(L1.length:Int):=ω;have P5:=hwr.1;have hgw:=hwr.2.2
   clear hH hP hn1 hpm hst hu hl1 h hz e1 e2 hp hpx hpl hwr;generalize hy:L1.getD p 0=y at *
   go_upto_region 2 with (first
    |((go_at_call 154;(with_reducible refine(kp _).mono ?_));rintro e w1 ⟨rfl,hu1⟩)
    | fail)
   have qQ:O.On w1 w1:=.start (O.upd hO hu1 σ);have cp1:∀W,O.On w1 W->W.cell? ⟨g,p,none⟩=some (.int .i64 (y:Int)):=λW hW=>hW.upd.kept (hu1.was hcp) hgw;have Z8:∀W,O.On w1 W->W.cell? ⟨rp,1,none⟩=some (.slice (some ⟨g,0,none⟩) L1.length cap):=λW hW=>hW.upd.kept (hu1.was hcg) P5;have hm:∀W,O.On w1 W->_:=λW hW=>O.WA hW.at_;have hnl:=O.Xt;have hen:=O.ent;unfold Enters at hen
   go_region_held3 (O.On w1) (first|assumption|exact qQ|(refine gW.On.drew ?_;first|assumption|exact qQ)|(refine gW.On.drewN ?_ _;first|assumption|exact qQ))
    (first
     | ((with_reducible refine (O.ask x y (gW.On.at_ (w0:=w1) (by first|assumption|exact qQ|(refine gW.On.drew ?_;first|assumption|exact qQ)|(refine gW.On.drewN ?_ _;first|assumption|exact qQ))) hdx hdp).mono ?_);rintro e w5 ⟨rfl,CJ,bW⟩;(have vY:O.On w1 w5:=gW.On.asked (by first|assumption|exact qQ|(refine gW.On.drew ?_;first|assumption|exact qQ)|(refine gW.On.drewN ?_ _;first|assumption|exact qQ)) CJ bW)))
   have rT:ae O.wr wr w5:=(hu1.mono σ).trans vY.upd;have ks5:=ks w5 rT;have ks6:=ks2 w5 rT;have HY:=χ (ψ hy (ψ vY.at_ rT));have cp5:=cp1 w5 vY;have cg5:=Z8 w5 vY;clear ks ks2 cp1 Z8 hm qQ vY bW CJ hO hcp hcg;cases hxy:O.lt x y with
   |false=>
    clear ks6
    go_wp2_with (first
     |((go_at_call 155;(with_reducible refine(ks5).mono ?_));rintro e w2 ⟨rfl,hR,hu2⟩)
     | fail)
    go_ret;obtain⟨hH,hP,hn1,hpm,hO,hst,hu,hl1,hz,hp,hpx,h⟩:=HF.out;obtain⟨hy,hat,bW⟩:=HY.out;have hup:O.R (L1.getD (par d i1) 0) x:=by
     rw[←hp,hy];rcases O.total x y (λe=>hpx e.symm) with e|e
     ·rw[e] at hxy;cases hxy
     ·exact e
    refine⟨i1,_,_,rfl,hR,hP.fill hi1 hn1,hpm,O.upd hat hu2 (λy hy=>by have:=HX.out.2.2.2.1;simp at hy;rcases hy with rfl|rfl;exact this.c;exact this.b),(hu.trans (bW.mono (by simp +contextual))).trans (hu2.mono (by simp +contextual)),λe=>?_,λe=>?_⟩
    ·rcases hst with⟨_,e2⟩|⟨h1,_⟩
     ·rw[e2] at hup ⊢;rw[e] at hup ⊢;exact⟨rfl,Β hup⟩
     ·omega
    ·have hb:Below O.R d L1 i1 x:=by
      rcases hst with⟨e1,e2⟩|⟨_,h2⟩
      ·rcases e with e|e
       ·exact absurd e1 e
       ·rw[e1,e2];exact e
      ·exact h2
     exact hH.fill hd.1 hb (Β hup)
   |true=>
    clear ks5
    go_wp2_with (first
     |((go_at_call 155;(with_reducible refine(ks6).mono ?_));rintro e w2 ⟨rfl,hR,hu2⟩)
     | fail)
    go_roundw
    case rel=>
     obtain⟨hH,hP,hn1,hpm,hO,hst,hu,hl1,hz,hp,hpx,h⟩:=HF.out;obtain⟨hy,hat,bW⟩:=HY.out;have hpl:p<i1:=by rw[hp];exact fA hd.1 ω
     have hup:=hH.up O.tr hd.1 ω (x:=x) (by rw[←hp,hy];exact hxy);rw[←hp,hy] at hup;have hmv:=hP.move hi1 (p:=p) ω ω hn1;rw[hy] at hmv;have hpr:=yB (L:=L1) (i:=i1) (p:=p) (x:=x) hi1 ω ω;rw[hy] at hpr;refine⟨p,_,_,rfl,hR,hup.1,hmv,by rw[Ι];exact hl1,hpr.trans hpm,O.upd hat hu2 (λy hy=>by have:=HX.out.2.2.2.1;simp at hy;rcases hy with rfl|rfl;exact this.c;exact this.b),(hu.trans (bW.mono (by simp +contextual))).trans (hu2.mono (by simp +contextual)),Β ⟨?_,hup.2⟩⟩;rcases hst with⟨e,_⟩|⟨e,_⟩<;>omega
    case measure=>
     have hpl:p<i1:=by rw[HF.out.2.2.2.2.2.2.2.2.2.1];exact fA hd.1 (by have:=HF.out.2.2.2.2.2.2.2.2.1;omega)
     simp[intOf];omega
structure HB where
 n0:Nat
 c:Nat
 ga:Nat
def NQ(B:HB)(v:Value)(j:Nat):Value:=[Value.pointer (some ⟨B.n0,0,none⟩),v].getD j undef
structure oL(w:World)(B:HB)(F:List Nat)(A:NS)(rp g cap:Nat)(L T:List Nat):Prop where
 hd:aS w rp 302 2 (NQ B (.slice (some ⟨g,0,none⟩) L.length cap))
 row:IZ w g cap (bZ L)
 zB:IZ w B.ga T.length (bZ T)
 QW:w.cell? ⟨B.n0,0,none⟩=some (.pointer (some ⟨B.c,0,none⟩))
 QY:w.cell? ⟨B.n0,2,none⟩=some (.slice (some ⟨B.ga,0,none⟩) T.length T.length)
 Gj:∃st,aF w B.c F A st
 s1:rp≠g/\rp≠B.ga/\rp≠B.n0
 s2:g≠B.ga/\g≠B.n0/\B.ga≠B.n0
 s3:rp∉F/\g∉F/\B.ga∉F/\B.n0∉F
 dom:∀x,x∈L->bY A (x:Int)=true/\x<T.length
 nd:L.Nodup
 wQ:∀j x,L[j]?=some x->T.getD x 0=j
 tl:T.length<=65536
section
variable{w:World}{B:HB}{F:List Nat}{A:NS}{rp g cap:Nat}{L T:List Nat}
theorem oL.mem(h:oL w B F A rp g cap L T):B.c∈F:=by obtain⟨st,hC⟩:=h.Gj;exact hC.mem
theorem oL.cne(h:oL w B F A rp g cap L T):rp≠B.c/\g≠B.c/\B.ga≠B.c/\B.n0≠B.c:=by
 have hm:=h.mem;have h3:=h.s3;exact⟨λe=>h3.1 (by rw[e];exact hm),λe=>h3.2.1 (by rw[e];exact hm),λe=>h3.2.2.1 (by rw[e];exact hm),λe=>h3.2.2.2 (by rw[e];exact hm)⟩
theorem oL.h0(h:oL w B F A rp g cap L T):w.cell? ⟨rp,0,none⟩=some (.pointer (some ⟨B.n0,0,none⟩)):=h.hd.cellAt 0 ω rfl
theorem oL.h1(h:oL w B F A rp g cap L T):w.cell? ⟨rp,1,none⟩=some (.slice (some ⟨g,0,none⟩) L.length cap):=h.hd.cellAt 1 ω rfl
theorem oL.IA(h:oL w B F A rp g cap L T)(j:Nat)(hj:j<L.length):w.cell? ⟨g,j,none⟩=some (.int .i64 ((L.getD j 0:Nat):Int)):=by
 have:=h.row.cell j (by rw[dK];exact hj);rwa[oM] at this
theorem oL.IX(h:oL w B F A rp g cap L T)(j:Nat)(hj:j<T.length):w.cell? ⟨B.ga,j,none⟩=some (.int .i64 ((T.getD j 0:Nat):Int)):=by
 have:=h.zB.cell j (by rw[dK];exact hj);rwa[oM] at this
theorem oL.len(h:oL w B F A rp g cap L T):L.length<=65536:=by
 have h1:=nodup_range T.length (L.map (λ(x:Nat)=>(x:Int))) (by
  have hn:=h.nd;unfold List.Nodup at hn ⊢;rw[List.pairwise_map];exact hn.imp (λh e=>h ω)) (λx hx=>by
  obtain⟨y,hy,rfl⟩:=List.mem_map.1 hx
  have:=(h.dom y hy).2;omega)
 have:=h.tl;simp at h1;omega
theorem oL.capb(h:oL w B F A rp g cap L T):L.length<=cap/\cap<=9223372036854775807:=by
 have:=h.row.cap;rwa[dK] at this
theorem oL.upd{w':World}{S:List Nat}(h:oL w B F A rp g cap L T)(hu:ae S w w')(hS:∀x,x∈S->x∉rp::g::B.ga::B.n0::F):oL w' B F A rp g cap L T:=by
 have h1:∀x,x∈rp::g::B.ga::B.n0::F->x∉S:=λx hx hg=>hS x hg hx;refine⟨h.hd.upd hu (h1 _ σ),h.row.upd hu (h1 _ σ),h.zB.upd hu (h1 _ σ),hu.kept h.QW (h1 _ σ),hu.kept h.QY (h1 _ σ),?_,h.s1,h.s2,h.s3,h.dom,h.nd,h.wQ,h.tl⟩;obtain⟨st,hC⟩:=h.Gj;exact⟨st,hC.upd hu (λx hx hm=>hS x hx (by simp[hm]))⟩
theorem oL.ag{w':World}(h:oL w B F A rp g cap L T)(hu:ae [] w w'):oL w' B F A rp g cap L T:=h.upd hu σ
theorem oL.counted{w':World}{st:Nat}(h:oL w B F A rp g cap L T)(hu:ae [B.c] w w')(hC:aF w' B.c F A st):oL w' B F A rp g cap L T:=by
 have h1:=h.cne;exact⟨h.hd.upd hu (by simp;exact h1.1),h.row.upd hu (by simp;exact h1.2.1),h.zB.upd hu (by simp;exact h1.2.2.1),hu.kept h.QW (by simp;exact h1.2.2.2),hu.kept h.QY (by simp;exact h1.2.2.2),⟨st,hC⟩,h.s1,h.s2,h.s3,h.dom,h.nd,h.wQ,h.tl⟩
theorem yu(h:oL w B F A rp g cap L T) :
  Calls prog 270 #[.pointer (some ⟨rp,0,none⟩)] w λe w'=>e=.returned (.int .i64 (L.length:Int))/\w'=w:=by
 have c1:=h.h1;clear h;generalize L.length=n at *
 go_enter func270,ntmps270
 go_wp2;go_ret;exact⟨rfl,rfl⟩
theorem Ki(h:oL w B F A rp g cap L T)(i j:Nat)(hi:i<L.length)(hj:j<L.length) :
  Calls prog 275 #[.pointer (some ⟨rp,0,none⟩),.int .i64 (i:Int),.int .i64 (j:Int)] w λe w'=>e=.returned (.bool (decide (dB A (L.getD i 0) (L.getD j 0))))/\oL w' B F A rp g cap L T/\ae [B.c] w w':=by
 have hm:∀k,k<L.length->L.getD k 0∈L:=λk hk=>by
  rw[φ,ε hk];exact Ϙ hk
 have d1:=(h.dom _ (hm i hi)).1;have d2:=(h.dom _ (hm j hj)).1;have hce:=h.cne;have c0:∀X,ae [B.c] w X->_:=λX hX=>hX.kept h.h0 (by simp;exact hce.1);have c1:∀X,ae [B.c] w X->_:=λX hX=>hX.kept h.h1 (by simp;exact hce.1);have n0:∀X,ae [B.c] w X->_:=λX hX=>hX.kept h.QW (by simp;exact hce.2.2.2);have ci:∀X,ae [B.c] w X->_:=λX hX=>hX.kept (h.IA i hi) (by simp;exact hce.2.1);have cj:∀X,ae [B.c] w X->_:=λX hX=>hX.kept (h.IA j hj) (by simp;exact hce.2.1);clear hce
 have ka:∀W,ae [] w W->Calls prog 164 #[.pointer (some ⟨B.c,0,none⟩),.int .i64 ((L.getD i 0:Nat):Int),.int .i64 ((L.getD j 0:Nat):Int)] W λe w'=>e=.returned (.bool (decide (dB A (L.getD i 0) (L.getD j 0))))/\oL w' B F A rp g cap L T/\ae [B.c] W w':=λW hW=>by
  obtain⟨st,hC⟩:=h.Gj;refine(fB (hC.ag hW) _ _ d1 d2).mono ?_;rintro e w' ⟨rfl,hC',hu⟩;exact⟨rfl,(h.ag hW).counted hu hC',hu⟩
 clear h hm d1 d2;generalize L.getD i 0=x at *;generalize L.getD j 0=y at *;generalize hn:L.length=n at *;clear hn;generalize decide (dB A x y)=b at *;have V5:(i:Int)<(n:Int):=ω;have JX:(j:Int)<(n:Int):=ω
 go_enter func275,ntmps275
 go_upto_region 1 with(fail)
 go_region_held3 (ae [B.c] w) (exact ν)
  (first
   | ((go_at_call 164;(with_reducible refine (ka _ β).mono ?_));rintro e w1 ⟨rfl,hP1,hu1⟩;(have hv1:ae [B.c] w w1:=ae.trans ν hu1)))
 go_wp2;go_ret;exact⟨rfl,hP1,hv1⟩
end
def Cw(T L:List Nat)(i j:Nat):List Nat:=(T.set (L.getD j 0) i).set (L.getD i 0) j
theorem uV(T L:List Nat)(i j:Nat):(Cw T L i j).length=T.length:=by unfold Cw;simp
theorem uK{L:List Nat}{k:Nat}(hk:k<L.length):L.getD k 0∈L:=by
 rw[φ,ε hk];exact Ϙ hk
theorem yh{L:List Nat}(hn:L.Nodup){i j:Nat}(hi:i<L.length)(hj:j<L.length)(h:L.getD i 0=L.getD j 0):i=j:=by
 rw[φ,φ,ε hi,ε hj] at h;exact(List.getElem_inj hn).1 h
theorem ML{T L:List Nat}{i j x:Nat}(hi:i<L.length)(hj:j<L.length)(hx:x∉L):(Cw T L i j).getD x 0=T.getD x 0:=by
 unfold Cw;rw[dZ,dZ,Γ (λe=>hx (by rw[e.1];exact uK hi)),Γ (λe=>hx (by rw[e.1];exact uK hj))]
theorem X5{T L:List Nat}{i j:Nat}(hi:i<L.length)(hj:j<L.length)(hne:i≠j)(hn:L.Nodup)(hd:∀x,x∈L->x<T.length)(hp:∀j x,L[j]?=some x->T.getD x 0=j) :
  ∀k x,(gP L i j)[k]?=some x->(Cw T L i j).getD x 0=k:=by
 intro k x hk;have hkl:k<L.length:=by
  obtain⟨h1,_⟩:=List.getElem?_eq_some_iff.1 hk;rwa[jX] at h1
 have hx:x=(gP L i j).getD k 0:=by rw[φ,hk];rfl
 rw[lS hi hj] at hx;unfold Cw;rw[dZ,dZ];have hdi:=hd _ (uK hi);have hdj:=hd _ (uK hj)
 by_cases e1:k=j
 ·rw[Δ e1] at hx;rw[Δ ⟨hx,by simpa using hdi⟩,e1]
 ·rw[Γ e1] at hx
  by_cases e2:k=i
  ·rw[Δ e2] at hx;rw[Γ (λe=>hne (yh hn hi hj (by rw[←hx,←e.1]))),Δ ⟨hx,hdj⟩,e2]
  ·rw[Γ e2] at hx;rw[Γ (λe=>e2 (yh hn hkl hi (by rw[←hx,←e.1]))),Γ (λe=>e1 (yh hn hkl hj (by rw[←hx,←e.1])))];exact hp k x (by rw[hx,φ,ε hkl];rfl)
section
variable{w:World}{B:HB}{F:List Nat}{A:NS}{rp g cap:Nat}{L T:List Nat}
theorem BN(h:oL w B F A rp g cap L T)(i j:Nat)(hi:i<L.length)(hj:j<L.length)(hne:i≠j) :
  Calls prog 278 #[.pointer (some ⟨rp,0,none⟩),.int .i64 (i:Int),.int .i64 (j:Int)] w λe w'=>e=.returned (.tuple #[])/\oL w' B F A rp g cap (gP L i j) (Cw T L i j)/\ae [g,B.ga] w w':=by
 have h0:=h;have c0:=h.h0;have c1:=h.h1;have n2:=h.QY;have ci:=h.IA i hi;have cj:=h.IA j hj;have fi:=h.row.free i;have fj:=h.row.free j;have htl:=h.tl;have hx:=(h.dom _ (uK hi)).2;have hy:=(h.dom _ (uK hj)).2;have ctx:=h.IX _ hx;have cty:=h.IX _ hy;have ftx:=h.zB.free (L.getD i 0);have fty:=h.zB.free (L.getD j 0);have s1:=h.s1;have s2:=h.s2;have hxy:L.getD i 0≠L.getD j 0:=λe=>hne (yh h.nd hi hj e);have hs1:bZ (gP L i j)=((bZ L).set i ((L.getD j 0:Nat):Int)).set j ((L.getD i 0:Nat):Int):=by unfold gP;rw[nQ,nQ]
 have hs2:bZ (Cw T L i j)=((bZ T).set (L.getD j 0) (i:Int)).set (L.getD i 0) (j:Int):=by unfold Cw;rw[nQ,nQ]
 have hplc:=X5 hi hj hne h.nd (λx hx=>(h.dom x hx).2) h.wQ;have hperm:=wu hi hj hne;have HF:Hid (∀W W2,IZ W g cap (bZ (gP L i j))->ae [g] w W->ae [B.ga] W W2->IZ W2 B.ga T.length (bZ (Cw T L i j))->oL W2 B F A rp g cap (gP L i j) (Cw T L i j)/\ae [g,B.ga] w W2):=by
  intro W W2 hr hu hu2 ht;have hu':ae [g,B.ga] w W2:=(hu.mono σ).trans (hu2.mono σ);have h3:=h.s3;refine⟨⟨?_,hr.upd hu2 (by simp;exact s2.1),by rw[uV];exact ht,hu'.kept h.QW (by simp;exact⟨λe=>s2.2.1 e.symm,λe=>s2.2.2 e.symm⟩),by rw[uV];exact hu'.kept h.QY (by simp;exact⟨λe=>s2.2.1 e.symm,λe=>s2.2.2 e.symm⟩),?_,s1,s2,h3,λx hx=>by rw[uV];exact h.dom x (hperm.mem_iff.1 hx),hperm.nodup_iff.2 h.nd,hplc,by rw[uV];exact htl⟩,hu'⟩
  ·rw[jX];exact h.hd.upd hu' (by simp;exact⟨s1.1,s1.2.1⟩)
  ·obtain⟨st,hC⟩:=h.Gj;exact⟨st,hC.upd hu' (λx hx hm=>by simp at hx;rcases hx with rfl|rfl;exact h3.2.1 hm;exact h3.2.2.1 hm)⟩
 have HR:Hid (IZ w g cap (bZ L)/\IZ w B.ga T.length (bZ T)):=⟨h.row,h.zB⟩;clear h h0 hplc hperm;generalize gP L i j=L' at *;generalize Cw T L i j=T' at *;generalize L.getD i 0=x at *;generalize L.getD j 0=y at *;generalize T.getD x 0=tx at *;generalize T.getD y 0=ty at *;generalize L.length=n at *;generalize T.length=m at *;have V5:(i:Int)<(n:Int):=ω;have JX:(j:Int)<(n:Int):=ω;have CE:(x:Int)<(m:Int):=ω;have hyI:(y:Int)<(m:Int):=ω;have HS1:=χ hs1;have HS2:=χ hs2;clear hs1 hs2;have hgl:rp≠g:=s1.1;have hne2:¬i=j:=hne
 go_enter func278,ntmps278
 go_upto_region 0 with(fail)
 go_cut [] (λW=>ae [] ((w.setCell ⟨g,i,none⟩ (.int .i64 (y:Int))).setCell ⟨g,j,none⟩ (.int .i64 (x:Int))) W)
 case first=>
  go_wp2
  go_region
  all_goals
   go_wp2
   go_meet
   first|exact⟨rfl,rfl,rfl,Θ _,λ_ _ _=>rfl⟩|exact ν
 case rest=>
 have oV:=hcut;clear hcut;rename World=>W;have hr:IZ W g cap (bZ L'):=by rw[HS1.out];exact((HR.out.1.set i _).set j _).upd oV σ
 have hu:ae [g] w W:=ae.then β oV;have d1:W.cell? ⟨g,i,none⟩=some (.int .i64 (y:Int)):=oV.was γ;have d2:W.cell? ⟨g,j,none⟩=some (.int .i64 (x:Int)):=oV.was γ;have e0:=hu.kept c0 (by simp;exact s1.1);have e1:=hu.kept c1 (by simp;exact s1.1);have e2:=hu.kept n2 (by simp;exact λe=>s2.2.1 e.symm);have ex:=hu.kept ctx (by simp;exact λe=>s2.1 e.symm);have ey:=hu.kept cty (by simp;exact λe=>s2.1 e.symm);have gx:=hu.aM ctx (by simp;exact λe=>s2.1 e.symm) ftx;have gy:=hu.aM cty (by simp;exact λe=>s2.1 e.symm) fty;have e00:W.cell? ⟨B.n0,2,none⟩=some (.slice (some ⟨B.ga,0,none⟩) m m):=e2
 have ht:=HR.out.2.upd hu (by simp;exact λe=>s2.1 e.symm);have HT:=χ (ψ ht (ψ hr hu));clear c0 c1 n2 ctx cty ftx fty ci cj fi fj ht hr hu e2 oV;go_wp2
 go_region
 all_goals
  go_wp2;go_end0;obtain⟨ht,hr,hu⟩:=HT.out;exact⟨rfl,HF.out _ _ hr hu β (by rw[HS2.out];exact((ht.drewN _).set y _).set x _)⟩
end
theorem yg{M t:List Nat}{k:Nat}(hk:k<M.length):(M++t).getD k 0=M.getD k 0:=by
 rw[φ,φ,Ρ hk]
theorem O0{M t:List Nat}{i j:Nat}(hi:i<M.length)(hj:j<M.length):gP (M++t) i j=gP M i j++t:=by
 unfold gP;rw[yg hi,yg hj,List.set_append_left _ _ hi,List.set_append_left _ _ (by simpa using hj)]
structure mM(w0:World)(B:HB)(F:List Nat)(A:NS)(rp g cap:Nat)(t M T:List Nat)(w:World)(M' T':List Nat):Prop where
 pi:oL w B F A rp g cap (M'++t) T'
 perm:M'.Perm M
 off:∀x,x∉M++t->T'.getD x 0=T.getD x 0
 tl:T'.length=T.length
 upd:ae [g,B.ga,B.c] w0 w
section
variable{w0 w:World}{B:HB}{F:List Nat}{A:NS}{rp g cap:Nat}{t M T M' T':List Nat}
theorem mM.start(h:oL w B F A rp g cap (M++t) T):mM w B F A rp g cap t M T w M T:=⟨h,ό _,λ_ _=>rfl,rfl,ae.refl _ _⟩
theorem mM.asked{w':World}(h:mM w0 B F A rp g cap t M T w M' T')(hp:oL w' B F A rp g cap (M'++t) T')(hu:ae [B.c] w w'):mM w0 B F A rp g cap t M T w' M' T':=
 ⟨hp,h.perm,h.off,h.tl,h.upd.trans (hu.mono σ)⟩
theorem mM.swap{w':World}{i j:Nat}(h:mM w0 B F A rp g cap t M T w M' T')(hi:i<M'.length)(hj:j<M'.length)(hne:i≠j)(hp:oL w' B F A rp g cap (gP (M'++t) i j) (Cw T' (M'++t) i j))(hu:ae [g,B.ga] w w') :
  mM w0 B F A rp g cap t M T w' (gP M' i j) (Cw T' (M'++t) i j):=by
 refine⟨by rw[←O0 hi hj];exact hp,(wu hi hj hne).trans h.perm,λx hx=>?_,by rw[uV];exact h.tl,h.upd.trans (hu.mono σ)⟩;rw[ML (by rw[υ];omega) (by rw[υ];omega) (λhm=>hx ?_)]
 ·exact h.off x hx
 ·exact(h.perm.append_right t).mem_iff.1 hm
theorem AO{a b:Nat}(hne:a≠b)(h:¬nD A a b):nD A b a:=by
 rcases jc (A:=A) hne with h1|h1
 ·exact absurd (dY.2 h1) h
 ·exact dY.2 h1
theorem mM.ne(h:mM w0 B F A rp g cap t M T w M' T'){i j:Nat}(hi:i<M'.length)(hj:j<M'.length)(hne:i≠j):M'.getD i 0≠M'.getD j 0:=λe=>hne (yh (θ.1 h.pi.nd).1 hi hj e)
theorem MR:MI 298 "Less" 275:=λ_ _=>by kernel_rfl
theorem FC:MI 298 "Swap" 278:=λ_ _=>by kernel_rfl
theorem K9:MI 298 "Len" 270:=λ_ _=>by kernel_rfl
theorem XI:MI 298 "Push" 277:=λ_ _=>by kernel_rfl
theorem aaj:MI 298 "Pop" 276:=λ_ _=>by kernel_rfl
theorem mM.less(h:mM w0 B F A rp g cap t M T w M' T'){i j:Nat}(hi:i<M'.length)(hj:j<M'.length){b:Bool}(hb:decide (dB A (M'.getD i 0) (M'.getD j 0))=b) :
  Calls prog 275 #[.pointer (some ⟨rp,0,none⟩),.int .i64 (i:Int),.int .i64 (j:Int)] w λe w'=>e=.returned (.bool b)/\mM w0 B F A rp g cap t M T w' M' T':=by
 have k:=Ki h.pi i j (by rw[υ];omega) (by rw[υ];omega);rw[yg hi,yg hj,hb] at k;exact k.mono (λe w' hh=>⟨hh.1,h.asked hh.2.1 hh.2.2⟩)
theorem mM.swaps(h:mM w0 B F A rp g cap t M T w M' T'){i j:Nat}(hi:i<M'.length)(hj:j<M'.length)(hne:i≠j) :
  Calls prog 278 #[.pointer (some ⟨rp,0,none⟩),.int .i64 (i:Int),.int .i64 (j:Int)] w λe w'=>e=.returned (.tuple #[])/\mM w0 B F A rp g cap t M T w' (gP M' i j) (Cw T' (M'++t) i j):=
 (BN h.pi i j (by rw[υ];omega) (by rw[υ];omega) hne).mono (λe w' hh=>⟨hh.1,h.swap hi hj hne hh.2.1 hh.2.2⟩)
theorem A8(h0:mM w0 B F A rp g cap t M T w M' T')(j0:Nat)(hH:fH (nD A) 2 M' j0)(hB:Below (nD A) 2 M' j0 (M'.getD j0 0)) :
  Calls prog 272 #[.iface 298 (.pointer (some ⟨rp,0,none⟩)),.int .i64 (j0:Int)] w λe w'=>e=.returned (.tuple #[])/\∃M2 T2,mM w0 B F A rp g cap t M T w' M2 T2/\Hp (nD A) 2 M2:=by
 have m1:=MR rp;have m2:=FC rp;have HI:=χ (ψ h0 (ψ hH hB));clear h0 hH hB
 go_enter func272,ntmps272
 go_wp2
 go_loopw [1,4] (λv1 v4 wr=>∃(j:Nat) (M2 T2:List Nat),v1=.int .i64 (j:Int)/\mM w0 B F A rp g cap t M T wr M2 T2/\fH (nD A) 2 M2 j/\Below (nD A) 2 M2 j (M2.getD j 0)) (λv1 _ _=>(intOf v1).toNat)
 case atStart=>exact⟨j0,M',T',rfl,HI.out.1,HI.out.2.1,HI.out.2.2⟩
 case round=>
  obtain⟨j,M2,T2,rfl,hP,hH,hB⟩:=hrel;rename World=>wr;have hjl:=hH.lt;have hlen:(M2++t).length<=65536:=hP.pi.len;rw[υ] at hlen
  by_cases hj0:j=0
  ·subst hj0;have hF:=hH.done ω hB (Α rfl);have HQ:=χ (ψ hP hF);clear hP hH hB hF hjl hlen;go_wp2;go_end0;exact⟨rfl,M2,T2,HQ.out.1,HQ.out.2⟩
  ·have hp:=fA (d:=2) ω (show 0<j by omega);have hq:((j:Int)-1).tdiv 2=(par 2 j:Int):=by
    unfold par;rw[show(j:Int)-1=((j-1:Nat):Int) by omega]
    rfl
   have hne:=hP.ne hjl (show par 2 j<M2.length by omega) ω;cases hb:decide (dB A (M2.getD j 0) (M2.getD (par 2 j) 0)) with
   |false=>
    have kl:=hP.less hjl (show par 2 j<M2.length by omega) hb;have hF:=hH.done ω hB (Β (AO hne (λh=>by rw[dY] at h;rw[decide_eq_false_iff_not] at hb;exact hb h)));have HQ:=χ hF;clear hP hH hB hF hb hne;generalize par 2 j=p at *;have hpj:((p:Int) == (j:Int))=false:=ζ;have hj1:0<j:=ω;clear hj0
    go_wp2_with (first
     |((go_at_call 275;(with_reducible refine(kl).mono ?_));rintro e w1 ⟨rfl,hP1⟩)
     | fail)
    go_end0;exact⟨rfl,M2,T2,hP1,HQ.out⟩
   |true=>
    have kl:=hP.less hjl (show par 2 j<M2.length by omega) hb;have hS:=hH.aaY (iR A) ω (dY.2 (ϣ hb));have ks:∀w1,mM w0 B F A rp g cap t M T w1 M2 T2->_:=λw1 h1=>mM.swaps h1 (show par 2 j<M2.length by omega) hjl ω;have HQ:=χ hS;clear hP hH hB hS hb hne;generalize par 2 j=p at *;have hpj:((p:Int) == (j:Int))=false:=ζ;have hj1:0<j:=ω;clear hj0
    go_wp2_with (first
     |((go_at_call 275;(with_reducible refine(kl).mono ?_));rintro e w1 ⟨rfl,hP1⟩)
     |((go_at_call 278;(with_reducible refine(ks _ hP1).mono ?_));rintro e w2 ⟨rfl,hP2⟩)
     | fail)
    go_roundw
    case rel=>exact⟨p,_,_,by go_num,hP2,HQ.out.1,HQ.out.2⟩
    case measure=>simp[intOf];omega
end
section
variable{w0 w:World}{B:HB}{F:List Nat}{A:NS}{rp g cap:Nat}{t M T M' T':List Nat}
def NL(A:NS)(i0:Nat)(b:Bool)(M2:List Nat):Prop:=(b=true->Hp (nD A) 2 M2)/\(b=false->fH (nD A) 2 M2 i0/\Below (nD A) 2 M2 i0 (M2.getD i0 0))
theorem uI{i0 i:Nat}{M2:List Nat}(hH:fH (nD A) 2 M2 i)(hB:Below (nD A) 2 M2 i (M2.getD i 0))(h0:i0<=i)(hu:i0<i->nD A (M2.getD (par 2 i) 0) (M2.getD i 0)):NL A i0 (decide (i0<i)) M2:=by
 constructor
 ·intro h;exact hH.done ω hB (Β (hu (by simp at h;omega)))
 ·intro h;have e:i=i0:=by simp at h;omega
  subst e;exact⟨hH,hB⟩
def Nq(w0:World)(B:HB)(F:List Nat)(A:NS)(rp g cap:Nat)(t M T:List Nat)(w:World)(i0 i2:Nat):Prop:=∃M2 T2,mM w0 B F A rp g cap t M T w M2 T2/\NL A i0 (decide (i0<i2)) M2
theorem A9(h0:mM w0 B F A rp g cap t M T w M' T')(i0 n:Nat)(hn:n=M'.length)(hH:fH (nD A) 2 M' i0) :
  Calls prog 271 #[.iface 298 (.pointer (some ⟨rp,0,none⟩)),.int .i64 (i0:Int),.int .i64 (n:Int)] w λe w'=>∃i2,e=.returned (.bool (decide (i0<i2)))/\Nq w0 B F A rp g cap t M T w' i0 i2:=by
 have m1:=MR rp;have m2:=FC rp;have HI:=χ (ψ h0 (ψ hH hn));clear h0 hH hn
 go_enter func271,ntmps271
 go_wp2
 go_loopw [7,8,9,10] (λv7 v8 v9 v10 wr=>∃(i:Nat) (M2 T2:List Nat),v7=.int .i64 (i:Int)/\mM w0 B F A rp g cap t M T wr M2 T2/\fH (nD A) 2 M2 i/\M2.length=n/\i0<=i/\(i0<i->nD A (M2.getD (par 2 i) 0) (M2.getD i 0))) (λv7 _ _ _ _=>n-(intOf v7).toNat)
 case atStart=>exact⟨i0,M',T',rfl,HI.out.1,HI.out.2.1,HI.out.2.2.symm,Θ _,λh=>absurd h (Ϝ _)⟩
 case round=>
  obtain⟨i,M2,T2,rfl,hP,hH,hl,hi0,hu⟩:=hrel;rename World=>wr;have hil:=hH.lt;rw[hl] at hil;have hlen:(M2++t).length<=65536:=hP.pi.len;rw[υ,hl] at hlen;obtain⟨j1,hj1⟩:∃j1,j1=2*i+1:=⟨_,rfl⟩;have he1:2*(i:Int)+1=(j1:Int):=ω;obtain⟨j2,hj2⟩:∃j2,j2=j1+1:=⟨_,rfl⟩;have he2:(j1:Int)+1=(j2:Int):=ω;have hj10:¬(j1:Int)<0:=ω
  by_cases hc1:j1<n
  ·have hc1I:¬(j1:Int)≥(n:Int):=ω;have ht1:=Po (R:=nD A) (L:=M2) (i:=i) hl ω (λh2 hr=>AO (hP.ne ω ω ω) hr);rw[show 2*i+1=j1 from hj1.symm,show 2*i+2=j2 by omega] at ht1
   by_cases hc2:j2<n
   ·have hc2I:(j2:Int)<(n:Int):=ω;cases hb1:decide (dB A (M2.getD j2 0) (M2.getD j1 0)) with
    |true=>
     have hF:=ht1.2 ⟨hc2,dY.2 (ϣ hb1)⟩;have JW:=hP.less (show j2<M2.length by omega) (show j1<M2.length by omega) hb1;cases hb2:decide (dB A (M2.getD j2 0) (M2.getD i 0)) with
     |true=>
      have Re:∀w1,mM w0 B F A rp g cap t M T w1 M2 T2->_:=λw1 h1=>mM.less h1 (show j2<M2.length by omega) (show i<M2.length by omega) hb2;have ks:∀w1,mM w0 B F A rp g cap t M T w1 M2 T2->_:=λw1 h1=>mM.swaps h1 (show i<M2.length by omega) (show j2<M2.length by omega) ω;have hS:=hH.BH (iR A) hF (dY.2 (ϣ hb2));have HQ:=χ (ψ hS hl);clear hP hH hu hF hb1 hb2 hS ht1 hl hj1 hj2
      go_wp2_with (first|((go_at_call 275;(with_reducible refine(JW).mono ?_));rintro e w1 ⟨rfl,hP1⟩)|((go_at_call 275;(with_reducible refine(Re _ hP1).mono ?_));rintro e w2 ⟨rfl,hP2⟩)|((go_at_call 278;(with_reducible refine(ks _ hP2).mono ?_));rintro e w3 ⟨rfl,hP3⟩)|fail)
      go_roundw
      case rel=>exact⟨j2,_,_,by go_num,hP3,HQ.out.1.1,by rw[jX];exact HQ.out.2,ω,λ_=>HQ.out.1.2⟩
      case measure=>simp[intOf];omega
     |false=>
      have Re:∀w1,mM w0 B F A rp g cap t M T w1 M2 T2->_:=λw1 h1=>mM.less h1 (show j2<M2.length by omega) (show i<M2.length by omega) hb2;have hx:=AO (hP.ne (show j2<M2.length by omega) (show i<M2.length by omega) ω) (λh=>by rw[dY] at h;rw[decide_eq_false_iff_not] at hb2;exact hb2 h);have hE:=uI hH (pq (iR A) hF hx) hi0 hu;have HQ:=χ hE;clear hP hH hu hF hb1 hb2 hE ht1 hl hj1 hj2 hx
      go_wp2_with (first|((go_at_call 275;(with_reducible refine(JW).mono ?_));rintro e w1 ⟨rfl,hP1⟩)|((go_at_call 275;(with_reducible refine(Re _ hP1).mono ?_));rintro e w2 ⟨rfl,hP2⟩)|fail)
      go_ret;exact⟨i,rfl,M2,T2,hP2,HQ.out⟩
    |false=>
     have hF:=ht1.1 (λh=>by rw[decide_eq_false_iff_not] at hb1;exact hb1 (dY.1 h.2));have JW:=hP.less (show j2<M2.length by omega) (show j1<M2.length by omega) hb1;cases hb2:decide (dB A (M2.getD j1 0) (M2.getD i 0)) with
     |true=>
      have Re:∀w1,mM w0 B F A rp g cap t M T w1 M2 T2->_:=λw1 h1=>mM.less h1 (show j1<M2.length by omega) (show i<M2.length by omega) hb2;have ks:∀w1,mM w0 B F A rp g cap t M T w1 M2 T2->_:=λw1 h1=>mM.swaps h1 (show i<M2.length by omega) (show j1<M2.length by omega) ω;have hS:=hH.BH (iR A) hF (dY.2 (ϣ hb2));have HQ:=χ (ψ hS hl);clear hP hH hu hF hb1 hb2 hS ht1 hl hj1 hj2
      go_wp2_with (first|((go_at_call 275;(with_reducible refine(JW).mono ?_));rintro e w1 ⟨rfl,hP1⟩)|((go_at_call 275;(with_reducible refine(Re _ hP1).mono ?_));rintro e w2 ⟨rfl,hP2⟩)|((go_at_call 278;(with_reducible refine(ks _ hP2).mono ?_));rintro e w3 ⟨rfl,hP3⟩)|fail)
      go_roundw
      case rel=>exact⟨j1,_,_,by go_num,hP3,HQ.out.1.1,by rw[jX];exact HQ.out.2,ω,λ_=>HQ.out.1.2⟩
      case measure=>simp[intOf];omega
     |false=>
      have Re:∀w1,mM w0 B F A rp g cap t M T w1 M2 T2->_:=λw1 h1=>mM.less h1 (show j1<M2.length by omega) (show i<M2.length by omega) hb2;have hx:=AO (hP.ne (show j1<M2.length by omega) (show i<M2.length by omega) ω) (λh=>by rw[dY] at h;rw[decide_eq_false_iff_not] at hb2;exact hb2 h);have hE:=uI hH (pq (iR A) hF hx) hi0 hu;have HQ:=χ hE;clear hP hH hu hF hb1 hb2 hE ht1 hl hj1 hj2 hx
      go_wp2_with (first|((go_at_call 275;(with_reducible refine(JW).mono ?_));rintro e w1 ⟨rfl,hP1⟩)|((go_at_call 275;(with_reducible refine(Re _ hP1).mono ?_));rintro e w2 ⟨rfl,hP2⟩)|fail)
      go_ret;exact⟨i,rfl,M2,T2,hP2,HQ.out⟩
   ·have hc2I:¬(j2:Int)<(n:Int):=ω;have hF:=ht1.1 (λh=>hc2 h.1);have hP1:=hP;cases hb2:decide (dB A (M2.getD j1 0) (M2.getD i 0)) with
    |true=>
     have Re:∀w1,mM w0 B F A rp g cap t M T w1 M2 T2->_:=λw1 h1=>mM.less h1 (show j1<M2.length by omega) (show i<M2.length by omega) hb2;have ks:∀w1,mM w0 B F A rp g cap t M T w1 M2 T2->_:=λw1 h1=>mM.swaps h1 (show i<M2.length by omega) (show j1<M2.length by omega) ω;have hS:=hH.BH (iR A) hF (dY.2 (ϣ hb2));have HQ:=χ (ψ hS hl);clear hP hH hu hF hb2 hS ht1 hl hj1 hj2
     go_wp2_with (first|((go_at_call 275;(with_reducible refine(Re _ hP1).mono ?_));rintro e w2 ⟨rfl,hP2⟩)|((go_at_call 278;(with_reducible refine(ks _ hP2).mono ?_));rintro e w3 ⟨rfl,hP3⟩)|fail)
     go_roundw
     case rel=>exact⟨j1,_,_,by go_num,hP3,HQ.out.1.1,by rw[jX];exact HQ.out.2,ω,λ_=>HQ.out.1.2⟩
     case measure=>simp[intOf];omega
    |false=>
     have Re:∀w1,mM w0 B F A rp g cap t M T w1 M2 T2->_:=λw1 h1=>mM.less h1 (show j1<M2.length by omega) (show i<M2.length by omega) hb2;have hx:=AO (hP.ne (show j1<M2.length by omega) (show i<M2.length by omega) ω) (λh=>by rw[dY] at h;rw[decide_eq_false_iff_not] at hb2;exact hb2 h);have hE:=uI hH (pq (iR A) hF hx) hi0 hu;have HQ:=χ hE;clear hP hH hu hF hb2 hE ht1 hl hj1 hj2 hx
     go_wp2_with (first|((go_at_call 275;(with_reducible refine(Re _ hP1).mono ?_));rintro e w2 ⟨rfl,hP2⟩)|fail)
     go_ret;exact⟨i,rfl,M2,T2,hP2,HQ.out⟩
  ·have hc1I:(j1:Int)≥(n:Int):=ω;have hE:=uI hH (AP ω ω) hi0 hu;have HQ:=χ (ψ hP hE);clear hP hH hu hE hl hj1 hj2;go_wp2;go_ret;exact⟨i,rfl,M2,T2,HQ.out.1,HQ.out.2⟩
end
structure DI(w:World)(B:HB)(F:List Nat)(A:NS)(rp:Nat)(v:Value)(L T:List Nat):Prop where
 hd:aS w rp 302 2 (NQ B v)
 own:w.ownsRow 0 3 1 v L.length (bz (bZ L))
 zB:IZ w B.ga T.length (bZ T)
 QW:w.cell? ⟨B.n0,0,none⟩=some (.pointer (some ⟨B.c,0,none⟩))
 QY:w.cell? ⟨B.n0,2,none⟩=some (.slice (some ⟨B.ga,0,none⟩) T.length T.length)
 Gj:∃st,aF w B.c F A st
 s1:rp≠B.ga/\rp≠B.n0
 sg:∀g,v.ownBlock=some g->g≠rp/\g≠B.ga/\g≠B.n0/\g∉F
 s2:B.ga≠B.n0
 s3:rp∉F/\B.ga∉F/\B.n0∉F
 dom:∀x,x∈L->bY A (x:Int)=true/\x<T.length
 nd:L.Nodup
 wQ:∀j x,L[j]?=some x->T.getD x 0=j
 tl:T.length<=65536
section
variable{w:World}{B:HB}{F:List Nat}{A:NS}{rp g cap:Nat}{v:Value}{L T:List Nat}
theorem DI.full(h:DI w B F A rp v L T)(hl:0<L.length):∃g cap,v=.slice (some ⟨g,0,none⟩) L.length cap/\oL w B F A rp g cap L T:=by
 have ho:=h.own;rw[←dK] at ho;obtain⟨g,cap,rfl,hz, -⟩:=IZ.iA ho (by rw[dK];exact hl);have hs:=h.sg g rfl;rw[dK];refine⟨g,cap,rfl,?_,hz,h.zB,h.QW,h.QY,h.Gj,⟨λe=>hs.1 e.symm,h.s1.1,h.s1.2⟩,⟨hs.2.1,hs.2.2.1,h.s2⟩,⟨h.s3.1,hs.2.2.2,h.s3.2.1,h.s3.2.2⟩,h.dom,h.nd,h.wQ,h.tl⟩;have:=h.hd;rwa[dK] at this
theorem oL.any(h:oL w B F A rp g cap L T):DI w B F A rp (.slice (some ⟨g,0,none⟩) L.length cap) L T:=by
 have ho:=h.row.own;rw[dK] at ho;refine⟨h.hd,ho,h.zB,h.QW,h.QY,h.Gj,h.s1.2,λk hk=>?_,h.s2.2.2,⟨h.s3.1,h.s3.2.2⟩,h.dom,h.nd,h.wQ,h.tl⟩;cases hk;exact⟨λe=>h.s1.1 e.symm,h.s2.1,h.s2.2.1,h.s3.2.1⟩
theorem DI.len(h:DI w B F A rp v L T):L.length<=65536:=by
 rcases Nat.eq_zero_or_pos L.length with e|e
 ·omega
 ·obtain⟨g,cap, -,hM⟩:=h.full e;exact hM.len
theorem DI.upd{w':World}{S:List Nat}(h:DI w B F A rp v L T)(hu:ae S w w')(hS:∀x,x∈S->x∉rp::B.ga::B.n0::(F++v.ownBlock.toList)):DI w' B F A rp v L T:=by
 have h1:∀x,x∈rp::B.ga::B.n0::(F++v.ownBlock.toList)->x∉S:=λx hx hg=>hS x hg hx;refine⟨h.hd.upd hu (h1 _ σ),ak h.own hu (λk hk=>h1 k (by simp[Option.mem_toList,hk])),h.zB.upd hu (h1 _ σ),hu.kept h.QW (h1 _ σ),hu.kept h.QY (h1 _ σ),?_,h.s1,h.sg,h.s2,h.s3,h.dom,h.nd,h.wQ,h.tl⟩;obtain⟨st,hC⟩:=h.Gj;exact⟨st,hC.upd hu (λx hx hm=>hS x hx (by simp[hm]))⟩
theorem DI.ag{w':World}(h:DI w B F A rp v L T)(hu:ae [] w w'):DI w' B F A rp v L T:=h.upd hu σ
theorem Qf(l:List Nat)(x:Nat):bZ (l++[x])=bZ l++[(x:Int)]:=by unfold bZ;simp
theorem TY{L T:List Nat}{x:Nat}(hx:x∉L)(Lr:x<T.length)(h:∀j x,L[j]?=some x->T.getD x 0=j):∀j y,(L++[x])[j]?=some y->(T.set x L.length).getD y 0=j:=by
 intro j y hj;rw[dZ]
 by_cases e:j<L.length
 ·rw[Ρ e] at hj;rw[Γ (λh'=>hx (by rw[←h'.1];exact Η hj))];exact h j y hj
 ·rw[ϊ ω] at hj;have e2:j-L.length=0:=by
   rcases Nat.eq_zero_or_pos (j-L.length) with h'|h'
   ·exact h'
   ·rw[List.getElem?_eq_none ζ] at hj;cases hj
  rw[e2] at hj;simp at hj;rw[Δ ⟨hj.symm,Lr⟩];omega
theorem Kh(h:DI w B F A rp v L T)(x:Nat)(hx:x∉L)(hin:bY A (x:Int)=true)(Lr:x<T.length)(hl:L.length<T.length) :
  Calls prog 277 #[.pointer (some ⟨rp,0,none⟩),.iface 3 (.int .i64 (x:Int))] w λe w'=>e=.returned (.tuple #[])/\∃g cap,oL w' B F A rp g cap (L++[x]) (T.set x L.length)/\ae (rp::B.ga::v.ownBlock.toList) w w'/\(v.ownBlock=some g\/w.heap.size<=g):=by
 have hle:=h.len;obtain⟨av,cv,rfl,hcv⟩:=aV h.own;have c0:w.cell? ⟨rp,0,none⟩=some (.pointer (some ⟨B.n0,0,none⟩)):=h.hd.cellAt 0 ω rfl;have c1:w.cell? ⟨rp,1,none⟩=some (.slice av L.length cv):=h.hd.cellAt 1 ω rfl;have n2:=h.QY;have ct:w.cell? ⟨B.ga,x,none⟩=some (.int .i64 ((T.getD x 0:Nat):Int)):=by
  have:=h.zB.cell x (by rw[dK];exact Lr);rwa[oM] at this
 have ft:=h.zB.free x;have fr:=h.hd.free 1;have HH:=χ (ψ h (ψ hx (ψ hin Lr)));have CE:(x:Int)<(T.length:Int):=ω;have s1:=h.s1;clear h hx hin;generalize hn:L.length=n at *;generalize hm:T.length=m at *;have HN:=χ (ψ hn hm);clear hn hm;generalize T.getD x 0=tx at *;have Cf:∀W:World,(Instr.typeAssert (.iface 3 (.int .i64 (x:Int))) 20 3 false).run prog W=.ok (.int .i64 (x:Int)) W:=λW=>by kernel_rfl
 go_enter func277,ntmps277
 go_upto_region 1 with(fail)
 go_cut [] (λW=>ae [] (w.setCell ⟨B.ga,x,none⟩ (.int .i64 (n:Int))) W)
 case first=>
  go_wp2
  go_region
  all_goals
   go_wp2
   go_meet
   first|exact⟨rfl,rfl,rfl,Θ _,λ_ _ _=>rfl⟩|exact ν
 case rest=>
 have oV:=hcut;clear hcut;rename World=>W;obtain⟨h,hx,hin,aa1⟩:=HH.out;have hu:ae [B.ga] w W:=ae.then β oV;have e1:W.cell? ⟨rp,1,none⟩=some (.slice av n cv):=hu.kept c1 (by simp;exact s1.1);have JS:=hu.aM c1 (by simp;exact s1.1) fr;have hT:IZ W B.ga m (bZ (T.set x n)):=by
  rw[nQ];have:=h.zB;rw[HN.out.2] at this;exact(this.set x _).upd oV σ
 have ho:W.ownsRow 0 3 1 (.slice av n cv) n (bz (bZ L)):=by
  have:=ak h.own hu (λk hk=>by simp;exact(h.sg k hk).2.1);rwa[HN.out.1] at this
 have HP:=χ (ψ hu hT);clear h hx hin hu hT c0 c1 n2 ct ft fr oV;have hrl:rp<W.heap.size:=Ε _ _ e1
 go_wp2_with (first
  |((at_builtin;refine bI rfl _ _ 77 rfl 0 3 (.int .i64 0) 1 8 underlying77 gI rfl δ _ _ _ rfl (ho) [.int .i64 (x:Int)] rfl (by simp[Value.oneCell']) (by first|rfl|(rw[Κ];rfl)) μ ω (ω) ?_;intro v2 w3 ho3 hu3 Ju);obtain⟨g3,c3,rfl,_,hg3l,_,hc3, -, -⟩:=fQ ho3 ω;(have er:¬(Value.slice av n cv).ownBlock=some rp:=λe=>(HH.out.1.sg rp e).1 rfl);(have e2:=hu3.kept e1 (λhm=>er (Option.mem_toList.1 hm)));(have fr2:=hu3.aM e1 (λhm=>er (Option.mem_toList.1 hm)) JS))
  | fail)
 go_end0;obtain⟨h,hx,hin,aa1⟩:=HH.out;obtain⟨hu,hT⟩:=HP.out;have hsz:=hu.size;have hgx:(Value.slice av n cv).ownBlock=some g3\/w.heap.size<=g3:=by
  rcases Ju with e|e
  ·exact Α (e.symm.trans rfl)
  ·exact Β (by have:=e g3 rfl;omega)
 have hw4:ae [rp] w3 (w3.setCell ⟨rp,1,none⟩ (.slice (some ⟨g3,0,none⟩) (n+1) c3)):=β;have huA:ae (rp::B.ga::(Value.slice av n cv).ownBlock.toList) w (w3.setCell ⟨rp,1,none⟩ (.slice (some ⟨g3,0,none⟩) (n+1) c3)):=((hu.mono σ).trans (hu3.mono (λz hz=>Λ _ (Λ _ hz)))).trans (hw4.mono σ);have hgs:g3≠rp/\g3≠B.ga/\g3≠B.n0/\g3∉F:=by
  rcases hgx with e|e
  ·exact h.sg g3 e
  ·refine⟨λe2=>?_,λe2=>?_,λe2=>?_,λhm=>?_⟩
   ·have:=h.hd.lt;omega
   ·have:=h.zB.lt;omega
   ·have:=Ε _ _ h.QW;dsimp only at this;omega
   ·obtain⟨st,hC⟩:=h.Gj;have:=hC.lt g3 hm;omega
 have hoff:∀z,z∈rp::B.ga::(Value.slice av n cv).ownBlock.toList->z≠B.n0/\z∉F:=λz hz=>by
  simp only[ρ] at hz;rcases hz with rfl|rfl|hz
  ·exact⟨h.s1.2,h.s3.1⟩
  ·exact⟨h.s2,h.s3.2.1⟩
  ·have:=h.sg z (Option.mem_toList.1 hz);exact⟨this.2.2.1,this.2.2.2⟩
 refine⟨rfl,g3,c3,⟨?_,?_,?_,huA.kept h.QW (λhm=>(hoff _ hm).1 rfl),?_,?_,⟨λe=>hgs.1 e.symm,h.s1⟩,⟨hgs.2.1,hgs.2.2.1,h.s2⟩,⟨h.s3.1,hgs.2.2.2,h.s3.2⟩,λy hy=>?_,?_,?_,?_⟩,huA,hgx⟩
 ·rw[υ,HN.out.1];refine(((h.hd.upd hu (by simp;exact s1.1)).upd hu3 (λhm=>er (Option.mem_toList.1 hm))).set 1 _).ext (λj hj=>?_);rcases(ω:j=0\/j=1) with rfl|rfl<;>rfl
 ·refine⟨?_⟩;rw[Qf,υ,dK,HN.out.1,dO];exact ak ho3 hw4 (λk hk=>by cases hk;simp;exact hgs.1)
 ·rw[Ι,HN.out.2];exact(hT.upd hu3 (λhm=>(h.sg B.ga (Option.mem_toList.1 hm)).2.1 rfl)).upd hw4 (by simp;exact λe=>s1.1 e.symm)
 ·rw[Ι];exact huA.kept h.QY (λhm=>(hoff _ hm).1 rfl)
 ·obtain⟨st,hC⟩:=h.Gj;exact⟨st,hC.upd huA (λz hz=>(hoff z hz).2)⟩
 ·rw[Ι];rcases τ.1 hy with e|e
  ·exact h.dom y e
  ·simp at e;subst e;exact⟨hin,by rw[HN.out.2];exact aa1⟩
 ·rw[θ];exact⟨h.nd,σ,λa ha b hb e=>by simp at hb;subst hb;subst e;exact hx ha⟩
 ·have:=TY hx (by rw[HN.out.2];exact aa1) h.wQ;rwa[HN.out.1] at this
 ·rw[Ι];exact h.tl
end
section
variable{w:World}{B:HB}{F:List Nat}{A:NS}{rp g cap:Nat}{v:Value}{L T M:List Nat}
theorem Dp(x:Nat)(h:oL w B F A rp g cap (M++[x]) T) :
  Calls prog 276 #[.pointer (some ⟨rp,0,none⟩)] w λe w'=>e=.returned (.iface 3 (.int .i64 (x:Int)))/\DI w' B F A rp (.slice (some ⟨g,0,none⟩) M.length cap) M T/\ae [rp] w w':=by
 have c1:=h.h1;have hl:=h.len;have cx:=h.IA M.length σ;have ex:(M++[x]).getD M.length 0=x:=by simp[φ]
 rw[ex] at cx;have fr:=h.hd.free 1;have hcb:=h.capb;rw[υ,List.length_singleton] at c1 hl hcb;have s1:=h.s1;have HF:Hid (∀W,ae [] (w.setCell ⟨rp,1,none⟩ (.slice (some ⟨g,0,none⟩) M.length cap)) W->DI W B F A rp (.slice (some ⟨g,0,none⟩) M.length cap) M T/\ae [rp] w W):=by
  intro W hW;have hu:ae [rp] w W:=ae.then β hW;have s3:=h.s3;have hr:=h.row.own;rw[dK] at hr;have ho:=Hm hr (k:=M.length) σ;rw[Be,Bv,List.take_left'  rfl] at ho;refine⟨⟨?_,ak ho hu (λk hk=>by cases hk;simp;exact λe=>s1.1 e.symm),h.zB.upd hu (by simp;exact λe=>s1.2.1 e.symm),hu.kept h.QW (by simp;exact λe=>s1.2.2 e.symm),hu.kept h.QY (by simp;exact λe=>s1.2.2 e.symm),?_,s1.2,λk hk=>?_,h.s2.2.2,⟨s3.1,s3.2.2⟩,λy hy=>h.dom y (τ.2 (Α hy)),(θ.1 h.nd).1,λj y hj=>h.wQ j y ?_,h.tl⟩,hu⟩
  ·refine(((h.hd.set 1 _).ext (λj hj=>?_)).upd hW σ);rcases(ω:j=0\/j=1) with rfl|rfl<;>rfl
  ·obtain⟨st,hC⟩:=h.Gj;exact⟨st,hC.upd hu (λz hz hm=>by simp at hz;subst hz;exact s3.1 hm)⟩
  ·cases hk;exact⟨λe=>s1.1 e.symm,h.s2.1,h.s2.2.1,s3.2.1⟩
  ·obtain⟨hj',_⟩:=List.getElem?_eq_some_iff.1 hj;rw[Ρ hj'];exact hj
 clear h ex;generalize M.length=n at *;have hcI:(n:Int)<(cap:Int):=ω;have hw1:IntKind.i64.wrap (n:Int)=(n:Int):=Μ _ ω;obtain⟨n1,hn1⟩:∃n1,n1=n+1:=⟨_,rfl⟩;rw[←hn1] at c1 hl hcb;have hnJ:(n1:Int)-1=(n:Int):=ω;have hn2:(n:Int)<(n1:Int):=ω;clear hn1
 go_enter func276,ntmps276
 go_wp2
 go_region
 all_goals
  go_wp2
  go_region
  all_goals
   go_wp2;go_ret;refine⟨rfl,HF.out _ ?_⟩
   first|exact⟨rfl,rfl,rfl,Θ _,λ_ _ _=>rfl⟩|exact ν
def PuE(w0:World)(B:HB)(F:List Nat)(A:NS)(rp:Nat)(v:Value)(L T:List Nat)(x:Nat)(w:World):Prop:=∃g cap L' T',oL w B F A rp g cap L' T'/\L'.Perm (x::L)/\Hp (nD A) 2 L'/\(∀y,y∉x::L->T'.getD y 0=T.getD y 0)/\T'.length=T.length/\ae (rp::B.ga::B.c::v.ownBlock.toList) w0 w/\(v.ownBlock=some g\/w0.heap.size<=g)
theorem D8(h:DI w B F A rp v L T)(x:Nat)(hx:x∉L)(hin:bY A (x:Int)=true)(Lr:x<T.length)(hl:L.length<T.length)(hH:Hp (nD A) 2 L) :
  Calls prog 269 #[.iface 298 (.pointer (some ⟨rp,0,none⟩)),.iface 3 (.int .i64 (x:Int))] w λe w'=>e=.returned (.tuple #[])/\PuE w B F A rp v L T x w':=by
 have m1:=XI rp;have m2:=K9 rp;have hle:=h.len;have kp:=Kh h x hx hin Lr hl;have ku:∀w1 g cap,oL w1 B F A rp g cap (L++[x]) (T.set x L.length)->ae (rp::B.ga::v.ownBlock.toList) w w1->(v.ownBlock=some g\/w.heap.size<=g)->Calls prog 272 #[.iface 298 (.pointer (some ⟨rp,0,none⟩)),.int .i64 (L.length:Int)] w1 λe w'=>e=.returned (.tuple #[])/\PuE w B F A rp v L T x w':=by
  intro w1 g cap h1 hu1 hg;obtain⟨hs1,hs2⟩:=Hp.snoc (x:=x) hH (iR A) ω;have hP:mM w1 B F A rp g cap [] (L++[x]) (T.set x L.length) w1 (L++[x]) (T.set x L.length):=mM.start (by rw[Υ];exact h1);have hgx:(L++[x]).getD L.length 0=x:=by simp[φ]
  refine(A8 hP L.length hs1 (by rw[hgx];exact hs2)).mono ?_;rintro e w' ⟨rfl,M2,T2,hP2,hH2⟩;have hpm:=hP2.pi;rw[Υ] at hpm;refine⟨rfl,g,cap,M2,T2,hpm,hP2.perm.trans Φ,hH2,λy hy=>?_,by rw[hP2.tl,Ι],(hu1.mono (λz hz=>?_)).joined hP2.upd (λz hz=>?_),hg⟩
  ·simp only[ρ,not_or] at hy;rw[hP2.off y (by simp[hy.1,hy.2]),dZ,Γ (λe=>hy.1 e.1)]
  ·simp only[ρ] at hz ⊢;rcases hz with h'|h'|h'
   ·exact Α h'
   ·exact Β (Α h')
   ·exact Β (Β (Β h'))
  ·simp only[ρ,ς,or_false] at hz ⊢;rcases hz with h'|h'|h'
   ·rcases hg with e|e
    ·left;right;right;right;rw[h'];exact Option.mem_toList.2 e
    ·right;omega
   ·exact Α (Β (Α h'))
   ·exact Α (Β (Β (Α h')))
 have kl:∀w1 g cap,oL w1 B F A rp g cap (L++[x]) (T.set x L.length)->Calls prog 270 #[.pointer (some ⟨rp,0,none⟩)] w1 λe w'=>e=.returned (.int .i64 ((L.length:Int)+1))/\w'=w1:=λw1 g cap h1=>by
  have:=yu h1;rw[υ,List.length_singleton] at this;exact this
 clear h hx hin Lr hl hH;generalize L.length=n at *;have hnI:(n:Int)+1-1=(n:Int):=ω
 go_enter func269,ntmps269
 go_wp2_with (first
  |((go_at_call 277;(with_reducible refine(kp).mono ?_));rintro e w1 ⟨rfl,g,cap,hP1,hu1,hg1⟩)
  |((go_at_call 270;(with_reducible refine(kl _ _ _ hP1).mono ?_));rintro e w2 ⟨rfl,hw2⟩;subst hw2)
  |((go_at_call 272;(with_reducible refine(ku _ _ _ hP1 hu1 hg1).mono ?_));rintro e w3 ⟨rfl,hQ⟩)
  | fail)
 go_end0;exact⟨rfl,hQ⟩
theorem R5(h:oL w B F A rp g cap L T)(i:Nat)(hH:fH (nD A) 2 L i) :
  Calls prog 267 #[.iface 298 (.pointer (some ⟨rp,0,none⟩)),.int .i64 (i:Int)] w λe w'=>e=.returned (.tuple #[])/\∃L' T',mM w B F A rp g cap [] L T w' L' T'/\Hp (nD A) 2 L':=by
 have m2:=K9 rp;have hP:mM w B F A rp g cap [] L T w L T:=mM.start (by rw[Υ];exact h);have kl:=yu h;have kd:=A9 hP i L.length rfl hH;have ku:∀w1 L1 T1,mM w B F A rp g cap [] L T w1 L1 T1->NL A i false L1->_:=λw1 L1 T1 h1 h2=>A8 h1 i (h2.2 rfl).1 (h2.2 rfl).2;unfold Nq at kd;clear h hH hP;generalize L.length=n at *
 go_enter func267,ntmps267
 go_wp2_with (first
  |((go_at_call 270;(with_reducible refine(kl).mono ?_));rintro e w2 ⟨rfl,rfl⟩)
  |((go_at_call 271;(with_reducible refine(kd).mono ?_));rintro e w3 ⟨i2,rfl,L1,T1,hP1,hD1⟩;generalize decide (i<i2)=bd at *;cases bd)
  |((go_at_call 272;(with_reducible refine(ku _ _ _ hP1 hD1).mono ?_));rintro e w4 ⟨rfl,L2,T2,hP2,hH2⟩)
  | fail)
 ·go_end0;exact⟨rfl,L2,T2,hP2,hH2⟩
 ·go_end0;exact⟨rfl,L1,T1,hP1,hD1.1 rfl⟩
theorem BS{l:List Nat}{n:Nat}(h:l.length=n+1):l=l.take n++[l.getD n 0]:=by
 have h1:n<l.length:=ω;have h2:=List.take_append_drop n l;rw[Ϟ h1,List.drop_eq_nil_of_le ω] at h2;rw[φ,ε h1];exact h2.symm
def ReE(w0:World)(B:HB)(F:List Nat)(A:NS)(rp g cap:Nat)(L T:List Nat)(x:Nat)(w:World):Prop:=∃L' T',DI w B F A rp (.slice (some ⟨g,0,none⟩) L'.length cap) L' T'/\(x::L').Perm L/\Hp (nD A) 2 L'/\(∀y,y∉L->T'.getD y 0=T.getD y 0)/\T'.length=T.length/\ae [rp,g,B.ga,B.c] w0 w
theorem GI(h:oL w B F A rp g cap L T)(i x:Nat)(hx:L[i]?=some x)(hH:Hp (nD A) 2 L) :
  Calls prog 268 #[.iface 298 (.pointer (some ⟨rp,0,none⟩)),.int .i64 (i:Int)] w λe w'=>e=.returned (.iface 3 (.int .i64 (x:Int)))/\ReE w B F A rp g cap L T x w':=by
 have m1:=FC rp;have m2:=K9 rp;have m3:=aaj rp;have kl:=yu h;have hle:=h.len;obtain⟨hi,hxe⟩:=List.getElem?_eq_some_iff.1 hx;obtain⟨n,hn⟩:∃n,L.length=n+1:=⟨L.length-1,ω⟩;have hxg:L.getD i 0=x:=by rw[φ,hx];rfl
 by_cases hin:i=n
 ·subst hin;have hs:=BS hn;rw[hxg] at hs;have hM:=h;rw[hs] at hM;have kp:=Dp x hM;have hH2:Hp (nD A) 2 (L.take i):=hH.take ω;have hp:(x::L.take i).Perm L:=by
   conv=>rhs;rw[hs]
   exact(Φ (l₁:=[x]))
  have HQ:=χ (ψ hH2 hp);rw[hn] at kl hle;have hnI:(i:Int)+1-1=(i:Int):=ω;have hwk:IntKind.i64.wrap (i:Int)=(i:Int):=Μ _ ω;rw[show((i+1:Nat):Int)=(i:Int)+1 from rfl] at kl;clear hM hs hH hH2 hp hx hxe hxg h hi hn;have hnb:((i:Int) != (i:Int))=false:=σ
  go_enter func268,ntmps268
  go_wp2_with (first
   |((go_at_call 270;(with_reducible refine(kl).mono ?_));rintro e w2 ⟨rfl,rfl⟩)
   |((go_at_call 276;(with_reducible refine(kp).mono ?_));rintro e w3 ⟨rfl,hP3,hu3⟩)
   | fail)
  go_ret;exact⟨rfl,_,T,hP3,HQ.out.2,HQ.out.1,λ_ _=>rfl,rfl,hu3.mono σ⟩
 ·have hil:i<n:=ω;have hnl:n<L.length:=ω;have ks:=BN h i n hi hnl ω;have hsl:(gP L i n).length=n+1:=by rw[jX,hn]
  have hs:=BS hsl;rw[lS hi hnl,Δ rfl,hxg] at hs;obtain⟨M,hMe⟩:∃M,M=(gP L i n).take n:=⟨_,rfl⟩;rw[←hMe] at hs;have hMl:M.length=n:=by rw[hMe,ϑ,hsl];omega
  have hMv:M=(L.take n).set i (L.getD n 0):=by
   rw[hMe];unfold gP;rw[List.take_set_of_le (Θ _),List.take_set]
  have hMH:fH (nD A) 2 M i:=by
   rw[hMv];exact((hH.take ω).hole (iR A) ω (by rw[ϑ];omega)).any ω _
  have hp:(M++[x]).Perm L:=by rw[←hs];exact wu hi hnl ω
  have kd:∀w1,oL w1 B F A rp g cap (gP L i n) (Cw T L i n)->Calls prog 271 #[.iface 298 (.pointer (some ⟨rp,0,none⟩)),.int .i64 (i:Int),.int .i64 (n:Int)] w1 λe w'=>∃i2,e=.returned (.bool (decide (i<i2)))/\Nq w1 B F A rp g cap [x] M (Cw T L i n) w' i i2:=λw1 h1=>by
   rw[hs] at h1;exact A9 (mM.start h1) i n hMl.symm hMH
  have ku:∀w1 w2 L1 T1,mM w1 B F A rp g cap [x] M (Cw T L i n) w2 L1 T1->NL A i false L1->_:=λw1 w2 L1 T1 h1 h2=>A8 h1 i (h2.2 rfl).1 (h2.2 rfl).2;have kp:∀w1 w2 L1 T1,mM w1 B F A rp g cap [x] M (Cw T L i n) w2 L1 T1->_:=λw1 w2 L1 T1 h1=>Dp x h1.pi;unfold Nq at kd;have HE:Hid (∀w1 w2 w3 L1 T1,ae [g,B.ga] w w1->mM w1 B F A rp g cap [x] M (Cw T L i n) w2 L1 T1->Hp (nD A) 2 L1->DI w3 B F A rp (.slice (some ⟨g,0,none⟩) L1.length cap) L1 T1->ae [rp] w2 w3->ReE w B F A rp g cap L T x w3):=by
   intro w1 w2 w3 L1 T1 hu1 h2 hH1 h3 hu3;refine⟨L1,T1,h3,?_,hH1,λy hy=>?_,by rw[h2.tl,uV],((hu1.mono σ).trans (h2.upd.mono σ)).trans (hu3.mono σ)⟩
   ·exact(Φ (l₁:=[x])).trans ((h2.perm.append_right [x]).trans hp)
   ·rw[h2.off y (λhm=>hy (hp.mem_iff.1 hm)),ML hi hnl hy]
  rw[hn] at kl hle;have hnI:(n:Int)+1-1=(n:Int):=ω;have hwk:IntKind.i64.wrap (n:Int)=(n:Int):=Μ _ ω;rw[show((n+1:Nat):Int)=(n:Int)+1 from rfl] at kl;clear hMe hMl hMv hMH hp hs hsl hnl hx hxe hxg h hi hn hH;have hnb:((n:Int) != (i:Int))=true:=ζ;generalize gP L i n=L1 at *;generalize Cw T L i n=T1 at *
  go_enter func268,ntmps268
  go_wp2_with (first
   |((go_at_call 270;(with_reducible refine(kl).mono ?_));rintro e w2 ⟨rfl,rfl⟩)
   |((go_at_call 278;(with_reducible refine(ks).mono ?_));rintro e w3 ⟨rfl,hP3,hu3⟩)
   |((go_at_call 271;(with_reducible refine(kd _ hP3).mono ?_));rintro e w4 ⟨i2,rfl,L4,T4,XO,hD4⟩;generalize decide (i<i2)=bd at *;cases bd)
   |((go_at_call 272;(with_reducible refine(ku _ _ _ _ XO hD4).mono ?_));rintro e w5 ⟨rfl,L5,T5,MX,hH5⟩)
   |((go_at_call 276;(with_reducible first|refine(kp _ _ _ _ MX).mono ?_|refine(kp _ _ _ _ XO).mono ?_));rintro e w6 ⟨rfl,hP6,iX⟩)
   | fail)
  ·go_ret;exact⟨rfl,HE.out _ _ _ _ _ hu3 MX hH5 hP6 iX⟩
  ·go_ret;exact⟨rfl,HE.out _ _ _ _ _ hu3 XO (hD4.1 rfl) hP6 iX⟩
end
structure ni(R:Nat->Nat->Prop)(d:Nat)(L:List Nat)(i k b:Nat):Prop where
 b0:∃q,b=d*i+q/\1<=q/\q<k
 lt:b<L.length
 all:∀q,1<=q->q<k->d*i+q<L.length->d*i+q≠b->R (L.getD b 0) (L.getD (d*i+q) 0)
theorem ni.one{R:Nat->Nat->Prop}{d:Nat}{L:List Nat}{i:Nat}(h:d*i+1<L.length):ni R d L i 2 (d*i+1):=
 ⟨⟨1,rfl,ω,ω⟩,h,λq h1 h2 _ hne=>absurd (show d*i+q=d*i+1 by omega) hne⟩
theorem ni.end{R:Nat->Nat->Prop}{d:Nat}{L:List Nat}{i k b:Nat}(h:ni R d L i k b)(hd:2<=d)(hk:k=d+1):rW R d L i b:=by
 obtain⟨q,rfl,h1,h2⟩:=h.b0;have hp:=(vv (i:=i) (j:=d*i+q) hd).2 ω;refine⟨hp.1,h.lt,hp.2,λj j0 hj hpj hne=>?_⟩;have:=(vv hd).1 ⟨j0,hpj⟩;have e:j=d*i+(j-d*i):=ω;rw[e] at hj hne ⊢;exact h.all _ ω ω hj hne
theorem ni.stay{R:Nat->Nat->Prop}{d:Nat}{L:List Nat}{i k b:Nat}(h:ni R d L i k b)(hc:d*i+k<L.length->R (L.getD b 0) (L.getD (d*i+k) 0)):ni R d L i (k+1) b:=by
 obtain⟨q,h0,h1,h2⟩:=h.b0;refine⟨⟨q,h0,h1,ω⟩,h.lt,λq' g1 g2 g3 g4=>?_⟩
 by_cases e:q'=k
 ·subst e;exact hc g3
 ·exact h.all q' g1 ω g3 g4
theorem ni.turn{R:Nat->Nat->Prop}{d:Nat}{L:List Nat}{i k b:Nat}(ht:∀a b c,R a b->R b c->R a c)(h:ni R d L i k b)(hk:1<=k)(hl:d*i+k<L.length)(hc:R (L.getD (d*i+k) 0) (L.getD b 0)):ni R d L i (k+1) (d*i+k):=by
 refine⟨⟨k,rfl,hk,ω⟩,hl,λq' g1 g2 g3 g4=>?_⟩;have e:q'≠k:=λe=>g4 (by rw[e])
 by_cases e2:d*i+q'=b
 ·rw[e2];exact hc
 ·exact ht _ _ _ hc (h.all q' g1 ω g3 e2)
theorem Mt(O:gW){w:World}{rp mb g cap d:Nat}{f:Int->Option Int}{L:List Nat}(hO:O.at_ w)(h:vR w rp mb g cap d f L)(hd:2<=d/\d<=16)(hl:L.length<=65536)(i x:Nat)(hi:i<L.length)
  (hn:(L.set i x).Nodup) (hdom:∀y,y∈L.set i x->O.dom y) (hsep:Ol O rp mb g) :
  Calls prog 156 #[.pointer (some ⟨rp,0,none⟩),.iface O.ty (.pointer (some ⟨O.p,0,none⟩)),.int .i64 (i:Int)] w λe w'=>∃(c:Nat),e=.returned (.tuple #[.int .i64 (c:Int),.bool (decide (d*i+1<L.length))])/\O.On w w'/\(d*i+1<L.length->rW O.R d L i c):=by
 have kc:=λk (hk:1<=k/\k<=d) W=>Pt d i k hd ω hk W;have YV:=kc 1 ⟨ω,ω⟩;rw[show((1:Nat):Int)=1 from rfl] at YV;have c0:=h.h0;have c1:=h.h1;have hwr:=hsep.wr;have HX:=χ (ψ hO (ψ h (ψ hn (ψ hdom hd))));generalize hnl:L.length=n at *;have HN:=χ hnl;clear h hO hn hdom hsep hnl
 by_cases hz:n<=d*i+1
 ·rw[Ξ (show ¬d*i+1<n by omega)];have hge:decide (((d*i+1:Nat):Int)≥(n:Int))=true:=ζ;have HZ:=χ hz;clear hz kc;generalize d * i+1=c at *
  go_enter func156,ntmps156
  have hnc:n<=c:=HZ.out
  go_wp2_with (first
   |((go_at_call 161;(with_reducible refine(YV _).mono ?_));rintro e w1 ⟨rfl,hu1⟩;(have c1:=hu1.was c1))
   | fail)
  go_ret2;exact⟨0,rfl,⟨O.upd HX.out.1 hu1 σ,hu1.mono σ⟩,λh=>by have:=HZ.out;omega⟩
 ·rw[Ν (show d*i+1<n by omega)];have hge:decide (((d*i+1:Nat):Int)≥(n:Int))=false:=ζ;have HZ:=χ (show d*i+1<n by omega);clear hz;have HC:=χ (show d*i+1=d*i+1 from rfl)
  revert HC HZ hge YV
  generalize hce0:d*i+1=c0';intro YV hge HZ _;have HC:=χ hce0;have hnc:¬n<=c0':=by have:=HZ.out;omega
  go_enter func156,ntmps156
  clear hce0
  go_wp2_with (first
   |((go_at_call 161;(with_reducible refine(YV _).mono ?_));rintro e w1 ⟨rfl,hu1⟩;(have c1:=hu1.was c1))
   | fail)
  go_loopw [8,10,11,12] (λbv kv _ _ wr=>∃(b k:Nat),2<=k/\k<=d+1/\bv=.int .i64 (b:Int)/\kv=.int .i64 (k:Int)/\ni O.R d L i k b/\O.On w wr) (λ_ kv _ _ _=>d+1-(intOf kv).toNat)
  case atStart=>exact⟨c0',2,ω,ω,rfl,rfl,by rw[←HC.out];exact ni.one (by have:=HZ.out;have:=HN.out;have:=HC.out;omega),O.upd HX.out.1 hu1 σ,hu1.mono σ⟩
  case round=>
   clear hu1 c1;obtain⟨b,k,hk1,hk2,rfl,rfl,hF,hon⟩:=hrel;rename World=>wr;obtain⟨hO,h,hn,hdom,hd⟩:=HX.out;have hR:=h.upd hon.upd hwr.1 hwr.2.1 hwr.2.2;have q0:=hR.h0;have q1:=hR.h1
   by_cases hkd:k<=d
   ·have hkd':(k:Int)<=(d:Int):=ω;have ZJ:=kc k ⟨ω,hkd⟩;have hwk:IntKind.i64.wrap ((k:Int)+1)=(k:Int)+1:=Μ _ ω;rw[HN.out] at q1
    by_cases hcl:d*i+k<n
    ·have hne:d*i+k≠i:=by
      have:i<=d*i:=Nat.le_mul_of_pos_left _ ω;omega
     obtain⟨qb,hqb,hqb1,hqb2⟩:=hF.b0;have hbl:=hF.lt;have hbi:b≠i:=by
      have:i<=d*i:=Nat.le_mul_of_pos_left _ ω;omega
     have hdc:=hdom _ (qM (x:=x) (show d*i+k<L.length by rw[HN.out];exact hcl) hne);have hdb:=hdom _ (qM (x:=x) hbl hbi);have hcb:L.getD (d*i+k) 0≠L.getD b 0:=λe=>by
      have h1:(L.set i x)[d*i+k]?=some (L.getD b 0):=by rw[Ϗ (λe=>hne e.symm),←e,φ,ε (by rw[HN.out];exact hcl)];rfl
      have h2:(L.set i x)[b]?=some (L.getD b 0):=by rw[Ϗ (λe=>hbi e.symm),φ,ε hbl];rfl
      obtain⟨g1,e1⟩:=List.getElem?_eq_some_iff.1 h1;obtain⟨g2,e2⟩:=List.getElem?_eq_some_iff.1 h2;have:=(List.getElem_inj hn).1 (e1.trans e2.symm);omega
     have d1:=hR.cell (d*i+k) (by rw[HN.out];exact hcl);have d2:=hR.cell b hbl;have HY:=χ (ψ hF (ψ hon (ψ hcb (ψ hcl hk2))));have hgL:decide (((d*i+k:Nat):Int)<(n:Int))=true:=ζ;have hcI:((d*i+k:Nat):Int)<(n:Int):=ω;have hbI:(b:Int)<(n:Int):=by rw[HN.out] at hbl;omega
     have P5:=hwr.1;have hgw:=hwr.2.2;have hat:=hon.at_;have hkl:k+1<=d+1:=ω;clear hF hon hqb hqb1 hqb2 hbl hbi hcl hne hO h hn hdom hR hcb kc;generalize hce:d * i+k=c at *;generalize hx1:L.getD c 0=xc at *;generalize hx2:L.getD b 0=xb at *;have HE:=χ (ψ hce (ψ hx1 hx2));clear hce hx1 hx2
     go_upto_region 8 with (first
      |((go_at_call 161;(with_reducible refine(ZJ _).mono ?_));rintro e w1 ⟨rfl,hu1⟩)
      | fail)
     have qQ:O.On w1 w1:=.start (O.upd hat hu1 σ);have cp1:∀W,O.On w1 W->W.cell? ⟨g,c,none⟩=some (.int .i64 (xc:Int)):=λW hW=>hW.upd.kept (hu1.was d1) hgw;have cb1:∀W,O.On w1 W->W.cell? ⟨g,b,none⟩=some (.int .i64 (xb:Int)):=λW hW=>hW.upd.kept (hu1.was d2) hgw;have Z8:∀W,O.On w1 W->W.cell? ⟨rp,1,none⟩=some (.slice (some ⟨g,0,none⟩) n cap):=λW hW=>hW.upd.kept (hu1.was q1) P5;have hm:∀W,O.On w1 W->_:=λW hW=>O.WA hW.at_;have hnl:=O.Xt;have hen:=O.ent;unfold Enters at hen
     go_region_held3 (O.On w1) (first|assumption|exact qQ|(refine gW.On.drew ?_;first|assumption|exact qQ)|(refine gW.On.drewN ?_ _;first|assumption|exact qQ))
      (first
       | ((with_reducible refine (O.ask xc xb (gW.On.at_ (w0:=w1) (by first|assumption|exact qQ|(refine gW.On.drew ?_;first|assumption|exact qQ)|(refine gW.On.drewN ?_ _;first|assumption|exact qQ))) hdc hdb).mono ?_);rintro e w5 ⟨rfl,CJ,bW⟩;(have vY:O.On w1 w5:=gW.On.asked (by first|assumption|exact qQ|(refine gW.On.drew ?_;first|assumption|exact qQ)|(refine gW.On.drewN ?_ _;first|assumption|exact qQ)) CJ bW)))
     have HZ2:=χ (hu1.mono (σ:∀z,z∈[]->z∈O.wr) |>.trans vY.upd);have HO5:=χ vY.at_;clear cp1 cb1 Z8 hm qQ vY bW CJ d1 d2 q0 q1;cases hxy:O.lt xc xb with
     |false=>
      go_wp2
      go_roundw
      case rel=>
       obtain⟨hF,hon,hcb,hcl,hk2⟩:=HY.out;refine⟨b,k+1,ω,hkl,rfl,by go_num,hF.stay (λ_=>?_),HO5.out,hon.upd.trans HZ2.out⟩;rw[HE.out.1,HE.out.2.1,HE.out.2.2];rcases O.total xc xb (λe=>by rw[e] at hcb;exact hcb rfl) with e|e
       ·rw[e] at hxy;cases hxy
       ·exact e
      case measure=>simp[intOf];omega
     |true=>
      go_wp2
      go_roundw
      case rel=>
       obtain⟨hF,hon,hcb,hcl,hk2⟩:=HY.out;refine⟨c,k+1,ω,hkl,rfl,by go_num,?_,HO5.out,hon.upd.trans HZ2.out⟩;have ht:=hF.turn O.tr ω (by rw[HE.out.1,HN.out];exact hcl) (by rw[HE.out.1,HE.out.2.1,HE.out.2.2];exact hxy);rw[HE.out.1] at ht;exact ht
      case measure=>simp[intOf];omega
    ·have hgL:decide (((d*i+k:Nat):Int)<(n:Int))=false:=ζ;have HY:=χ (ψ hF (ψ hon hcl));have hkl:k+1<=d+1:=ω;clear hF hon hcl hO h hn hdom hR kc;generalize hce:d * i+k=c at *;have HE:=χ hce;clear hce;have hgN:decide (c<n)=false:=by simp at hgL ⊢;omega
     go_upto_region 8 with (first
      |((go_at_call 161;(with_reducible refine(ZJ _).mono ?_));rintro e w1 ⟨rfl,hu1⟩;(have q1:=hu1.was q1);(have q0:=hu1.was q0))
      | fail)
     go_quiet (fail)
     go_wp2
     go_roundw
     case rel=>
      obtain⟨hF,hon,hcl⟩:=HY.out;exact⟨b,k+1,ω,hkl,rfl,by go_num,hF.stay (λh=>absurd h (by have:=HN.out;have:=HE.out;omega)),O.upd hon.at_ (hu1.drewN nq) σ,hon.upd.trans ((hu1.drewN nq).mono σ)⟩
     case measure=>simp[intOf];omega
   ·have hkd':¬(k:Int)<=(d:Int):=ω;clear kc;go_wp2;exact bodyPost_ret (v:=.tuple #[.int .i64 (b:Int),.bool true]) (by simp[results,results156,go_sem]) rfl ⟨b,rfl,hon,λ_=>hF.end hd.1 ω⟩
theorem Qs(O:gW){w:World}{rp mb g cap d:Nat}{f:Int->Option Int}{L:List Nat}(hO:O.at_ w)(h:vR w rp mb g cap d f L)(hd:2<=d/\d<=16)(hl:L.length<=65536)(i x:Nat)(hH:fH O.R d L i)(hP:nz f L i x)
  (hn:(L.set i x).Nodup) (hdom:∀y,y∈L.set i x->O.dom y) (h16:∀y,y∈L.set i x->y<=65536) (hsep:Ol O rp mb g) (hT:i=0\/O.R (L.getD (par d i) 0) x) :
  Calls prog 147 #[.pointer (some ⟨rp,0,none⟩),.iface O.ty (.pointer (some ⟨O.p,0,none⟩)),.int .i64 (i:Int),.int .i64 (x:Int)] w λe w'=>∃(f':Int->Option Int) (L':List Nat),e=.returned (.tuple #[])/\vR w' rp mb g cap d f' L'/\wG f' L'/\L'.Perm (L.set i x)/\O.at_ w'/\ae (g::mb::O.wr) w w'/\Hp O.R d L':=by
 have hi0:=hH.lt;have hxm:x∈L.set i x:=Η (show(L.set i x)[i]?=some x by simp[hi0]);have hdx:=hdom x hxm;have hxl:=h16 x hxm;have HX:=χ (ψ hn (ψ hdom (ψ h16 (ψ hsep hd))));have hwr:=hsep.wr
 go_enter func147,ntmps147
 go_wp2
 go_loopw [2,8,9] (λiv _ _ wr=>∃(i':Nat) (f':Int->Option Int) (L':List Nat),iv=.int .i64 (i':Int)/\vR wr rp mb g cap d f' L'/\fH O.R d L' i'/\nz f' L' i' x/\L'.length=L.length/\(L'.set i' x).Perm (L.set i x)/\O.at_ wr/\ae (g::mb::O.wr) w wr/\(i'=0\/O.R (L'.getD (par d i') 0) x)) (λiv _ _ _=>L.length-(intOf iv).toNat)
 case atStart=>exact⟨i,f,L,rfl,h,hH,hP,rfl,ό _,hO,ae.refl _ _,hT⟩
 case round=>
  clear h hH hP hO hT;obtain⟨i1,f1,L1,rfl,h,hH,hP,hl1,hpm,hO,hu,hT⟩:=hrel;rename World=>wr;have hi1:=hH.lt;have hn1:(L1.set i1 x).Nodup:=hpm.nodup_iff.2 HX.out.1;have kf:=Mt O hO h hd ω i1 x hi1 hn1 (λy hy=>HX.out.2.1 y (hpm.mem_iff.1 hy)) HX.out.2.2.2.1;have ks:=λW (hW:ae O.wr wr W)=>sV (h.upd hW hwr.1 hwr.2.1 hwr.2.2) i1 x hi1 hxl ω;have P5:=hwr.1;have hgw:=hwr.2.2;have hcg:=h.h1;have hlt:=h.lt
  by_cases hz:d*i1+1<L1.length
  ·rw[Ν hz] at kf;have hcell:=λc hc=>h.cell c hc;have hdl:=λc (hc:rW O.R d L1 i1 c)=>HX.out.2.1 (L1.getD c 0) (hpm.mem_iff.1 (qM hc.lt (by have:=fA hd.1 hc.c0;have:=hc.pc;omega)));have ks2:=λc (hc:rW O.R d L1 i1 c) W (hW:ae O.wr wr W)=>sV (h.upd hW hwr.1 hwr.2.1 hwr.2.2) i1 (L1.getD c 0) hi1 (HX.out.2.2.1 _ (hpm.mem_iff.1 (qM hc.lt (by have:=fA hd.1 hc.c0;have:=hc.pc;omega)))) ω;have HF:=χ (ψ hH (ψ hP (ψ hn1 (ψ hpm (ψ hO (ψ hT (ψ hu (ψ hl1 (ψ hz h)))))))));clear hH hP hn1 hpm hT hu hl1 h
   go_upto_region 1 with (first
    |((go_at_call 156;(with_reducible refine(kf).mono ?_));rintro e w1 ⟨c,rfl,Bf,hfc⟩)
    | fail)
   have hc:=hfc hz;have hcl:=hc.lt;have hcI:(c:Int)<(L1.length:Int):=ω;have hdc:=hdl c hc;have hcc:=hcell c hcl;have ks2:=ks2 c hc;have HC:=χ (ψ hc Bf);clear hcell hdl hc hfc hz kf;generalize hy:L1.getD c 0=y at *;have qQ:O.On w1 w1:=.start Bf.at_;have cp1:∀W,O.On w1 W->W.cell? ⟨g,c,none⟩=some (.int .i64 (y:Int)):=λW hW=>hW.upd.kept (Bf.upd.kept hcc hgw) hgw;have Z8:∀W,O.On w1 W->W.cell? ⟨rp,1,none⟩=some (.slice (some ⟨g,0,none⟩) L1.length cap):=λW hW=>hW.upd.kept (Bf.upd.kept hcg P5) P5;have hm:∀W,O.On w1 W->_:=λW hW=>O.WA hW.at_;have hnl:=O.Xt;have hen:=O.ent;unfold Enters at hen
   go_region_held3 (O.On w1) (first|assumption|exact qQ|(refine gW.On.drew ?_;first|assumption|exact qQ)|(refine gW.On.drewN ?_ _;first|assumption|exact qQ))
    (first
     | ((with_reducible refine (O.ask y x (gW.On.at_ (w0:=w1) (by first|assumption|exact qQ|(refine gW.On.drew ?_;first|assumption|exact qQ)|(refine gW.On.drewN ?_ _;first|assumption|exact qQ))) hdc hdx).mono ?_);rintro e w5 ⟨rfl,CJ,bW⟩;(have vY:O.On w1 w5:=gW.On.asked (by first|assumption|exact qQ|(refine gW.On.drew ?_;first|assumption|exact qQ)|(refine gW.On.drewN ?_ _;first|assumption|exact qQ)) CJ bW)))
   have rT:ae O.wr wr w5:=HC.out.2.upd.trans vY.upd;have ks5:=ks w5 rT;have ks6:=ks2 w5 rT;have HY:=χ (ψ hy (ψ vY.at_ rT));have cp5:=cp1 w5 vY;have cg5:=Z8 w5 vY;clear ks ks2 cp1 Z8 hm qQ vY bW CJ hO hcc hcg Bf;cases hxy:O.lt y x with
   |false=>
    clear ks6
    go_wp2_with (first
     |((go_at_call 155;(with_reducible refine(ks5).mono ?_));rintro e w2 ⟨rfl,hR,hu2⟩)
     | fail)
    obtain⟨hH,hP,hn1,hpm,hO,hT,hu,hl1,hz,h⟩:=HF.out;obtain⟨hy,hat,bW⟩:=HY.out;obtain⟨hc,Bf⟩:=HC.out;have hne:L1.getD c 0≠x:=NR hi1 hc.lt (by have:=fA hd.1 hc.c0;have:=hc.pc;omega) hn1;have hxc:O.R x (L1.getD c 0):=by
     rcases O.total x (L1.getD c 0) (λe=>hne e.symm) with e|e
     ·exact e
     ·rw[hy] at e;rw[e] at hxy;cases hxy
    exact bodyPost_ret (v:=.tuple #[]) (by simp[results,results147,go_sem]) rfl ⟨_,_,rfl,hR,hP.fill hi1 hn1,hpm,O.upd hat hu2 (λy hy=>by have:=HX.out.2.2.2.1;simp at hy;rcases hy with rfl|rfl;exact this.c;exact this.b),(hu.trans (bW.mono (by simp +contextual))).trans (hu2.mono (by simp +contextual)),hH.fill hd.1 (pq O.tr hc hxc) hT⟩
   |true=>
    clear ks5
    go_wp2_with (first
     |((go_at_call 155;(with_reducible refine(ks6).mono ?_));rintro e w2 ⟨rfl,hR,hu2⟩)
     | fail)
    go_roundw
    case rel=>
     obtain⟨hH,hP,hn1,hpm,hO,hT,hu,hl1,hz,h⟩:=HF.out;obtain⟨hy,hat,bW⟩:=HY.out;obtain⟨hc,Bf⟩:=HC.out;have hci:i1<c:=by have:=fA hd.1 hc.c0;have:=hc.pc;omega
     have hdn:=hH.down O.tr hd.1 hc (x:=x) (by rw[hy];exact hxy);rw[hy] at hdn;have hmv:=hP.move hi1 (p:=c) hc.lt ω hn1;rw[hy] at hmv;have hpr:=yB (L:=L1) (i:=i1) (p:=c) (x:=x) hi1 hc.lt ω;rw[hy] at hpr;exact⟨c,_,_,rfl,hR,hdn.1,hmv,by rw[Ι];exact hl1,hpr.trans hpm,O.upd hat hu2 (λy hy=>by have:=HX.out.2.2.2.1;simp at hy;rcases hy with rfl|rfl;exact this.c;exact this.b),(hu.trans (bW.mono (by simp +contextual))).trans (hu2.mono (by simp +contextual)),Β hdn.2⟩
    case measure=>
     have hci:i1<c:=by have hc:=HC.out.1;have:=fA hd.1 hc.c0;have:=hc.pc;omega
     have:=HF.out.2.2.2.2.2.2.2.1;simp[intOf];omega
  ·rw[Ξ hz] at kf;have HF:=χ (ψ hH (ψ hP (ψ hn1 (ψ hpm (ψ hO (ψ hT (ψ hu (ψ hl1 hz))))))));clear hH hP hn1 hpm hT hu hl1 h hz
   go_upto_region 1 with (first
    |((go_at_call 156;(with_reducible refine(kf).mono ?_));rintro e w1 ⟨c,rfl,Bf, -⟩)
    | fail)
   go_quiet (fail)
   have rT:ae O.wr wr (w1.drewN nq):=(Bf.drewN nq).upd;have hat:=(Bf.drewN nq).at_;have ks5:=ks _ rT;clear ks kf Bf
   go_wp2_with (first
    |((go_at_call 155;(with_reducible refine(ks5).mono ?_));rintro e w2 ⟨rfl,hR,hu2⟩)
    | fail)
   obtain⟨hH,hP,hn1,hpm,hO,hT,hu,hl1,hz⟩:=HF.out;exact bodyPost_ret (v:=.tuple #[]) (by simp[results,results147,go_sem]) rfl ⟨_,_,rfl,hR,hP.fill hi1 hn1,hpm,O.upd hat hu2 (λy hy=>by have:=HX.out.2.2.2.1;simp at hy;rcases hy with rfl|rfl;exact this.c;exact this.b),(hu.trans (rT.mono (by simp +contextual))).trans (hu2.mono (by simp +contextual)),hH.fill hd.1 (AP hd.1 ω) hT⟩
def jM(w:World)(rp:Nat)(G:List Nat)(d:Nat)(L:List Nat):Prop:=
 ∃mb f v,aS w rp 228 3 (λj=>[Value.int .i64 (d:Int),v,.map (some mb)].getD j undef)/\w.ownsRow 0 3 1 v L.length (bz (bZ L))/\fJ w mb f/\wG f L/\rp≠mb/\(∀g,v.ownBlock=some g->rp≠g/\mb≠g)/\G=rp::mb::v.ownBlock.toList
theorem vR.at_{w:World}{rp mb g cap d:Nat}{f:Int->Option Int}{L:List Nat}(h:vR w rp mb g cap d f L)(hP:wG f L):jM w rp [rp,mb,g] d L:=
 ⟨mb,f,.slice (some ⟨g,0,none⟩) L.length cap,h.head,by have:=h.row.own;rwa[dK] at this,h.map,hP,h.sep.1,λg' hg=>by cases hg;exact⟨h.sep.2.1,h.sep.2.2⟩,rfl⟩
theorem jM.open{w:World}{rp d:Nat}{G L:List Nat}(h:jM w rp G d L)(hl:0<L.length):∃mb g cap f,vR w rp mb g cap d f L/\wG f L/\G=[rp,mb,g]:=by
 obtain⟨mb,f,v,h1,h2,h3,h4,h5,h6,rfl⟩:=h;obtain⟨g,cap,e,hI, -⟩:=IZ.iA (l:=bZ L) (by rw[dK];exact h2) (by rw[dK];exact hl);rw[dK] at e;subst e;obtain⟨s1,s2⟩:=h6 g rfl;exact⟨mb,g,cap,f,⟨h1,hI,h3,h5,s1,s2⟩,h4,rfl⟩
theorem jM.lt{w:World}{rp d:Nat}{G L:List Nat}(h:jM w rp G d L):∀z,z∈G->z<w.heap.size:=by
 obtain⟨mb,f,v,h1,h2,h3,h4,h5,h6,rfl⟩:=h;intro z hz;simp only[ρ] at hz;rcases hz with rfl|rfl|hz
 ·exact h1.lt
 ·exact h3.lt
 ·exact(h2.lt z (by simpa using hz)).2
theorem jM.upd{w w':World}{rp d:Nat}{G L S:List Nat}(h:jM w rp G d L)(hu:ae S w w')(hS:∀z,z∈S->z∉G):jM w' rp G d L:=by
 obtain⟨mb,f,v,h1,h2,h3,h4,h5,h6,rfl⟩:=h;have hn:∀z,z∈rp::mb::v.ownBlock.toList->z∉S:=λz hz hm=>hS z hm hz;exact⟨mb,f,v,h1.upd hu (hn _ σ),ak h2 hu (λk hk=>hn k (by simp[hk])),h3.upd hu (hn _ σ),h4,h5,h6,rfl⟩
theorem WQ{f:Int->Option Int}{L:List Nat}(h:wG f L){x:Nat}(hx:x∉L):f x=none:=by
 cases hf:f x with
 |none=>rfl
 |some v=>
  obtain⟨y,j,e1, -,hj⟩:=(h x v).1 hf;have:y=x:=ω;subst this;exact absurd (Η hj) hx
theorem NA{f:Int->Option Int}{L:List Nat}(h:wG f L){x i:Nat}(hx:L[i]?=some x):f x=some (i:Int):=(h x i).2 ⟨x,i,rfl,rfl,hx⟩
theorem Ya{f:Int->Option Int}{L:List Nat}(h:wG f L)(x:Nat):nz f (L++[x]) L.length x:=λz v hz=>by
 rw[h z v];constructor
 ·rintro⟨y,j,rfl,rfl,hj⟩;have:=(List.getElem?_eq_some_iff.1 hj).1;exact⟨y,j,rfl,rfl,ω,by rw[Ρ this];exact hj⟩
 ·rintro⟨y,j,rfl,rfl,hne,hj⟩;have h1:=(List.getElem?_eq_some_iff.1 hj).1;simp at h1;rw[Ρ ω] at hj;exact⟨y,j,rfl,rfl,hj⟩
theorem Hl(d:Nat)(hd:2<=d/\d<=16)(w:World) :
  Calls prog 85 #[.int .i64 (d:Int)] w λe w'=>∃rp G,e=.returned (.tuple #[.pointer (some ⟨rp,0,none⟩),.int .i64 0])/\jM w' rp G d []/\ae [] w w'/\∀z,z∈G->w.heap.size<=z:=by
 have kf:∀W,Calls prog 101 #[.int .i64 (d:Int)] W λe w'=>e=.returned (.bool true)/\w'=W:=λW=>by
  have h1:(d:Int)≥2:=ω;have h2:(d:Int)<=16:=ω
  go_enter func101,ntmps101
  go_wp2;go_ret;exact⟨rfl,rfl⟩
 have hmm:=@run_makeMap prog
 go_enter func85,ntmps85
 go_wp2_with (first|(go_at_call 101;(with_reducible refine aT (kf _) ?_))|fail)
 go_ret2;have hm:=fJ.made w;have hh:=eZ (w.alloc (.map #[] 0)) [.int .i64 (d:Int),.slice none 0 0,.map (some w.heap.size)] 228;have e1:(w.alloc (.map #[] 0)).heap.size=w.heap.size+1:=by rw[Κ]
 rw[e1] at hh;have hv:ae [] (w.alloc (.map #[] 0)) ((w.alloc (.map #[] 0)).alloc (.cells #[.int .i64 (d:Int),.slice none 0 0,.map (some w.heap.size)] 228)):=(ae.refl _ _).alloc _;refine⟨w.heap.size+1,[w.heap.size+1,w.heap.size],rfl,⟨w.heap.size,λ_=>none,.slice none 0 0,hh,⟨rfl,Α ⟨rfl,rfl⟩⟩,hm.upd hv σ,λz v=>σ,ω,λg hg=>(by cases hg),rfl⟩,β,λz hz=>?_⟩;simp at hz;omega
theorem RU{w:World}{rp d:Nat}{G:List Nat}(h:jM w rp G d []):Calls prog 144 #[.pointer (some ⟨rp,0,none⟩),.int .i64 0] w λe w'=>e=.returned (.tuple #[.int .i64 0,.bool false])/\w'=w:=by
 obtain⟨mb,f,v,h1,h2, -, -, -, -, -⟩:=h;obtain⟨a,c,rfl,hc⟩:=aV h2;have c1:=h1.cellAt 1 (v:=.slice a 0 c) ω rfl;clear h1 h2
 go_enter func144,ntmps144
 go_wp2;go_ret2;exact⟨rfl,rfl⟩
theorem RZ{w:World}{rp d x:Nat}{G L:List Nat}(h:jM w rp G d (x::L)):Calls prog 144 #[.pointer (some ⟨rp,0,none⟩),.int .i64 0] w λe w'=>e=.returned (.tuple #[.int .i64 (x:Int),.bool true])/\w'=w:=by
 obtain⟨mb,g,cap,f,hM, -, -⟩:=h.open σ;have c1:=hM.h1;have c2:=hM.cell 0 σ;rw[show(x::L).getD 0 0=x from rfl] at c2;have hn:0<(x::L).length:=σ;generalize (x::L).length=n at *;have MN:¬n=0:=ω;clear hM h
 go_enter func144,ntmps144
 go_wp2;go_ret2;exact⟨rfl,rfl⟩
theorem Gz(O:gW){w:World}{rp d:Nat}{G L:List Nat}(hO:O.at_ w)(h:jM w rp G d L)(hd:2<=d/\d<=16)(hl:L.length+1<=65536)(hH:Hp O.R d L)(x:Nat)(hx:x∉L)(hn:L.Nodup)
  (hdom:∀y,y∈x::L->O.dom y) (h16:∀y,y∈x::L->y<=65536) (hsep:∀z,z∈G->z∉O.rd) :
  Calls prog 139 #[.pointer (some ⟨rp,0,none⟩),.iface O.ty (.pointer (some ⟨O.p,0,none⟩)),.int .i64 (x:Int)] w λe w'=>e=.returned (.bool true)/\∃G' L',jM w' rp G' d L'/\L'.Perm (x::L)/\Hp O.R d L'/\O.at_ w'/\ae (G++O.wr) w w'/\∀z,z∈G'->z∈G\/w.heap.size<=z:=by
 obtain⟨mb,f,v,h1,h2,h3,h4,h5,h6,rfl⟩:=h;have hfx:=WQ h4 hx;have HXx:=χ hx;have hxl:=h16 x σ;obtain⟨a,cc,rfl,hcc⟩:=aV h2;have c1:=h1.cellAt 1 (v:=.slice a L.length cc) ω rfl;have c2:=h1.cellAt 2 (v:=.map (some mb)) ω rfl;have f1:=h1.free 1;have hlr:=h1.lt;have hlo:=h2.lt;have hms:∀z,z∈(Value.slice a L.length cc).ownBlock.toList->rp≠z/\mb≠z:=λz hz=>h6 z (by simpa using hz);have hp:=hH.snoc O.tr hd.1 (x:=x);have hpl:=Ya h4 x;have hset:(L++[x]).set L.length x=L++[x]:=σ;have Cn:(L++[x]).Perm (x::L):=Φ (l₁:=L) (l₂:=[x])
 have HX:=χ (ψ hO (ψ h1 (ψ h3 (ψ h5 (ψ hms (ψ hp (ψ hpl (ψ hset (ψ Cn (ψ hn (ψ hdom (ψ h16 (ψ hsep hlo)))))))))))));have hmb:fJ w mb f:=h3;clear h1 h3 h4 h6 hH hx hn hdom h16 hsep hO hms hp hpl hset Cn hlo;generalize hnl:L.length=n at *;have HN:=χ hnl;clear hnl
 go_enter func139,ntmps139
 go_upto_region 5 with (first
  |(at_lookup;refine mX rfl _ _ rfl mb f rfl hmb (x:Int) rfl ω ?_;rw[hfx];simp only[Option.getD_none,Option.isSome_none])
  |((at_builtin;refine bI rfl _ _ 77 rfl 0 3 (.int .i64 0) 1 8 underlying77 gI rfl δ _ _ _ rfl (h2) [.int .i64 (x:Int)] rfl (by simp[Value.oneCell']) (by first|rfl|(rw[Κ];rfl)) μ ω (ω) ?_;intro v2 w2 ho2 hu2 nC);obtain⟨a2,cc2,rfl,hcc2⟩:=aV ho2;(have d1:w2.cell? ⟨rp,1,none⟩=some (.slice a n cc):=hu2.kept c1 (λhm=>(HX.out.2.2.2.2.1 rp hm).1 rfl));(have e1:=hu2.aM c1 (λhm=>(HX.out.2.2.2.2.1 rp hm).1 rfl) f1))
  | fail)
 obtain⟨hO,h1,h3,h5,hms,hp,hpl,hset,Cn,hn,hdom,h16,hsep,hlo⟩:=HX.out;have hnz:bZ (L++[x])=bZ L++[(x:Int)]:=by unfold bZ;simp
 have hL1:(L++[x]).length=n+1:=by rw[υ,HN.out];rfl
 obtain⟨g2,cap2,e2,hI2, -⟩:=IZ.iA (l:=bZ (L++[x])) (by rw[dK,hL1,hnz,dO];exact ho2) (by rw[dK,hL1];omega);rw[dK,hL1] at e2;cases e2;have hg2:rp≠g2/\mb≠g2/\(g2∈(Value.slice a n cc).ownBlock.toList\/w.heap.size<g2):=by
  rcases nC with e|e
  ·have hm:g2∈(Value.slice a n cc).ownBlock.toList:=by have e':(Value.slice a n cc).ownBlock=some g2:=e.symm;rw[e'];simp
   have:=hms g2 hm;exact⟨this.1,this.2,Α hm⟩
  ·have h7:=e g2 rfl;have h8:=h3.lt;exact⟨ω,ω,Β h7⟩
 have hw0:ae (Value.slice a n cc).ownBlock.toList w w2:=hu2;have Ik:ae [rp] w2 (w2.setCell ⟨rp,1,none⟩ (.slice (some ⟨g2,0,none⟩) (n+1) cc2)):=β;have hnm:∀z,z∈(Value.slice a n cc).ownBlock.toList->rp≠z/\mb≠z:=hms;have hR:vR (w2.setCell ⟨rp,1,none⟩ (.slice (some ⟨g2,0,none⟩) (n+1) cc2)) rp mb g2 cc2 d f (L++[x]):=by
  refine⟨((h1.upd hw0 (λhm=>(hnm rp hm).1 rfl)).set 1 _).ext (λj hj=>?_),hI2.upd Ik (by simp;exact λe=>hg2.1 e.symm),(h3.upd hw0 (λhm=>(hnm mb hm).2 rfl)).upd Ik (by simp;exact λe=>h5 e.symm),h5,hg2.1,hg2.2.1⟩;rw[hL1];rcases(ω:j=0\/j=1\/j=2) with rfl|rfl|rfl<;>rfl
 have hrd:∀z,z∈(Value.slice a n cc).ownBlock.toList->z∉O.rd:=λz hz=>hsep z (Λ _ (Λ _ hz));have hOl:=O.low hO;have hat:O.at_ (w2.setCell ⟨rp,1,none⟩ (.slice (some ⟨g2,0,none⟩) (n+1) cc2)):=O.upd (O.upd hO hw0 hrd) Ik (λz hz=>by simp at hz;rw[hz];exact hsep rp σ);have ku:=Gd O hat hR hd ω n x hp.1 hpl (by rw[hset];exact Cn.nodup_iff.2 (Ζ.2 ⟨HXx.out,hn⟩)) (λy hy=>hdom y (Cn.mem_iff.1 (by rw[←hset];exact hy))) (λy hy=>h16 y (Cn.mem_iff.1 (by rw[←hset];exact hy)))
  ⟨hsep rp σ,hsep mb σ,λhm=>by rcases hg2.2.2 with e|e;exact hrd g2 e hm;have:=hOl g2 hm;omega⟩
 rw[hset] at ku;have HR:=χ (ψ hp.2 (ψ Cn (ψ hg2 (ψ hw0 Ik))));have c9:=hR.h1;rw[hL1] at c9;have hwr9:wrap64 ((n:Int)+1-1)=(n:Int):=by rw[show(n:Int)+1-1=n by omega];exact IntWalk.wrap64_in _ ω
 clear hR hat hp hpl Cn hms hdom h16 hI2 ho2 hu2 nC d1 e1 hw0 Ik hsep hset
 go_wp2_with (first
  |((go_at_call 146;(with_reducible refine(ku).mono ?_));rintro e w5 ⟨k,f',L',rfl,NK,MX,Ro,CJ,bW,hk5,hH5⟩)
  | fail)
 obtain⟨hb,Cn,hg2,hw0,Ik⟩:=HR.out;go_ret;refine⟨rfl,_,L',NK.at_ MX,Ro.trans Cn,hH5 (Β hb),CJ,?_,λz hz=>?_⟩
 ·refine((hw0.mono (λz hz=>by simp[hz])).trans (Ik.mono (λz hz=>by simp at hz;simp[hz]))).joined bW (λz hz=>?_);simp only[ρ,τ] at hz ⊢;rcases hz with rfl|rfl|hz
  ·rcases hg2.2.2 with e|e
   ·exact Α (Β (Β (Α e)))
   ·exact Β ω
  ·exact Α (Β (Α rfl))
  ·exact Α (Β (Β (Β hz)))
 ·simp only[ρ,ς,or_false] at hz;rcases hz with rfl|rfl|rfl
  ·exact Α σ
  ·exact Α σ
  ·rcases hg2.2.2 with e|e
   ·exact Α (by simp[e])
   ·exact Β ω
theorem Mm(O:gW){w:World}{rp d:Nat}{G L:List Nat}(hO:O.at_ w)(h:jM w rp G d L)(hd:2<=d/\d<=16)(hl:L.length<=65536)(i x:Nat)(hx:L[i]?=some x)(hn:L.Nodup)(hH:fH O.R d L i)(hB:Below O.R d L i x)
  (hdom:∀y,y∈L->O.dom y) (h16:∀y,y∈L->y<=65536) (hsep:∀z,z∈G->z∉O.rd) :
  Calls prog 132 #[.pointer (some ⟨rp,0,none⟩),.iface O.ty (.pointer (some ⟨O.p,0,none⟩)),.int .i64 (x:Int)] w λe w'=>e=.returned (.bool true)/\∃L',jM w' rp G d L'/\L'.Perm L/\Hp O.R d L'/\O.at_ w'/\ae (G++O.wr) w w':=by
 have hi:=hH.lt;obtain⟨mb,g,cap,f,hM,hP,rfl⟩:=h.open ω;have hset:L.set i x=L:=by
  obtain⟨_,e⟩:=List.getElem?_eq_some_iff.1 hx;rw[←e];simp
 have hxm:=Η hx;have ku:=Gd O hO hM hd hl i x hH (hP.hole hx) (by rw[hset];exact hn) (λy hy=>hdom y (by rw[←hset];exact hy)) (λy hy=>h16 y (by rw[←hset];exact hy)) ⟨hsep rp σ,hsep mb σ,hsep g σ⟩;rw[hset] at ku;have c2:=hM.h2;have hfx:=NA hP hx;have hmb:=hM.map;have hxl:=h16 x hxm;have HB:=χ hB;clear h hM hP hx hn hH hB hdom h16 hsep hO hset hxm
 go_enter func132,ntmps132
 go_wp2_with (first
  |(at_lookup;refine mX rfl _ _ rfl mb f rfl hmb (x:Int) rfl ω ?_;rw[hfx];simp only[Option.getD_some,Option.isSome_some])
  |((go_at_call 146;(with_reducible refine(ku).mono ?_));rintro e w5 ⟨k,f',L',rfl,NK,MX,Ro,CJ,bW,hk5,hH5⟩)
  | fail)
 go_ret;refine⟨rfl,L',NK.at_ MX,Ro,hH5 (Β HB.out),CJ,bW.mono (λz hz=>?_)⟩;simp only[ρ,τ] at hz ⊢;rcases hz with rfl|rfl|hz
 ·simp
 ·simp
 ·simp[hz]
theorem IZ.take{w:World}{g cap:Nat}{l:List Int}(h:IZ w g cap l)(n:Nat)(hn:n<=l.length):IZ w g cap (l.take n):=by
 rcases h.own.2 with⟨h1,_⟩|⟨g',cap',cur,h1,hb,hg,hc,hm,hs,ht⟩
 ·cases h1
 ·cases h1;have hl:(l.take n).length=n:=ζ;refine⟨⟨by rw[gQ];omega,Β ⟨g,cap,cur,rfl,ω,hg,ω,hm,hs,?_⟩⟩⟩;rw[hl];have:cur.toList.take (n*1)=(cur.toList.take (l.length*1)).take (n*1):=by rw[List.take_take];congr 1;omega
  rw[this,ht];unfold bz;rw[←List.map_take,Nat.mul_one]
theorem Su(L:List Nat)(n:Nat):bZ (L.take n)=(bZ L).take n:=by unfold bZ;rw[List.map_take]
def OZ(f:Int->Option Int)(k:Int):Int->Option Int:=λq=>if q=k then none else f q
theorem xA{L:List Nat}{n:Nat}(hl:L.length=n+1):L=L.take n++[L.getD n 0]:=by
 have h1:L[n]?=some (L.getD n 0):=by simp[φ,hl]
 have h2:L.drop n=[L.getD n 0]:=by
  apply List.ext_getElem?;intro j;rw[List.getElem?_drop];cases j with
  |zero=>simpa using h1
  |succ j=>rw[List.getElem?_eq_none ω];simp
 calc L=L.take n++L.drop n:=(List.take_append_drop n L).symm
  _=_:=by rw[h2]
theorem WM{f:Int->Option Int}{L:List Nat}{n:Nat}(h:wG f L)(hl:L.length=n+1)(hn:L.Nodup):wG (OZ f (L.getD n 0:Nat)) (L.take n):=λz v=>by
 have h1:L[n]?=some (L.getD n 0):=by simp[φ,hl]
 unfold OZ
 by_cases e:z=((L.getD n 0:Nat):Int)
 ·rw[Δ e];constructor
  ·intro h;cases h
  ·rintro⟨y,j,rfl,rfl,hj⟩;rw[List.getElem?_take] at hj
   split at hj
   ·rename_i hjn
    have ey:y=L.getD n 0:=ω;rw[←ey] at h1;obtain⟨g1,e1⟩:=List.getElem?_eq_some_iff.1 hj;obtain⟨g2,e2⟩:=List.getElem?_eq_some_iff.1 h1;have:=(List.getElem_inj hn).1 (e1.trans e2.symm);omega
   ·cases hj
 ·rw[Γ e,h z v];constructor
  ·rintro⟨y,j,rfl,rfl,hj⟩;have hjl:=(List.getElem?_eq_some_iff.1 hj).1;have hjn:j≠n:=λe2=>by rw[e2,h1] at hj;cases hj;exact e rfl
   exact⟨y,j,rfl,rfl,by rw[List.getElem?_take,Δ ω];exact hj⟩
  ·rintro⟨y,j,rfl,rfl,hj⟩;rw[List.getElem?_take] at hj
   split at hj
   ·exact⟨y,j,rfl,rfl,hj⟩
   ·cases hj
theorem Yf{f:Int->Option Int}{L:List Nat}{n i x:Nat}(h:wG f L)(hl:L.length=n+1)(hx:L[i]?=some x)(hi:i<n)(hn:L.Nodup):nz (OZ f x) (L.take n) i (L.getD n 0):=λz v hz=>by
 have h1:L[n]?=some (L.getD n 0):=by simp[φ,hl]
 unfold OZ
 by_cases e:z=(x:Int)
 ·rw[Δ e];constructor
  ·intro h;cases h
  ·rintro⟨y,j,rfl,rfl,hji,hj⟩;rw[List.getElem?_take] at hj
   split at hj
   ·have ey:y=x:=ω;rw[ey] at hj;obtain⟨g1,e1⟩:=List.getElem?_eq_some_iff.1 hj;obtain⟨g2,e2⟩:=List.getElem?_eq_some_iff.1 hx;exact absurd ((List.getElem_inj hn).1 (e1.trans e2.symm)) hji
   ·cases hj
 ·rw[Γ e,h z v];constructor
  ·rintro⟨y,j,rfl,rfl,hj⟩;have hjl:=(List.getElem?_eq_some_iff.1 hj).1;have hjn:j≠n:=λe2=>by rw[e2,h1] at hj;cases hj;exact hz rfl
   have hji:j≠i:=λe2=>by rw[e2,hx] at hj;cases hj;exact e rfl
   exact⟨y,j,rfl,rfl,hji,by rw[List.getElem?_take,Δ ω];exact hj⟩
  ·rintro⟨y,j,rfl,rfl,hji,hj⟩;rw[List.getElem?_take] at hj
   split at hj
   ·exact⟨y,j,rfl,rfl,hj⟩
   ·cases hj
theorem Pf{L:List Nat}{n i x:Nat}(hl:L.length=n+1)(hx:L[i]?=some x)(hi:i<n):(x::(L.take n).set i (L.getD n 0)).Perm L:=by
 have h0:=xA hl;have hit:(L.take n)[i]?=some x:=by rw[List.getElem?_take,Δ hi];exact hx
 generalize L.getD n 0=y at *;generalize L.take n=T at *;obtain⟨hiT,Lr⟩:=List.getElem?_eq_some_iff.1 hit;rw[h0];have e1:T.set i y=T.take i++y::T.drop (i+1):=by rw[List.set_eq_take_append_cons_drop,Δ hiT]
 have e2:T=T.take i++x::T.drop (i+1):=by
  have h2:T.set i x=T:=by rw[←Lr];simp
  rw[List.set_eq_take_append_cons_drop,Δ hiT] at h2;exact h2.symm
 rw[e1];have p1:(x::(T.take i++y::T.drop (i+1))).Perm (x::y::(T.take i++T.drop (i+1))):=List.Perm.cons x ϡ;have p2:(T++[y]).Perm (y::x::(T.take i++T.drop (i+1))):=by
  refine(Φ (l₁:=T) (l₂:=[y])).trans (List.Perm.cons y ?_);have p3:(T.take i++x::T.drop (i+1)).Perm (x::(T.take i++T.drop (i+1))):=ϡ;rw[←e2] at p3;exact p3
 exact p1.trans ((List.Perm.swap y x _).trans p2.symm)
theorem Jq(O:gW){w:World}{rp d:Nat}{G L:List Nat}(hO:O.at_ w)(h:jM w rp G d L)(hd:2<=d/\d<=16)(hl:L.length<=65536)(x:Nat)(hxm:x∈L)(hn:L.Nodup)(hH:Hp O.R d L)
  (hdom:∀y,y∈L->O.dom y) (h16:∀y,y∈L->y<=65536) (hsep:∀z,z∈G->z∉O.rd) :
  Calls prog 133 #[.pointer (some ⟨rp,0,none⟩),.iface O.ty (.pointer (some ⟨O.p,0,none⟩)),.int .i64 (x:Int)] w λe w'=>e=.returned (.bool true)/\∃L',jM w' rp G d L'/\(x::L').Perm L/\Hp O.R d L'/\O.at_ w'/\ae (G++O.wr) w w':=by
 obtain⟨i,hi,hxi⟩:=List.mem_iff_getElem.1 hxm;have hx:L[i]?=some x:=by rw[ε hi,hxi]
 obtain⟨n,hln⟩:∃n,L.length=n+1:=⟨L.length-1,ω⟩;obtain⟨mb,g,cap,f,hM,hP,rfl⟩:=h.open ω;have c1:=hM.h1;have c2:=hM.h2;have hcp:=hM.row.cap;rw[dK] at hcp;have fr:=hM.head.free 1;have cl:=hM.cell n ω;have hfx:=NA hP hx;have hmb:fJ w mb f:=hM.map;have hxl:=h16 x hxm;have WV:=hM.sep;have hlast:L[n]?=some (L.getD n 0):=by simp[φ,hln]
 have hym:=Η hlast;have hyl:=h16 _ hym;have XK:(L.take n).length=n:=ζ;rw[hln] at c1 hcp;have Qb:∀W f',IZ W g cap (bZ L)->fJ W mb f'->aS W rp 228 3 (λj=>[Value.int .i64 (d:Int),.slice (some ⟨g,0,none⟩) n cap,.map (some mb)].getD j undef)->vR W rp mb g cap d f' (L.take n):=λW f' h1 h2 h3=>
  ⟨by rw[XK];exact h3,by rw[Su];exact h1.take n (by rw[dK];omega),h2,WV⟩
 have Ik:ae [rp] w (w.setCell ⟨rp,1,none⟩ (.slice (some ⟨g,0,none⟩) n cap)):=β;have Cj:aS (w.setCell ⟨rp,1,none⟩ (.slice (some ⟨g,0,none⟩) n cap)) rp 228 3 (λj=>[Value.int .i64 (d:Int),.slice (some ⟨g,0,none⟩) n cap,.map (some mb)].getD j undef):=
  (hM.head.set 1 _).ext (λj hj=>by rcases(ω:j=0\/j=1\/j=2) with rfl|rfl|rfl<;>rfl)
 have hI1:=hM.row.upd Ik (by simp;exact λe=>WV.2.1 e.symm);have hm1:=hM.map.upd Ik (by simp;exact λe=>WV.1 e.symm);have Ug:=O.upd hO Ik (λz hz=>by simp at hz;rw[hz];exact hsep rp σ);have HX:=χ (ψ hP (ψ hn (ψ hH (ψ hdom (ψ h16 (ψ hsep (ψ hx (ψ hln (ψ XK (ψ Qb (ψ Ik (ψ Cj (ψ hI1 (ψ Ug WV))))))))))))));clear hM hP hn hH hdom h16 hsep hO hx hxi XK Qb Cj hI1 Ug hlast hym;generalize hy:L.getD n 0=y at *;have HYy:=χ hy;have hwr:wrap64 ((n:Int)+1-1)=(n:Int):=by rw[show(n:Int)+1-1=n by omega];exact IntWalk.wrap64_in _ ω
 have hwr2:(n:Int)+1-1=(n:Int):=ω;have hnI:(n:Int)<(n:Int)+1:=ω;have hncI:(n:Int)<=(cap:Int):=ω;have hwr3:IntKind.i64.wrap (n:Int)=(n:Int):=Μ _ ω;have hn0I:(0:Int)<=(n:Int):=ω
 go_enter func133,ntmps133
 go_upto_region 4 with (first
  |(at_lookup;refine mX rfl _ _ rfl mb f rfl hmb (x:Int) rfl ω ?_;rw[hfx];simp only[Option.getD_some,Option.isSome_some])
  | fail)
 go_quiet (fail)
 go_upto_region 5 with(fail)
 go_region_law (fail)
 all_goals
  go_upto_region 6 with(fail)
  refine bG (λW=>ae [] (w.setCell ⟨rp,1,none⟩ (.slice (some ⟨g,0,none⟩) n cap)) W) ⟨rfl,rfl,rfl,Θ _,λ_ _ _=>rfl⟩ ?_;intro W hW;obtain⟨hP,hn,hH,hdom,h16,hsep,hx,hln,XK,Qb,Ik,Cj,hI1,Ug,WV⟩:=HX.out;have hmW:=hm1.upd hW σ;have hhW:=Cj.upd hW σ;have hIW:=hI1.upd hW σ;have abg:=O.upd Ug hW σ;have c2W:=hhW.cellAt 2 (v:=.map (some mb)) ω rfl;have VF:ae [rp] w W:=Ik.then hW;clear hm1 Cj hI1 Ug hW c1 c2 fr cl;have hRd:∀w3,fJ w3 mb (OZ f x)->ae [mb] W w3->vR w3 rp mb g cap d (OZ f x) (L.take n)/\O.at_ w3:=λw3 QP hu3=>
   ⟨Qb w3 _ (hIW.upd hu3 (by simp;exact λe=>WV.2.2 e.symm)) QP (hhW.upd hu3 (by simp;exact WV.1)),O.upd abg hu3 (λz hz=>by simp at hz;rw[hz];exact hsep mb σ)⟩
  by_cases hin2:i=n
  ·have hyx:y=x:=by
    have h1:L[n]?=some y:=by rw[←HYy.out];simp[φ,hln]
    rw[←hin2,hx] at h1;cases h1;rfl
   have hyx2:((y:Int) == (x:Int))=true:=by simp[hyx]
   have HG:=χ (ψ hP (ψ hn (ψ hH (ψ hRd (ψ VF (ψ hyx hln))))));clear hP hn hH hdom h16 hsep hx hln XK Qb Ik WV hhW hIW abg hRd VF hyx hin2
   go_upto_region 7 with (first
    |(at_delete;refine mF rfl _ _ rfl mb _ rfl hmW (x:Int) rfl ω ?_;intro w3 QP hu3)
    | fail)
   go_wp2;go_ret;obtain⟨hP,hn,hH,hRd,VF,hyx,hln⟩:=HG.out;obtain⟨mK,hO3⟩:=hRd w3 QP hu3;have hpl:=WM hP hln hn;rw[HYy.out,hyx] at hpl;refine⟨rfl,L.take n,mK.at_ hpl,?_,hH.take hd.1,hO3,(VF.mono (λz hz=>by simp at hz;simp[hz])).trans (hu3.mono (λz hz=>by simp at hz;simp[hz]))⟩;have h0:=xA hln;rw[HYy.out,hyx] at h0
   conv=>rhs;rw[h0]
   exact(Φ (l₁:=L.take n) (l₂:=[x])).symm
  ·have hi2:i<n:=ω;have hyx:y≠x:=λe=>by
    have h1:L[n]?=some y:=by rw[←HYy.out];simp[φ,hln]
    rw[e] at h1;obtain⟨g1,e1⟩:=List.getElem?_eq_some_iff.1 h1;obtain⟨g2,e2⟩:=List.getElem?_eq_some_iff.1 hx;exact hin2 ((List.getElem_inj hn).1 (e1.trans e2.symm)).symm
   have hyx2:((y:Int) == (x:Int))=false:=ζ;have Vu:=Pf hln hx hi2;have hgo:=Yf hP hln hx hi2 hn;rw[HYy.out] at Vu hgo;have Xf:=(hH.take (n:=n) hd.1).hole O.tr hd.1 (i:=i) (by rw[XK];exact hi2);have hnd:=Ζ.1 (Vu.nodup_iff.2 hn);have hdm:∀z,z∈(L.take n).set i y->O.dom z:=λz hz=>hdom z (Vu.mem_iff.1 (Λ _ hz));have h6m:∀z,z∈(L.take n).set i y->z<=65536:=λz hz=>h16 z (Vu.mem_iff.1 (Λ _ hz));have hsq:Ol O rp mb g:=⟨hsep rp σ,hsep mb σ,hsep g σ⟩;have ku:=λw3 QP hu3=>Gd O (hRd w3 QP hu3).2 (hRd w3 QP hu3).1 hd ω i y Xf hgo hnd.2 hdm h6m hsq
   have hit:((L.take n).set i y)[i]?=some y:=by simp[XK,hi2]
   have hss:((L.take n).set i y).set i y=(L.take n).set i y:=by rw[List.set_set]
   have kd:=λ(w5:World) (f5:Int->Option Int) (CJ:O.at_ w5) (NK:vR w5 rp mb g cap d f5 ((L.take n).set i y)) (MX:wG f5 ((L.take n).set i y)) (hT:i=0\/O.R ((L.take n).getD (par d i) 0) y)=>
    Qs O CJ NK hd (by rw[Ι,XK];omega) i y (Xf.any hd.1 y) (MX.hole hit) (by rw[hss];exact hnd.2) (λz hz=>hdm z (by rw[←hss];exact hz)) (λz hz=>h6m z (by rw[←hss];exact hz)) hsq
     (by rcases Nat.eq_zero_or_pos i with h|h;exact Α h;rcases hT with e|e;exact Α e;exact Β (by have:=fA hd.1 h;rw[dZ,Γ ω];exact e))
   simp only[hss] at kd;have HG:=χ (ψ Vu (ψ VF hnd));clear hP hn hH hdom h16 hsep hx hln XK Qb Ik WV hhW hIW abg hRd VF hyx hin2 Vu hgo Xf hnd hdm h6m hsq hit hss
   go_upto_region 9 with (first
    |(at_delete;refine mF rfl _ _ rfl mb _ rfl hmW (x:Int) rfl ω ?_;intro w3 QP hu3)
    | fail)
   have ku3:=ku w3 QP hu3;clear ku
   go_wp2_with (first
    |((go_at_call 146;(with_reducible refine(ku3).mono ?_));rintro e w5 ⟨k,f',L',rfl,NK,MX,Ro,CJ,bW,hk5,hH5⟩)
    |((go_at_call 147;(have hki:k=i:=by have h:=(by assumption:((k:Int) == (i:Int))=true);simp at h;omega);(obtain⟨hL5,CZ⟩:=hk5 hki);(rw[hL5] at NK MX);(refine(kd w5 f' CJ NK MX CZ).mono ?_));rintro e w6 ⟨f6,L6,rfl,ZP,hP6,hpr6,hO6,iX,hH6⟩)
    | fail)
   all_goals
    go_ret;obtain⟨Vu,VF,hnd⟩:=HG.out;have Hg:ae (rp::mb::g::O.wr) w w5:=((VF.mono (λz hz=>by simp at hz;simp[hz])).trans (hu3.mono (λz hz=>by simp at hz;simp[hz]))).trans (bW.mono (λz hz=>by simp only[ρ] at hz ⊢;rcases hz with h|h|h;exact Β (Β (Α h));exact Β (Α h);exact Β (Β (Β h))))
    first
     |(refine⟨rfl,L6,ZP.at_ hP6,(hpr6.cons x).trans Vu,hH6,hO6,Hg.trans (iX.mono (λz hz=>by simp only[ρ] at hz ⊢;rcases hz with h|h|h;exact Β (Β (Α h));exact Β (Α h);exact Β (Β (Β h))))⟩)
     |(refine⟨rfl,L',NK.at_ MX,(Ro.cons x).trans Vu,hH5 (Α (by have h:=(by assumption:((k:Int) == (i:Int))=false);simp at h;omega)),CJ,Hg⟩)
theorem Fq:VI 122 "Ahead" 164:=by intro p c W h;unfold method;obtain⟨m,h1,h2,h3,h4⟩:=wC Tryz.t122.methods "Ahead" [⟨179,0,true⟩] 164 (by kernel_rfl);exact vZ
theorem EF:NI 122 "Ahead":=λ_ _=>by kernel_rfl
structure DB where
 n0:Nat
 c:Nat
 d:Nat
def Y6(d:Nat):RwK:=⟨λw p G L=>jM w p G d L,λh hu hS=>h.upd hu hS,λh=>h.lt⟩
def kP(A:NS)(h:Nat):Bool:=aY A (h:Int)
structure wW(w:World)(B:DB)(F Z:List Nat)(gr cr:Nat)(A:NS)(st:Nat)(ptr:Nat->Option Nat)(G L:Nat->List Nat):Prop where
 head:aS w B.n0 179 3 (λj=>[Value.pointer (some ⟨B.c,0,none⟩),.int .i64 (B.d:Int),.slice (some ⟨gr,0,none⟩) A.hs.length cr].getD j undef)
 cells:aF w B.c F A st
 iq:sI (Y6 B.d) 174 w gr cr A.hs.length (kP A) Z ptr G L
 bS:B.n0∉F/\gr∉F/\B.n0≠gr
 iF:∀z,z∈Z->z∉F/\z≠B.n0
 dd:2<=B.d/\B.d<=16
def DB.blk(B:DB)(F Z:List Nat)(gr:Nat):List Nat:=B.n0::gr::(F++Z)
section
variable{w:World}{B:DB}{F Z:List Nat}{gr cr st:Nat}{A:NS}{ptr:Nat->Option Nat}{G L:Nat->List Nat}
theorem wW.upd{w':World}{S:List Nat}(h:wW w B F Z gr cr A st ptr G L)(hu:ae S w w')(hS:∀x,x∈S->x∉B.blk F Z gr):wW w' B F Z gr cr A st ptr G L:=by
 have h1:∀x,x∈B.blk F Z gr->x∉S:=λx hx hg=>hS x hg hx;exact⟨h.head.upd hu (h1 _ (by simp[DB.blk])),h.cells.upd hu (λx hx hm=>hS x hx (by simp[DB.blk,hm])),h.iq.upd hu (λz hz=>⟨λe=>hS z hz (by simp[DB.blk,e]),λe=>hS z hz (by simp[DB.blk,e])⟩),h.bS,h.iF,h.dd⟩
theorem wW.ag{w':World}(h:wW w B F Z gr cr A st ptr G L)(hu:ae [] w w'):wW w' B F Z gr cr A st ptr G L:=h.upd hu σ
theorem wW.lt(h:wW w B F Z gr cr A st ptr G L):∀x,x∈B.blk F Z gr->x<w.heap.size:=by
 intro x hx;simp only[DB.blk,ρ,τ] at hx;rcases hx with rfl|rfl|hx|hx
 ·exact h.head.lt
 ·exact h.iq.lt
 ·exact h.cells.lt x hx
 ·exact h.iq.Ie x hx
theorem wW.h0(h:wW w B F Z gr cr A st ptr G L):w.cell? ⟨B.n0,0,none⟩=some (.pointer (some ⟨B.c,0,none⟩)):=h.head.cellAt 0 ω rfl
theorem wW.h1(h:wW w B F Z gr cr A st ptr G L):w.cell? ⟨B.n0,1,none⟩=some (.int .i64 (B.d:Int)):=h.head.cellAt 1 ω rfl
theorem wW.h2(h:wW w B F Z gr cr A st ptr G L):w.cell? ⟨B.n0,2,none⟩=some (.slice (some ⟨gr,0,none⟩) A.hs.length cr):=h.head.cellAt 2 ω rfl
theorem wW.cB{w':World}{F':List Nat}{A':NS}{st':Nat}(h:wW w B F Z gr cr A st ptr G L)(hu:ae F w w')(hC:aF w' B.c F' A' st')(hF:∀x,x∈F'->x∈F\/w.heap.size<=x)(h2:A'.hs=A.hs):wW w' B F' Z gr cr A' st' ptr G L:=by
 have f:=h.bS;have g:=h.lt;have hf:∀x,x<w.heap.size->x∉F->x∉F':=λx hx hn hm=>by rcases hF x hm with h'|h';exact hn h';omega
 have l0:=g B.n0 (by simp[DB.blk]);have l1:=g gr (by simp[DB.blk]);have hh:kP A'=kP A:=funext λk=>by unfold kP aY;rw[h2]
 exact⟨by rw[h2];exact h.head.upd hu f.1,hC,by rw[h2,hh];exact h.iq.upd hu (λz hz=>⟨λe=>f.2.1 (by rw[←e];exact hz),λhm=>(h.iF z hm).1 hz⟩),⟨hf _ l0 f.1,hf _ l1 f.2.1,f.2.2⟩,λz hz=>⟨hf z (h.iq.Ie z hz) (h.iF z hz).1,(h.iF z hz).2⟩,h.dd⟩
def Uw(B:DB)(F:List Nat)(A:NS)(hc:B.c∈F):gW where
 ty:=122
 p:=B.n0
 rd:=B.n0::F
 wr:=[B.c]
 lt:=λa b=>decide (dB A a b)
 dom:=λx=>bY A (x:Int)=true
 at_:=λw=>w.cell? ⟨B.n0,0,none⟩=some (.pointer (some ⟨B.c,0,none⟩))/\B.n0∉F/\∃st,aF w B.c F A st
 sub:=λx hx=>by simp at hx;rw[hx];exact Λ _ hc
 low:=λh x hx=>by
  obtain⟨h1,h3,st,h2⟩:=h;rcases ρ.1 hx with e|e
  ·rw[e];exact Ε _ _ h1
  ·exact h2.lt x e
 upd:=λh hu hS=>by
  obtain⟨h1,h3,st,h2⟩:=h;exact⟨hu.kept h1 (λhm=>hS _ hm σ),h3,st,h2.upd hu (λx hx hm=>hS x hx (by simp[hm]))⟩
 trans:=λa b c h1 h2=>Ν (dI (ϣ h1) (ϣ h2))
 total:=λa b h=>by rcases jc (A:=A) h with h|h;exact Α (Ν h);exact Β (Ν h)
 asym:=λa b h=>Ξ (p9 (ϣ h))
 fn:=164
 recv:=.pointer (some ⟨B.c,0,none⟩)
 ent:=λ_ _=>by kernel_rfl
 WA:=λh=>Fq _ _ _ h.1
 Xt:=EF _
 ask:=λ{w} x y h hx hy=>by
  obtain⟨h1,h3,st,h2⟩:=h;refine(fB h2 x y hx hy).mono ?_;rintro e w' ⟨rfl,hC,hu⟩;exact⟨rfl,⟨hu.kept h1 (λhm=>h3 (by simp at hm;rw[hm];exact h2.mem)),h3,_,hC⟩,hu⟩
theorem wW.ord(h:wW w B F Z gr cr A st ptr G L):(Uw B F A h.cells.mem).at_ w:=⟨h.h0,h.bS.1,st,h.cells⟩
end
def lX(w:World)(B:DB)(F Z:List Nat)(gr:Nat)(A:NS)(st:Nat):Prop:=∃cr ptr G L,wW w B F Z gr cr A st ptr G L/\pK B.d A L
section
variable{w:World}{B:DB}{F Z:List Nat}{gr st:Nat}{A:NS}
theorem lX.upd{w':World}{S:List Nat}(h:lX w B F Z gr A st)(hu:ae S w w')(hS:∀x,x∈S->x∉B.blk F Z gr):lX w' B F Z gr A st:=by
 obtain⟨cr,ptr,G,L,hM,hI⟩:=h;exact⟨cr,ptr,G,L,hM.upd hu hS,hI⟩
theorem lX.ag{w':World}(h:lX w B F Z gr A st)(hu:ae [] w w'):lX w' B F Z gr A st:=h.upd hu σ
theorem Ig(h:lX w B F Z gr A st)(g:Nat)(hn:aY A g=true) :
  Calls prog 129 #[.pointer (some ⟨B.n0,0,none⟩),.int .i64 (g:Int)] w λe w'=>e=.returned (.tuple #[.int .i64 (qp (dN A g)),.bool (dN A g).isSome])/\w'=w:=by
 obtain⟨cr,ptr,G,L,hM,hI⟩:=h;have k:=jr hM.cells g;rw[hn] at k;have h0:=hM.h0;have h2:=hM.h2;obtain⟨rp,hp,hR⟩:=hM.iq.row g hn;have hg:=(aC _ _).1 hn;have hc:=hM.iq.cell ω hp;have hR':jM w rp (G g) B.d (L g):=hR;cases hl:L g with
 |nil=>
  rw[hl] at hR';have ka:=RU hR';rw[hI.none hn hl];clear hM hI hn hR hR' hp hl
  go_enter func129,ntmps129
  go_wp2_with (first|(go_at_call 123;(with_reducible refine aT (k) ?_))|(go_at_call 144;(with_reducible refine aT (ka) ?_)))
  go_ret2;exact⟨rfl,rfl⟩
 |cons m l=>
  rw[hl] at hR';have ka:=RZ hR';rw[hI.first hM.dd.1 hn hl];clear hM hI hn hR hR' hp hl
  go_enter func129,ntmps129
  go_wp2_with (first|(go_at_call 123;(with_reducible refine aT (k) ?_))|(go_at_call 144;(with_reducible refine aT (ka) ?_)))
  go_ret2;exact⟨rfl,rfl⟩
end
def adH(B:HB)(w:World)(rp:Nat)(G L:List Nat):Prop:=∃v,aS w rp 302 2 (NQ B v)/\w.ownsRow 0 3 1 v L.length (bz (bZ L))/\G=rp::v.ownBlock.toList/\∀g,v.ownBlock=some g->g≠rp
def aaG (B:HB):RwK:=⟨adH B,λh hu hS=>by
 obtain⟨v,h1,h2,rfl,h3⟩:=h;exact⟨v,h1.upd hu (λhm=>hS _ hm σ),ak h2 hu (λk hk hm=>hS k hm (Λ _ (Option.mem_toList.2 hk))),rfl,h3⟩,λh=>by
 obtain⟨v,h1,h2,rfl,h3⟩:=h;intro z hz;rcases ρ.1 hz with e|e
 ·rw[e];exact h1.lt
 ·exact (h2.lt z (Option.mem_toList.1 e)).2⟩
structure ShM(w:World)(B:HB)(F Z:List Nat)(gr cr:Nat)(A:NS)(st:Nat)(ptr:Nat->Option Nat)(G L:Nat->List Nat)(T:List Nat):Prop where
 head:aS w B.n0 210 3 (λj=>[Value.pointer (some ⟨B.c,0,none⟩),.slice (some ⟨gr,0,none⟩) A.hs.length cr,.slice (some ⟨B.ga,0,none⟩) T.length T.length].getD j undef)
 cells:aF w B.c F A st
 iq:sI (aaG B) 298 w gr cr A.hs.length (kP A) Z ptr G L
 zB:IZ w B.ga T.length (bZ T)
 tl:T.length=A.cs.length
 bS:B.n0∉F/\gr∉F/\B.ga∉F
 sep:B.n0≠gr/\B.ga≠B.n0/\B.ga≠gr
 iF:∀z,z∈Z->z∉F/\z≠B.n0/\z≠B.ga
def HB.blk(B:HB)(F Z:List Nat)(gr:Nat):List Nat:=B.n0::gr::B.ga::(F++Z)
structure SdI(A:NS)(L:Nat->List Nat)(T:List Nat):Prop where
 di:pK 2 A L
 wQ:∀h:Nat,aY A h=true->∀j x,(L h)[j]?=some x->T.getD x 0=j
section
variable{w w':World}{B:HB}{F Z:List Nat}{gr cr st:Nat}{A:NS}{ptr:Nat->Option Nat}{G L:Nat->List Nat}{T:List Nat}
theorem ShM.upd{S:List Nat}(h:ShM w B F Z gr cr A st ptr G L T)(hu:ae S w w')(hS:∀x,x∈S->x∉B.blk F Z gr):ShM w' B F Z gr cr A st ptr G L T:=by
 have h1:∀x,x∈B.blk F Z gr->x∉S:=λx hx hg=>hS x hg hx;exact⟨h.head.upd hu (h1 _ (by simp[HB.blk])),h.cells.upd hu (λx hx hm=>hS x hx (by simp[HB.blk,hm])),h.iq.upd hu (λz hz=>⟨λe=>hS z hz (by simp[HB.blk,e]),λe=>hS z hz (by simp[HB.blk,e])⟩),h.zB.upd hu (h1 _ (by simp[HB.blk])),h.tl,h.bS,h.sep,h.iF⟩
theorem ShM.ag(h:ShM w B F Z gr cr A st ptr G L T)(hu:ae [] w w'):ShM w' B F Z gr cr A st ptr G L T:=h.upd hu σ
theorem ShM.lt(h:ShM w B F Z gr cr A st ptr G L T):∀x,x∈B.blk F Z gr->x<w.heap.size:=by
 intro x hx;simp only[HB.blk,ρ,τ] at hx;rcases hx with rfl|rfl|rfl|hx|hx
 ·exact h.head.lt
 ·exact h.iq.lt
 ·exact h.zB.lt
 ·exact h.cells.lt x hx
 ·exact h.iq.Ie x hx
theorem ShM.h0(h:ShM w B F Z gr cr A st ptr G L T):w.cell? ⟨B.n0,0,none⟩=some (.pointer (some ⟨B.c,0,none⟩)):=h.head.cellAt 0 ω rfl
theorem ShM.h1(h:ShM w B F Z gr cr A st ptr G L T):w.cell? ⟨B.n0,1,none⟩=some (.slice (some ⟨gr,0,none⟩) A.hs.length cr):=h.head.cellAt 1 ω rfl
theorem ShM.h2(h:ShM w B F Z gr cr A st ptr G L T):w.cell? ⟨B.n0,2,none⟩=some (.slice (some ⟨B.ga,0,none⟩) T.length T.length):=h.head.cellAt 2 ω rfl
theorem ShM.IX(h:ShM w B F Z gr cr A st ptr G L T)(j:Nat)(hj:j<T.length):w.cell? ⟨B.ga,j,none⟩=some (.int .i64 ((T.getD j 0:Nat):Int)):=by
 have:=h.zB.cell j (by rw[dK];exact hj);rwa[oM] at this
theorem ShM.cB{F':List Nat}{A':NS}{st':Nat}(h:ShM w B F Z gr cr A st ptr G L T)(hu:ae F w w')(hC:aF w' B.c F' A' st')(hF:∀x,x∈F'->x∈F\/w.heap.size<=x)(h2:A'.hs=A.hs)(h3:A'.cs.length=A.cs.length):ShM w' B F' Z gr cr A' st' ptr G L T:=by
 have f:=h.bS;have g:=h.lt;have hf:∀x,x<w.heap.size->x∉F->x∉F':=λx hx hn hm=>by rcases hF x hm with h'|h';exact hn h';omega
 have l0:=g B.n0 (by simp[HB.blk]);have l1:=g gr (by simp[HB.blk]);have l2:=g B.ga (by simp[HB.blk]);have hh:kP A'=kP A:=funext λk=>by unfold kP aY;rw[h2]
 exact⟨by rw[h2];exact h.head.upd hu f.1,hC,by rw[h2,hh];exact h.iq.upd hu (λz hz=>⟨λe=>f.2.1 (by rw[←e];exact hz),λhm=>(h.iF z hm).1 hz⟩),h.zB.upd hu f.2.2,by rw[h3];exact h.tl,⟨hf _ l0 f.1,hf _ l1 f.2.1,hf _ l2 f.2.2⟩,h.sep,λz hz=>⟨hf z (h.iq.Ie z hz) (h.iF z hz).1,(h.iF z hz).2⟩⟩
theorem ShM.pile(h:ShM w B F Z gr cr A st ptr G L T){g:Nat}(hg:aY A g=true)(hd:∀y,y∈L g->bY A (y:Int)=true/\y<T.length)(hn:(L g).Nodup)(hpl:∀j x,(L g)[j]?=some x->T.getD x 0=j) :
  ∃rp v,ptr g=some rp/\G g=rp::v.ownBlock.toList/\DI w B F A rp v (L g) T:=by
 obtain⟨rp,hp,v,h1,h2,h3,h4⟩:=h.iq.row g hg;have hz:∀z,z∈rp::v.ownBlock.toList->z∈Z:=λz hz=>h.iq.sJ g hg z (by rw[h3];exact hz);have hr:=h.iF rp (hz rp σ);have hok:=h.cells.ok.c1;refine⟨rp,v,hp,h3,h1,h2,h.zB,h.h0,h.h2,⟨st,h.cells⟩,⟨hr.2.2,hr.2.1⟩,λk hk=>?_,h.sep.2.1,⟨hr.1,h.bS.2.2,h.bS.1⟩,hd,hn,hpl,by rw[h.tl];exact hok⟩;have hk':=h.iF k (hz k (Λ _ (Option.mem_toList.2 hk)));exact⟨h4 k hk,hk'.2.2,hk'.2.1,hk'.1⟩
theorem ShM.Bd(h:ShM w B F Z gr cr A st ptr G L T){g rp:Nat}(hg:aY A g=true)(hp:ptr g=some rp){v':Value}{L' T' S:List Nat}(hu:ae S w w')(hS:∀z,z∈S->z∈G g\/z=B.ga\/z=B.c)(hr:rp∈G g)(hP:DI w' B F A rp v' L' T')(hl:T'.length=T.length)(hG:∀k,v'.ownBlock=some k->k∈G g\/w.heap.size<=k) :
  ∃st',ShM w' B F (Z++(rp::v'.ownBlock.toList)) gr cr A st' ptr (fG G g (rp::v'.ownBlock.toList)) (fG L g L') T':=by
 have oC:=h.cells.mem;have hsl:=h.lt;obtain⟨st',hC⟩:=hP.Gj;have hnc:B.n0≠B.c:=λe=>h.bS.1 (by rw[e];exact oC);have hSn:B.n0∉S:=λhm=>by
  rcases hS _ hm with e|e|e
  ·exact(h.iF _ (h.iq.sJ g hg _ e)).2.1 rfl
  ·exact h.sep.2.1 e.symm
  ·exact hnc e
 have TC:∀z,z∈rp::v'.ownBlock.toList->z∈G g\/w.heap.size<=z:=λz hz=>by
  rcases ρ.1 hz with e|e
  ·rw[e];exact Α hr
  ·exact hG z (Option.mem_toList.1 e)
 refine⟨st',⟨?_,hC,h.iq.one hg hp hu (λz hz=>?_) ⟨v',hP.hd,hP.own,rfl,λk hk=>(hP.sg k hk).1⟩ TC,hP.zB,by rw[hl];exact h.tl,h.bS,h.sep,λz hz=>?_⟩⟩
 ·rw[hl];exact h.head.upd hu hSn
 ·rcases hS z hz with e|e|e
  ·exact Α e
  ·rw[e];exact Β ⟨h.sep.2.2,λhm=>(h.iF _ hm).2.2 rfl⟩
  ·rw[e];exact Β ⟨λe2=>h.bS.2.1 (by rw[←e2];exact oC),λhm=>(h.iF _ hm).1 oC⟩
 ·rcases τ.1 hz with e|e
  ·exact h.iF z e
  ·rcases TC z e with e2|e2
   ·exact h.iF z (h.iq.sJ g hg z e2)
   ·exact⟨λhm=>by have:=hsl z (by simp[HB.blk,hm]);omega,λe3=>by have:=hsl B.n0 (by simp[HB.blk]);omega,λe3=>by have:=hsl B.ga (by simp[HB.blk]);omega⟩
end
def ShAt(w:World)(B:HB)(F Z:List Nat)(gr:Nat)(A:NS)(st:Nat):Prop:=∃cr ptr G L T,ShM w B F Z gr cr A st ptr G L T/\SdI A L T
section
variable{w:World}{B:HB}{F Z:List Nat}{gr st:Nat}{A:NS}
theorem ShAt.upd{w':World}{S:List Nat}(h:ShAt w B F Z gr A st)(hu:ae S w w')(hS:∀x,x∈S->x∉B.blk F Z gr):ShAt w' B F Z gr A st:=by
 obtain⟨cr,ptr,G,L,T,hM,hI⟩:=h;exact⟨cr,ptr,G,L,T,hM.upd hu hS,hI⟩
theorem ShAt.ag{w':World}(h:ShAt w B F Z gr A st)(hu:ae [] w w'):ShAt w' B F Z gr A st:=h.upd hu σ
theorem DD(h:ShAt w B F Z gr A st)(g:Nat)(hn:aY A g=true) :
  Calls prog 266 #[.pointer (some ⟨B.n0,0,none⟩),.int .i64 (g:Int)] w λe w'=>e=.returned (.tuple #[.int .i64 (qp (dN A g)),.bool (dN A g).isSome])/\w'=w:=by
 obtain⟨cr,ptr,G,L,T,hM,hI⟩:=h;have hg:=(aC _ _).1 hn;have hok:=hM.cells.ok;have h1:=hok.h1;have k:=iT hM.cells (g:Int) ω;have h0:=hM.h0;have h2:=hM.h1;obtain⟨rp,hp,v,r1,r2,r3,r4⟩:=hM.iq.row g hn;have hc:=hM.iq.cell ω hp;cases hl:L g with
 |nil=>
  have PM:=hI.di.none hn hl;have hz:=(jF (A:=A) (h:=(g:Int)) ω).1 PM;rw[PM];rw[hz] at k;clear hM hI hn r1 r2 r3 r4 hp hl PM hz hok
  go_enter func266,ntmps266
  go_wp2_with (first|(go_at_call 126;(with_reducible refine aT (k) ?_))|fail)
  go_ret2;exact⟨rfl,rfl⟩
 |cons m l=>
  have PM:=hI.di.first ω hn hl;have hz:¬dD A (g:Int)=0:=λe=>by
   have:=(jF (A:=A) (h:=(g:Int)) ω).2 e;rw[PM] at this;cases this
  rw[PM];rw[hl] at r2;obtain⟨gs,cap,rfl,_,hgl,hcc,hcap,hcell, -⟩:=fQ r2 σ;have c1:w.cell? ⟨rp,1,none⟩=some (.slice (some ⟨gs,0,none⟩) (m::l).length cap):=r1.cellAt 1 ω rfl;have c2:w.cell? ⟨gs,0,none⟩=some (.int .i64 (m:Int)):=hcell 0 _ rfl;have hzb:((dD A (g:Int):Int) == 0)=false:=ι;have hlp:(0:Int)<((m::l).length:Int):=ι;clear hM hI hn r1 r2 r3 r4 hp hl PM hcell hok hz;generalize dD A (g:Int)=ln at *;generalize (m::l).length=nl at *
  go_enter func266,ntmps266
  go_wp2_with (first|(go_at_call 126;(with_reducible refine aT (k) ?_))|fail)
  go_ret2;exact⟨rfl,rfl⟩
end
theorem Oe:(prog.info? 174).map (λi=>(i.zero,i.size,i.bytes))=some (some (.pointer none),1,8):=by kernel_rfl
theorem ow(n h:Nat):kP (NS.new n) h=false:=by
 unfold kP;cases hh:aY (NS.new n) (h:Int) with
 |false=>rfl
 |true=>have:=(aC _ _).1 hh;simp[NS.new] at this;omega
theorem Ue(n d:Nat)(w:World)(h:n<=65536)(hd:2<=d/\d<=16) :
  Calls prog 57 #[.int .i64 (n:Int),.int .i64 (d:Int)] w λe w'=>∃B F gr,e=.returned (.tuple #[.pointer (some ⟨B.n0,0,none⟩),.int .i64 0])/\lX w' B F [] gr (NS.new n) 0/\ae [] w w'/\(∀x,x∈B.blk F [] gr->w.heap.size<=x)/\B.d=d:=by
 go_enter func57,ntmps57
 go_wp2_with (first
  |((go_at_call 84;(with_reducible refine(oH n _ h).mono ?_));rintro e w1 ⟨c,F,rfl,hC,hu1,hF⟩)
  |((go_at_call 85;(with_reducible refine(Hl d hd _).mono ?_));rintro e w2 ⟨rp,G,rfl,hR,hu2,hG⟩)
  | fail)
 go_ret2;have l1:=hu1.size;have l2:=hu2.size;have l7:=hC.lt;have e3:((w2.alloc (.cells #[.pointer none] 174)).heap.size)=w2.heap.size+1:=by rw[Κ]
 have hh:=eZ (w2.alloc (.cells #[.pointer none] 174)) [.pointer (some ⟨c,0,none⟩),.int .i64 (d:Int),.slice (some ⟨w2.heap.size,0,none⟩) 1 1] 179;rw[e3] at hh;have hv:ae [] w2 (w2.alloc (.cells #[.pointer none] 174)):=(ae.refl _ _).alloc _;have hv2:ae [] (w2.alloc (.cells #[.pointer none] 174)) ((w2.alloc (.cells #[.pointer none] 174)).alloc (.cells #[.pointer (some ⟨c,0,none⟩),.int .i64 (d:Int),.slice (some ⟨w2.heap.size,0,none⟩) 1 1] 179)):=(ae.refl _ _).alloc _
 have hw:ae [] w2 ((w2.alloc (.cells #[.pointer none] 174)).alloc (.cells #[.pointer (some ⟨c,0,none⟩),.int .i64 (d:Int),.slice (some ⟨w2.heap.size,0,none⟩) 1 1] 179)):=hv.trans hv2;have ho:=rZ w2 [.pointer none] 174 0 1 1 rfl ω μ;have hnF:∀x,w1.heap.size<=x->x∉F:=λx hx hm=>by have:=l7 x hm;omega
 refine⟨⟨w2.heap.size+1,c,d⟩,F,w2.heap.size,rfl,⟨1,λ_=>none,λ_=>[],λ_=>[],⟨hh,(hC.ag hu2).ag hw,⟨?_,λk hk=>?_,λk hk=>?_,λk j hk=>?_,λz hz=>by simp at hz,σ⟩,⟨hnF _ (by first|omega|(simp only;omega)),hnF _ ω,σ⟩,λz hz=>by simp at hz,hd⟩,⟨λk hk=>?_,λk hk=>?_,λk x hk=>?_⟩⟩,(hu1.trans hu2).trans hw,λx hx=>?_,rfl⟩
 ·exact ak ho hv2 σ
 ·rw[ow] at hk;cases hk
 ·rw[ow] at hk;cases hk
 ·rw[ow] at hk;cases hk
 ·have:=ow n k;unfold kP at this;rw[this] at hk;cases hk
 ·have:=ow n k;unfold kP at this;rw[this] at hk;cases hk
 ·have:=ow n k;unfold kP at this;rw[this] at hk;cases hk
 ·simp only[DB.blk,ρ,Υ] at hx;rcases hx with rfl|rfl|hx
  ·omega
  ·omega
  ·exact hF x hx
section
variable{w:World}{B:DB}{F Z:List Nat}{gr st:Nat}{A:NS}
theorem TK(h:lX w B F Z gr A st)(hl:65536<A.hs.length) :
  Calls prog 127 #[.pointer (some ⟨B.n0,0,none⟩)] w λe w'=>e=.returned (.int .i64 0)/\Goes (B.blk F Z gr) w w' (λF'=>∃F1,F'=B.blk F1 Z gr/\lX w' B F1 Z gr A st):=by
 obtain⟨cr,ptr,G,L,hM,hI⟩:=h;have k:=iP hM.cells;have e1:dJ A=0:=by unfold dJ;rw[Δ hl]
 have e2:aU A=A:=by unfold aU;rw[Δ hl]
 rw[e1,e2] at k;have h0:=hM.h0;have HM:=χ (ψ hM hI);clear hM hI e1 e2
 go_enter func127,ntmps127
 go_wp2_with (first|((go_at_call 140;(with_reducible refine(k).mono ?_));rintro e w1 ⟨rfl,F1,hC,hu,hF⟩))
 go_ret;refine⟨rfl,B.blk F1 Z gr,⟨F1,rfl,cr,ptr,G,L,HM.out.1.cB hu hC hF rfl,HM.out.2⟩,hu.mono (λy hy=>by simp[DB.blk,hy]),λx hx=>?_⟩;simp only[DB.blk,ρ,τ] at hx ⊢;rcases hx with rfl|rfl|hx|hx
 ·simp
 ·simp
 ·rcases hF x hx with h|h
  ·simp[h]
  ·exact Β h
 ·simp[hx]
theorem OO(h:lX w B F Z gr A st)(hl:¬65536<A.hs.length) :
  Calls prog 127 #[.pointer (some ⟨B.n0,0,none⟩)] w λe w'=>e=.returned (.int .i64 (A.hs.length:Int))/\Goes (B.blk F Z gr) w w' (λF'=>∃F1 Z1 Gn,F'=B.blk F1 Z1 Gn/\lX w' B F1 Z1 Gn (aU A) st):=by
 obtain⟨cr,ptr,G,L,hM,hI⟩:=h;have k:=iP hM.cells;have e1:dJ A=A.hs.length:=by unfold dJ;rw[Γ hl]
 rw[e1] at k;have jd:(aU A).hs.length=A.hs.length+1:=by unfold aU;rw[Γ hl];simp
 have hh0:=hM.cells.ok.h0;have hI2:=hI.make hM.dd.1 hM.cells.ok hl ω;have h0:=hM.h0;have kr:=λW=>Hl B.d hM.dd W;have HM:=χ (ψ hM (ψ hI2 jd));clear hM hI e1 hI2 jd;generalize hm:A.hs.length=m at *;have Iu:=χ hm;clear hm
 go_enter func127,ntmps127
 go_wp2_with (first
  |((go_at_call 140;(with_reducible refine(k).mono ?_));rintro e w1 ⟨rfl,F1,hC,hu,hF⟩;(have q1:=hu.kept HM.out.1.h1 HM.out.1.bS.1);(have q2:=hu.kept HM.out.1.h2 HM.out.1.bS.1);(have f2:=hu.aM HM.out.1.h2 HM.out.1.bS.1 (HM.out.1.head.free 2));(have ho1:=ak HM.out.1.iq.rows hu (λk hk hm=>by cases hk;exact HM.out.1.bS.2.1 hm));(rw[Iu.out] at q2 ho1))
  |((go_at_call 85;(with_reducible refine(kr _).mono ?_));rintro e w2 ⟨rp,G2,rfl,hR,hu2,hG2⟩;(have q3:=hu2.was q2);(have f3:=hu2.aM q2 σ f2);(have ho2:=ak ho1 hu2 σ))
  |(at_builtin;refine bI rfl _ _ 177 rfl 0 174 (.pointer none) 1 8 underlying177 Oe rfl δ _ _ _ rfl (ho2) [vW (some rp)] rfl (by simp[Value.oneCell',vW]) (by first|rfl|(rw[Κ];rfl)) μ ω ω ?_;intro v3 w3 ho3 hu3 Ju;(have hu3:ae [gr] w2 w3:=hu3);obtain⟨g3,c3,ev, -⟩:=fQ ho3 ω;subst ev;(have d4:=hu3.kept q3 (by simp;exact HM.out.1.bS.2.2));(have f4:=hu3.aM q3 (by simp;exact HM.out.1.bS.2.2) f3))
  | fail)
 go_ret;obtain⟨hM,hI2,jd⟩:=HM.out;have hlt:=hM.lt;have l0:=hlt B.n0 (by simp[DB.blk]);have l1:=hlt gr (by simp[DB.blk]);have hs1:=hu.size;have hs2:=hu2.size;have gG:=hC.lt;have hg3:g3=gr\/w2.heap.size<g3:=by
  rcases Ju with h|h
  ·exact Α (Option.some.inj h)
  ·exact Β (h g3 rfl)
 have hw4:ae [B.n0] w3 (w3.setCell ⟨B.n0,2,none⟩ (.slice (some ⟨g3,0,none⟩) (m+1) c3)):=β;have hnF:∀y,y<w.heap.size->y∉F->y∉F1:=λy hy hn hm=>by rcases hF y hm with h'|h';exact hn h';omega
 have MN:B.n0≠g3:=by have:=hM.bS.2.2;omega
 have aai:g3∉F1:=by
  rcases hg3 with e|e
  ·rw[e];exact hnF gr l1 hM.bS.2.1
  ·exact λhm=>by have:=gG g3 hm;omega
 have Uj:∀z,z∈F1->z≠gr/\z≠B.n0:=λz hz=>⟨λe=>hnF gr l1 hM.bS.2.1 (by rw[←e];exact hz),λe=>hnF _ l0 hM.bS.1 (by rw[←e];exact hz)⟩
 have hG2l:=hR.lt;have hRk:(Y6 B.d).at_ (w3.setCell ⟨B.n0,2,none⟩ (.slice (some ⟨g3,0,none⟩) (m+1) c3)) rp G2 []:=(hR.upd hu3 (λz hz hm=>by simp at hz;have:=hG2 z hm;omega)).upd hw4 (λz hz hm=>by simp at hz;have:=hG2 z hm;omega);have huA:ae (B.n0::gr::F) w (w3.setCell ⟨B.n0,2,none⟩ (.slice (some ⟨g3,0,none⟩) (m+1) c3)):=(((hu.mono (λy hy=>by simp[hy])).then hu2).trans (hu3.mono (λy hy=>by simp at hy;simp[hy]))).trans (hw4.mono (λy hy=>by simp at hy;simp[hy]))
 have hfs:=hM.iq.snoc (by rw [Iu.out];cases hh:kP A m with
  |false=>rfl
  |true=>have:=(aC _ _).1 hh;have:=Iu.out;omega) huA (λz hz=>by
   simp only[ρ] at hz;rcases hz with rfl|rfl|hz
   ·exact λhm=>(hM.iF _ hm).2 rfl
   ·exact hM.iq.Gp
   ·exact λhm=>(hM.iF z hm).1 hz) hRk (λz hz=>by have:=hG2 z hz;omega) (gr':=g3) (cr':=c3) (by
   rcases hg3 with e|e
   ·rw[e];exact hM.iq.Gp
   ·exact λhm=>by have:=hM.iq.Ie _ hm;omega) (by
   rcases hg3 with e|e
   ·rw[e];exact λhm=>by have:=hG2 _ hm;omega
   ·exact λhm=>by have:=hG2l _ hm;omega) (by rw [Iu.out];exact ak ho3 hw4 (λk hk hm=>by cases hk;simp at hm;exact MN hm.symm))
 rw[Iu.out] at hfs;have hhF:(λh=>kP A h || h == m)=kP (aU A):=funext λq=>by unfold kP;rw[←Iu.out];exact(xQ A (by rw[Iu.out];exact hl) (by have:=Iu.out;omega) q).symm
 rw[hhF] at hfs;refine⟨rfl,B.blk F1 (Z++G2) g3,⟨F1,Z++G2,g3,rfl,c3,fG ptr m (some rp),fG G m G2,fG L m [],⟨?_,?_,by rw[jd];exact hfs,⟨hnF _ l0 hM.bS.1,aai,MN⟩,λz hz=>?_,hM.dd⟩,hI2⟩,huA.mono (λy hy=>?_),λy hy=>?_⟩
 ·rw[jd];refine((((hM.head.upd hu hM.bS.1).upd hu2 σ).upd hu3 (by simp;exact hM.bS.2.2)).set 2 _).ext (λj hj=>?_);rcases(ω:j=0\/j=1\/j=2) with rfl|rfl|rfl<;>rfl
 ·exact((hC.ag hu2).upd hu3 (λz hz hm=>by simp at hz;exact(Uj z hm).1 hz)).upd hw4 (λz hz hm=>by simp at hz;exact(Uj z hm).2 hz)
 ·rcases τ.1 hz with h|h
  ·exact⟨hnF z (hM.iq.Ie z h) (hM.iF z h).1,(hM.iF z h).2⟩
  ·have:=hG2 z h;exact⟨λhm=>by have:=gG z hm;omega,ω⟩
 ·simp only[DB.blk,ρ,τ] at hy ⊢;rcases hy with h|h|h
  ·exact Α h
  ·exact Β (Α h)
  ·exact Β (Β (Α h))
 ·simp only[DB.blk,ρ,τ] at hy ⊢;rcases hy with h|h|h|h|h
  ·exact Α (Α h)
  ·rcases hg3 with e|e
   ·exact Α (Β (Α (by rw[h,e])))
   ·exact Β ω
  ·rcases hF y h with h|h
   ·exact Α (Β (Β (Α h)))
   ·exact Β h
  ·exact Α (Β (Β (Β h)))
  ·exact Β (by have:=hG2 y h;omega)
end
theorem aaQ:(prog.info? 298).map (λi=>(i.zero,i.size,i.bytes))=some (some (.pointer none),1,8):=by kernel_rfl
theorem XA(W:World)(n:Nat)(hn:n<=65536):IZ (W.alloc (.cells (madeCells #[.int .i64 0] n) 3)) W.heap.size n (bZ (List.replicate n 0)):=by
 have hl:(bZ (List.replicate n 0)).length=n:=by rw[dK];simp
 refine⟨⟨by rw[hl];simp[gQ,hl],Β ⟨W.heap.size,n,madeCells #[.int .i64 0] n,by rw[hl],Nat.zero_le _,?_,by rw[hl];exact Θ _,μ,by simp[madeCells],?_⟩⟩⟩
 ·show(W.heap.push _)[W.heap.size]?=_;simp
 ·rw[hl];apply List.ext_getElem?;intro j
  by_cases hj:j<n
  ·simp[madeCells,hj,bz,bZ,Nat.mod_one]
  ·rw[List.getElem?_eq_none (by simp[madeCells];omega),List.getElem?_eq_none (by rw[gQ,hl];omega)]
theorem P9(n:Nat)(w:World)(h:n<=65536) :
  Calls prog 70 #[.int .i64 (n:Int)] w λe w'=>∃B F gr,e=.returned (.tuple #[.pointer (some ⟨B.n0,0,none⟩),.int .i64 0])/\ShAt w' B F [] gr (NS.new n) 0/\ae [] w w'/\∀x,x∈B.blk F [] gr->w.heap.size<=x:=by
 have hmk:=run_make_row' (P:=prog) 77 3 (.int .i64 0) 8 underlying77 gI rfl .i64 .i64 n ω ω
 go_enter func70,ntmps70
 go_wp2_with (first
  |((go_at_call 84;(with_reducible refine(oH n _ h).mono ?_));rintro e w1 ⟨c,F,rfl,hC,hu1,hF⟩)
  | fail)
 go_ret2;have l1:=hu1.size;have l7:=hC.lt;have hv:ae [] w1 (w1.alloc (.cells #[.pointer none] 298)):=(ae.refl _ _).alloc _;obtain⟨w2,hw2⟩:∃w2,w2=w1.alloc (.cells #[.pointer none] 298):=⟨_,rfl⟩;have e2:w2.heap.size=w1.heap.size+1:=by rw[hw2,Κ]
 have hz:=XA w2 n h;obtain⟨w3,hw3⟩:∃w3,w3=w2.alloc (.cells (madeCells #[.int .i64 0] n) 3):=⟨_,rfl⟩;have e3:w3.heap.size=w1.heap.size+1+1:=by rw[hw3,Κ,e2]
 have hh:=eZ w3 [.pointer (some ⟨c,0,none⟩),.slice (some ⟨w1.heap.size,0,none⟩) 1 1,.slice (some ⟨w1.heap.size+1,0,none⟩) n n] 210;rw[e3] at hh;have aah:ae [] w2 w3:=by rw[hw3];exact(ae.refl _ _).alloc _
 have hv3:ae [] w3 (w3.alloc (.cells #[.pointer (some ⟨c,0,none⟩),.slice (some ⟨w1.heap.size,0,none⟩) 1 1,.slice (some ⟨w1.heap.size+1,0,none⟩) n n] 210)):=(ae.refl _ _).alloc _;have hv12:ae [] w1 w2:=by rw[hw2];exact hv
 have ho:=rZ w1 [.pointer none] 298 0 1 1 rfl ω μ;rw[←hw3,e2] at hz;have hnF:∀x,w1.heap.size<=x->x∉F:=λx hx hm=>by have:=l7 x hm;omega
 have hno:∀k:Nat,aY (NS.new n) k=false:=λk=>ow n k;have hrep:(List.replicate n 0).length=n:=σ;rw[←hw2,←hw3]
 refine⟨⟨w1.heap.size+1+1,c,w1.heap.size+1⟩,F,w1.heap.size,rfl,⟨1,λ_=>none,λ_=>[],λ_=>[],List.replicate n 0,⟨?_,((hC.ag hv12).ag aah).ag hv3,⟨?_,λk hk=>?_,λk hk=>?_,λk j hk=>?_,λz hz=>by simp at hz,σ⟩,?_,?_,⟨hnF _ (by first|omega|(simp only;omega)),hnF _ ω,hnF _ (by first|omega|(simp only;omega))⟩,⟨by simp only;omega,by simp only;omega,by simp only;omega⟩,λz hz=>by simp at hz⟩,⟨⟨λk hk=>?_,λk hk=>?_,λk x hk=>?_⟩,λk hk=>?_⟩⟩,((hu1.trans hv12).trans aah).trans hv3,λx hx=>?_⟩
 ·rw[hrep];exact hh
 ·rw[←hw2] at ho;exact ak (ak ho aah σ) hv3 σ
 ·unfold kP at hk;rw[hno] at hk;cases hk
 ·unfold kP at hk;rw[hno] at hk;cases hk
 ·unfold kP at hk;rw[hno] at hk;cases hk
 ·rw[hrep];exact hz.upd hv3 σ
 ·simp[NS.new]
 ·rw[hno] at hk;cases hk
 ·rw[hno] at hk;cases hk
 ·rw[hno] at hk;cases hk
 ·rw[hno] at hk;cases hk
 ·simp only[HB.blk,ρ,Υ] at hx;rcases hx with rfl|rfl|rfl|hx
  ·omega
  ·omega
  ·omega
  ·exact hF x hx
section
variable{w:World}{B:HB}{F Z:List Nat}{gr st:Nat}{A:NS}
theorem Qo(h:ShAt w B F Z gr A st)(hl:65536<A.hs.length) :
  Calls prog 264 #[.pointer (some ⟨B.n0,0,none⟩)] w λe w'=>e=.returned (.int .i64 0)/\Goes (B.blk F Z gr) w w' (λF'=>∃F1,F'=B.blk F1 Z gr/\ShAt w' B F1 Z gr A st):=by
 obtain⟨cr,ptr,G,L,T,hM,hI⟩:=h;have k:=iP hM.cells;have e1:dJ A=0:=by unfold dJ;rw[Δ hl]
 have e2:aU A=A:=by unfold aU;rw[Δ hl]
 rw[e1,e2] at k;have h0:=hM.h0;have HM:=χ (ψ hM hI);clear hM hI e1 e2
 go_enter func264,ntmps264
 go_wp2_with (first|((go_at_call 140;(with_reducible refine(k).mono ?_));rintro e w1 ⟨rfl,F1,hC,hu,hF⟩))
 go_ret;refine⟨rfl,B.blk F1 Z gr,⟨F1,rfl,cr,ptr,G,L,T,HM.out.1.cB hu hC hF rfl rfl,HM.out.2⟩,hu.mono (λy hy=>by simp[HB.blk,hy]),λx hx=>?_⟩;simp only[HB.blk,ρ,τ] at hx ⊢;rcases hx with rfl|rfl|rfl|hx|hx
 ·simp
 ·simp
 ·simp
 ·rcases hF x hx with h|h
  ·simp[h]
  ·exact Β h
 ·simp[hx]
theorem Kj(h:ShAt w B F Z gr A st)(hl:¬65536<A.hs.length) :
  Calls prog 264 #[.pointer (some ⟨B.n0,0,none⟩)] w λe w'=>e=.returned (.int .i64 (A.hs.length:Int))/\Goes (B.blk F Z gr) w w' (λF'=>∃F1 Z1 Gn,F'=B.blk F1 Z1 Gn/\ShAt w' B F1 Z1 Gn (aU A) st):=by
 obtain⟨cr,ptr,G,L,T,hM,hI⟩:=h;have k:=iP hM.cells;have e1:dJ A=A.hs.length:=by unfold dJ;rw[Γ hl]
 rw[e1] at k;have jd:(aU A).hs.length=A.hs.length+1:=by unfold aU;rw[Γ hl];simp
 have hh0:=hM.cells.ok.h0;have hIp:SdI (aU A) (fG L A.hs.length []) T:=by
  refine⟨hI.di.make ω hM.cells.ok hl ω,λk hk j x hj=>?_⟩
  by_cases e:k=A.hs.length
  ·subst e;rw[bO] at hj;simp at hj
  ·rw[bf _ _ e] at hj;rw[xQ A hl ω] at hk;exact hI.wQ k (by simpa[e] using hk) j x hj
 have h0:=hM.h0;have HM:=χ (ψ hM (ψ hIp jd));clear hM hI e1 hIp jd;generalize hm:A.hs.length=m at *;have Iu:=χ hm;clear hm
 go_enter func264,ntmps264
 go_wp2_with (first
  |((go_at_call 140;(with_reducible refine(k).mono ?_));rintro e w1 ⟨rfl,F1,hC,hu,hF⟩;(have q2:=hu.kept HM.out.1.h1 HM.out.1.bS.1);(have f2:=hu.aM HM.out.1.h1 HM.out.1.bS.1 (HM.out.1.head.free 1));(have ho1:=ak HM.out.1.iq.rows hu (λk hk hm=>by cases hk;exact HM.out.1.bS.2.1 hm));(rw[Iu.out] at q2 ho1);(have ho2:(w1.alloc (.cells #[.pointer (some ⟨B.n0,0,none⟩),.slice none 0 0] 302)).ownsRow _ _ _ _ _ _:=ak ho1 ((ae.refl [] w1).alloc (.cells #[.pointer (some ⟨B.n0,0,none⟩),.slice none 0 0] 302)) σ))
  |(at_builtin;refine bI rfl _ _ 208 rfl 0 298 (.pointer none) 1 8 underlying208 aaQ rfl δ _ _ _ rfl (ho2) [vW (some w1.heap.size)] rfl (by simp[Value.oneCell',vW]) (by first|rfl|(rw[Κ];rfl)) μ ω ω ?_;intro v3 w3 ho3 hu3 Ju;(have hu3:ae [gr] (w1.alloc (.cells #[.pointer (some ⟨B.n0,0,none⟩),.slice none 0 0] 302)) w3:=hu3);obtain⟨g3,c3,ev, -⟩:=fQ ho3 ω;subst ev;(have q3:(w1.alloc (.cells #[.pointer (some ⟨B.n0,0,none⟩),.slice none 0 0] 302)).cell? ⟨B.n0,1,none⟩=_:=((ae.refl [] w1).alloc _).was q2);(have f3:(w1.alloc (.cells #[.pointer (some ⟨B.n0,0,none⟩),.slice none 0 0] 302)).frozen? ⟨B.n0,1,none⟩=false:=((ae.refl [] w1).alloc _).aM q2 σ f2);(have d4:=hu3.kept q3 (by simp;exact HM.out.1.sep.1));(have f4:=hu3.aM q3 (by simp;exact HM.out.1.sep.1) f3))
  | fail)
 go_ret;obtain⟨hM,hI2,jd⟩:=HM.out;have hlt:=hM.lt;have l0:=hlt B.n0 (by simp[HB.blk]);have l1:=hlt gr (by simp[HB.blk]);have l2:=hlt B.ga (by simp[HB.blk]);have hs1:=hu.size;have hs3:=hu3.size;rw[Κ] at hs3;have gG:=hC.lt;have hrow:=eZ w1 [.pointer (some ⟨B.n0,0,none⟩),.slice none 0 0] 302;have WW:ae [] w1 (w1.alloc (.cells #[.pointer (some ⟨B.n0,0,none⟩),.slice none 0 0] 302)):=(ae.refl _ _).alloc _;have hg3:g3=gr\/w1.heap.size+1<g3:=by
  rcases Ju with h|h
  ·exact Α (Option.some.inj h)
  ·right;have:=h g3 rfl;rwa[Κ] at this
 have hw4:ae [B.n0] w3 (w3.setCell ⟨B.n0,1,none⟩ (.slice (some ⟨g3,0,none⟩) (m+1) c3)):=β;have hnF:∀y,y<w.heap.size->y∉F->y∉F1:=λy hy hn hm=>by rcases hF y hm with h'|h';exact hn h';omega
 have MN:B.n0≠g3:=by have:=hM.sep.1;omega
 have aai:g3∉F1:=by
  rcases hg3 with e|e
  ·rw[e];exact hnF gr l1 hM.bS.2.1
  ·exact λhm=>by have:=gG g3 hm;omega
 have Uj:∀z,z∈F1->z≠gr/\z≠B.n0:=λz hz=>⟨λe=>hnF gr l1 hM.bS.2.1 (by rw[←e];exact hz),λe=>hnF _ l0 hM.bS.1 (by rw[←e];exact hz)⟩
 have hRk:(aaG B).at_ (w3.setCell ⟨B.n0,1,none⟩ (.slice (some ⟨g3,0,none⟩) (m+1) c3)) w1.heap.size [w1.heap.size] []:=by
  refine⟨.slice none 0 0,((hrow.ext (λj hj=>rfl)).upd hu3 ζ).upd hw4 ζ,⟨rfl,Α ⟨rfl,rfl⟩⟩,rfl,λg hg=>by cases hg⟩
 have huA:ae (B.n0::gr::F) w (w3.setCell ⟨B.n0,1,none⟩ (.slice (some ⟨g3,0,none⟩) (m+1) c3)):=(((hu.mono (λy hy=>by simp[hy])).then WW).trans (hu3.mono (λy hy=>by simp at hy;simp[hy]))).trans (hw4.mono (λy hy=>by simp at hy;simp[hy]))
 have hfs:=hM.iq.snoc (by rw [Iu.out];cases hh:kP A m with
  |false=>rfl
  |true=>have:=(aC _ _).1 hh;have:=Iu.out;omega) huA (λz hz=>by
   simp only[ρ] at hz;rcases hz with rfl|rfl|hz
   ·exact λhm=>(hM.iF _ hm).2.1 rfl
   ·exact hM.iq.Gp
   ·exact λhm=>(hM.iF z hm).1 hz) hRk (λz hz=>by simp at hz;omega) (gr':=g3) (cr':=c3) (by
   rcases hg3 with e|e
   ·rw[e];exact hM.iq.Gp
   ·exact λhm=>by have:=hM.iq.Ie _ hm;omega) ζ (by rw [Iu.out];exact ak ho3 hw4 (λk hk hm=>by cases hk;simp at hm;exact MN hm.symm))
 rw[Iu.out] at hfs;have hhF:(λh=>kP A h || h == m)=kP (aU A):=funext λq=>by unfold kP;rw[←Iu.out];exact(xQ A (by rw[Iu.out];exact hl) (by have:=Iu.out;omega) q).symm
 rw[hhF] at hfs;have hcs:(aU A).cs.length=A.cs.length:=by unfold aU;split<;>rfl
 refine⟨rfl,B.blk F1 (Z++[w1.heap.size]) g3,⟨F1,Z++[w1.heap.size],g3,rfl,c3,fG ptr m (some w1.heap.size),fG G m [w1.heap.size],fG L m [],T,⟨?_,?_,by rw[jd];exact hfs,?_,by rw[hcs];exact hM.tl,⟨hnF _ l0 hM.bS.1,aai,hnF _ l2 hM.bS.2.2⟩,⟨MN,hM.sep.2.1,by have:=hM.sep.2.2;omega⟩,λz hz=>?_⟩,hI2⟩,huA.mono (λy hy=>?_),λy hy=>?_⟩
 ·rw[jd];refine((((hM.head.upd hu hM.bS.1).upd WW σ).upd hu3 (by simp;exact hM.sep.1)).set 1 _).ext (λj hj=>?_);rcases(ω:j=0\/j=1\/j=2) with rfl|rfl|rfl<;>rfl
 ·exact((hC.ag WW).upd hu3 (λz hz hm=>by simp at hz;exact(Uj z hm).1 hz)).upd hw4 (λz hz hm=>by simp at hz;exact(Uj z hm).2 hz)
 ·exact(((hM.zB.upd hu hM.bS.2.2).upd WW σ).upd hu3 (by simp;exact hM.sep.2.2)).upd hw4 (by simp;exact hM.sep.2.1)
 ·rcases τ.1 hz with h|h
  ·exact⟨hnF z (hM.iq.Ie z h) (hM.iF z h).1,(hM.iF z h).2⟩
  ·simp at h;subst h;exact⟨λhm=>by have:=gG _ hm;omega,ω,ω⟩
 ·simp only[HB.blk,ρ,τ] at hy ⊢;rcases hy with h|h|h
  ·exact Α h
  ·exact Β (Α h)
  ·exact Β (Β (Β (Α h)))
 ·simp only[HB.blk,ρ,τ,ς,or_false] at hy ⊢;rcases hy with h|h|h|h|h|h
  ·exact Α (Α h)
  ·rcases hg3 with e|e
   ·exact Α (Β (Α (by rw[h,e])))
   ·exact Β ω
  ·exact Α (Β (Β (Α h)))
  ·rcases hF y h with h|h
   ·exact Α (Β (Β (Β (Α h))))
   ·exact Β h
  ·exact Α (Β (Β (Β (Β h))))
  ·exact Β ω
end
theorem pK.ready{d:Nat}{A:NS}{L:Nat->List Nat}(h:pK d A L)(hd:2<=d)(ok:A.Ok){g x:Nat}{k s:Int}(hB:rG A g x=true) :
  x∉L g/\(L g).length+1<=A.cs.length/\Hp (nD (aO A g x k s)) d (L g)/\(∀y,y∈x::L g->bY (aO A g x k s) (y:Int)=true)/\(∀y,y∈x::L g->y<A.cs.length):=by
 obtain⟨b1,b2,b3⟩:=(fP _ _ _).1 hB;have hx:x<A.cs.length:=by have:=(ic _ _).1 b2;omega
 have hg0:=(aC _ _).1 b1;have hc:∀y,(aO A g x k s).c y=if y=x then⟨g,k,s⟩ else A.c y:=λy=>by
  unfold aO;rw[Δ hB,π,lg]
  by_cases e:y=x
  ·rw[Δ ⟨e,hx⟩,Δ e]
  ·rw[Γ (λh=>e h.1),Γ e]
 have hl:(aO A g x k s).cs.length=A.cs.length:=by unfold aO;rw[Δ hB,fO]
 have hxL:x∉L g:=λhm=>by
  have:=(h.len b1 hm).2.1;rw[this] at b3;cases b3
 have hlt:∀y,y∈x::L g->y<A.cs.length:=λy hy=>by
  rcases ρ.1 hy with e|e
  ·rw[e];exact hx
  ·exact(h.len b1 e).1
 refine⟨hxL,?_,pK.frame (h.hp g b1) hd (λy hy=>by rw[hc,Γ (λe=>hxL (by rw[←e];exact hy))]),λy hy=>?_,hlt⟩
 ·have h1:=nodup_range A.cs.length ((x::L g).map (λ(x:Nat)=>(x:Int))) (by
   have hn:=Ζ.2 ⟨hxL,h.nd g b1⟩;unfold List.Nodup at hn ⊢;rw[List.pairwise_map];exact hn.imp (λh e=>h ω)) (λz hz=>by
   obtain⟨y,hy,rfl⟩:=List.mem_map.1 hz
   have:=hlt y hy;omega)
  simpa using h1
 ·refine(aj _ _).2 ⟨by rw[hl];exact hlt y hy,?_⟩;rw[hc]
  by_cases e:y=x
  ·rw[Δ e];simp only;omega
  ·rw[Γ e];rcases ρ.1 hy with e2|e2
   ·exact absurd e2 e
   ·have:=(h.len b1 e2).2.2;omega
section
variable{w w':World}{B:DB}{F Z:List Nat}{gr cr st:Nat}{A:NS}{ptr:Nat->Option Nat}{G L:Nat->List Nat}
theorem wW.clear(h:wW w B F Z gr cr A st ptr G L){g:Nat}(hg:aY A g=true):∀z,z∈G g->z∉(Uw B F A h.cells.mem).rd:=λz hz hm=>by
 have h1:=h.iF z (h.iq.sJ g hg z hz);rcases ρ.1 hm with e|e
 ·exact h1.2 e
 ·exact h1.1 e
theorem wW.Bd(h:wW w B F Z gr cr A st ptr G L){g rp:Nat}(hg:aY A g=true)(hp:ptr g=some rp){G' L':List Nat}(hu:ae (G g++[B.c]) w w')(hr:jM w' rp G' B.d L')(hG:∀z,z∈G'->z∈G g\/w.heap.size<=z)(hO:(Uw B F A h.cells.mem).at_ w') :
  ∃st',wW w' B F (Z++G') gr cr A st' ptr (fG G g G') (fG L g L'):=by
 obtain⟨h1, -,st',h2⟩:=hO;have hcl:=h.clear hg;have oC:=h.cells.mem;have hsl:=h.lt;refine⟨st',⟨h.head.upd hu (λhm=>?_),h2,h.iq.one hg hp hu (λz hz=>?_) hr hG,h.bS,λz hz=>?_,h.dd⟩⟩
 ·rcases τ.1 hm with e|e
  ·exact hcl _ e (ρ.2 (Α rfl))
  ·simp at e;exact h.bS.1 (by rw[e];exact oC)
 ·rcases τ.1 hz with e|e
  ·exact Α e
  ·simp at e;refine Β ⟨λe2=>h.bS.2.1 (by rw[←e2,e];exact oC),λhm=>(h.iF z hm).1 (by rw[e];exact oC)⟩
 ·rcases τ.1 hz with e|e
  ·exact h.iF z e
  ·rcases hG z e with e2|e2
   ·exact h.iF z (h.iq.sJ g hg z e2)
   ·exact⟨λhm=>by have:=hsl z (by simp[DB.blk,hm]);omega,λe3=>by have:=hsl B.n0 (by simp[DB.blk]);omega⟩
def AddR(B:DB)(F Z:List Nat)(gr cr:Nat)(A':NS)(st:Nat)(ptr:Nat->Option Nat)(G L:Nat->List Nat)(g rp x:Nat)(w2:World):Prop:=wW w2 B F Z gr cr A' st ptr G L/\∀Y,ae [] w2 Y->
   Calls prog 139 #[.pointer (some ⟨rp,0,none⟩),.iface 122 (.pointer (some ⟨B.n0,0,none⟩)),.int .i64 (x:Int)] Y λe w'=>e=.returned (.bool true)/\∃G' L',jM w' rp G' B.d L'/\L'.Perm (x::L g)/\Hp (nD A') B.d L'/\(∃hc,(Uw B F A' hc).at_ w')/\ae (G g++[B.c]) Y w'/\∀z,z∈G'->z∈G g\/Y.heap.size<=z
theorem I8(h:lX w B F Z gr A st)(g x:Nat)(k s:Int)(hk:-9223372036854775808<=k/\k<=9223372036854775807/\0<=s/\s<=18446744073709551615)(hB:rG A g x=true) :
  Calls prog 125 #[.pointer (some ⟨B.n0,0,none⟩),.int .i64 (g:Int),.int .i64 (x:Int),.agg #[.int .i64 k,.int .u64 s]] w λe w'=>e=.returned (.bool true)/\Goes (B.blk F Z gr) w w' (λF'=>∃Z' st',F'=B.blk F Z' gr/\lX w' B F Z' gr (aO A g x k s) st'):=by
 obtain⟨cr,ptr,G,L,hM,hI⟩:=h;have hb1:=(fP _ _ _).1 hB;have hgN:=(aC _ _).1 hb1.1;have hok:=hM.cells.ok;have hcs:=hok.c1;obtain⟨r1,r2,r3,r4,r5⟩:=hI.ready hM.dd.1 hok (k:=k) (s:=s) hB;obtain⟨rp,hp,hR⟩:=hM.iq.row g hb1.1;have pJ:(aO A g x k s).hs=A.hs:=by unfold aO;rw[Δ hB];rfl
 have ig:aY (aO A g x k s) g=true:=by have:=hb1.1;unfold aY at this ⊢;rw[pJ];exact this
 have H9:∀X w2,ae [] w X->aF w2 B.c F (aO A g x k s) st->ae F X w2->AddR B F Z gr cr (aO A g x k s) st ptr G L g rp x w2:=by
  intro X w2 hX hC2 hu2;have hM2:=(hM.ag hX).cB hu2 hC2 (λx hx=>Α hx) pJ;refine⟨hM2,λY hY=>?_⟩;have ND:=hM2.ag hY;obtain⟨rp',hp',hRY⟩:=ND.iq.row g ig;rw[hp] at hp';cases hp';have Tf:jM Y rp (G g) B.d (L g):=hRY;refine(Gz (Uw B F (aO A g x k s) ND.cells.mem) ND.ord Tf hM.dd ω r3 x r1 (hI.nd g hb1.1) r4 (λy hy=>by have:=r5 y hy;omega) (ND.clear ig)).mono ?_;rintro e w' ⟨rfl,G',L',h1,h2,h3,h4,h5,h6⟩;exact⟨rfl,G',L',h1,h2,h3,⟨_,h4⟩,h5,h6⟩
 have TI:∀W (hW:ae [] w W),Calls prog 138 #[.pointer (some ⟨B.c,0,none⟩),.int .i64 (g:Int),.int .i64 (x:Int),.agg #[.int .i64 k,.int .u64 s]] W λe w2=>e=.returned (.bool true)/\ae F W w2/\AddR B F Z gr cr (aO A g x k s) st ptr G L g rp x w2:=λW hW=>(og (hM.ag hW).cells g x k s hk hB).mono (λe w2 h=>by
  obtain⟨rfl,hC2,hu2⟩:=h
  exact ⟨rfl,hu2,H9 W w2 hW hC2 hu2⟩)
 have c0:=hM.h0;have c2:=hM.h2;have cg:=hM.iq.cell ω hp;have hlt:=hM.lt;have HX:=χ (ψ hM (ψ hI (ψ hok (ψ hB (ψ hp (ψ ig hlt))))));have n1:B.n0∉F++Z:=λhm=>by rcases τ.1 hm with e|e;exact hM.bS.1 e;exact(hM.iF _ e).2 rfl
 have n2:gr∉F++Z:=λhm=>by rcases τ.1 hm with e|e;exact hM.bS.2.1 e;exact hM.iq.Gp e
 have n3:∀z,z∈F++Z->z<w.heap.size:=λz hm=>hlt z (by simp only[DB.blk,ρ,τ] at hm ⊢;exact Β (Β hm));have Yo:(g:Int)<(A.hs.length:Int):=ω;have hgz:∀z,z∈G g++[B.c]->z∈F++Z:=λz hz=>by
  rcases τ.1 hz with e|e
  ·exact τ.2 (Β (hM.iq.sJ g hb1.1 z e))
  ·simp at e;rw[e];exact τ.2 (Α hM.cells.mem)
 clear hM hI hok hB hp ig hlt hR r1 r3 r4 r5 hb1 hgN r2 hcs pJ;generalize A.hs.length=m at *
 go_enter func125,ntmps125
 go_upto_region 1 with(fail)
 refine bG (λW=>W.cell? ⟨w.heap.size,0,none⟩=some (.int .i64 k)/\W.cell? ⟨w.heap.size,1,none⟩=some (.int .u64 s)/\ae [] w W) ⟨γ,γ,β⟩ ?_;rintro W ⟨x0,x1,hW⟩;have hb:w.heap.size∉F++Z:=λhm=>by have:=n3 _ hm;omega
 have e0:∀X,ae (F++Z) W X->X.cell? ⟨w.heap.size,0,none⟩=some (.int .i64 k):=λX h=>h.kept x0 hb;have e1:∀X,ae (F++Z) W X->X.cell? ⟨w.heap.size,1,none⟩=some (.int .u64 s):=λX h=>h.kept x1 hb;have e2:∀X,ae (F++Z) W X->X.cell? ⟨B.n0,0,none⟩=some (.pointer (some ⟨B.c,0,none⟩)):=λX h=>h.kept (hW.was c0) n1;have e3:∀X,ae (F++Z) W X->X.cell? ⟨B.n0,2,none⟩=some (.slice (some ⟨gr,0,none⟩) m cr):=λX h=>h.kept (hW.was c2) n1;have e4:∀X,ae (F++Z) W X->X.cell? ⟨gr,g,none⟩=some (.pointer (some ⟨rp,0,none⟩)):=λX h=>h.kept (hW.was cg) n2;have HW:=χ hW
 have NM:=λX (hX:ae [] W X)=>TI X (hW.trans hX);clear x0 x1 hW TI c0 c2 cg
 go_region_held3 (ae (F++Z) W) (exact ν)
  (first
   |((go_at_call 138;(with_reducible refine(NM _ ν).mono ?_));rintro e w2 ⟨rfl,hu2,hM2,Tk⟩;(have hv2:ae (F++Z) W w2:=ae.trans ν (hu2.mono (λz hz=>τ.2 (Α hz)))))
   | ((go_at_call 139;(with_reducible refine (Tk _ ν).mono ?_));rintro e w3 ⟨rfl,G',L',mK,hp3,hH3,hO3,hu3,hG3⟩;(have hv3:ae (F++Z) W w3:=ae.trans ν (hu3.mono hgz))))
 obtain⟨hM,hI,hok,hB,hp,ig,hlt⟩:=HX.out;obtain⟨hc3,hO3⟩:=hO3;have hG3':∀z,z∈G'->z∈G g\/w2.heap.size<=z:=hG3;have Zf:ae (G g++[B.c]) w2 w3:=ae.trans ν hu3;obtain⟨st',jo⟩:=hM2.Bd ig hp Zf mK hG3' hO3;have hI3:=hI.put hM.dd.1 hok hB hp3 hH3;go_wp2;go_ret;have hsz:=(HW.out).size;have hsz2:=hv2.size;refine⟨rfl,B.blk F (Z++G') gr,⟨Z++G',st',rfl,cr,ptr,_,_,jo,hI3.1⟩,((HW.out).mono σ).trans (hv3.mono (λz hz=>?_)),λz hz=>?_⟩
 ·simp only[DB.blk,ρ,τ] at hz ⊢;exact Β (Β hz)
 ·simp only[DB.blk,ρ,τ] at hz ⊢;rcases hz with h|h|h|h|h
  ·exact Α (Α h)
  ·exact Α (Β (Α h))
  ·exact Α (Β (Β (Α h)))
  ·exact Α (Β (Β (Β h)))
  ·rcases hG3' z h with h|h
   ·have:=hgz z (τ.2 (Α h));rcases τ.1 this with h|h
    ·exact Α (Β (Β (Α h)))
    ·exact Α (Β (Β (Β h)))
   ·exact Β ω
end
section
variable{w w':World}{B:HB}{F Z:List Nat}{gr cr st:Nat}{A:NS}{ptr:Nat->Option Nat}{G L:Nat->List Nat}{T:List Nat}
theorem SdI.turn{A':NS}{g:Nat}{l T':List Nat}(h:SdI A L T)(hd:pK 2 A' (fG L g l))(hh:∀k:Nat,aY A' k=aY A k)(hg:aY A g=true)(hl:∀j x,l[j]?=some x->T'.getD x 0=j)(ho:∀x,x∉l->x∉L g->T'.getD x 0=T.getD x 0)(hm:∀k x,k≠g->aY A k=true->x∈L k->x∉l/\x∉L g):SdI A' (fG L g l) T':=by
 refine⟨hd,λk hk j x hj=>?_⟩;rw[hh] at hk
 by_cases e:k=g
 ·subst e;rw[bO] at hj;exact hl j x hj
 ·rw[bf _ _ e] at hj;have hx:=hm k x e hk (Η hj);rw[ho x hx.1 hx.2];exact h.wQ k hk j x hj
theorem pK.apart(h:pK 2 A L){k g x:Nat}(e:k≠g)(hk:aY A k=true)(hg:aY A g=true)(hx:x∈L k):x∉L g:=λhm=>by
 have h1:=(h.mem k x hk).1 hx;have h2:=(h.mem g x hg).1 hm;omega
def PuR(B:HB)(F Z:List Nat)(gr cr:Nat)(A':NS)(st:Nat)(ptr:Nat->Option Nat)(G L:Nat->List Nat)(T:List Nat)(g rp x:Nat)(v:Value)(w2:World):Prop:=ShM w2 B F Z gr cr A' st ptr G L T/\∀Y,ae [] w2 Y->
   Calls prog 269 #[.iface 298 (.pointer (some ⟨rp,0,none⟩)),.iface 3 (.int .i64 (x:Int))] Y λe w'=>e=.returned (.tuple #[])/\PuE Y B F A' rp v (L g) T x w'
theorem FN(h:ShAt w B F Z gr A st)(g x:Nat)(k s:Int)(hk:-9223372036854775808<=k/\k<=9223372036854775807/\0<=s/\s<=18446744073709551615)(hB:rG A g x=true) :
  Calls prog 263 #[.pointer (some ⟨B.n0,0,none⟩),.int .i64 (g:Int),.int .i64 (x:Int),.agg #[.int .i64 k,.int .u64 s]] w λe w'=>e=.returned (.bool true)/\Goes (B.blk F Z gr) w w' (λF'=>∃Z' st',F'=B.blk F Z' gr/\ShAt w' B F Z' gr (aO A g x k s) st'):=by
 obtain⟨cr,ptr,G,L,T,hM,hI⟩:=h;have hb1:=(fP _ _ _).1 hB;have hgN:=(aC _ _).1 hb1.1;have hok:=hM.cells.ok;obtain⟨r1,r2,r3,r4,r5⟩:=hI.di.ready ω hok (k:=k) (s:=s) hB;have pJ:(aO A g x k s).hs=A.hs:=by unfold aO;rw[Δ hB];rfl
 have MC:(aO A g x k s).cs.length=A.cs.length:=by unfold aO;rw[Δ hB];exact fO _ _ _
 have ig:aY (aO A g x k s) g=true:=by have:=hb1.1;unfold aY at this ⊢;rw[pJ];exact this
 have hdom:∀y,y∈L g->bY (aO A g x k s) (y:Int)=true/\y<T.length:=λy hy=>⟨r4 y (by simp[hy]),by rw[hM.tl];exact r5 y (by simp[hy])⟩
 obtain⟨rp,hp,v, -, -,Dz, -⟩:=hM.iq.row g hb1.1;have H9:∀X w2,ae [] w X->aF w2 B.c F (aO A g x k s) st->ae F X w2->PuR B F Z gr cr (aO A g x k s) st ptr G L T g rp x v w2:=by
  intro X w2 hX hC2 hu2;have hM2:=(hM.ag hX).cB hu2 hC2 (λx hx=>Α hx) pJ MC;refine⟨hM2,λY hY=>?_⟩;obtain⟨rp',v',hp',hG',hP⟩:=(hM2.ag hY).pile ig hdom (hI.di.nd g hb1.1) (hI.wQ g hb1.1);rw[hp] at hp';cases hp';rw[Dz] at hG';have ev:v'.ownBlock.toList=v.ownBlock.toList:=(List.cons.inj hG').2.symm;refine(D8 hP x r1 (r4 x σ) (by rw[hM.tl];exact r5 x σ) (by rw[hM.tl];omega) r3).mono ?_;rintro e w' ⟨rfl,gs,cap,L',T',q1,q2,q3,q4,q5,q6,q7⟩;refine⟨rfl,gs,cap,L',T',q1,q2,q3,q4,q5,by rw[←ev];exact q6,?_⟩;rcases q7 with e|e
  ·left;have:gs∈v.ownBlock.toList:=by rw[←ev];exact Option.mem_toList.2 e
   exact Option.mem_toList.1 this
  ·exact Β e
 have TI:∀W (hW:ae [] w W),Calls prog 138 #[.pointer (some ⟨B.c,0,none⟩),.int .i64 (g:Int),.int .i64 (x:Int),.agg #[.int .i64 k,.int .u64 s]] W λe w2=>e=.returned (.bool true)/\ae F W w2/\PuR B F Z gr cr (aO A g x k s) st ptr G L T g rp x v w2:=λW hW=>(og (hM.ag hW).cells g x k s hk hB).mono (λe w2 h=>by
  obtain⟨rfl,hC2,hu2⟩:=h
  exact ⟨rfl,hu2,H9 W w2 hW hC2 hu2⟩)
 have c0:=hM.h0;have c2:=hM.h1;have cg:=hM.iq.cell ω hp;have hlt:=hM.lt;have HX:=χ (ψ hM (ψ hI (ψ hok (ψ hB (ψ hp (ψ ig (ψ hlt (ψ Dz (ψ hb1.1 (ψ pJ MC))))))))));have n1:B.n0∉F:=hM.bS.1;have n2:gr∉F:=hM.bS.2.1;have n3:∀z,z∈F->z<w.heap.size:=λz hm=>hlt z (by simp only[HB.blk,ρ,τ];exact Β (Β (Β (Α hm))));have Yo:(g:Int)<(A.hs.length:Int):=ω;clear hM hI hok hB hp ig hlt r1 r3 r4 r5 hb1 hgN r2 pJ MC H9 hdom Dz;generalize A.hs.length=m at *
 go_enter func263,ntmps263
 go_upto_region 1 with(fail)
 refine bG (λW=>W.cell? ⟨w.heap.size,0,none⟩=some (.int .i64 k)/\W.cell? ⟨w.heap.size,1,none⟩=some (.int .u64 s)/\ae [] w W) ⟨γ,γ,β⟩ ?_;rintro W ⟨x0,x1,hW⟩;have hb:w.heap.size∉F:=λhm=>by have:=n3 _ hm;omega
 have e0:∀X,ae F W X->X.cell? ⟨w.heap.size,0,none⟩=some (.int .i64 k):=λX h=>h.kept x0 hb;have e1:∀X,ae F W X->X.cell? ⟨w.heap.size,1,none⟩=some (.int .u64 s):=λX h=>h.kept x1 hb;have e2:∀X,ae F W X->X.cell? ⟨B.n0,0,none⟩=some (.pointer (some ⟨B.c,0,none⟩)):=λX h=>h.kept (hW.was c0) n1;have e3:∀X,ae F W X->X.cell? ⟨B.n0,1,none⟩=some (.slice (some ⟨gr,0,none⟩) m cr):=λX h=>h.kept (hW.was c2) n1;have e4:∀X,ae F W X->X.cell? ⟨gr,g,none⟩=some (.pointer (some ⟨rp,0,none⟩)):=λX h=>h.kept (hW.was cg) n2;have HW:=χ hW;have NM:=λX (hX:ae [] W X)=>TI X (hW.trans hX)
 clear x0 x1 hW TI c0 c2 cg
 go_region_held3 (ae F W) (exact ν)
  (first
   | ((go_at_call 138;(with_reducible refine (NM _ ν).mono ?_));rintro e w2 ⟨rfl,hu2,hM2,Tk⟩;(have hv2:ae F W w2:=ae.trans ν hu2)))
 have a3:=e3 w2 hv2;have a4:=e4 w2 hv2;have HV:=χ hv2;clear e0 e1 e2 e3 e4 NM hv2 hu2
 go_wp2_with (first
  |((go_at_call 269;(with_reducible refine(Tk _ (ae.refl _ _)).mono ?_));rintro e w3 ⟨rfl,hQ⟩)
  | fail)
 go_ret;obtain⟨hM,hI,hok,hB,hp,ig,hlt,Dz,hg1,pJ,MC⟩:=HX.out;obtain⟨gs,cap,L',T',q1,q2,q3,q4,q5,q6,q7⟩:=hQ;have hPE:=q1.any;have wP:∀z,z∈rp::v.ownBlock.toList->z∈G g:=λz hz=>by rw[Dz];exact hz
 obtain ⟨st',jo⟩:=hM2.Bd (g:=g) ig hp q6 (λz hz=>by
  simp only[ρ] at hz;rcases hz with e|e|e|e
  ·exact Α (wP z (by simp[e]))
  ·exact Β (Α e)
  ·exact Β (Β e)
  ·exact Α (wP z (Λ _ e))) (wP rp σ) hPE q5 (λk hk=>by
  cases hk;rcases q7 with e|e
  ·exact Α (wP _ (Λ _ (Option.mem_toList.2 e)))
  ·exact Β e)
 have hI3:=hI.di.put ω hok hB q2 q3
 have hsd:SdI (aO A g x k s) (fG L g L') T':=hI.turn hI3.1 (λq=>by unfold aY;rw [pJ]) hg1 q1.wQ (λy h1 h2=>q4 y (λhm=>h1 (q2.mem_iff.2 hm))) (λq y e hq hy=>by
  have h2:=hI.di.apart e hq hg1 hy;refine⟨λhm=>?_,h2⟩;rcases ρ.1 (q2.mem_iff.1 hm) with e3|e3
  ·subst e3;have h4:=(hI.di.mem q y hq).1 hy;have h5:=((fP _ _ _).1 hB).2.2;have h6:=(aC _ _).1 hq;rw[(aj A y).2 ⟨h4.1,ω⟩] at h5;cases h5
  ·exact h2 e3)
 have hsz:=HW.out.size;have hsz2:=HV.out.size;have hbl:∀z,z∈F->z∈B.blk F Z gr:=λz hz=>by simp only[HB.blk,ρ,τ];exact Β (Β (Β (Α hz)))
 have hbz:∀z,z∈G g->z∈B.blk F Z gr:=λz hz=>by simp only[HB.blk,ρ,τ];exact Β (Β (Β (Β (hM.iq.sJ g hg1 z hz))))
 refine⟨rfl,B.blk F (Z++(rp::Option.toList (some gs))) gr,⟨_,st',rfl,cr,ptr,_,_,T',jo,hsd⟩,((HW.out.mono σ).trans (HV.out.mono hbl)).trans (q6.mono (λz hz=>?_)),λz hz=>?_⟩
 ·simp only[ρ] at hz;rcases hz with e|e|e|e
  ·exact hbz z (wP z (by simp[e]))
  ·simp[HB.blk,e]
  ·exact hbl z (by rw[e];exact hM.cells.mem)
  ·exact hbz z (wP z (Λ _ e))
 ·simp only[HB.blk,ρ,τ,Option.toList_some,ς,or_false] at hz;rcases hz with h|h|h|h|h|h|h
  ·left;simp[HB.blk,h]
  ·left;simp[HB.blk,h]
  ·left;simp[HB.blk,h]
  ·exact Α (hbl z h)
  ·left;simp[HB.blk,h]
  ·exact Α (hbz z (wP z (by simp[h])))
  ·rcases q7 with e|e
   ·exact Α (hbz z (wP z (Λ _ (by rw[h];exact Option.mem_toList.2 e))))
   ·exact Β ω
end
end Go.Proofs.YtnpdakpagnpanaaGreat
