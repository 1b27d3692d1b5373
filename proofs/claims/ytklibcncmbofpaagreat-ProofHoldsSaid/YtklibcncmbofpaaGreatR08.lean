/-
  Lemmas for ProofHolds: SfP, ShP, DrP, Sf, Sf2, Sd, Sd2, Sd3. Conditions: those of each lemma.
-/
import Derived.IntWalk
import Derived.Deep.RegionHeldLaw
import Derived.BigRegion
import Derived.Test.YtklibcncmbofpaaGreatR04
import Derived.Test.YtklibcncmbofpaaGreatR07
set_option linter.all false
set_option maxHeartbeats 8000000
set_option maxRecDepth 10000
namespace Go.Proofs.YtklibcncmbofpaaGreat
open Go Go.RowKit
def par(d i:Nat):Nat:=(i-1) / d
theorem eY{d i:Nat}(hd:2<=d)(hi:0<i):par d i<i:=by
 unfold par;have:(i-1) / d<=(i-1) / 2:=Nat.div_le_div_left hd ω;omega
theorem uH{d i j:Nat}(hd:2<=d):(0<j/\par d j=i)↔d*i+1<=j/\j<=d*i+d:=by
 unfold par;have e:d*(i+1)=d*i+d:=by rw[Nat.mul_add,Nat.mul_one]
 constructor
 ·rintro⟨h0,h⟩;have h1:=Nat.div_mul_le_self (j-1) d;have h2:=Nat.lt_mul_div_succ (j-1) (show 0<d by omega);rw[h]at h1 h2;rw[Nat.mul_comm]at h1;omega
 ·rintro⟨h1,h2⟩;refine⟨ω,?_⟩;rw[Nat.div_eq_iff ω];rw[Nat.mul_comm i d];omega
theorem dH(L:List Nat)(i x j:Nat):(L.set i x).getD j 0=if j=i/\i<L.length then x else L.getD j 0:=by
 simp only[φ,List.getElem?_set]
 by_cases h:i=j
 ·subst h
  by_cases h2:i<L.length
  ·simp[h2]
  ·simp[h2]
 ·have h':¬j=i:=fun e=>h e.symm;simp[h,h']
section
variable {R:Nat->Nat->Prop}{d:Nat}{L:List Nat}{i x:Nat}
def Hp(R:Nat->Nat->Prop)(d:Nat)(L:List Nat):Prop:=∀j,0<j->j<L.length->R (L.getD (par d j) 0) (L.getD j 0)
structure fC(R:Nat->Nat->Prop)(d:Nat)(L:List Nat)(i:Nat):Prop where
 lt:i<L.length
 a:∀j,0<j->j<L.length->j≠i->par d j≠i->R (L.getD (par d j) 0) (L.getD j 0)
 b:∀j,0<j->j<L.length->par d j=i->0<i->R (L.getD (par d i) 0) (L.getD j 0)
def Below(R:Nat->Nat->Prop)(d:Nat)(L:List Nat)(i x:Nat):Prop:=∀j,0<j->j<L.length->par d j=i->R x (L.getD j 0)
theorem Hp.hole(ht:∀a b c,R a b->R b c->R a c)(hd:2<=d)(h:Hp R d L)(hi:i<L.length):fC R d L i:=
 ⟨hi,fun j h0 hj _ _=>h j h0 hj,fun j h0 hj hp hi0=>by
  have h1:=h j h0 hj;rw[hp]at h1
  exact ht _ _ _ (h i hi0 hi) h1⟩
theorem fC.fill(hd:2<=d)(h:fC R d L i)(hb:Below R d L i x)(hu:i=0\/R (L.getD (par d i) 0) x):Hp R d (L.set i x):=by
 intro j h0 hj;rw[List.length_set]at hj;have hl:=h.lt;rw[dH,dH]
 by_cases e:j=i
 ·subst e;have hp:=eY hd h0;rw[if_neg ω,if_pos ⟨rfl,hj⟩];rcases hu with hu|hu
  ·omega
  ·exact hu
 ·rw[if_neg (show ¬ (j=i/\i<L.length) by omega)]
  by_cases ep:par d j=i
  ·rw[if_pos ⟨ep,hl⟩];exact hb j h0 hj ep
  ·rw[if_neg (show ¬ (par d j=i/\i<L.length)from fun e=>ep e.1)];exact h.a j h0 hj e ep
theorem fC.up(ht:∀a b c,R a b->R b c->R a c)(hd:2<=d)(h:fC R d L i)(h0:0<i)(hx:R x (L.getD (par d i) 0)) :
  fC R d (L.set i (L.getD (par d i) 0)) (par d i)/\Below R d (L.set i (L.getD (par d i) 0)) (par d i) x:=by
 have hp:=eY hd h0;have hl:=h.lt;have Qc:∀j,0<j->par d j=par d i->par d j≠i:=fun j hj e=>ω;refine⟨⟨by rw[List.length_set];omega,fun j j0 hj hji hjp=>?_,fun j j0 hj hjp hp0=>?_⟩,fun j j0 hj hjp=>?_⟩
 ·rw[List.length_set]at hj;have e:j≠i:=fun e=>hjp (by rw[e]);rw[dH,dH,if_neg (show ¬ (j=i/\i<L.length) by omega)]
  by_cases ep:par d j=i
  ·rw[if_pos ⟨ep,hl⟩];exact h.b j j0 hj ep h0
  ·rw[if_neg (show ¬ (par d j=i/\i<L.length)from fun e=>ep e.1)];exact h.a j j0 hj e ep
 ·rw[List.length_set]at hj;have hp2:=eY hd hp0;rw[dH,dH,if_neg (show ¬ (par d (par d i)=i/\i<L.length) by omega)];have h1:=h.a (par d i) hp0 ω ω ω
  by_cases e:j=i
  ·rw[if_pos ⟨e,hl⟩];exact h1
  ·rw[if_neg (show ¬ (j=i/\i<L.length) by omega)];have h2:=h.a j j0 hj e ω;rw[hjp]at h2;exact ht _ _ _ h1 h2
 ·rw[List.length_set]at hj;rw[dH]
  by_cases e:j=i
  ·rw[if_pos ⟨e,hl⟩];exact hx
  ·rw[if_neg (show ¬ (j=i/\i<L.length) by omega)];have h2:=h.a j j0 hj e ω;rw[hjp]at h2;exact ht _ _ _ hx h2
structure qE(R:Nat->Nat->Prop)(d:Nat)(L:List Nat)(i c:Nat):Prop where
 c0:0<c
 lt:c<L.length
 pc:par d c=i
 all:∀j,0<j->j<L.length->par d j=i->j≠c->R (L.getD c 0) (L.getD j 0)
theorem fC.down(ht:∀a b c,R a b->R b c->R a c)(hd:2<=d)(h:fC R d L i){c:Nat}(hc:qE R d L i c)(hx:R (L.getD c 0) x) :
  fC R d (L.set i (L.getD c 0)) c/\R ((L.set i (L.getD c 0)).getD (par d c) 0) x:=by
 have hl:=h.lt;have hci:i<c:=by have:=eY hd hc.c0;have:=hc.pc;omega
 refine⟨⟨by rw[List.length_set];exact hc.lt,fun j j0 hj hjc hjp=>?_,fun j j0 hj hjp _=>?_⟩,?_⟩
 ·rw[List.length_set]at hj;rw[dH,dH]
  by_cases e:j=i
  ·subst e;have:=eY hd j0;rw[if_neg (show ¬ (par d j=j/\j<L.length) by omega),if_pos ⟨rfl,hl⟩];exact h.b c hc.c0 hc.lt hc.pc j0
  ·rw[if_neg (show ¬ (j=i/\i<L.length) by omega)]
   by_cases ep:par d j=i
   ·rw[if_pos ⟨ep,hl⟩];exact hc.all j j0 hj ep hjc
   ·rw[if_neg (show ¬ (par d j=i/\i<L.length)from fun e=>ep e.1)];exact h.a j j0 hj e ep
 ·rw[List.length_set]at hj;have hpj:=eY hd j0;rw[hc.pc,dH,dH,if_pos ⟨rfl,hl⟩,if_neg (show ¬ (j=i/\i<L.length) by omega)];have h2:=h.a j j0 hj ω ω;rw[hjp]at h2;exact h2
 ·rw[hc.pc,dH,if_pos ⟨rfl,hl⟩];exact hx
theorem Hp.first(ht:∀a b c,R a b->R b c->R a c)(hd:2<=d)(h:Hp R d L):∀ (k j:Nat),j<=k->j<L.length->j=0\/R (L.getD 0 0) (L.getD j 0)
 | 0,j,hk,_=>Or.inl ω
 | k+1,j,hk,hj=>by
  by_cases j0:j=0
  ·exact Or.inl j0
  ·right;have hp:=eY (i:=j) hd ω;have h1:=h j ω hj;rcases Hp.first ht hd h k (par d j) ω ω with e|e
   ·rw[e]at h1;exact h1
   ·exact ht _ _ _ e h1
theorem Hp.frame{R':Nat->Nat->Prop}(h:Hp R d L)(hR:∀a b,a∈L->b∈L->R a b->R' a b)(hd:2<=d):Hp R' d L:=fun j h0 hj=>by
 have hp:=eY hd h0;have hm:∀q,q<L.length->L.getD q 0∈L:=fun q hq=>by
  rw[φ,ε hq];exact List.getElem_mem hq
 exact hR _ _ (hm _ ω) (hm _ hj) (h j h0 hj)
theorem fC.frame{R':Nat->Nat->Prop}(h:fC R d L i)(hR:∀a b,a∈L.eraseIdx i->b∈L.eraseIdx i->R a b->R' a b)(hd:2<=d):fC R' d L i:=by
 have hm:∀q,q<L.length->q≠i->L.getD q 0∈L.eraseIdx i:=fun q hq hne=>by
  rw[φ,ε hq,List.mem_eraseIdx_iff_getElem?];exact⟨q,hne,by simp[ε hq]⟩
 refine⟨h.lt,fun j h0 hj hji hp=>?_,fun j h0 hj hp hi0=>?_⟩
 ·have:=eY hd h0;exact hR _ _ (hm _ ω hp) (hm _ hj hji) (h.a j h0 hj hji hp)
 ·have h1:=eY hd h0;have h2:=eY hd hi0;have:=h.lt;exact hR _ _ (hm _ ω ω) (hm _ hj ω) (h.b j h0 hj hp hi0)
end
def vS(f:Int->Option Int)(L:List Nat):Prop:=∀z v,f z=some v↔∃ (y j:Nat),z=y/\v=j/\L[j]?=some y
def ny(f:Int->Option Int)(L:List Nat)(i x:Nat):Prop:=∀z v,z≠(x:Int)->(f z=some v↔∃ (y j:Nat),z=y/\v=j/\j≠i/\L[j]?=some y)
def Rf(f:Int->Option Int)(k z:Int):Int->Option Int:=fun q=>if q=k then some z else f q
theorem ny.fill{f:Int->Option Int}{L:List Nat}{i x:Nat}(h:ny f L i x)(hi:i<L.length)(hn:(L.set i x).Nodup):vS (Rf f x i) (L.set i x):=by
 intro z v;unfold Rf
 by_cases hz:z=(x:Int)
 ·rw[if_pos hz];constructor
  ·intro e;cases e;exact⟨x,i,hz,rfl,by simp[hi]⟩
  ·rintro⟨y,j,rfl,rfl,hj⟩;have e:y=x:=ω;subst e;have h1:(L.set i y)[i]?=some y:=by simp[hi]
   obtain⟨g1,e1⟩:=List.getElem?_eq_some_iff.1 hj;obtain⟨g2,e2⟩:=List.getElem?_eq_some_iff.1 h1;have:j=i:=(List.getElem_inj hn).1 (e1.trans e2.symm);rw[this]
 ·rw[if_neg hz,h z v hz];constructor
  ·rintro⟨y,j,rfl,rfl,hj,hg⟩;exact⟨y,j,rfl,rfl,by rw[List.getElem?_set_ne (fun e=>hj e.symm)];exact hg⟩
  ·rintro⟨y,j,rfl,rfl,hg⟩
   by_cases e:j=i
   ·subst e;rw[List.getElem?_set_self hi]at hg;cases hg;exact absurd rfl hz
   ·rw[List.getElem?_set_ne (fun e'=>e e'.symm)]at hg;exact⟨y,j,rfl,rfl,e,hg⟩
theorem ny.move{f:Int->Option Int}{L:List Nat}{i p x:Nat}(h:ny f L i x)(hi:i<L.length)(hp:p<L.length)(hpi:p≠i)(hn:(L.set i x).Nodup):ny (Rf f (L.getD p 0) i) (L.set i (L.getD p 0)) p x:=by
 intro z v hz;have PV:L[p]?=some (L.getD p 0):=by simp[φ,hp]
 have huni:∀j,j≠i->L[j]?=some (L.getD p 0)->j=p:=fun j hj hg=>by
  have h1:(L.set i x)[j]?=some (L.getD p 0):=by rw[List.getElem?_set_ne (fun e=>hj e.symm)];exact hg
  have h2:(L.set i x)[p]?=some (L.getD p 0):=by rw[List.getElem?_set_ne (fun e=>hpi e.symm)];exact PV
  obtain⟨g1,e1⟩:=List.getElem?_eq_some_iff.1 h1;obtain⟨g2,e2⟩:=List.getElem?_eq_some_iff.1 h2;exact(List.getElem_inj hn).1 (e1.trans e2.symm)
 generalize hy:L.getD p 0=y at *;unfold Rf
 by_cases e:z=(y:Int)
 ·rw[if_pos e];constructor
  ·intro e2;cases e2;exact⟨y,i,e,rfl,fun e=>hpi e.symm,by simp[hi]⟩
  ·rintro⟨y',j,e1,rfl,hj,hg⟩;have:y'=y:=ω;subst this
   by_cases hji:j=i
   ·rw[hji]
   ·rw[List.getElem?_set_ne (fun e'=>hji e'.symm)]at hg;exact absurd (huni j hji hg) hj
 ·rw[if_neg e,h z v hz];constructor
  ·rintro⟨y',j,rfl,rfl,hj,hg⟩;refine⟨y',j,rfl,rfl,?_,by rw[List.getElem?_set_ne (fun e'=>hj e'.symm)];exact hg⟩;rintro rfl;rw[PV]at hg;cases hg;exact e rfl
  ·rintro⟨y',j,rfl,rfl,hj,hg⟩
   by_cases hji:j=i
   ·subst hji;rw[List.getElem?_set_self hi]at hg;cases hg;exact absurd rfl e
   ·rw[List.getElem?_set_ne (fun e'=>hji e'.symm)]at hg;exact⟨y',j,rfl,rfl,hji,hg⟩
theorem vS.hole{f:Int->Option Int}{L:List Nat}{i x:Nat}(h:vS f L)(hx:L[i]?=some x):ny f L i x:=fun z v hz=>by
 rw[h z v];constructor
 ·rintro⟨y,j,rfl,rfl,hg⟩;refine⟨y,j,rfl,rfl,?_,hg⟩;rintro rfl;rw[hx]at hg;cases hg;exact hz rfl
 ·rintro⟨y,j,h1,h2,_,h3⟩;exact⟨y,j,h1,h2,h3⟩
theorem xL{L:List Nat}{i p x:Nat}(hi:i<L.length)(hp:p<L.length)(hpi:p≠i):((L.set i (L.getD p 0)).set p x).Perm (L.set i x):=by
 have h:=@List.set_set_perm _ (L.set i x) i p (by simpa using hi) (by simpa using hp);have e1:(L.set i x)[p]'(by simpa using hp)=L.getD p 0:=by
  rw[List.getElem_set_ne (fun e=>hpi e.symm)];simp[φ,hp]
 have e2:(L.set i x)[i]'(by simpa using hi)=x:=σ;rw[e1,e2,List.set_set]at h;exact h
def gT(L:List Nat)(i j:Nat):List Nat:=(L.set i (L.getD j 0)).set j (L.getD i 0)
theorem kY(L:List Nat)(i j:Nat):(gT L i j).length=L.length:=by unfold gT;simp
theorem lV{L:List Nat}{i j:Nat}(hi:i<L.length)(hj:j<L.length)(k:Nat):(gT L i j).getD k 0=if k=j then L.getD i 0 else if k=i then L.getD j 0 else L.getD k 0:=by
 unfold gT;rw[dH,dH]
 by_cases h1:k=j
 ·rw[if_pos ⟨h1,by simpa using hj⟩,if_pos h1]
 ·rw[if_neg (fun e=>h1 e.1),if_neg h1]
  by_cases h2:k=i
  ·rw[if_pos ⟨h2,hi⟩,if_pos h2]
  ·rw[if_neg (fun e=>h2 e.1),if_neg h2]
theorem K6{L:List Nat}{i j:Nat}(hi:i<L.length)(hj:j<L.length):gT L i j=gT L j i:=by
 apply List.ext_getElem
 ·rw[kY,kY]
 ·intro k h1 h2;have a:=lV hi hj k;have b:=lV hj hi k;rw[φ,ε h1]at a;rw[φ,ε h2]at b;simp only[Option.getD_some]at a b;rw[a,b]
  by_cases e1:k=j
  ·by_cases e2:k=i
   ·rw[if_pos e1,if_pos e2,←e1,←e2]
   ·rw[if_pos e1,if_neg e2,if_pos e1]
  ·by_cases e2:k=i
   ·rw[if_neg e1,if_pos e2,if_pos e2]
   ·rw[if_neg e1,if_neg e2,if_neg e2,if_neg e1]
theorem vE{L:List Nat}{i j:Nat}(hi:i<L.length)(hj:j<L.length)(hne:i≠j):(gT L i j).Perm L:=by
 have h:=xL (L:=L) (i:=i) (p:=j) (x:=L.getD i 0) hi hj (fun e=>hne e.symm);have e:L.set i (L.getD i 0)=L:=by
  rw[φ,ε hi];simp
 rw[e]at h;exact h
section
variable {R:Nat->Nat->Prop}{L:List Nat}{i:Nat}
theorem fC.any{d:Nat}(hd:2<=d)(h:fC R d L i)(y:Nat):fC R d (L.set i y) i:=by
 have g:∀k,k≠i->(L.set i y).getD k 0=L.getD k 0:=fun k hk=>by rw[dH,if_neg (fun e=>hk e.1)]
 refine⟨by rw[List.length_set];exact h.lt,fun j j0 hj hji hp=>?_,fun j j0 hj hp hi0=>?_⟩
 ·rw[List.length_set]at hj;rw[g _ hji,g _ hp];exact h.a j j0 hj hji hp
 ·rw[List.length_set]at hj;have h1:=eY hd j0;have h2:=eY hd hi0;rw[g _ ω,g _ ω];exact h.b j j0 hj hp hi0
theorem Below.any{d x:Nat}(hd:2<=d)(h:Below R d L i x)(y:Nat):Below R d (L.set i y) i x:=fun j j0 hj hp=>by
 rw[List.length_set]at hj;have h1:=eY hd j0;rw[dH,if_neg (show ¬ (j=i/\i<L.length) by omega)];exact h j j0 hj hp
theorem fC.done{d:Nat}(hd:2<=d)(h:fC R d L i)(hb:Below R d L i (L.getD i 0))(hu:i=0\/R (L.getD (par d i) 0) (L.getD i 0)):Hp R d L:=by
 have h1:=h.fill hd hb hu;have e:L.set i (L.getD i 0)=L:=by
  have:=h.lt;rw[φ,ε this];simp
 rwa[e]at h1
theorem fC.Zn(ht:∀a b c,R a b->R b c->R a c)(h:fC R 2 L i)(h0:0<i)(hx:R (L.getD i 0) (L.getD (par 2 i) 0)) :
  fC R 2 (gT L (par 2 i) i) (par 2 i)/\Below R 2 (gT L (par 2 i) i) (par 2 i) ((gT L (par 2 i) i).getD (par 2 i) 0):=by
 have hp:=eY (d:=2) ω h0;have hl:=h.lt;obtain⟨h1,h2⟩:=h.up ht ω h0 hx;rw[lV ω hl,if_neg ω,if_pos rfl,K6 ω hl];exact⟨h1.any ω _,h2.any ω _⟩
theorem fC.A8(ht:∀a b c,R a b->R b c->R a c)(h:fC R 2 L i){c:Nat}(hc:qE R 2 L i c)(hx:R (L.getD c 0) (L.getD i 0)) :
  fC R 2 (gT L i c) c/\R ((gT L i c).getD (par 2 c) 0) ((gT L i c).getD c 0):=by
 have hl:=h.lt;have hcl:=hc.lt;have hci:i<c:=by have:=eY (d:=2) ω hc.c0;have:=hc.pc;omega
 obtain⟨h1,h2⟩:=h.down ht ω hc hx;refine⟨h1.any ω _,?_⟩;rw[lV hl hcl,lV hl hcl,if_pos rfl,hc.pc,if_neg ω,if_pos rfl];exact hx
theorem MX{n:Nat}(hn:L.length=n)(h1:2*i+1<n):(2*i+2<n->¬R (L.getD (2*i+2) 0) (L.getD (2*i+1) 0)->R (L.getD (2*i+1) 0) (L.getD (2*i+2) 0))->
  ((¬ (2*i+2<n/\R (L.getD (2*i+2) 0) (L.getD (2*i+1) 0)))->qE R 2 L i (2*i+1))/\(2*i+2<n/\R (L.getD (2*i+2) 0) (L.getD (2*i+1) 0)->qE R 2 L i (2*i+2)):=by
 intro ht;have hk:∀j,0<j->par 2 j=i->j=2*i+1\/j=2*i+2:=fun j j0 hj=>by
  have:=(uH (d:=2) (i:=i) (j:=j) ω).1 ⟨j0,hj⟩;omega
 have p1:=(uH (d:=2) (i:=i) (j:=2*i+1) ω).2 ω;have p2:=(uH (d:=2) (i:=i) (j:=2*i+2) ω).2 ω;constructor
 ·intro h;refine⟨ω,ω,p1.2,fun j j0 hj hp hne=>?_⟩;rcases hk j j0 hp with e|e
  ·exact absurd e hne
  ·subst e;exact ht ω (fun hr=>h ⟨ω,hr⟩)
 ·rintro⟨h,hr⟩;refine⟨ω,ω,p2.2,fun j j0 hj hp hne=>?_⟩;rcases hk j j0 hp with e|e
  ·subst e;exact hr
  ·exact absurd e hne
theorem oV{d x c:Nat}(ht:∀a b c,R a b->R b c->R a c)(hc:qE R d L i c)(hx:R x (L.getD c 0)):Below R d L i x:=fun j j0 hj hp=>by
 by_cases e:j=c
 ·rw[e];exact hx
 ·exact ht _ _ _ hx (hc.all j j0 hj hp e)
theorem AX{d x:Nat}(hd:2<=d)(h:L.length<=d*i+1):Below R d L i x:=fun j j0 hj hp=>by
 have:=(uH hd).1 ⟨j0,hp⟩;omega
theorem Hp.take{d n:Nat}(h:Hp R d L)(hd:2<=d):Hp R d (L.take n):=fun j j0 hj=>by
 simp only[List.length_take]at hj;have hp:=eY hd j0;have g:∀k,k<n->(L.take n).getD k 0=L.getD k 0:=fun k hk=>by simp[φ,List.getElem?_take,hk]
 rw[g _ ω,g _ ω];exact h j j0 ω
theorem Hp.snoc{d x:Nat}(h:Hp R d L)(ht:∀a b c,R a b->R b c->R a c)(hd:2<=d):fC R d (L++[x]) L.length/\Below R d (L++[x]) L.length x:=by
 have g:∀k,k<L.length->(L++[x]).getD k 0=L.getD k 0:=fun k hk=>by simp[φ,List.getElem?_append_left,hk]
 have hno:∀j,0<j->j<(L++[x]).length->par d j=L.length->False:=fun j j0 hj hp=>by
  simp at hj;have:=eY hd j0;omega
 refine⟨⟨σ,fun j j0 hj hji hp=>?_,fun j j0 hj hp _=>(hno j j0 hj hp).elim⟩,fun j j0 hj hp=>(hno j j0 hj hp).elim⟩;simp at hj;have:=eY hd j0;rw[g _ ω,g _ ω];exact h j j0 ω
end
def oJ(A:NS)(a b:Nat):Prop:=decide (bZ A a b)=true
theorem fq{A:NS}{a b:Nat}:oJ A a b↔bZ A a b:=by unfold oJ;simp
theorem iP(A:NS):∀a b c,oJ A a b->oJ A b c->oJ A a c:=fun a b c h1 h2=>fq.2 (bV (fq.1 h1) (fq.1 h2))
structure ry(d:Nat)(A:NS)(L:Nat->List Nat):Prop where
 hp:∀h:Nat,bJ A h=true->Hp (oJ A) d (L h)
 nd:∀h:Nat,bJ A h=true->(L h).Nodup
 mem:∀h x:Nat,bJ A h=true->(x∈L h↔x<A.cs.length/\(A.c x).i=h)
section
variable {d:Nat}{A:NS}{L:Nat->List Nat}
theorem ry.frame{A':NS}{l:List Nat}(h:Hp (oJ A) d l)(hd:2<=d)(hs:∀y,y∈l->A'.c y=A.c y):Hp (oJ A') d l:=
 h.frame (fun a b ha hb hab=>fq.2 ((fJ (hs a ha) (hs b hb)).2 (fq.1 hab))) hd
theorem ry.len(h:ry d A L){g x:Nat}(hg:bJ A g=true)(hx:x∈L g):x<A.cs.length/\bS A (x:Int)=true/\(A.c x).i=g:=by
 have h1:=(h.mem g x hg).1 hx;have h2:=(aV _ _).1 hg;exact⟨h1.1,(ah _ _).2 ⟨h1.1,ω⟩,h1.2⟩
theorem ry.many(h:ry d A L){g:Nat}(hg:bJ A g=true):(L g).length<=A.cs.length:=by
 have h1:=nodup_range A.cs.length ((L g).map (fun(x:Nat)=>(x:Int))) (by
  have hn:=h.nd g hg;unfold List.Nodup at hn⊢;rw[List.pairwise_map];exact hn.imp (fun h e=>h ω)) (fun x hx=>by
  obtain⟨y,hy,rfl⟩:=List.mem_map.1 hx
  have:=(h.mem g y hg).1 hy;omega)
 simpa using h1
theorem ry.first(h:ry d A L)(hd:2<=d){g m:Nat}{l:List Nat}(hg:bJ A g=true)(hl:L g=m::l):dL A g=some m:=by
 have h0:=(aV _ _).1 hg;have hm:=(h.mem g m hg).1 (by rw[hl];simp);refine(iT ω).2 ⟨hm.1,hm.2,fun y hy hyi=>?_⟩;have hym:=(h.mem g y hg).2 ⟨hy,hyi⟩;have hH:=h.hp g hg;rw[hl]at hym hH;obtain⟨j,hj,e⟩:=List.mem_iff_getElem.1 hym;rcases Hp.first (iP A) hd hH j j (Nat.le_refl _) hj with e2|e2
 ·subst e2;left;rw[←e];rfl
 ·right;have e3:(m::l).getD j 0=y:=by rw[φ,ε hj,e];rfl
  rw[e3]at e2;exact fq.1 e2
theorem ry.none(h:ry d A L){g:Nat}(hg:bJ A g=true)(hl:L g=[]):dL A g=none:=by
 refine(jQ (by have:=(aV _ _).1 hg;omega)).2 ?_;rcases Nat.eq_zero_or_pos (dO A (g:Int))with e|e
 ·exact e
 ·obtain⟨x,hx,hi,_⟩:=fH.1 e;have:=(h.mem g x hg).2 ⟨hx,hi⟩;rw[hl]at this;cases this
theorem ry.V8(h:ry d A L){g:Int}{m:Nat}(hm:dL A g=some m)(ok:A.Ok):∃q:Nat,g=q/\bJ A q=true/\m∈L q:=by
 have hpos:0<g:=by
  rcases Int.lt_or_le 0 g with h|h
  ·exact h
  ·rw[qc ω]at hm;cases hm
 have h1:=(iT hpos).1 hm;have h2:=ok.nat m h1.1;obtain⟨q,rfl⟩:∃q:Nat,g=q:=⟨g.toNat,ω⟩;have hin:bS A (m:Int)=true:=(ah _ _).2 ⟨h1.1,by rw[h1.2.1];exact hpos⟩;have hh:=iX ok hin;rw[π,h1.2.1]at hh;exact⟨q,rfl,hh,(h.mem q m hh).2 ⟨h1.1,h1.2.1⟩⟩
theorem ry.next{A':NS}{g:Nat}{l:List Nat}(h:ry d A L)(hd:2<=d)(hh:∀k:Nat,bJ A' k=bJ A k)(hc:A'.cs.length=A.cs.length)
  (k1:∀k:Nat,k≠g->∀x,x<A.cs.length->1<=k->((A'.c x).i=k↔(A.c x).i=k)) (k2:∀x,(A.c x).i≠g->(A'.c x).i≠g->A'.c x=A.c x)
  (n1:Hp (oJ A') d l) (n2:l.Nodup) (n3:bJ A g=true->∀x,x∈l↔x<A.cs.length/\(A'.c x).i=g):ry d A' (jW L g l):=by
 refine⟨fun k hk=>?_,fun k hk=>?_,fun k x hk=>?_⟩
 all_goals rw[hh]at hk
 ·by_cases e:k=g
  ·subst e;rw[dK];exact n1
  ·rw[bP _ _ e];refine ry.frame (h.hp k hk) hd (fun y hy=>?_);have hy2:=(h.mem k y hk).1 hy;have hk0:=(aV _ _).1 hk;exact k2 y ω (by rw[(k1 k e y hy2.1 ω).2 hy2.2];omega)
 ·by_cases e:k=g
  ·subst e;rw[dK];exact n2
  ·rw[bP _ _ e];exact h.nd k hk
 ·rw[hc]
  by_cases e:k=g
  ·subst e;rw[dK];exact n3 hk x
  ·rw[bP _ _ e,h.mem k x hk];have hk0:=(aV _ _).1 hk;constructor
   ·rintro⟨a,b⟩;exact⟨a,(k1 k e x a ω).2 b⟩
   ·rintro⟨a,b⟩;exact⟨a,(k1 k e x a ω).1 b⟩
theorem ry.put(h:ry d A L)(hd:2<=d)(ok:A.Ok){g x:Nat}{k s:Int}(hB:oG A g x=true){l:List Nat}(hp:l.Perm (x::L g))(hH:Hp (oJ (aK A g x k s)) d l):ry d (aK A g x k s) (jW L g l)/\x∉L g:=by
 obtain⟨b1,b2,b3⟩:=(fB _ _ _).1 hB;have hx:x<A.cs.length:=by have:=(gU _ _).1 b2;omega
 have h0:(A.c x).i=0:=by
  have:=(ok.nat x hx).1;have h3:¬ (0<(A.c x).i):=fun h'=>by rw[(ah A x).2 ⟨hx,h'⟩]at b3;cases b3
  omega
 have hg0:=(aV _ _).1 b1;have hc:∀y,(aK A g x k s).c y=if y=x then ⟨g,k,s⟩else A.c y:=fun y=>by
  unfold aK;rw[if_pos hB,π,kH]
  by_cases e:y=x
  ·rw[if_pos ⟨e,hx⟩,if_pos e]
  ·rw[if_neg (fun h=>e h.1),if_neg e]
 have hxL:x∉L g:=fun hm=>by have:=(h.mem g x b1).1 hm;omega
 refine⟨h.next hd (fun q=>by unfold aK;rw[if_pos hB];rfl) (by unfold aK;rw[if_pos hB,fI]) (fun q hq y hy hq1=>?_) (fun y hy1 hy2=>?_) hH (hp.nodup_iff.2 (List.nodup_cons.2 ⟨hxL,h.nd g b1⟩)) (fun _ y=>?_),hxL⟩
 ·rw[hc]
  by_cases e:y=x
  ·rw[if_pos e,e];simp only;omega
  ·rw[if_neg e]
 ·rw[hc]at hy2⊢
  by_cases e:y=x
  ·rw[if_pos e]at hy2;exact absurd rfl hy2
  ·rw[if_neg e]
 ·rw[hp.mem_iff,ρ,h.mem g y b1,hc]
  by_cases e:y=x
  ·rw[if_pos e,e];simp[hx]
  ·rw[if_neg e];simp[e]
theorem ry.low(h:ry d A L)(hd:2<=d){g x:Nat}{k s:Int}(hB:jg A x k s=true)(hg:bJ A g=true)(hx:x∈L g){l:List Nat}(hp:l.Perm (L g))(hH:Hp (oJ (ay A x k s)) d l):ry d (ay A x k s) (jW L g l):=by
 have hm:=(h.mem g x hg).1 hx;have hc:=rD hB hm.1;have hi:=iM hB hm.1;refine h.next hd (fun q=>by unfold bJ;rw[lJ]) (fE _ _ _ _) (fun q hq y hy hq1=>by rw[hi]) (fun y hy1 hy2=>?_) hH (hp.nodup_iff.2 (h.nd g hg)) (fun _ y=>by rw[hp.mem_iff,h.mem g y hg,hi]);rw[hc,if_neg (fun e=>hy1 (by rw[e];exact hm.2))]
theorem ry.drop(h:ry d A L)(hd:2<=d){g x:Nat}(hg:bJ A g=true)(hx:x∈L g){l:List Nat}(hp:(x::l).Perm (L g))(hH:Hp (oJ A) d l):ry d (bz A x) (jW L g l):=by
 have hm:=(h.mem g x hg).1 hx;have hg0:=(aV _ _).1 hg;have hin:bS A (x:Int)=true:=(ah A x).2 ⟨hm.1,ω⟩;have hc:=x9 hin;have hnd:(x::l).Nodup:=hp.nodup_iff.2 (h.nd g hg);have hxt:x∉l:=(List.nodup_cons.1 hnd).1;have hcy:∀y,y≠x->(bz A x).c y=A.c y:=fun y hy=>by rw[hc,if_neg hy]
 refine h.next hd (fun q=>by unfold bJ;rw[iW]) (fG _ _) (fun q hq y hy hq1=>?_) (fun y hy1 hy2=>hcy y (fun e=>hy1 (by rw[e];exact hm.2))) (ry.frame hH hd (fun y hy=>hcy y (fun e=>hxt (by rw[←e];exact hy)))) (List.nodup_cons.1 hnd).2 (fun _ y=>?_)
 ·rw[hc]
  by_cases e:y=x
  ·rw[if_pos e,e];show(0:Int)=(q:Int)↔_;omega
  ·rw[if_neg e]
 ·have e1:=hp.mem_iff (a:=y);rw[ρ,h.mem g y hg]at e1;rw[hc]
  by_cases e:y=x
  ·rw[if_pos e,e];refine⟨fun hh=>absurd hh hxt,fun hh=>?_⟩;have:(0:Int)=(g:Int):=hh.2;omega
  ·rw[if_neg e,←e1];simp[e]
theorem wG(A:NS)(hl:¬65536<A.hs.length)(hl0:1<=A.hs.length)(k:Nat):bJ (aR A) k=(bJ A k || k == A.hs.length):=by
 unfold aR bJ;rw[if_neg hl];simp only[υ,List.length_singleton,π,φ]
 by_cases e:k=A.hs.length
 ·subst e;simp;omega
 ·by_cases e2:k<A.hs.length
  ·rw[List.getElem?_append_left e2];have e3:(k:Int)<(A.hs.length:Int):=ω;have e4:(k:Int)<(A.hs.length:Int)+1:=ω;simp[e,e2,e3,e4]
  ·have e3:¬ (k:Int)<(A.hs.length:Int):=ω;have e4:¬ (k:Int)<(A.hs.length:Int)+1:=ω;simp[e,e2,e3,e4]
theorem ry.make(h:ry d A L)(hd:2<=d)(ok:A.Ok)(hl:¬65536<A.hs.length)(hl0:1<=A.hs.length):ry d (aR A) (jW L A.hs.length []):=by
 have hc:(aR A).cs=A.cs:=by unfold aR;rw[if_neg hl]
 have hcc:∀x,(aR A).c x=A.c x:=fun x=>by unfold NS.c;rw[hc]
 have hno:bJ A (A.hs.length:Int)=false:=by
  cases hh:bJ A (A.hs.length:Int)with
  | false=>rfl
  | true=>have:=(aV _ _).1 hh;omega
 have hcase:∀k:Nat,bJ (aR A) k=true->k=A.hs.length\/(k≠A.hs.length/\bJ A k=true):=fun k hk=>by
  rw[wG A hl hl0]at hk
  by_cases e:k=A.hs.length
  ·exact Or.inl e
  ·right;simp[e]at hk;exact⟨e,hk⟩
 refine⟨fun k hk=>?_,fun k hk=>?_,fun k x hk=>?_⟩
 ·rcases hcase k hk with rfl|⟨e,hk'⟩
  ·rw[dK];intro j _ hj;simp at hj
  ·rw[bP _ _ e];exact(h.hp k hk').frame (fun a b _ _ hab=>fq.2 ((fJ (hcc a) (hcc b)).2 (fq.1 hab))) hd
 ·rcases hcase k hk with rfl|⟨e,hk'⟩
  ·rw[dK];exact List.nodup_nil
  ·rw[bP _ _ e];exact h.nd k hk'
 ·rw[hc,hcc];rcases hcase k hk with rfl|⟨e,hk'⟩
  ·rw[dK];simp only[ς,false_iff,not_and];intro hx hi;have:=(ok.nat x hx).2;omega
  ·rw[bP _ _ e];exact h.mem k x hk'
end
structure gZ where
 ty:TypeId
 p:Nat
 rd:List Nat
 wr:List Nat
 lt:Nat->Nat->Bool
 dom:Nat->Prop
 at_:World->Prop
 sub:∀x,x∈wr->x∈rd
 low:∀ {w:World},at_ w->∀x,x∈rd->x<w.heap.size
 upd:∀ {w w':World} {S:List Nat},at_ w->aa S w w'->(∀x,x∈S->x∉rd)->at_ w'
 trans:∀a b c,lt a b=true->lt b c=true->lt a c=true
 total:∀a b,a≠b->lt a b=true\/lt b a=true
 asym:∀a b,lt a b=true->lt b a=false
 fn:FuncId
 recv:Value
 ent:Enters fn
 Wy:∀ {w:World},at_ w->(method 429 ty (.pointer (some ⟨p,0,none⟩)) "Ahead").run Tryz.prog w=.ok (fn,recv) w
 WI:∀w:World,(nilAhead 429 ty (.pointer (some ⟨p,0,none⟩)) "Ahead").run Tryz.prog w=.ok (some false) w
 ask:∀ {w:World} (x y:Nat),at_ w->dom x->dom y->Calls Tryz.prog fn #[recv,.int .i64 (x:Int),.int .i64 (y:Int)] w fun e w'=>e=.returned (.bool (lt x y))/\at_ w'/\aa wr w w'
structure gZ.On(O:gZ)(w0 w:World):Prop where
 at_:O.at_ w
 upd:aa O.wr w0 w
theorem gZ.On.start{O:gZ}{w:World}(h:O.at_ w):O.On w w:=⟨h,aa.refl _ _⟩
theorem gZ.On.drew{O:gZ}{w0 w:World}(h:O.On w0 w):O.On w0 w.drew:=⟨O.upd h.at_ ((aa.refl [] w).drew) σ,h.upd.drew⟩
theorem gZ.On.drewN{O:gZ}{w0 w:World}(h:O.On w0 w)(n:Nat):O.On w0 (w.drewN n):=⟨O.upd h.at_ ((aa.refl [] w).drewN n) σ,h.upd.drewN n⟩
theorem gZ.On.asked{O:gZ}{w0 w w':World}(h:O.On w0 w)(ha:O.at_ w')(hu:aa O.wr w w'):O.On w0 w':=⟨ha,h.upd.trans hu⟩
def gZ.R(O:gZ)(a b:Nat):Prop:=O.lt a b=true
theorem gZ.tr(O:gZ):∀a b c,O.R a b->O.R b c->O.R a c:=O.trans
structure vw(w:World)(rp mb g cap d:Nat)(f:Int->Option Int)(L:List Nat):Prop where
 head:aL w rp 247 3 (fun j=>[Value.int .i64 (d:Int),.slice (some ⟨g,0,none⟩) L.length cap,.map (some mb)].getD j undef)
 row:IZ w g cap (bH L)
 map:gN w mb f
 sep:rp≠mb/\rp≠g/\mb≠g
theorem dB(L:List Nat):(bH L).length=L.length:=by unfold bH;simp
theorem tH{L:List Nat}{j:Nat}:(bH L).getD j 0=((L.getD j 0:Nat):Int):=by
 unfold bH;simp only[φ,List.getElem?_map];cases L[j]?<;>rfl
theorem nN(L:List Nat)(i x:Nat):bH (L.set i x)=(bH L).set i (x:Int):=by unfold bH;rw[List.map_set]
section
variable {w:World}{rp mb g cap d:Nat}{f:Int->Option Int}{L:List Nat}
theorem vw.upd{w':World}{S:List Nat}(h:vw w rp mb g cap d f L)(hu:aa S w w')(h1:rp∉S)(h2:mb∉S)(h3:g∉S):vw w' rp mb g cap d f L:=
 ⟨h.head.upd hu h1,h.row.upd hu h3,h.map.upd hu h2,h.sep⟩
theorem vw.au{w':World}(h:vw w rp mb g cap d f L)(hu:aa [] w w'):vw w' rp mb g cap d f L:=h.upd hu σ σ σ
theorem vw.h0(h:vw w rp mb g cap d f L):w.cell? ⟨rp,0,none⟩=some (.int .i64 (d:Int)):=h.head.cellAt 0 ω rfl
theorem vw.h1(h:vw w rp mb g cap d f L):w.cell? ⟨rp,1,none⟩=some (.slice (some ⟨g,0,none⟩) L.length cap):=h.head.cellAt 1 ω rfl
theorem vw.h2(h:vw w rp mb g cap d f L):w.cell? ⟨rp,2,none⟩=some (.map (some mb)):=h.head.cellAt 2 ω rfl
theorem vw.lt(h:vw w rp mb g cap d f L):rp<w.heap.size/\mb<w.heap.size/\g<w.heap.size:=⟨h.head.lt,h.map.lt,h.row.lt⟩
theorem vw.cell(h:vw w rp mb g cap d f L)(j:Nat)(hj:j<L.length):w.cell? ⟨g,j,none⟩=some (.int .i64 ((L.getD j 0:Nat):Int)):=by
 have:=h.row.cell j (by rw[dB];exact hj);rwa[tH]at this
/-! ### places -/
theorem Kg(d i:Nat)(hd:2<=d/\d<=16)(hi:i<=65536)(w:World) :
  Calls Tryz.prog 165 #[.int .i64 (d:Int),.int .i64 (i:Int)] w fun e w'=>e=.returned (.tuple #[.int .i64 (if i=0 then 0 else (par d i:Int)),.bool (decide (0<i))])/\aa [] w w':=by
 have kf:∀W,Calls Tryz.prog 115 #[.int .i64 (d:Int)] W fun e w'=>e=.returned (.bool true)/\w'=W:=fun W=>by
  have h1:(d:Int)≥2:=ω;have h2:(d:Int)<=16:=ω
  go_enter Tryz.func115,Tryz.ntmps115
  go_wp2;go_ret;exact⟨rfl,rfl⟩
 by_cases h0:i=0
 ·subst h0
  go_enter Tryz.func165,Tryz.ntmps165
  go_wp2_with (first|(go_at_call 115;(with_reducible refine(kf _).mono ?_);rintro e w9 ⟨rfl,aJ⟩;rw[aJ];clear aJ w9)|fail)
  go_ret2;exact⟨rfl,aa.refl _ _⟩
 ·have h1:¬ (i:Int)<1:=ω;have hd0:¬ (d:Int)=0:=ω;rw[if_neg h0,decide_eq_true (ω:0<i)];have hq:((i:Int)-1).tdiv (d:Int)=(par d i:Int):=by
   unfold par;rw[show(i:Int)-1=((i-1:Nat):Int) by omega]
   rfl
  go_enter Tryz.func165,Tryz.ntmps165
  go_wp2_with (first|(go_at_call 115;(with_reducible refine(kf _).mono ?_);rintro e w9 ⟨rfl,aJ⟩;rw[aJ];clear aJ w9)|fail)
  go_ret2;have hp:=eY hd.1 (show 0<i by omega);rw[IntWalk.wrap64_in _ ω];exact⟨rfl,aa.refl _ _⟩
theorem Po(d i k:Nat)(hd:2<=d/\d<=16)(hi:i<=65536)(hk:1<=k/\k<=d)(w:World) :
  Calls Tryz.prog 172 #[.int .i64 (d:Int),.int .i64 (i:Int),.int .i64 (k:Int)] w fun e w'=>e=.returned (.tuple #[.int .i64 ((d*i+k:Nat):Int),.bool true])/\aa [] w w':=by
 have kf:∀W,Calls Tryz.prog 115 #[.int .i64 (d:Int)] W fun e w'=>e=.returned (.bool true)/\w'=W:=fun W=>by
  have h1:(d:Int)≥2:=ω;have h2:(d:Int)<=16:=ω
  go_enter Tryz.func115,Tryz.ntmps115
  go_wp2;go_ret;exact⟨rfl,rfl⟩
 have h1:¬ (i:Int)<0:=ω;have h2:¬ (i:Int) > 1099511627776:=ω;have h3:¬ (k:Int)<1:=ω;have h4:¬ (k:Int) > (d:Int):=ω;have hm:d*i<=16*65536:=Nat.mul_le_mul hd.2 hi;have hmul:(d:Int)*(i:Int)=((d*i:Nat):Int):=σ;generalize d * i=m at *;have hw1:wrap64 (m:Int)=(m:Int):=IntWalk.wrap64_in _ ω;have hw2:wrap64 ((m:Int)+(k:Int))=(m:Int)+(k:Int):=IntWalk.wrap64_in _ ω
 go_enter Tryz.func172,Tryz.ntmps172
 go_wp2_with (first|(go_at_call 115;(with_reducible refine(kf _).mono ?_);rintro e w9 ⟨rfl,aJ⟩;rw[aJ];clear aJ w9)|fail)
 go_ret2;exact⟨by first|rfl|simp[hmul],aa.refl _ _⟩
theorem r9(h:vw w rp mb g cap d f L)(i x:Nat)(hi:i<L.length)(hx:x<=65536)(hl:L.length<=65536) :
  Calls Tryz.prog 166 #[.pointer (some ⟨rp,0,none⟩),.int .i64 (i:Int),.int .i64 (x:Int)] w fun e w'=>e=.returned (.tuple #[])/\vw w' rp mb g cap d (Rf f x i) (L.set i x)/\aa [g,mb] w w':=by
 have c0:=h.h0;have c1:=h.h1;have c2:=h.h2;have hc:=h.row.cap;rw[dB]at hc;have fg:=h.row.free i;have cg:=h.cell i hi;have hlt:=h.lt;have s:=h.sep;have hu1:aa [g] w (w.setCell ⟨g,i,none⟩ (.int .i64 (x:Int))):=β;have hM1:gN (w.setCell ⟨g,i,none⟩ (.int .i64 (x:Int))) mb f:=h.map.upd hu1 ζ;have H1:aL (w.setCell ⟨g,i,none⟩ (.int .i64 (x:Int))) rp 247 3 (fun j=>[Value.int .i64 (d:Int),.slice (some ⟨g,0,none⟩) L.length cap,.map (some mb)].getD j undef):=h.head.upd hu1 ζ;have H2:IZ (w.setCell ⟨g,i,none⟩ (.int .i64 (x:Int))) g cap (bH (L.set i x)):=by rw[nN];exact h.row.set i _
 have HH:=χ (ψ H1 (ψ H2 (ψ s hu1)));have hil:(i:Int)<(L.length:Int):=ω;have e1:rp≠g:=s.2.1;generalize hn:L.length=n at *;have HN:=χ hn;clear h H1 H2 hu1 hn
 go_enter Tryz.func166,Tryz.ntmps166
 go_wp2_with (first
  | (at_mapUpdate;refine mJ rfl _ _ _ rfl mb f rfl hM1 (x:Int) (i:Int) rfl rfl ω ω ?_;intro w2 hm2 hu2)
  | fail)
 go_end0;obtain⟨H1,H2,s,hu1⟩:=HH.out;refine⟨rfl,⟨?_,H2.upd hu2 ζ,hm2,s⟩,(hu1.mono σ).trans (hu2.mono σ)⟩;rw[List.length_set,HN.out];exact H1.upd hu2 ζ
end
structure Nc(O:gZ)(rp mb g:Nat):Prop where
 a:rp∉O.rd
 b:mb∉O.rd
 c:g∉O.rd
theorem Nc.wr{O:gZ}{rp mb g:Nat}(h:Nc O rp mb g):rp∉O.wr/\mb∉O.wr/\g∉O.wr:=⟨fun hm=>h.a (O.sub _ hm),fun hm=>h.b (O.sub _ hm),fun hm=>h.c (O.sub _ hm)⟩
theorem pY{L:List Nat}{i x p:Nat}(hp:p<L.length)(hne:p≠i):L.getD p 0∈L.set i x:=by
 have h1:(L.set i x)[p]?=some (L.getD p 0):=by rw[List.getElem?_set_ne (fun e=>hne e.symm)];simp[φ,hp]
 exact List.mem_of_getElem? h1
theorem Mj{L:List Nat}{i x p:Nat}(hi:i<L.length)(hp:p<L.length)(hne:p≠i)(hn:(L.set i x).Nodup):L.getD p 0≠x:=fun e=>by
 have h1:(L.set i x)[p]?=some x:=by rw[List.getElem?_set_ne (fun e=>hne e.symm),←e];simp[φ,hp]
 have h2:(L.set i x)[i]?=some x:=by simp[hi]
 obtain⟨g1,e1⟩:=List.getElem?_eq_some_iff.1 h1;obtain⟨g2,e2⟩:=List.getElem?_eq_some_iff.1 h2;exact hne ((List.getElem_inj hn).1 (e1.trans e2.symm))
theorem Eg(O:gZ){w:World}{rp mb g cap d:Nat}{f:Int->Option Int}{L:List Nat}(hO:O.at_ w)(h:vw w rp mb g cap d f L)(hd:2<=d/\d<=16)(hl:L.length<=65536)(i x:Nat)(hH:fC O.R d L i)(hP:ny f L i x)
  (hn:(L.set i x).Nodup) (hdom:∀y,y∈L.set i x->O.dom y) (h16:∀y,y∈L.set i x->y<=65536) (hsep:Nc O rp mb g) :
  Calls Tryz.prog 159 #[.pointer (some ⟨rp,0,none⟩),.iface O.ty (.pointer (some ⟨O.p,0,none⟩)),.int .i64 (i:Int),.int .i64 (x:Int)] w fun e w'=>∃ (k:Nat) (f':Int->Option Int) (L':List Nat),e=.returned (.int .i64 (k:Int))/\vw w' rp mb g cap d f' L'/\vS f' L'/\L'.Perm (L.set i x)/\O.at_ w'/\aa (g::mb::O.wr) w w'/\
   (k=i->L'=L.set i x/\(i=0\/O.R (L.getD (par d i) 0) x))/\(k≠i\/Below O.R d L i x->Hp O.R d L'):=by
 have hi0:=hH.lt;have hxm:x∈L.set i x:=List.mem_of_getElem? (show(L.set i x)[i]?=some x by simp[hi0]);have hdx:=hdom x hxm;have hxl:=h16 x hxm;have HX:=χ (ψ hn (ψ hdom (ψ h16 (ψ hsep hd))));have hwr:=hsep.wr
 go_enter Tryz.func159,Tryz.ntmps159
 go_wp2
 go_loopw [2,9,10] (fun iv _ _ wr=>∃ (i':Nat) (f':Int->Option Int) (L':List Nat),iv=.int .i64 (i':Int)/\vw wr rp mb g cap d f' L'/\fC O.R d L' i'/\ny f' L' i' x/\L'.length=L.length/\(L'.set i' x).Perm (L.set i x)/\O.at_ wr/\aa (g::mb::O.wr) w wr/\((i'=i/\L'=L)\/(i'<i/\Below O.R d L' i' x))) (fun iv _ _ _=>(intOf iv).toNat)
 case atStart=>exact⟨i,f,L,rfl,h,hH,hP,rfl,List.Perm.refl _,hO,aa.refl _ _,Or.inl ⟨rfl,rfl⟩⟩
 case round=>
  clear h hH hP hO;obtain⟨i1,f1,L1,rfl,h,hH,hP,hl1,hpm,hO,hu,hst⟩:=hrel;rename World=>wr;have hi1:=hH.lt;have hn1:(L1.set i1 x).Nodup:=hpm.nodup_iff.2 HX.out.1;have kp:=fun W=>Kg d i1 hd ω W;have c0:=h.h0;have c1:=h.h1;have hlt:=h.lt
  by_cases hz:i1=0
  ·have ks:=fun W (hW:aa [] wr W)=>r9 (h.au hW) i1 x hi1 hxl ω;have e1:(if i1=0 then (0:Int)else (par d i1:Int))=0:=if_pos hz;have e2:decide (0<i1)=false:=by simp[hz]
   simp only[e1,e2]at kp;have HF:=χ (ψ hH (ψ hP (ψ hn1 (ψ hpm (ψ hO (ψ hst (ψ hu (ψ hl1 hz))))))));clear hH hP hn1 hpm hO hst hu hl1 h hz e1 e2
   go_upto_region 2 with(first
    | ((go_at_call 165;(with_reducible refine(kp _).mono ?_));rintro e w1 ⟨rfl,hu1⟩)
    | fail)
   go_quiet (fail)
   have ks1:=ks _ (hu1.drewN nq)
   go_wp2_with (first
    | ((go_at_call 166;(with_reducible refine(ks1).mono ?_));rintro e w2 ⟨rfl,hR,hu2⟩)
    | fail)
   go_ret;obtain⟨hH,hP,hn1,hpm,hO,hst,hu,hl1,hz⟩:=HF.out;have hu3:aa [g,mb] wr w2:=(hu1.drewN nq).mono σ |>.trans hu2;refine⟨i1,_,_,rfl,hR,hP.fill hi1 hn1,hpm,O.upd hO hu3 (fun y hy=>by have:=HX.out.2.2.2.1;simp at hy;rcases hy with rfl|rfl;exact this.c;exact this.b),hu.trans (hu3.mono (by simp +contextual)),fun e=>?_,fun e=>?_⟩
   ·rcases hst with⟨_,rfl⟩|⟨h1,_⟩
    ·subst e;exact⟨rfl,Or.inl hz⟩
    ·omega
   ·have hb:Below O.R d L1 i1 x:=by
     rcases hst with⟨e1,e2⟩|⟨_,h2⟩
     ·rcases e with e|e
      ·exact absurd e1 e
      ·rw[e1,e2];exact e
     ·exact h2
    exact hH.fill hd.1 hb (Or.inl hz)
  ·obtain⟨p,hp⟩:∃p,p=par d i1:=⟨_,rfl⟩;have hpl:p<i1:=by rw[hp];exact eY hd.1 ω
   have e1:(if i1=0 then (0:Int)else (par d i1:Int))=(p:Int):=by rw[if_neg hz,hp]
   have e2:decide (0<i1)=true:=ζ;simp only[e1,e2]at kp;have hcp:=h.cell p ω;have hcg:=h.h1;have hdp:=HX.out.2.1 (L1.getD p 0) (hpm.mem_iff.1 (pY ω ω));have hpx:=Mj hi1 (show p<L1.length by omega) ω hn1;have Zm:=fun W (hW:aa O.wr wr W)=>r9 (h.upd hW hwr.1 hwr.2.1 hwr.2.2) i1 (L1.getD p 0) hi1 (HX.out.2.2.1 _ (hpm.mem_iff.1 (pY ω ω))) ω;have ks:=fun W (hW:aa O.wr wr W)=>r9 (h.upd hW hwr.1 hwr.2.1 hwr.2.2) i1 x hi1 hxl ω;have HF:=χ (ψ hH (ψ hP (ψ hn1 (ψ hpm (ψ hO (ψ hst (ψ hu (ψ hl1 (ψ hz (ψ hp (ψ hpx h)))))))))));have hi1L:(p:Int)<(L1.length:Int):=ω;have N7:=hwr.1;have hgw:=hwr.2.2
   clear hH hP hn1 hpm hst hu hl1 h hz e1 e2 hp hpx hpl hwr;generalize hy:L1.getD p 0=y at *
   go_upto_region 2 with(first
    | ((go_at_call 165;(with_reducible refine(kp _).mono ?_));rintro e w1 ⟨rfl,hu1⟩)
    | fail)
   have tN:O.On w1 w1:=.start (O.upd hO hu1 σ);have Zf:∀W,O.On w1 W->W.cell? ⟨g,p,none⟩=some (.int .i64 (y:Int)):=fun W hW=>hW.upd.kept (hu1.was hcp) hgw;have Yd:∀W,O.On w1 W->W.cell? ⟨rp,1,none⟩=some (.slice (some ⟨g,0,none⟩) L1.length cap):=fun W hW=>hW.upd.kept (hu1.was hcg) N7;have hm:∀W,O.On w1 W->_:=fun W hW=>O.Wy hW.at_;have hnl:=O.WI;have hen:=O.ent;unfold Enters at hen
   go_region_held3 (O.On w1) (first|assumption|exact tN|(refine gZ.On.drew ?_;first|assumption|exact tN)|(refine gZ.On.drewN ?_ _;first|assumption|exact tN))
    (first
     | ((with_reducible refine(O.ask x y (gZ.On.at_ (w0:=w1) (by first|assumption|exact tN|(refine gZ.On.drew ?_;first|assumption|exact tN)|(refine gZ.On.drewN ?_ _;first|assumption|exact tN))) hdx hdp).mono ?_);rintro e w5 ⟨rfl,BO,bW⟩;(have vW:O.On w1 w5:=gZ.On.asked (by first|assumption|exact tN|(refine gZ.On.drew ?_;first|assumption|exact tN)|(refine gZ.On.drewN ?_ _;first|assumption|exact tN)) BO bW)))
   have qV:aa O.wr wr w5:=(hu1.mono σ).trans vW.upd;have Zy:=ks w5 qV;have ks6:=Zm w5 qV;have HY:=χ (ψ hy (ψ vW.at_ qV));have cp5:=Zf w5 vW;have cg5:=Yd w5 vW;clear ks Zm Zf Yd hm tN vW bW BO hO hcp hcg;cases hxy:O.lt x y with
   | false=>
    clear ks6
    go_wp2_with (first
     | ((go_at_call 166;(with_reducible refine(Zy).mono ?_));rintro e w2 ⟨rfl,hR,hu2⟩)
     | fail)
    go_ret;obtain⟨hH,hP,hn1,hpm,hO,hst,hu,hl1,hz,hp,hpx,h⟩:=HF.out;obtain⟨hy,hat,bW⟩:=HY.out;have hup:O.R (L1.getD (par d i1) 0) x:=by
     rw[←hp,hy];rcases O.total x y (fun e=>hpx e.symm)with e|e
     ·rw[e]at hxy;cases hxy
     ·exact e
    refine⟨i1,_,_,rfl,hR,hP.fill hi1 hn1,hpm,O.upd hat hu2 (fun y hy=>by have:=HX.out.2.2.2.1;simp at hy;rcases hy with rfl|rfl;exact this.c;exact this.b),(hu.trans (bW.mono (by simp +contextual))).trans (hu2.mono (by simp +contextual)),fun e=>?_,fun e=>?_⟩
    ·rcases hst with⟨_,e2⟩|⟨h1,_⟩
     ·rw[e2]at hup⊢;rw[e]at hup⊢;exact⟨rfl,Or.inr hup⟩
     ·omega
    ·have hb:Below O.R d L1 i1 x:=by
      rcases hst with⟨e1,e2⟩|⟨_,h2⟩
      ·rcases e with e|e
       ·exact absurd e1 e
       ·rw[e1,e2];exact e
      ·exact h2
     exact hH.fill hd.1 hb (Or.inr hup)
   | true=>
    clear Zy
    go_wp2_with (first
     | ((go_at_call 166;(with_reducible refine(ks6).mono ?_));rintro e w2 ⟨rfl,hR,hu2⟩)
     | fail)
    go_roundw
    case rel=>
     obtain⟨hH,hP,hn1,hpm,hO,hst,hu,hl1,hz,hp,hpx,h⟩:=HF.out;obtain⟨hy,hat,bW⟩:=HY.out;have hpl:p<i1:=by rw[hp];exact eY hd.1 ω
     have hup:=hH.up O.tr hd.1 ω (x:=x) (by rw[←hp,hy];exact hxy);rw[←hp,hy]at hup;have hmv:=hP.move hi1 (p:=p) ω ω hn1;rw[hy]at hmv;have hpr:=xL (L:=L1) (i:=i1) (p:=p) (x:=x) hi1 ω ω;rw[hy]at hpr;refine⟨p,_,_,rfl,hR,hup.1,hmv,by rw[List.length_set];exact hl1,hpr.trans hpm,O.upd hat hu2 (fun y hy=>by have:=HX.out.2.2.2.1;simp at hy;rcases hy with rfl|rfl;exact this.c;exact this.b),(hu.trans (bW.mono (by simp +contextual))).trans (hu2.mono (by simp +contextual)),Or.inr ⟨?_,hup.2⟩⟩;rcases hst with⟨e,_⟩|⟨e,_⟩<;>omega
    case measure=>
     have hpl:p<i1:=by rw[HF.out.2.2.2.2.2.2.2.2.2.1];exact eY hd.1 (by have:=HF.out.2.2.2.2.2.2.2.2.1;omega)
     simp[intOf];omega
structure HB where
 n0:Nat
 c:Nat
 ga:Nat
def Sr(B:HB)(v:Value)(j:Nat):Value:=[Value.pointer (some ⟨B.n0,0,none⟩),v].getD j undef
structure oC(w:World)(B:HB)(F:List Nat)(A:NS)(rp g cap:Nat)(L T:List Nat):Prop where
 hd:aL w rp 321 2 (Sr B (.slice (some ⟨g,0,none⟩) L.length cap))
 row:IZ w g cap (bH L)
 Bu:IZ w B.ga T.length (bH T)
 Qf:w.cell? ⟨B.n0,0,none⟩=some (.pointer (some ⟨B.c,0,none⟩))
 Re:w.cell? ⟨B.n0,2,none⟩=some (.slice (some ⟨B.ga,0,none⟩) T.length T.length)
 O9:∃st,aF w B.c F A st
 s1:rp≠g/\rp≠B.ga/\rp≠B.n0
 s2:g≠B.ga/\g≠B.n0/\B.ga≠B.n0
 s3:rp∉F/\g∉F/\B.ga∉F/\B.n0∉F
 dom:∀x,x∈L->bS A (x:Int)=true/\x<T.length
 nd:L.Nodup
 Bz:∀j x,L[j]?=some x->T.getD x 0=j
 tl:T.length<=65536
section
variable {w:World}{B:HB}{F:List Nat}{A:NS}{rp g cap:Nat}{L T:List Nat}
theorem oC.mem(h:oC w B F A rp g cap L T):B.c∈F:=by obtain⟨st,hC⟩:=h.O9;exact hC.mem
theorem oC.cne(h:oC w B F A rp g cap L T):rp≠B.c/\g≠B.c/\B.ga≠B.c/\B.n0≠B.c:=by
 have hm:=h.mem;have h3:=h.s3;exact⟨fun e=>h3.1 (by rw[e];exact hm),fun e=>h3.2.1 (by rw[e];exact hm),fun e=>h3.2.2.1 (by rw[e];exact hm),fun e=>h3.2.2.2 (by rw[e];exact hm)⟩
theorem oC.h0(h:oC w B F A rp g cap L T):w.cell? ⟨rp,0,none⟩=some (.pointer (some ⟨B.n0,0,none⟩)):=h.hd.cellAt 0 ω rfl
theorem oC.h1(h:oC w B F A rp g cap L T):w.cell? ⟨rp,1,none⟩=some (.slice (some ⟨g,0,none⟩) L.length cap):=h.hd.cellAt 1 ω rfl
theorem oC.FY(h:oC w B F A rp g cap L T)(j:Nat)(hj:j<L.length):w.cell? ⟨g,j,none⟩=some (.int .i64 ((L.getD j 0:Nat):Int)):=by
 have:=h.row.cell j (by rw[dB];exact hj);rwa[tH]at this
theorem oC.H9(h:oC w B F A rp g cap L T)(j:Nat)(hj:j<T.length):w.cell? ⟨B.ga,j,none⟩=some (.int .i64 ((T.getD j 0:Nat):Int)):=by
 have:=h.Bu.cell j (by rw[dB];exact hj);rwa[tH]at this
theorem oC.len(h:oC w B F A rp g cap L T):L.length<=65536:=by
 have h1:=nodup_range T.length (L.map (fun(x:Nat)=>(x:Int))) (by
  have hn:=h.nd;unfold List.Nodup at hn⊢;rw[List.pairwise_map];exact hn.imp (fun h e=>h ω)) (fun x hx=>by
  obtain⟨y,hy,rfl⟩:=List.mem_map.1 hx
  have:=(h.dom y hy).2;omega)
 have:=h.tl;simp at h1;omega
theorem oC.sS(h:oC w B F A rp g cap L T):L.length<=cap/\cap<=9223372036854775807:=by
 have:=h.row.cap;rwa[dB]at this
theorem oC.upd{w':World}{S:List Nat}(h:oC w B F A rp g cap L T)(hu:aa S w w')(hS:∀x,x∈S->x∉rp::g::B.ga::B.n0::F):oC w' B F A rp g cap L T:=by
 have h1:∀x,x∈rp::g::B.ga::B.n0::F->x∉S:=fun x hx hg=>hS x hg hx;refine⟨h.hd.upd hu (h1 _ σ),h.row.upd hu (h1 _ σ),h.Bu.upd hu (h1 _ σ),hu.kept h.Qf (h1 _ σ),hu.kept h.Re (h1 _ σ),?_,h.s1,h.s2,h.s3,h.dom,h.nd,h.Bz,h.tl⟩;obtain⟨st,hC⟩:=h.O9;exact⟨st,hC.upd hu (fun x hx hm=>hS x hx (by simp[hm]))⟩
theorem oC.au{w':World}(h:oC w B F A rp g cap L T)(hu:aa [] w w'):oC w' B F A rp g cap L T:=h.upd hu σ
theorem oC.counted{w':World}{st:Nat}(h:oC w B F A rp g cap L T)(hu:aa [B.c] w w')(hC:aF w' B.c F A st):oC w' B F A rp g cap L T:=by
 have h1:=h.cne;exact⟨h.hd.upd hu (by simp;exact h1.1),h.row.upd hu (by simp;exact h1.2.1),h.Bu.upd hu (by simp;exact h1.2.2.1),hu.kept h.Qf (by simp;exact h1.2.2.2),hu.kept h.Re (by simp;exact h1.2.2.2),⟨st,hC⟩,h.s1,h.s2,h.s3,h.dom,h.nd,h.Bz,h.tl⟩
theorem xJ(h:oC w B F A rp g cap L T) :
  Calls Tryz.prog 285 #[.pointer (some ⟨rp,0,none⟩)] w fun e w'=>e=.returned (.int .i64 (L.length:Int))/\w'=w:=by
 have c1:=h.h1;have hl:=h.len;clear h;generalize L.length=n at *
 go_enter Tryz.func285,Tryz.ntmps285
 go_wp2;go_ret;exact⟨rfl,rfl⟩
theorem JN(h:oC w B F A rp g cap L T)(i j:Nat)(hi:i<L.length)(hj:j<L.length) :
  Calls Tryz.prog 286 #[.pointer (some ⟨rp,0,none⟩),.int .i64 (i:Int),.int .i64 (j:Int)] w fun e w'=>e=.returned (.bool (decide (bZ A (L.getD i 0) (L.getD j 0))))/\oC w' B F A rp g cap L T/\aa [B.c] w w':=by
 have hm:∀k,k<L.length->L.getD k 0∈L:=fun k hk=>by
  rw[φ,ε hk];exact List.getElem_mem hk
 have d1:=(h.dom _ (hm i hi)).1;have d2:=(h.dom _ (hm j hj)).1;have hce:=h.cne;have c0:∀X,aa [B.c] w X->_:=fun X hX=>hX.kept h.h0 (by simp;exact hce.1);have c1:∀X,aa [B.c] w X->_:=fun X hX=>hX.kept h.h1 (by simp;exact hce.1);have n0:∀X,aa [B.c] w X->_:=fun X hX=>hX.kept h.Qf (by simp;exact hce.2.2.2);have ci:∀X,aa [B.c] w X->_:=fun X hX=>hX.kept (h.FY i hi) (by simp;exact hce.2.1);have cj:∀X,aa [B.c] w X->_:=fun X hX=>hX.kept (h.FY j hj) (by simp;exact hce.2.1);have hl:=h.len;clear hce
 have ka:∀W,aa [] w W->Calls Tryz.prog 174 #[.pointer (some ⟨B.c,0,none⟩),.int .i64 ((L.getD i 0:Nat):Int),.int .i64 ((L.getD j 0:Nat):Int)] W fun e w'=>e=.returned (.bool (decide (bZ A (L.getD i 0) (L.getD j 0))))/\oC w' B F A rp g cap L T/\aa [B.c] W w':=fun W hW=>by
  obtain⟨st,hC⟩:=h.O9;refine(fA (hC.au hW) _ _ d1 d2).mono ?_;rintro e w' ⟨rfl,hC',hu⟩;exact⟨rfl,(h.au hW).counted hu hC',hu⟩
 clear h hm d1 d2;generalize L.getD i 0=x at *;generalize L.getD j 0=y at *;generalize hn:L.length=n at *;clear hn;generalize decide (bZ A x y)=b at *;have Y8:(i:Int)<(n:Int):=ω;have XF:(j:Int)<(n:Int):=ω
 go_enter Tryz.func286,Tryz.ntmps286
 go_upto_region 1 with(fail)
 go_region_held3 (aa [B.c] w) (exact ν)
  (first
   | ((go_at_call 174;(with_reducible refine(ka _ β).mono ?_));rintro e w1 ⟨rfl,hP1,hu1⟩;(have hv1:aa [B.c] w w1:=aa.trans ν hu1)))
 go_wp2;go_ret;exact⟨rfl,hP1,hv1⟩
end
def BM(T L:List Nat)(i j:Nat):List Nat:=(T.set (L.getD j 0) i).set (L.getD i 0) j
theorem uA(T L:List Nat)(i j:Nat):(BM T L i j).length=T.length:=by unfold BM;simp
theorem uO{L:List Nat}{k:Nat}(hk:k<L.length):L.getD k 0∈L:=by
 rw[φ,ε hk];exact List.getElem_mem hk
theorem xk{L:List Nat}(hn:L.Nodup){i j:Nat}(hi:i<L.length)(hj:j<L.length)(h:L.getD i 0=L.getD j 0):i=j:=by
 rw[φ,φ,ε hi,ε hj]at h;exact(List.getElem_inj hn).1 h
theorem Mr{T L:List Nat}{i j x:Nat}(hi:i<L.length)(hj:j<L.length)(hx:x∉L):(BM T L i j).getD x 0=T.getD x 0:=by
 unfold BM;rw[dH,dH,if_neg (fun e=>hx (by rw[e.1];exact uO hi)),if_neg (fun e=>hx (by rw[e.1];exact uO hj))]
theorem VT{T L:List Nat}{i j:Nat}(hi:i<L.length)(hj:j<L.length)(hne:i≠j)(hn:L.Nodup)(hd:∀x,x∈L->x<T.length)(hp:∀j x,L[j]?=some x->T.getD x 0=j) :
  ∀k x,(gT L i j)[k]?=some x->(BM T L i j).getD x 0=k:=by
 intro k x hk;have hkl:k<L.length:=by
  obtain⟨h1,_⟩:=List.getElem?_eq_some_iff.1 hk;rwa[kY]at h1
 have hx:x=(gT L i j).getD k 0:=by rw[φ,hk];rfl
 rw[lV hi hj]at hx;unfold BM;rw[dH,dH];have hdi:=hd _ (uO hi);have hdj:=hd _ (uO hj)
 by_cases e1:k=j
 ·rw[if_pos e1]at hx;rw[if_pos ⟨hx,by simpa using hdi⟩,e1]
 ·rw[if_neg e1]at hx
  by_cases e2:k=i
  ·rw[if_pos e2]at hx;rw[if_neg (fun e=>hne (xk hn hi hj (by rw[←hx,←e.1]))),if_pos ⟨hx,hdj⟩,e2]
  ·rw[if_neg e2]at hx;rw[if_neg (fun e=>e2 (xk hn hkl hi (by rw[←hx,←e.1]))),if_neg (fun e=>e1 (xk hn hkl hj (by rw[←hx,←e.1])))];exact hp k x (by rw[hx,φ,ε hkl];rfl)
section
variable {w:World}{B:HB}{F:List Nat}{A:NS}{rp g cap:Nat}{L T:List Nat}
theorem zQ(h:oC w B F A rp g cap L T)(i j:Nat)(hi:i<L.length)(hj:j<L.length)(hne:i≠j) :
  Calls Tryz.prog 289 #[.pointer (some ⟨rp,0,none⟩),.int .i64 (i:Int),.int .i64 (j:Int)] w fun e w'=>e=.returned (.tuple #[])/\oC w' B F A rp g cap (gT L i j) (BM T L i j)/\aa [g,B.ga] w w':=by
 have h0:=h;have c0:=h.h0;have c1:=h.h1;have n2:=h.Re;have ci:=h.FY i hi;have cj:=h.FY j hj;have fi:=h.row.free i;have fj:=h.row.free j;have hl:=h.len;have htl:=h.tl;have hx:=(h.dom _ (uO hi)).2;have hy:=(h.dom _ (uO hj)).2;have ctx:=h.H9 _ hx;have cty:=h.H9 _ hy;have ftx:=h.Bu.free (L.getD i 0);have fty:=h.Bu.free (L.getD j 0);have s1:=h.s1;have s2:=h.s2;have hxy:L.getD i 0≠L.getD j 0:=fun e=>hne (xk h.nd hi hj e);have hs1:bH (gT L i j)=((bH L).set i ((L.getD j 0:Nat):Int)).set j ((L.getD i 0:Nat):Int):=by unfold gT;rw[nN,nN]
 have hs2:bH (BM T L i j)=((bH T).set (L.getD j 0) (i:Int)).set (L.getD i 0) (j:Int):=by unfold BM;rw[nN,nN]
 have hplc:=VT hi hj hne h.nd (fun x hx=>(h.dom x hx).2) h.Bz;have hperm:=vE hi hj hne;have HF:Hid (∀W W2,IZ W g cap (bH (gT L i j))->aa [g] w W->aa [B.ga] W W2->IZ W2 B.ga T.length (bH (BM T L i j))->oC W2 B F A rp g cap (gT L i j) (BM T L i j)/\aa [g,B.ga] w W2):=by
  intro W W2 hr hu hu2 ht;have hu':aa [g,B.ga] w W2:=(hu.mono σ).trans (hu2.mono σ);have h3:=h.s3;refine⟨⟨?_,hr.upd hu2 (by simp;exact s2.1),by rw[uA];exact ht,hu'.kept h.Qf (by simp;exact⟨fun e=>s2.2.1 e.symm,fun e=>s2.2.2 e.symm⟩),by rw[uA];exact hu'.kept h.Re (by simp;exact⟨fun e=>s2.2.1 e.symm,fun e=>s2.2.2 e.symm⟩),?_,s1,s2,h3,fun x hx=>by rw[uA];exact h.dom x (hperm.mem_iff.1 hx),hperm.nodup_iff.2 h.nd,hplc,by rw[uA];exact htl⟩,hu'⟩
  ·rw[kY];exact h.hd.upd hu' (by simp;exact⟨s1.1,s1.2.1⟩)
  ·obtain⟨st,hC⟩:=h.O9;exact⟨st,hC.upd hu' (fun x hx hm=>by simp at hx;rcases hx with rfl|rfl;exact h3.2.1 hm;exact h3.2.2.1 hm)⟩
 have HR:Hid (IZ w g cap (bH L)/\IZ w B.ga T.length (bH T)):=⟨h.row,h.Bu⟩;clear h h0 hplc hperm;generalize gT L i j=L' at *;generalize BM T L i j=T' at *;generalize L.getD i 0=x at *;generalize L.getD j 0=y at *;generalize T.getD x 0=tx at *;generalize T.getD y 0=ty at *;generalize L.length=n at *;generalize T.length=m at *;have Y8:(i:Int)<(n:Int):=ω;have XF:(j:Int)<(n:Int):=ω;have BN:(x:Int)<(m:Int):=ω;have hyI:(y:Int)<(m:Int):=ω;have HS1:=χ hs1;have HS2:=χ hs2;clear hs1 hs2;have hgl:rp≠g:=s1.1;have hne2:¬i=j:=hne
 go_enter Tryz.func289,Tryz.ntmps289
 go_upto_region 0 with(fail)
 go_cut [] (fun W=>aa [] ((w.setCell ⟨g,i,none⟩ (.int .i64 (y:Int))).setCell ⟨g,j,none⟩ (.int .i64 (x:Int))) W)
 case first=>
  go_wp2
  go_region
  all_goals
   go_wp2
   go_meet
   first|exact⟨rfl,rfl,rfl,Nat.le_refl _,fun _ _ _=>rfl⟩|exact ν
 case rest=>
 have WK:=hcut;clear hcut;rename World=>W;have hr:IZ W g cap (bH L'):=by rw[HS1.out];exact((HR.out.1.set i _).set j _).upd WK σ
 have hu:aa [g] w W:=aa.then β WK;have d1:W.cell? ⟨g,i,none⟩=some (.int .i64 (y:Int)):=WK.was γ;have d2:W.cell? ⟨g,j,none⟩=some (.int .i64 (x:Int)):=WK.was γ;have e0:=hu.kept c0 (by simp;exact s1.1);have e1:=hu.kept c1 (by simp;exact s1.1);have e2:=hu.kept n2 (by simp;exact fun e=>s2.2.1 e.symm);have ex:=hu.kept ctx (by simp;exact fun e=>s2.1 e.symm);have ey:=hu.kept cty (by simp;exact fun e=>s2.1 e.symm);have gx:=hu.aS ctx (by simp;exact fun e=>s2.1 e.symm) ftx;have gy:=hu.aS cty (by simp;exact fun e=>s2.1 e.symm) fty;have e00:W.cell? ⟨B.n0,2,none⟩=some (.slice (some ⟨B.ga,0,none⟩) m m):=e2
 have ht:=HR.out.2.upd hu (by simp;exact fun e=>s2.1 e.symm);have HT:=χ (ψ ht (ψ hr hu));clear c0 c1 n2 ctx cty ftx fty ci cj fi fj ht hr hu e2 WK;go_wp2
 go_region
 all_goals
  go_wp2;go_end0;obtain⟨ht,hr,hu⟩:=HT.out;exact⟨rfl,HF.out _ _ hr hu β (by rw[HS2.out];exact((ht.drewN _).set y _).set x _)⟩
end
theorem xm{M t:List Nat}{k:Nat}(hk:k<M.length):(M++t).getD k 0=M.getD k 0:=by
 rw[φ,φ,List.getElem?_append_left hk]
theorem Nu{M t:List Nat}{i j:Nat}(hi:i<M.length)(hj:j<M.length):gT (M++t) i j=gT M i j++t:=by
 unfold gT;rw[xm hi,xm hj,List.set_append_left _ _ hi,List.set_append_left _ _ (by simpa using hj)]
structure mF(w0:World)(B:HB)(F:List Nat)(A:NS)(rp g cap:Nat)(t M T:List Nat)(w:World)(M' T':List Nat):Prop where
 pi:oC w B F A rp g cap (M'++t) T'
 perm:M'.Perm M
 off:∀x,x∉M++t->T'.getD x 0=T.getD x 0
 tl:T'.length=T.length
 upd:aa [g,B.ga,B.c] w0 w
section
variable {w0 w:World}{B:HB}{F:List Nat}{A:NS}{rp g cap:Nat}{t M T M' T':List Nat}
theorem mF.start(h:oC w B F A rp g cap (M++t) T):mF w B F A rp g cap t M T w M T:=⟨h,List.Perm.refl _,fun _ _=>rfl,rfl,aa.refl _ _⟩
theorem mF.asked{w':World}(h:mF w0 B F A rp g cap t M T w M' T')(hp:oC w' B F A rp g cap (M'++t) T')(hu:aa [B.c] w w'):mF w0 B F A rp g cap t M T w' M' T':=
 ⟨hp,h.perm,h.off,h.tl,h.upd.trans (hu.mono σ)⟩
theorem mF.swap{w':World}{i j:Nat}(h:mF w0 B F A rp g cap t M T w M' T')(hi:i<M'.length)(hj:j<M'.length)(hne:i≠j)(hp:oC w' B F A rp g cap (gT (M'++t) i j) (BM T' (M'++t) i j))(hu:aa [g,B.ga] w w') :
  mF w0 B F A rp g cap t M T w' (gT M' i j) (BM T' (M'++t) i j):=by
 refine⟨by rw[←Nu hi hj];exact hp,(vE hi hj hne).trans h.perm,fun x hx=>?_,by rw[uA];exact h.tl,h.upd.trans (hu.mono σ)⟩;rw[Mr (by rw[υ];omega) (by rw[υ];omega) (fun hm=>hx ?_)]
 ·exact h.off x hx
 ·exact(h.perm.append_right t).mem_iff.1 hm
theorem Bj{a b:Nat}(hne:a≠b)(h:¬oJ A a b):oJ A b a:=by
 rcases je (A:=A) hne with h1|h1
 ·exact absurd (fq.2 h1) h
 ·exact fq.2 h1
theorem mF.ne(h:mF w0 B F A rp g cap t M T w M' T'){i j:Nat}(hi:i<M'.length)(hj:j<M'.length)(hne:i≠j):M'.getD i 0≠M'.getD j 0:=fun e=>hne (xk (θ.1 h.pi.nd).1 hi hj e)
theorem LP(rp:Nat):∀W:World,(method 429 317 (.pointer (some ⟨rp,0,none⟩)) "Less").run Tryz.prog W=.ok (286,.pointer (some ⟨rp,0,none⟩)) W:=fun _=>by kernel_rfl
theorem DW(rp:Nat):∀W:World,(method 429 317 (.pointer (some ⟨rp,0,none⟩)) "Swap").run Tryz.prog W=.ok (289,.pointer (some ⟨rp,0,none⟩)) W:=fun _=>by kernel_rfl
theorem Jb(rp:Nat):∀W:World,(method 429 317 (.pointer (some ⟨rp,0,none⟩)) "Len").run Tryz.prog W=.ok (285,.pointer (some ⟨rp,0,none⟩)) W:=fun _=>by kernel_rfl
theorem Vy(rp:Nat):∀W:World,(method 429 317 (.pointer (some ⟨rp,0,none⟩)) "Push").run Tryz.prog W=.ok (288,.pointer (some ⟨rp,0,none⟩)) W:=fun _=>by kernel_rfl
theorem Zg(rp:Nat):∀W:World,(method 429 317 (.pointer (some ⟨rp,0,none⟩)) "Pop").run Tryz.prog W=.ok (287,.pointer (some ⟨rp,0,none⟩)) W:=fun _=>by kernel_rfl
theorem mF.less(h:mF w0 B F A rp g cap t M T w M' T'){i j:Nat}(hi:i<M'.length)(hj:j<M'.length){b:Bool}(hb:decide (bZ A (M'.getD i 0) (M'.getD j 0))=b) :
  Calls Tryz.prog 286 #[.pointer (some ⟨rp,0,none⟩),.int .i64 (i:Int),.int .i64 (j:Int)] w fun e w'=>e=.returned (.bool b)/\mF w0 B F A rp g cap t M T w' M' T':=by
 have k:=JN h.pi i j (by rw[υ];omega) (by rw[υ];omega);rw[xm hi,xm hj,hb]at k;exact k.mono (fun e w' hh=>⟨hh.1,h.asked hh.2.1 hh.2.2⟩)
theorem mF.swaps(h:mF w0 B F A rp g cap t M T w M' T'){i j:Nat}(hi:i<M'.length)(hj:j<M'.length)(hne:i≠j) :
  Calls Tryz.prog 289 #[.pointer (some ⟨rp,0,none⟩),.int .i64 (i:Int),.int .i64 (j:Int)] w fun e w'=>e=.returned (.tuple #[])/\mF w0 B F A rp g cap t M T w' (gT M' i j) (BM T' (M'++t) i j):=
 (zQ h.pi i j (by rw[υ];omega) (by rw[υ];omega) hne).mono (fun e w' hh=>⟨hh.1,h.swap hi hj hne hh.2.1 hh.2.2⟩)
theorem Bd(h0:mF w0 B F A rp g cap t M T w M' T')(j0:Nat)(hH:fC (oJ A) 2 M' j0)(hB:Below (oJ A) 2 M' j0 (M'.getD j0 0)) :
  Calls Tryz.prog 281 #[.iface 317 (.pointer (some ⟨rp,0,none⟩)),.int .i64 (j0:Int)] w fun e w'=>e=.returned (.tuple #[])/\∃M2 T2,mF w0 B F A rp g cap t M T w' M2 T2/\Hp (oJ A) 2 M2:=by
 have m1:=LP rp;have m2:=DW rp;have HI:=χ (ψ h0 (ψ hH hB));clear h0 hH hB
 go_enter Tryz.func281,Tryz.ntmps281
 go_wp2
 go_loopw [1,4] (fun v1 v4 wr=>∃ (j:Nat) (M2 T2:List Nat),v1=.int .i64 (j:Int)/\mF w0 B F A rp g cap t M T wr M2 T2/\fC (oJ A) 2 M2 j/\Below (oJ A) 2 M2 j (M2.getD j 0)) (fun v1 _ _=>(intOf v1).toNat)
 case atStart=>exact⟨j0,M',T',rfl,HI.out.1,HI.out.2.1,HI.out.2.2⟩
 case round=>
  obtain⟨j,M2,T2,rfl,hP,hH,hB⟩:=hrel;rename World=>wr;have hjl:=hH.lt;have hlen:(M2++t).length<=65536:=hP.pi.len;rw[υ]at hlen
  by_cases hj0:j=0
  ·subst hj0;have hF:=hH.done ω hB (Or.inl rfl);have HQ:=χ (ψ hP hF);clear hP hH hB hF hjl hlen;go_wp2;go_end0;exact⟨rfl,M2,T2,HQ.out.1,HQ.out.2⟩
  ·have hp:=eY (d:=2) ω (show 0<j by omega);have hq:((j:Int)-1).tdiv 2=(par 2 j:Int):=by
    unfold par;rw[show(j:Int)-1=((j-1:Nat):Int) by omega]
    rfl
   have hne:=hP.ne hjl (show par 2 j<M2.length by omega) ω;cases hb:decide (bZ A (M2.getD j 0) (M2.getD (par 2 j) 0))with
   | false=>
    have kl:=hP.less hjl (show par 2 j<M2.length by omega) hb;have hF:=hH.done ω hB (Or.inr (Bj hne (fun h=>by rw[fq]at h;rw[decide_eq_false_iff_not]at hb;exact hb h)));have HQ:=χ hF;clear hP hH hB hF hb hne;generalize par 2 j=p at *;have ZF:(p:Int)<(j:Int):=ω;have hpj:((p:Int) == (j:Int))=false:=ζ;have hj1:0<j:=ω;clear hj0
    go_wp2_with (first
     | ((go_at_call 286;(with_reducible refine(kl).mono ?_));rintro e w1 ⟨rfl,hP1⟩)
     | fail)
    go_end0;exact⟨rfl,M2,T2,hP1,HQ.out⟩
   | true=>
    have kl:=hP.less hjl (show par 2 j<M2.length by omega) hb;have hS:=hH.Zn (iP A) ω (fq.2 (of_decide_eq_true hb));have ks:∀w1,mF w0 B F A rp g cap t M T w1 M2 T2->_:=fun w1 h1=>mF.swaps h1 (show par 2 j<M2.length by omega) hjl ω;have HQ:=χ hS;clear hP hH hB hS hb hne;generalize par 2 j=p at *;have ZF:(p:Int)<(j:Int):=ω;have hpj:((p:Int) == (j:Int))=false:=ζ;have hj1:0<j:=ω;clear hj0
    go_wp2_with (first
     | ((go_at_call 286;(with_reducible refine(kl).mono ?_));rintro e w1 ⟨rfl,hP1⟩)
     | ((go_at_call 289;(with_reducible refine(ks _ hP1).mono ?_));rintro e w2 ⟨rfl,hP2⟩)
     | fail)
    go_roundw
    case rel=>exact⟨p,_,_,by go_num,hP2,HQ.out.1,HQ.out.2⟩
    case measure=>simp[intOf];omega
end
end Go.Proofs.YtklibcncmbofpaaGreat
