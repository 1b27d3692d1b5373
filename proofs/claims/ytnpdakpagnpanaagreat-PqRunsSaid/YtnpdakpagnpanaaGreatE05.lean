/-
  Lemmas.
-/
import Derived.IntWalk
import Derived.BigRegion
import Derived.Test.YtnpdakpagnpanaaGreatE04
set_option linter.all false
set_option maxHeartbeats 8000000
set_option maxRecDepth 10000
namespace Go.Proofs.YtnpdakpagnpanaaGreat
open Tryz
open Go Go.RowKit
def par(d i:Nat):Nat:=(i-1) / d
def fw{d i:Nat}(a:2<=d)(b:0<i):par d i<i:=by
 unfold par;have:(i-1) / d<=(i-1) / 2:=Nat.div_le_div_left a ω;omega
def vQ{d i j:Nat}(f:2<=d):(0<j/\par d j=i)↔d*i+1<=j/\j<=d*i+d:=by
 unfold par;have e:d*(i+1)=d*i+d:=by grind
 constructor
 .rintro⟨c,h⟩;have a:=Nat.div_mul_le_self (j-1) d;have b:=Nat.lt_mul_div_succ (j-1) (show 0<d by omega)
  grind
 .rintro⟨a,b⟩;refine⟨ω,?_⟩;rw[Nat.div_eq_iff ω]
  grind
def gT(L:List Nat)(i x j:Nat):(L.set i x).getD j 0=if j=i/\i<L.length then x else L.getD j 0:=by
 grind
section
variable{R:Nat->Nat->Prop}{d:Nat}{L:List Nat}{i x:Nat}
def Hp(R:Nat->Nat->Prop)(d:Nat)(L:List Nat):Prop:=∀j,0<j->j<L.length->R (L.getD (par d j) 0) (L.getD j 0)
structure fI(R:Nat->Nat->Prop)(d:Nat)(L:List Nat)(i:Nat):Prop where
 lt:i<L.length
 a:∀j,0<j->j<L.length->j≠i->par d j≠i->R (L.getD (par d j) 0) (L.getD j 0)
 b:∀j,0<j->j<L.length->par d j=i->0<i->R (L.getD (par d i) 0) (L.getD j 0)
def Below(R:Nat->Nat->Prop)(d:Nat)(L:List Nat)(i x:Nat):Prop:=∀j,0<j->j<L.length->par d j=i->R x (L.getD j 0)
def Hp.hole(m:∀a b c,R a b->R b c->R a c)(n:2<=d)(h:Hp R d L)(l:i<L.length):fI R d L i:=
 ⟨l,λj e f _ _=>h j e f,λj e f hp g=>by
  have k:=h j e f;rw[hp] at k
  exact m _ _ _ (h i g l) k⟩
def fI.fill(g:2<=d)(h:fI R d L i)(k:Below R d L i x)(l:i=0\/R (L.getD (par d i) 0) x):Hp R d (L.set i x):=by
 intro j b c;rw[Ι] at c;have f:=h.lt;rw[gT,gT]
 by_cases e:j=i
 .subst e;have hp:=fw g b
  grind
 .rw[Γ (show ¬(j=i/\i<L.length) by omega)]
  by_cases a:par d j=i
  .rw[Δ ⟨a,f⟩];exact k j b c a
  .rw[Γ (show ¬(par d j=i/\i<L.length) from λe=>a e.1)];exact h.a j b c e a
def fI.up(u:∀a b c,R a b->R b c->R a c)(n:2<=d)(h:fI R d L i)(o:0<i)(v:R x (L.getD (par d i) 0)):
  fI R d (L.set i (L.getD (par d i) 0)) (par d i)/\Below R d (L.set i (L.getD (par d i) 0)) (par d i) x:=by
 have hp:=fw n o;have p:=h.lt;refine⟨⟨by grind,λj k f s g=>?_,λj k f g l=>?_⟩,λj k f g=>?_⟩
 .rw[Ι] at f;have e:j≠i:=λe=>g (by rw[e]);rw[gT,gT,Γ (show ¬(j=i/\i<L.length) by omega)]
  by_cases m:par d j=i
  .rw[Δ ⟨m,p⟩];exact h.b j k f m o
  .rw[Γ (show ¬(par d j=i/\i<L.length) from λe=>m e.1)];exact h.a j k f e m
 .rw[Ι] at f;have q:=fw n l;rw[gT,gT,Γ (show ¬(par d (par d i)=i/\i<L.length) by omega)];have t:=h.a (par d i) l ω ω ω
  by_cases e:j=i
  .grind
  .rw[Γ (show ¬(j=i/\i<L.length) by omega)];have r:=h.a j k f e ω
   grind
 .rw[Ι] at f;rw[gT]
  by_cases e:j=i
  .grind
  .rw[Γ (show ¬(j=i/\i<L.length) by omega)];have r:=h.a j k f e ω
   grind
structure tQ(R:Nat->Nat->Prop)(d:Nat)(L:List Nat)(i c:Nat):Prop where
 c0:0<c
 lt:c<L.length
 pc:par d c=i
 all:∀j,0<j->j<L.length->par d j=i->j≠c->R (L.getD c 0) (L.getD j 0)
def fI.down(u:∀a b c,R a b->R b c->R a c)(p:2<=d)(h:fI R d L i){c:Nat}(f:tQ R d L i c)(s:R (L.getD c 0) x):
  fI R d (L.set i (L.getD c 0)) c/\R ((L.set i (L.getD c 0)).getD (par d c) 0) x:=by
 have l:=h.lt;have q:i<c:=by have:=fw p f.c0;have:=f.pc;omega
 refine⟨⟨by rw[Ι];exact f.lt,λj g k n o=>?_,λj g k o _=>?_⟩,?_⟩
 .rw[Ι] at k;rw[gT,gT]
  by_cases e:j=i
  .subst e;have:=fw p g;rw[Γ (show ¬(par d j=j/\j<L.length) by omega),Δ ⟨rfl,l⟩];exact h.b c f.c0 f.lt f.pc g
  .rw[Γ (show ¬(j=i/\i<L.length) by omega)]
   by_cases m:par d j=i
   .rw[Δ ⟨m,l⟩];exact f.all j g k m n
   .rw[Γ (show ¬(par d j=i/\i<L.length) from λe=>m e.1)];exact h.a j g k e m
 .rw[Ι] at k;have r:=fw p g;rw[f.pc,gT,gT,Δ ⟨rfl,l⟩,Γ (show ¬(j=i/\i<L.length) by omega)];have t:=h.a j g k ω ω
  grind
 .rw[f.pc,gT,Δ ⟨rfl,l⟩];exact s
def Hp.first(ht:∀a b c,R a b->R b c->R a c)(hd:2<=d)(h:Hp R d L):∀(k j:Nat),j<=k->j<L.length->j=0\/R (L.getD 0 0) (L.getD j 0)
 |0,j,hk,_=>Α ω
 |k+1,j,hk,hj=>by
  by_cases j0:j=0
  .exact Α j0
  .right;have hp:=fw (i:=j) hd ω;have h1:=h j ω hj;rcases Hp.first ht hd h k (par d j) ω ω with e|e
   .rw[e] at h1;exact h1
   .exact ht _ _ _ e h1
def Hp.frame{R':Nat->Nat->Prop}(h:Hp R d L)(i:∀a b,a∈L->b∈L->R a b->R' a b)(k:2<=d):Hp R' d L:=λj e f=>by
 have hp:=fw k e;have c:∀q,q<L.length->L.getD q 0∈L:=λq g=>by
  rw[φ,ε g];exact ϗ g
 exact i _ _ (c _ ω) (c _ f) (h j e f)
def fI.frame{R':Nat->Nat->Prop}(h:fI R d L i)(n:∀a b,a∈L.eraseIdx i->b∈L.eraseIdx i->R a b->R' a b)(m:2<=d):fI R' d L i:=by
 have k:∀q,q<L.length->q≠i->L.getD q 0∈L.eraseIdx i:=λq o l=>by
  rw[φ,ε o,List.mem_eraseIdx_iff_getElem?];exact⟨q,l,by grind⟩
 refine⟨h.lt,λj c e f hp=>?_,λj c e hp g=>?_⟩
 .have:=fw m c;exact n _ _ (k _ ω hp) (k _ e f) (h.a j c e f hp)
 .have p:=fw m c;have r:=fw m g;have:=h.lt;exact n _ _ (k _ ω ω) (k _ e ω) (h.b j c e hp g)
end
def xN(f:Int->Option Int)(L:List Nat):Prop:=∀z v,f z=some v↔∃(y j:Nat),z=y/\v=j/\L[j]?=some y
def nQ(f:Int->Option Int)(L:List Nat)(i x:Nat):Prop:=∀z v,z≠(x:Int)->(f z=some v↔∃(y j:Nat),z=y/\v=j/\j≠i/\L[j]?=some y)
def WI(f:Int->Option Int)(k z:Int):Int->Option Int:=λq=>if q=k then some z else f q
def nQ.fill{f:Int->Option Int}{L:List Nat}{i x:Nat}(h:nQ f L i x)(k:i<L.length)(l:(L.set i x).Nodup):xN (WI f x i) (L.set i x):=by
 intro z v;unfold WI
 by_cases a:z=(x:Int)
 .rw[Δ a];constructor
  .grind
  .rintro⟨y,j,rfl,rfl,b⟩;have e:y=x:=ω;subst e;have g:(L.set i y)[i]?=some y:=by simp[k]
   obtain⟨g1,c⟩:=List.getElem?_eq_some_iff.1 b;obtain⟨g2,d⟩:=List.getElem?_eq_some_iff.1 g;have:j=i:=(List.getElem_inj l).1 (c.trans d.symm);rw[this]
 .rw[Γ a,h z v a];constructor
  .grind
  .grind
def nQ.move{f:Int->Option Int}{L:List Nat}{i p x:Nat}(h:nQ f L i x)(u:i<L.length)(hp:p<L.length)(q:p≠i)(r:(L.set i x).Nodup):nQ (WI f (L.getD p 0) i) (L.set i (L.getD p 0)) p x:=by
 intro z v b;have l:L[p]?=some (L.getD p 0):=by grind
 have a:∀j,j≠i->L[j]?=some (L.getD p 0)->j=p:=λj c d=>by
  have m:(L.set i x)[j]?=some (L.getD p 0):=by grind
  have n:(L.set i x)[p]?=some (L.getD p 0):=by grind
  obtain⟨g1,g⟩:=List.getElem?_eq_some_iff.1 m;obtain⟨g2,k⟩:=List.getElem?_eq_some_iff.1 n;exact(List.getElem_inj r).1 (g.trans k.symm)
 generalize t:L.getD p 0=y at *;unfold WI
 by_cases e:z=(y:Int)
 .grind
 .rw[Γ e,h z v b];constructor
  .grind
  .rintro⟨s,j,rfl,rfl,c,d⟩
   by_cases o:j=i
   .grind
   .grind
def xN.hole{f:Int->Option Int}{L:List Nat}{i x:Nat}(h:xN f L)(g:L[i]?=some x):nQ f L i x:=λz v e=>by
 rw[h z v];constructor
 .rintro⟨y,j,rfl,rfl,a⟩;refine⟨y,j,rfl,rfl,?_,a⟩;rintro rfl;rw[g] at a;cases a;exact e rfl
 .rintro⟨y,j,b,c,_,d⟩;exact⟨y,j,b,c,d⟩
def zF{L:List Nat}{i p x:Nat}(b:i<L.length)(hp:p<L.length)(a:p≠i):((L.set i (L.getD p 0)).set p x).Perm (L.set i x):=by
 grind
def gZ(L:List Nat)(i j:Nat):List Nat:=(L.set i (L.getD j 0)).set j (L.getD i 0)
def lH(L:List Nat)(i j:Nat):(gZ L i j).length=L.length:=by unfold gZ;simp
def ni{L:List Nat}{i j:Nat}(a:i<L.length)(b:j<L.length)(k:Nat):(gZ L i j).getD k 0=if k=j then L.getD i 0 else if k=i then L.getD j 0 else L.getD k 0:=by
 unfold gZ
 grind
def MP{L:List Nat}{i j:Nat}(c:i<L.length)(d:j<L.length):gZ L i j=gZ L j i:=by
 apply List.ext_getElem
 .rw[lH,lH]
 .intro k e f;have a:=ni c d k;have b:=ni d c k
  grind
def xM{L:List Nat}{i j:Nat}(b:i<L.length)(c:j<L.length)(a:i≠j):(gZ L i j).Perm L:=by
 have h:=zF (L:=L) (i:=i) (p:=j) (x:=L.getD i 0) b c (λe=>a e.symm);have e:L.set i (L.getD i 0)=L:=by
  rw[φ,ε b];simp
 rw[e] at h;exact h
section
variable{R:Nat->Nat->Prop}{L:List Nat}{i:Nat}
def fI.any{d:Nat}(l:2<=d)(h:fI R d L i)(y:Nat):fI R d (L.set i y) i:=by
 have g:∀k,k≠i->(L.set i y).getD k 0=L.getD k 0:=λk m=>by rw[gT,Γ (λe=>m e.1)]
 refine⟨by rw[Ι];exact h.lt,λj f a b hp=>?_,λj f a hp c=>?_⟩
 .rw[Ι] at a;rw[g _ b,g _ hp];exact h.a j f a b hp
 .rw[Ι] at a;have n:=fw l f;have o:=fw l c;rw[g _ ω,g _ ω];exact h.b j f a hp c
def Below.any{d x:Nat}(c:2<=d)(h:Below R d L i x)(y:Nat):Below R d (L.set i y) i x:=λj a b hp=>by
 rw[Ι] at b;have e:=fw c a;rw[gT,Γ (show ¬(j=i/\i<L.length) by omega)];exact h j a b hp
def fI.done{d:Nat}(b:2<=d)(h:fI R d L i)(c:Below R d L i (L.getD i 0))(f:i=0\/R (L.getD (par d i) 0) (L.getD i 0)):Hp R d L:=by
 have a:=h.fill b c f;have e:L.set i (L.getD i 0)=L:=by
  have:=h.lt;rw[φ,ε this];simp
 rwa[e] at a
def fI.acH(k:∀a b c,R a b->R b c->R a c)(h:fI R 2 L i)(f:0<i)(l:R (L.getD i 0) (L.getD (par 2 i) 0)):
  fI R 2 (gZ L (par 2 i) i) (par 2 i)/\Below R 2 (gZ L (par 2 i) i) (par 2 i) ((gZ L (par 2 i) i).getD (par 2 i) 0):=by
 have hp:=fw (d:=2) ω f;have e:=h.lt;obtain⟨g,j⟩:=h.up k ω f l;rw[ni ω e,Γ ω,Δ rfl,MP ω e];exact⟨g.any ω _,j.any ω _⟩
def fI.Bv(m:∀a b c,R a b->R b c->R a c)(h:fI R 2 L i){c:Nat}(f:tQ R 2 L i c)(j:R (L.getD c 0) (L.getD i 0)):
  fI R 2 (gZ L i c) c/\R ((gZ L i c).getD (par 2 c) 0) ((gZ L i c).getD c 0):=by
 have g:=h.lt;have e:=f.lt;have l:i<c:=by have:=fw (d:=2) ω f.c0;have:=f.pc;omega
 obtain⟨k,n⟩:=h.down m ω f j;refine⟨k.any ω _,?_⟩;rw[ni g e,ni g e,Δ rfl,f.pc,Γ ω,Δ rfl];exact j
def QM{n:Nat}(o:L.length=n)(p:2*i+1<n):(2*i+2<n->¬R (L.getD (2*i+2) 0) (L.getD (2*i+1) 0)->R (L.getD (2*i+1) 0) (L.getD (2*i+2) 0))->
  ((¬(2*i+2<n/\R (L.getD (2*i+2) 0) (L.getD (2*i+1) 0)))->tQ R 2 L i (2*i+1))/\(2*i+2<n/\R (L.getD (2*i+2) 0) (L.getD (2*i+1) 0)->tQ R 2 L i (2*i+2)):=by
 intro m;have f:∀j,0<j->par 2 j=i->j=2*i+1\/j=2*i+2:=λj b c=>by
  have:=(vQ (d:=2) (i:=i) (j:=j) ω).1 ⟨b,c⟩;omega
 have k:=(vQ (d:=2) (i:=i) (j:=2*i+1) ω).2 ω;have l:=(vQ (d:=2) (i:=i) (j:=2*i+2) ω).2 ω;constructor
 .intro h;refine⟨ω,ω,k.2,λj b c hp a=>?_⟩;rcases f j b hp with e|e
  .exact absurd e a
  .grind
 .rintro⟨h,g⟩;refine⟨ω,ω,l.2,λj b c hp a=>?_⟩;rcases f j b hp with e|e
  .subst e;exact g
  .exact absurd e a
def qC{d x c:Nat}(k:∀a b c,R a b->R b c->R a c)(l:tQ R d L i c)(f:R x (L.getD c 0)):Below R d L i x:=λj g h hp=>by
 by_cases e:j=c
 .rw[e];exact f
 .exact k _ _ _ f (l.all j g h hp e)
def BL{d x:Nat}(b:2<=d)(h:L.length<=d*i+1):Below R d L i x:=λj a c hp=>by
 have:=(vQ b).1 ⟨a,hp⟩;omega
def Hp.take{d n:Nat}(h:Hp R d L)(e:2<=d):Hp R d (L.take n):=λj a b=>by
 simp only[Ϗ] at b;have hp:=fw e a;have g:∀k,k<n->(L.take n).getD k 0=L.getD k 0:=λk c=>by simp[φ,List.getElem?_take,c]
 rw[g _ ω,g _ ω];exact h j a ω
def Hp.snoc{d x:Nat}(h:Hp R d L)(o:∀a b c,R a b->R b c->R a c)(l:2<=d):fI R d (L++[x]) L.length/\Below R d (L++[x]) L.length x:=by
 have g:∀k,k<L.length->(L++[x]).getD k 0=L.getD k 0:=λk m=>by simp[φ,Ρ,m]
 have i:∀j,0<j->j<(L++[x]).length->par d j=L.length->False:=λj e f hp=>by
  simp at f;have:=fw l e;omega
 refine⟨⟨σ,λj e f n hp=>?_,λj e f hp _=>(i j e f hp).elim⟩,λj e f hp=>(i j e f hp).elim⟩;simp at f;have:=fw l e;rw[g _ ω,g _ ω];exact h j e ω
end
def om(A:NS)(a b:Nat):Prop:=decide (dA A a b)=true
def dY{A:NS}{a b:Nat}:om A a b↔dA A a b:=by unfold om;simp
def jh(A:NS):∀a b c,om A a b->om A b c->om A a c:=λa b c d e=>dY.2 (dH (dY.1 d) (dY.1 e))
structure qN(d:Nat)(A:NS)(L:Nat->List Nat):Prop where
 hp:∀h:Nat,aW A h=true->Hp (om A) d (L h)
 nd:∀h:Nat,aW A h=true->(L h).Nodup
 mem:∀h x:Nat,aW A h=true->(x∈L h↔x<A.cs.length/\(A.c x).i=h)
section
variable{d:Nat}{A:NS}{L:Nat->List Nat}
def qN.frame{A':NS}{l:List Nat}(h:Hp (om A) d l)(g:2<=d)(hs:∀y,y∈l->A'.c y=A.c y):Hp (om A') d l:=
 h.frame (λa b e f c=>dY.2 ((fC (hs a e) (hs b f)).2 (dY.1 c))) g
def qN.len(h:qN d A L){g x:Nat}(b:aW A g=true)(c:x∈L g):x<A.cs.length/\bY A (x:Int)=true/\(A.c x).i=g:=by
 have a:=(h.mem g x b).1 c;have e:=(aF _ _).1 b;exact⟨a.1,(aj _ _).2 ⟨a.1,ω⟩,a.2⟩
def qN.many(h:qN d A L){g:Nat}(b:aW A g=true):(L g).length<=A.cs.length:=by
 have f:=nodup_range A.cs.length ((L g).map (λ(x:Nat)=>(x:Int))) (by
  have a:=h.nd g b;unfold List.Nodup at a ⊢;rw[List.pairwise_map];exact a.imp (λh e=>h ω)) (λx i=>by
  obtain⟨y,c,rfl⟩:=List.mem_map.1 i
  have:=(h.mem g y b).1 c;omega)
 simpa using f
def qN.first(h:qN d A L)(r:2<=d){g m:Nat}{l:List Nat}(b:aW A g=true)(o:L g=m::l):dB A g=some m:=by
 have s:=(aF _ _).1 b;have k:=(h.mem g m b).1 (by rw[o];simp);refine(jB ω).2 ⟨k.1,k.2,λy q c=>?_⟩;have a:=(h.mem g y b).2 ⟨q,c⟩;have n:=h.hp g b;rw[o] at a n;obtain⟨j,i,e⟩:=List.mem_iff_getElem.1 a;rcases Hp.first (jh A) r n j j (Θ _) i with f|f
 .grind
 .right;have p:(m::l).getD j 0=y:=by rw[φ,ε i,e];rfl
  rw[p] at f;exact dY.1 f
def qN.none(h:qN d A L){g:Nat}(a:aW A g=true)(f:L g=[]):dB A g=none:=by
 refine(jV (by have:=(aF _ _).1 a;omega)).2 ?_;rcases Nat.eq_zero_or_pos (cZ A (g:Int)) with e|e
 .exact e
 .obtain⟨x,b,c,_⟩:=fO.1 e;have:=(h.mem g x a).2 ⟨b,c⟩
  grind
def qN.ZO(h:qN d A L){g:Int}{m:Nat}(f:dB A g=some m)(i:A.Ok):∃q:Nat,g=q/\aW A q=true/\m∈L q:=by
 have a:0<g:=by
  rcases Int.lt_or_le 0 g with h|h
  .exact h
  .rw[rX ω] at f;cases f
 have b:=(jB a).1 f;obtain⟨q,rfl⟩:∃q:Nat,g=q:=⟨g.toNat,ω⟩;have c:bY A (m:Int)=true:=(aj _ _).2 ⟨b.1,by rw[b.2.1];exact a⟩;have e:=iH i c;rw[π,b.2.1] at e;exact⟨q,rfl,e,(h.mem q m e).2 ⟨b.1,b.2.1⟩⟩
def qN.next{A':NS}{g:Nat}{l:List Nat}(h:qN d A L)(i:2<=d)(j:∀k:Nat,aW A' k=aW A k)(m:A'.cs.length=A.cs.length)
  (q:∀k:Nat,k≠g->∀x,x<A.cs.length->1<=k->((A'.c x).i=k↔(A.c x).i=k)) (r:∀x,(A.c x).i≠g->(A'.c x).i≠g->A'.c x=A.c x)
  (n:Hp (om A') d l) (o:l.Nodup) (p:aW A g=true->∀x,x∈l↔x<A.cs.length/\(A'.c x).i=g):qN d A' (fH L g l):=by
 refine⟨λk a=>?_,λk a=>?_,λk x a=>?_⟩
 all_goals rw[j] at a
 .by_cases e:k=g
  .subst e;rw[bM];exact n
  .rw[bg _ _ e];refine qN.frame (h.hp k a) i (λy f=>?_);have c:=(h.mem k y a).1 f;have b:=(aF _ _).1 a
   grind
 .by_cases e:k=g
  .subst e;rw[bM];exact o
  .rw[bg _ _ e];exact h.nd k a
 .rw[m]
  by_cases e:k=g
  .subst e;rw[bM];exact p a x
  .rw[bg _ _ e,h.mem k x a];have b:=(aF _ _).1 a
   grind
def qN.put(h:qN d A L)(u:2<=d)(v:A.Ok){g x:Nat}{k s:Int}(c:oF A g x=true){l:List Nat}(hp:l.Perm (x::L g))(w:Hp (om (aN A g x k s)) d l):qN d (aN A g x k s) (fH L g l)/\x∉L g:=by
 obtain⟨b,i,e⟩:=(fB _ _ _).1 c;have f:x<A.cs.length:=by have:=(il _ _).1 i;omega
 have z:(A.c x).i=0:=by
  have:=(v.nat x f).1;have B:¬(0<(A.c x).i):=λn=>by rw[(aj A x).2 ⟨f,n⟩] at e;cases e
  omega
 have j:=(aF _ _).1 b;have m:∀y,(aN A g x k s).c y=if y=x then⟨g,k,s⟩ else A.c y:=λy=>by
  unfold aN;rw[Δ c,π,mg]
  grind
 have a:x∉L g:=λo=>by have:=(h.mem g x b).1 o;omega
 refine⟨h.next u (λq=>by unfold aN;rw[Δ c];rfl) (by unfold aN;rw[Δ c,fM]) (λq C y D p=>?_) (λy r t=>?_) w (hp.nodup_iff.2 (Ζ.2 ⟨a,h.nd g b⟩)) (λ_ y=>?_),a⟩
 .grind
 .grind
 .rw[hp.mem_iff,ρ,h.mem g y b,m]
  grind
def qN.low(h:qN d A L)(o:2<=d){g x:Nat}{k s:Int}(i:iX A x k s=true)(c:aW A g=true)(p:x∈L g){l:List Nat}(hp:l.Perm (L g))(r:Hp (om (aA A x k s)) d l):qN d (aA A x k s) (fH L g l):=by
 have a:=(h.mem g x c).1 p;have j:=vk i a.1;have f:=iW i a.1;refine h.next o (λq=>by unfold aW;rw[mX]) (gD _ _ _ _) (λq t y u m=>by rw[f]) (λy b n=>?_) r (hp.nodup_iff.2 (h.nd g c)) (λ_ y=>by rw[hp.mem_iff,h.mem g y c,f]);rw[j,Γ (λe=>b (by rw[e];exact a.2))]
def qN.drop(h:qN d A L)(r:2<=d){g x:Nat}(j:aW A g=true)(w:x∈L g){l:List Nat}(hp:(x::l).Perm (L g))(z:Hp (om A) d l):qN d (aS A x) (fH L g l):=by
 have p:=(h.mem g x j).1 w;have s:=(aF _ _).1 j;have k:bY A (x:Int)=true:=(aj A x).2 ⟨p.1,ω⟩;have m:=zN k;have b:(x::l).Nodup:=hp.nodup_iff.2 (h.nd g j);have c:x∉l:=(Ζ.1 b).1;have f:∀y,y≠x->(aS A x).c y=A.c y:=λy i=>by rw[m,Γ i]
 refine h.next r (λq=>by unfold aW;rw[jm]) (fF _ _) (λq B y i u=>?_) (λy n v=>f y (λe=>n (by rw[e];exact p.2))) (qN.frame z r (λy i=>f y (λe=>c (by rw[←e];exact i)))) (Ζ.1 b).2 (λ_ y=>?_)
 .rw[m]
  by_cases e:y=x
  .rw[Δ e,e];show(0:Int)=(q:Int)↔_;omega
  .rw[Γ e]
 .have t:=hp.mem_iff (a:=y);rw[ρ,h.mem g y j] at t;rw[m]
  by_cases e:y=x
  .rw[Δ e,e];refine⟨λo=>absurd o c,λo=>?_⟩;have:(0:Int)=(g:Int):=o.2;omega
  .grind
def yR(A:NS)(b:¬65536<A.hs.length)(a:1<=A.hs.length)(k:Nat):aW (aO A) k=(aW A k || k == A.hs.length):=by
 unfold aO aW
 grind
def qN.make(h:qN d A L)(r:2<=d)(s:A.Ok)(o:¬65536<A.hs.length)(m:1<=A.hs.length):qN d (aO A) (fH L A.hs.length []):=by
 have n:(aO A).cs=A.cs:=by unfold aO;rw[Γ o]
 have g:∀x,(aO A).c x=A.c x:=λx=>by unfold NS.c;rw[n]
 have c:∀k:Nat,aW (aO A) k=true->k=A.hs.length\/(k≠A.hs.length/\aW A k=true):=λk i=>by
  rw[yR A o m] at i
  grind
 refine⟨λk i=>?_,λk i=>?_,λk x i=>?_⟩
 .rcases c k i with rfl|⟨e,f⟩
  .rw[bM];intro j _ p;simp at p
  .rw[bg _ _ e];exact(h.hp k f).frame (λa b _ _ l=>dY.2 ((fC (g a) (g b)).2 (dY.1 l))) r
 .rcases c k i with rfl|⟨e,f⟩
  .rw[bM];exact Ϡ
  .rw[bg _ _ e];exact h.nd k f
 .rw[n,g];rcases c k i with rfl|⟨e,f⟩
  .rw[bM];simp only[ς,false_iff,not_and];intro q t;have:=(s.nat x q).2;omega
  .rw[bg _ _ e];exact h.mem k x f
end
structure iy where
 ty:TypeId
 p:Nat
 rd:List Nat
 wr:List Nat
 lt:Nat->Nat->Bool
 dom:Nat->Prop
 at_:World->Prop
 sub:∀x,x∈wr->x∈rd
 low:∀{w:World},at_ w->∀x,x∈rd->x<w.heap.size
 upd:∀{w w':World} {S:List Nat},at_ w->ae S w w'->(∀x,x∈S->x∉rd)->at_ w'
 trans:∀a b c,lt a b=true->lt b c=true->lt a c=true
 total:∀a b,a≠b->lt a b=true\/lt b a=true
 asym:∀a b,lt a b=true->lt b a=false
 fn:FuncId
 recv:Value
 ent:Enters fn
 X3:∀{w:World},at_ w->(method 409 ty (.pointer (some p)) "Ahead").run prog w=.ok (fn,recv) w
 Z5:∀w:World,(nilAhead 409 ty (.pointer (some p)) "Ahead").run prog w=.ok (some false) w
 ask:∀{w:World} (x y:Nat),at_ w->dom x->dom y->Calls prog fn #[recv,(x:Int),(y:Int)] w λe w'=>e=.returned (.bool (lt x y))/\at_ w'/\ae wr w w'
structure iy.On(O:iy)(w0 w:World):Prop where
 at_:O.at_ w
 upd:ae O.wr w0 w
def iy.On.start{O:iy}{w:World}(h:O.at_ w):O.On w w:=⟨h,ae.refl _ _⟩
def iy.On.drew{O:iy}{w0 w:World}(h:O.On w0 w):O.On w0 w.drew:=⟨O.upd h.at_ ((ae.refl [] w).drew) σ,h.upd.drew⟩
def iy.On.drewN{O:iy}{w0 w:World}(h:O.On w0 w)(n:Nat):O.On w0 (w.drewN n):=⟨O.upd h.at_ ((ae.refl [] w).drewN n) σ,h.upd.drewN n⟩
def iy.On.asked{O:iy}{w0 w w':World}(h:O.On w0 w)(a:O.at_ w')(b:ae O.wr w w'):O.On w0 w':=⟨a,h.upd.trans b⟩
def iy.R(O:iy)(a b:Nat):Prop:=O.lt a b=true
def iy.tr(O:iy):∀a b c,O.R a b->O.R b c->O.R a c:=O.trans
structure wV(w:World)(rp mb g cap d:Nat)(f:Int->Option Int)(L:List Nat):Prop where
 head:aQ w rp 228 3 (λj=>[Value.int .i64 (d:Int),.slice (some g) L.length cap,.map (some mb)].getD j undef)
 row:IZ w g cap (cz L)
 map:fK w mb f
 sep:rp≠mb/\rp≠g/\mb≠g
def dN(L:List Nat):(cz L).length=L.length:=by unfold cz;simp
def pJ{L:List Nat}{j:Nat}:(cz L).getD j 0=((L.getD j 0:Nat):Int):=by
 unfold cz
 grind
def oK(L:List Nat)(i x:Nat):cz (L.set i x)=(cz L).set i (x:Int):=by unfold cz;rw[List.map_set]
section
variable{w:World}{rp mb g cap d:Nat}{f:Int->Option Int}{L:List Nat}
def wV.upd{w':World}{S:List Nat}(h:wV w rp mb g cap d f L)(a:ae S w w')(b:rp∉S)(c:mb∉S)(e:g∉S):wV w' rp mb g cap d f L:=
 ⟨h.head.upd a b,h.row.upd a e,h.map.upd a c,h.sep⟩
def wV.ag{w':World}(h:wV w rp mb g cap d f L)(a:ae [] w w'):wV w' rp mb g cap d f L:=h.upd a σ σ σ
def wV.h0(h:wV w rp mb g cap d f L):w.cell? (rp:Nat)=some ((d:Int):V):=h.head.cellAt 0 ω rfl
def wV.h1(h:wV w rp mb g cap d f L):w.cell? ⟨rp,1,none⟩=some (.slice (some (g:Nat)) L.length cap):=h.head.cellAt 1 ω rfl
def wV.h2(h:wV w rp mb g cap d f L):w.cell? ⟨rp,2,none⟩=some (.map (some mb)):=h.head.cellAt 2 ω rfl
def wV.lt(h:wV w rp mb g cap d f L):rp<w.heap.size/\mb<w.heap.size/\g<w.heap.size:=⟨h.head.lt,h.map.lt,h.row.lt⟩
def wV.cell(h:wV w rp mb g cap d f L)(j:Nat)(a:j<L.length):w.cell? ⟨g,j,none⟩=some (((L.getD j 0:Nat):Int):V):=by
 have:=h.row.cell j (by rw[dN];exact a);rwa[pJ] at this
/-! ### places -/
def MS(d i:Nat)(f:2<=d/\d<=16)(j:i<=65536)(w:World):
  Calls prog 154 #[(d:Int),(i:Int)] w λe w'=>e=.returned (.tuple #[.int .i64 (if i=0 then 0 else(par d i:Int)),.bool (decide (0<i))])/\ae [] w w':=by
 have a:∀W,Calls prog 101 #[(d:Int)] W λe w'=>e=.returned true/\w'=W:=λW=>by
  have c:(d:Int)≥2:=ω;have g:(d:Int)<=16:=ω
  go_enter func101,ntmps101
  go_wp2;go_ret;exact⟨rfl,rfl⟩
 by_cases b:i=0
 .subst b
  go_enter func154,ntmps154
  go_wp2_with (first|((with_reducible refine aP (a _) ?_))|fail)
  go_ret2;exact⟨rfl,ae.refl _ _⟩
 .have c:¬(i:Int)<1:=ω;rw[Γ b,Ν (ω:0<i)];have h:((i:Int)-1).tdiv (d:Int)=(par d i:Int):=by
   unfold par;rw[show(i:Int)-1=((i-1:Nat):Int) by omega]
   rfl
  go_enter func154,ntmps154
  go_wp2_with (first|((with_reducible refine aP (a _) ?_))|fail)
  go_ret2;have hp:=fw f.1 (show 0<i by omega);rw[IntWalk.wrap64_in _ ω];exact⟨rfl,ae.refl _ _⟩
def QZ(d i k:Nat)(j:2<=d/\d<=16)(l:i<=65536)(p:1<=k/\k<=d)(w:World):
  Calls prog 161 #[(d:Int),(i:Int),(k:Int)] w λe w'=>e=.returned (.tuple #[((d*i+k:Nat):Int),true])/\ae [] w w':=by
 have b:∀W,Calls prog 101 #[(d:Int)] W λe w'=>e=.returned true/\w'=W:=λW=>by
  have c:(d:Int)≥2:=ω;have f:(d:Int)<=16:=ω
  go_enter func101,ntmps101
  go_wp2;go_ret;exact⟨rfl,rfl⟩
 have c:¬(i:Int)<0:=ω;have f:¬(i:Int) > 1099511627776:=ω;have n:¬(k:Int)<1:=ω;have o:d*i<=16*65536:=Nat.mul_le_mul j.2 l;have a:(d:Int)*(i:Int)=((d*i:Nat):Int):=σ;generalize d * i=m at *;have g:wrap64 (m:Int)=(m:Int):=IntWalk.wrap64_in _ ω;have h:wrap64 ((m:Int)+(k:Int))=(m:Int)+(k:Int):=IntWalk.wrap64_in _ ω
 go_enter func161,ntmps161
 go_wp2_with (first|((with_reducible refine aP (b _) ?_))|fail)
 go_ret2;exact⟨by first|rfl|simp[a],ae.refl _ _⟩
def uM(h:wV w rp mb g cap d f L)(i x:Nat)(u:i<L.length)(D:x<=65536)(E:L.length<=65536):
  Calls prog 155 #[(rp:Nat),(i:Int),(x:Int)] w λe w'=>e=.returned (.tuple #[])/\wV w' rp mb g cap d (WI f x i) (L.set i x)/\ae [g,mb] w w':=by
 have y:=h.h1;have z:=h.h2;have p:=h.row.cap;rw[dN] at p;have A:=h.row.free i;have B:=h.cell i u;have s:=h.sep;have a:ae [g] w (w.setCell ⟨g,i,none⟩ (.int .i64 (x:Int))):=β;have m:fK (w.setCell ⟨g,i,none⟩ (.int .i64 (x:Int))) mb f:=h.map.upd a ζ;have c:aQ (w.setCell ⟨g,i,none⟩ (.int .i64 (x:Int))) rp 228 3 (λj=>[Value.int .i64 (d:Int),.slice (some (g:Nat)) L.length cap,.map (some mb)].getD j undef):=h.head.upd a ζ;have k:IZ (w.setCell ⟨g,i,none⟩ (.int .i64 (x:Int))) g cap (cz (L.set i x)):=by rw[oK];exact h.row.set i _
 have q:=χ (ψ c (ψ k (ψ s a)));have r:(i:Int)<(L.length:Int):=ω;have C:rp≠g:=s.2.1;generalize o:L.length=n at *;have t:=χ o;clear h c k a o
 go_enter func155,ntmps155
 go_wp2_with (first
  | (at_mapUpdate;refine lG rfl _ _ _ rfl mb f rfl m (x:Int) (i:Int) rfl rfl ω ω ?_;intro v l b))
 go_end0;obtain⟨c,k,s,a⟩:=q.out;refine⟨rfl,⟨?_,k.upd b ζ,l,s⟩,(a.mono σ).trans (b.mono σ)⟩;rw[Ι,t.out];exact c.upd b ζ
end
structure QT(O:iy)(rp mb g:Nat):Prop where
 a:rp∉O.rd
 b:mb∉O.rd
 c:g∉O.rd
def QT.wr{O:iy}{rp mb g:Nat}(h:QT O rp mb g):rp∉O.wr/\mb∉O.wr/\g∉O.wr:=⟨λa=>h.a (O.sub _ a),λa=>h.b (O.sub _ a),λa=>h.c (O.sub _ a)⟩
def rZ{L:List Nat}{i x p:Nat}(hp:p<L.length)(b:p≠i):L.getD p 0∈L.set i x:=by
 have a:(L.set i x)[p]?=some (L.getD p 0):=by grind
 exact Η a
def Oj{L:List Nat}{i x p:Nat}(g:i<L.length)(hp:p<L.length)(a:p≠i)(h:(L.set i x).Nodup):L.getD p 0≠x:=λe=>by
 have d:(L.set i x)[p]?=some x:=by grind
 have f:(L.set i x)[i]?=some x:=by simp[g]
 obtain⟨g1,b⟩:=List.getElem?_eq_some_iff.1 d;obtain⟨g2,c⟩:=List.getElem?_eq_some_iff.1 f;exact a ((List.getElem_inj h).1 (b.trans c.symm))
def GZ(O:iy){w:World}{rp mb g cap d:Nat}{f:Int->Option Int}{L:List Nat}(v:O.at_ w)(h:wV w rp mb g cap d f L)(I:2<=d/\d<=16)(hl:L.length<=65536)(i x:Nat)(t:fI O.R d L i)(u:nQ f L i x)
  (hn:(L.set i x).Nodup) (J:∀y,y∈L.set i x->O.dom y) (h16:∀y,y∈L.set i x->y<=65536) (K:QT O rp mb g):
  Calls prog 146 #[rp,.iface O.ty (.pointer (some O.p)),(i:Int),(x:Int)] w λe w'=>∃(k:Nat) (f':Int->Option Int) (L':List Nat),e=.returned (k:Int)/\wV w' rp mb g cap d f' L'/\xN f' L'/\L'.Perm (L.set i x)/\O.at_ w'/\ae (g::mb::O.wr) w w'/\
   (k=i->L'=L.set i x/\(i=0\/O.R (L.getD (par d i) 0) x))/\(k≠i\/Below O.R d L i x->Hp O.R d L'):=by
 have hi0:=t.lt;have Y:x∈L.set i x:=Η (show(L.set i x)[i]?=some x by simp[hi0]);have hdx:=J x Y;have Z:=h16 x Y;have T:=χ (ψ hn (ψ J (ψ h16 (ψ K I))));have l:=K.wr
 go_enter func146,ntmps146
 go_wp2
 go_loopw [2,9,10] (λiv _ _ wr=>∃(P:Nat) (f':Int->Option Int) (L':List Nat),iv=.int .i64 (P:Int)/\wV wr rp mb g cap d f' L'/\fI O.R d L' P/\nQ f' L' P x/\L'.length=L.length/\(L'.set P x).Perm (L.set i x)/\O.at_ wr/\ae (g::mb::O.wr) w wr/\((P=i/\L'=L)\/(P<i/\Below O.R d L' P x))) (λiv _ _ _=>(intOf iv).toNat)
 case atStart=>exact⟨i,f,L,rfl,h,t,u,rfl,ό _,v,ae.refl _ _,Α ⟨rfl,rfl⟩⟩
 case round=>
  clear h t u v;obtain⟨j,f1,A,rfl,h,t,u,m,a,v,F,b⟩:=hrel;rename World=>wr;have o:=t.lt;have c:(A.set j x).Nodup:=a.nodup_iff.2 T.out.1;have kp:=λW=>MS d j I ω W;have c0:=h.h0;have c1:=h.h1;have hlt:=h.lt
  by_cases z:j=0
  .have ks:=λW (E:ae [] wr W)=>uM (h.ag E) j x o Z ω;have C:(if j=0 then(0:Int) else(par d j:Int))=0:=Δ z;have D:decide (0<j)=false:=by simp[z]
   simp only[C,D] at kp;have U:=χ (ψ t (ψ u (ψ c (ψ a (ψ v (ψ b (ψ F (ψ m z))))))));clear t u c a v b F m h z C D
   go_upto_region 2 with((((with_reducible refine(kp _).mono ?_));rintro e H ⟨rfl,r⟩))
   go_quiet (fail)
   have ks1:=ks _ (r.drewN nq)
   go_wp2_with ((((with_reducible refine ks1.mono ?_));rintro e w2 ⟨rfl,X,s⟩))
   go_ret;obtain⟨t,u,c,a,v,b,F,m,z⟩:=U.out;have hu3:ae [g,mb] wr w2:=(r.drewN nq).mono σ |>.trans s;refine⟨j,_,_,rfl,X,u.fill o c,a,O.upd v hu3 (λy n=>by have:=T.out.2.2.2.1;simp at n;rcases n with rfl|rfl;exact this.c;exact this.b),F.trans (hu3.mono (by simp +contextual)),λe=>?_,λe=>?_⟩
   .rcases b with⟨_,rfl⟩|⟨h1,_⟩
    .subst e;exact⟨rfl,Α z⟩
    .omega
   .have hb:Below O.R d A j x:=by
     rcases b with⟨C,D⟩|⟨_,h2⟩
     .rcases e with e|e
      .exact absurd C e
      .rw[C,D];exact e
     .exact h2
    exact t.fill I.1 hb (Α z)
  .obtain⟨p,hp⟩:∃p,p=par d j:=⟨_,rfl⟩;have N:p<j:=by rw[hp];exact fw I.1 ω
   have C:(if j=0 then(0:Int) else(par d j:Int))=(p:Int):=by rw[Γ z,hp]
   have D:decide (0<j)=true:=ζ;simp only[C,D] at kp;have hcp:=h.cell p ω;have hcg:=h.h1;have hdp:=T.out.2.1 (A.getD p 0) (a.mem_iff.1 (rZ ω ω));have B:=Oj o (show p<A.length by omega) ω c;have ks2:=λW (E:ae O.wr wr W)=>uM (h.upd E l.1 l.2.1 l.2.2) j (A.getD p 0) o (T.out.2.2.1 _ (a.mem_iff.1 (rZ ω ω))) ω;have ks:=λW (E:ae O.wr wr W)=>uM (h.upd E l.1 l.2.1 l.2.2) j x o Z ω;have U:=χ (ψ t (ψ u (ψ c (ψ a (ψ v (ψ b (ψ F (ψ m (ψ z (ψ hp (ψ B h)))))))))));have hi1L:(p:Int)<(A.length:Int):=ω;have RB:=l.1;have hgw:=l.2.2
   clear t u c a b F m h z C D hp B N l;generalize n:A.getD p 0=y at *
   go_upto_region 2 with((((with_reducible refine(kp _).mono ?_));rintro e H ⟨rfl,r⟩))
   have G:O.On H H:=.start (O.upd v r σ);have cp1:∀W,O.On H W->W.cell? ⟨g,p,none⟩=some ((y:Int):V):=λW E=>E.upd.kept (r.was hcp) hgw;have cg1:∀W,O.On H W->W.cell? ⟨rp,1,none⟩=some (.slice (some g) A.length cap):=λW E=>E.upd.kept (r.was hcg) RB;have hm:∀W,O.On H W->_:=λW E=>O.X3 E.at_;have hnl:=O.Z5;have hen:=O.ent;unfold Enters at hen
   go_region_held3 (O.On H) (first|assumption|exact G|(refine iy.On.drew ?_;first|assumption|exact G)|(refine iy.On.drewN ?_ _;first|assumption|exact G))
    (first
     | ((with_reducible refine (O.ask x y (iy.On.at_ (w0:=H) (by first|assumption|exact G|(refine iy.On.drew ?_;first|assumption|exact G)|(refine iy.On.drewN ?_ _;first|assumption|exact G))) hdx hdp).mono ?_);rintro e R ⟨rfl,DT,S⟩;(have xu:O.On H R:=iy.On.asked (by first|assumption|exact G|(refine iy.On.drew ?_;first|assumption|exact G)|(refine iy.On.drewN ?_ _;first|assumption|exact G)) DT S)))
   have tL:ae O.wr wr R:=(r.mono σ).trans xu.upd;have ks5:=ks R tL;have ks6:=ks2 R tL;have HY:=χ (ψ n (ψ xu.at_ tL));have cp5:=cp1 R xu;have cg5:=cg1 R xu;clear ks ks2 cp1 cg1 hm G xu S DT v hcp hcg;cases Q:O.lt x y with
   |false=>
    clear ks6
    go_wp2_with ((((with_reducible refine ks5.mono ?_));rintro e w2 ⟨rfl,X,s⟩))
    go_ret;obtain⟨t,u,c,a,v,b,F,m,z,hp,B,h⟩:=U.out;obtain⟨n,M,S⟩:=HY.out;have q:O.R (A.getD (par d j) 0) x:=by
     rw[←hp,n];rcases O.total x y (λe=>B e.symm) with e|e
     .rw[e] at Q;cases Q
     .exact e
    refine⟨j,_,_,rfl,X,u.fill o c,a,O.upd M s (λy n=>by have:=T.out.2.2.2.1;simp at n;rcases n with rfl|rfl;exact this.c;exact this.b),(F.trans (S.mono (by simp +contextual))).trans (s.mono (by simp +contextual)),λe=>?_,λe=>?_⟩
    .rcases b with⟨_,D⟩|⟨h1,_⟩
     .rw[D] at q ⊢;rw[e] at q ⊢;exact⟨rfl,Β q⟩
     .omega
    .have hb:Below O.R d A j x:=by
      rcases b with⟨C,D⟩|⟨_,h2⟩
      .rcases e with e|e
       .exact absurd C e
       .rw[C,D];exact e
      .exact h2
     exact t.fill I.1 hb (Β q)
   |true=>
    clear ks5
    go_wp2_with ((((with_reducible refine ks6.mono ?_));rintro e w2 ⟨rfl,X,s⟩))
    go_roundw
    case rel=>
     obtain⟨t,u,c,a,v,b,F,m,z,hp,B,h⟩:=U.out;obtain⟨n,M,S⟩:=HY.out;have N:p<j:=by rw[hp];exact fw I.1 ω
     have q:=t.up O.tr I.1 ω (x:=x) (by rw[←hp,n];exact Q);rw[←hp,n] at q;have hmv:=u.move o (p:=p) ω ω c;rw[n] at hmv;have hpr:=zF (L:=A) (i:=j) (p:=p) (x:=x) o ω ω;rw[n] at hpr;refine⟨p,_,_,rfl,X,q.1,hmv,by rw[Ι];exact m,hpr.trans a,O.upd M s (λy n=>by have:=T.out.2.2.2.1;simp at n;rcases n with rfl|rfl;exact this.c;exact this.b),(F.trans (S.mono (by simp +contextual))).trans (s.mono (by simp +contextual)),Β ⟨?_,q.2⟩⟩;rcases b with⟨e,_⟩|⟨e,_⟩<;>omega
    case measure=>
     have N:p<j:=by rw[U.out.2.2.2.2.2.2.2.2.2.1];exact fw I.1 (by have:=U.out.2.2.2.2.2.2.2.2.1;omega)
     simp[intOf];omega
structure HB where
 n0:Nat
 c:Nat
 ga:Nat
def Ow(B:HB)(v:Value)(j:Nat):Value:=[Value.pointer (some B.n0),v].getD j undef
structure pz(w:World)(B:HB)(F:List Nat)(A:NS)(rp g cap:Nat)(L T:List Nat):Prop where
 hd:aQ w rp 302 2 (Ow B (.slice (some g) L.length cap))
 row:IZ w g cap (cz L)
 AJ:IZ w B.ga T.length (cz T)
 Tp:w.cell? B.n0=some (B.c:V)
 Tj:w.cell? ⟨B.n0,2,none⟩=some (.slice (some B.ga) T.length T.length)
 Io:∃st,aD w B.c F A st
 s1:rp≠g/\rp≠B.ga/\rp≠B.n0
 s2:g≠B.ga/\g≠B.n0/\B.ga≠B.n0
 s3:rp∉F/\g∉F/\B.ga∉F/\B.n0∉F
 dom:∀x,x∈L->bY A (x:Int)=true/\x<T.length
 nd:L.Nodup
 xU:∀j x,L[j]?=some x->T.getD x 0=j
 tl:T.length<=65536
section
variable{w:World}{B:HB}{F:List Nat}{A:NS}{rp g cap:Nat}{L T:List Nat}
def pz.mem(h:pz w B F A rp g cap L T):B.c∈F:=by obtain⟨st,a⟩:=h.Io;exact a.mem
def pz.cne(h:pz w B F A rp g cap L T):rp≠B.c/\g≠B.c/\B.ga≠B.c/\B.n0≠B.c:=by
 have a:=h.mem;have b:=h.s3
 grind
def pz.h0(h:pz w B F A rp g cap L T):w.cell? (rp:Nat)=some (B.n0:V):=h.hd.cellAt 0 ω rfl
def pz.h1(h:pz w B F A rp g cap L T):w.cell? ⟨rp,1,none⟩=some (.slice (some (g:Nat)) L.length cap):=h.hd.cellAt 1 ω rfl
def pz.JK(h:pz w B F A rp g cap L T)(j:Nat)(a:j<L.length):w.cell? ⟨g,j,none⟩=some (((L.getD j 0:Nat):Int):V):=by
 have:=h.row.cell j (by rw[dN];exact a);rwa[pJ] at this
def pz.IG(h:pz w B F A rp g cap L T)(j:Nat)(a:j<T.length):w.cell? ⟨B.ga,j,none⟩=some (((T.getD j 0:Nat):Int):V):=by
 have:=h.AJ.cell j (by rw[dN];exact a);rwa[pJ] at this
def pz.len(h:pz w B F A rp g cap L T):L.length<=65536:=by
 have c:=nodup_range T.length (L.map (λ(x:Nat)=>(x:Int))) (by
  have a:=h.nd;unfold List.Nodup at a ⊢;rw[List.pairwise_map];exact a.imp (λh e=>h ω)) (λx d=>by
  obtain⟨y,b,rfl⟩:=List.mem_map.1 d
  have:=(h.dom y b).2;omega)
 have:=h.tl;simp at c;omega
def pz.capb(h:pz w B F A rp g cap L T):L.length<=cap/\cap<=9223372036854775807:=by
 have:=h.row.cap;rwa[dN] at this
def pz.upd{w':World}{S:List Nat}(h:pz w B F A rp g cap L T)(a:ae S w w')(d:∀x,x∈S->x∉rp::g::B.ga::B.n0::F):pz w' B F A rp g cap L T:=by
 have b:∀x,x∈rp::g::B.ga::B.n0::F->x∉S:=λx c f=>d x f c;refine⟨h.hd.upd a (b _ σ),h.row.upd a (b _ σ),h.AJ.upd a (b _ σ),a.kept h.Tp (b _ σ),a.kept h.Tj (b _ σ),?_,h.s1,h.s2,h.s3,h.dom,h.nd,h.xU,h.tl⟩;obtain⟨st,e⟩:=h.Io;exact⟨st,e.upd a (λx c i=>d x c (by simp[i]))⟩
def pz.ag{w':World}(h:pz w B F A rp g cap L T)(a:ae [] w w'):pz w' B F A rp g cap L T:=h.upd a σ
def pz.counted{w':World}{st:Nat}(h:pz w B F A rp g cap L T)(b:ae [B.c] w w')(c:aD w' B.c F A st):pz w' B F A rp g cap L T:=by
 have a:=h.cne;exact⟨h.hd.upd b (by simp;exact a.1),h.row.upd b (by simp;exact a.2.1),h.AJ.upd b (by simp;exact a.2.2.1),b.kept h.Tp (by simp;exact a.2.2.2),b.kept h.Tj (by simp;exact a.2.2.2),⟨st,c⟩,h.s1,h.s2,h.s3,h.dom,h.nd,h.xU,h.tl⟩
def zk(h:pz w B F A rp g cap L T):
  Calls prog 270 #[(rp:Nat)] w λe w'=>e=.returned (L.length:Int)/\w'=w:=by
 have a:=h.h1;clear h;generalize L.length=n at *
 go_enter func270,ntmps270
 go_wp2;go_ret;exact⟨rfl,rfl⟩
def LP(h:pz w B F A rp g cap L T)(i j:Nat)(u:i<L.length)(v:j<L.length):
  Calls prog 275 #[(rp:Nat),(i:Int),(j:Int)] w λe w'=>e=.returned (.bool (decide (dA A (L.getD i 0) (L.getD j 0))))/\pz w' B F A rp g cap L T/\ae [B.c] w w':=by
 have m:∀k,k<L.length->L.getD k 0∈L:=λk s=>by
  rw[φ,ε s];exact ϗ s
 have q:=(h.dom _ (m i u)).1;have r:=(h.dom _ (m j v)).1;have a:=h.cne;have H:∀X,ae [B.c] w X->_:=λX c=>c.kept h.h0 (by simp;exact a.1);have I:∀X,ae [B.c] w X->_:=λX c=>c.kept h.h1 (by simp;exact a.1);have J:∀X,ae [B.c] w X->_:=λX c=>c.kept h.Tp (by simp;exact a.2.2.2);have ci:∀X,ae [B.c] w X->_:=λX c=>c.kept (h.JK i u) (by simp;exact a.2.1);have K:∀X,ae [B.c] w X->_:=λX c=>c.kept (h.JK j v) (by simp;exact a.2.1);clear a
 have D:∀W,ae [] w W->Calls prog 164 #[B.c,((L.getD i 0:Nat):Int),((L.getD j 0:Nat):Int)] W λe w'=>e=.returned (.bool (decide (dA A (L.getD i 0) (L.getD j 0))))/\pz w' B F A rp g cap L T/\ae [B.c] W w':=λW t=>by
  obtain⟨st,C⟩:=h.Io;refine(fA (C.ag t) _ _ q r).mono ?_;rintro e w' ⟨rfl,d,p⟩;exact⟨rfl,(h.ag t).counted p d,p⟩
 clear h m q r;generalize L.getD i 0=x at *;generalize L.getD j 0=y at *;generalize G:L.length=n at *;clear G;generalize decide (dA A x y)=b at *;have E:(i:Int)<(n:Int):=ω;have M:(j:Int)<(n:Int):=ω
 go_enter func275,ntmps275
 go_upto_region 1 with(fail)
 go_region_held3 (ae [B.c] w) (exact ν)
  (first
   | (((with_reducible refine (D _ β).mono ?_));rintro e z ⟨rfl,f,l⟩;(have o:ae [B.c] w z:=ae.trans ν l)))
 go_wp2;go_ret;exact⟨rfl,f,o⟩
end
def DJ(T L:List Nat)(i j:Nat):List Nat:=(T.set (L.getD j 0) i).set (L.getD i 0) j
def wG(T L:List Nat)(i j:Nat):(DJ T L i j).length=T.length:=by unfold DJ;simp
def Oz{L:List Nat}{k:Nat}(a:k<L.length):L.getD k 0∈L:=by
 grind
def O8{L:List Nat}(a:L.Nodup){i j:Nat}(b:i<L.length)(c:j<L.length)(h:L.getD i 0=L.getD j 0):i=j:=by
 rw[φ,φ,ε b,ε c] at h;exact(List.getElem_inj a).1 h
def O0{T L:List Nat}{i j x:Nat}(a:i<L.length)(b:j<L.length)(c:x∉L):(DJ T L i j).getD x 0=T.getD x 0:=by
 unfold DJ
 grind
def Yd{T L:List Nat}{i j:Nat}(e:i<L.length)(f:j<L.length)(g:i≠j)(h:L.Nodup)(l:∀x,x∈L->x<T.length)(hp:∀j x,L[j]?=some x->T.getD x 0=j):
  ∀k x,(gZ L i j)[k]?=some x->(DJ T L i j).getD x 0=k:=by
 intro k x a;have c:k<L.length:=by
  obtain⟨b,_⟩:=List.getElem?_eq_some_iff.1 a;rwa[lH] at b
 have d:x=(gZ L i j).getD k 0:=by grind
 rw[ni e f] at d;unfold DJ
 grind
section
variable{w:World}{B:HB}{F:List Nat}{A:NS}{rp g cap:Nat}{L T:List Nat}
def Co(h:pz w B F A rp g cap L T)(i j:Nat)(G:i<L.length)(H:j<L.length)(f:i≠j):
  Calls prog 278 #[(rp:Nat),(i:Int),(j:Int)] w λe w'=>e=.returned (.tuple #[])/\pz w' B F A rp g cap (gZ L i j) (DJ T L i j)/\ae [g,B.ga] w w':=by
 have Y:=h;have N:=h.h0;have O:=h.h1;have P:=h.Tj;have ci:=h.JK i G;have Z:=h.JK j H;have fi:=h.row.free i;have fj:=h.row.free j;have I:=h.tl;have k:=(h.dom _ (Oz G)).2;have hy:=(h.dom _ (Oz H)).2;have o:=h.IG _ k;have p:=h.IG _ hy;have v:=h.AJ.free (L.getD i 0);have z:=h.AJ.free (L.getD j 0);have t:=h.s1;have c:=h.s2;have hxy:L.getD i 0≠L.getD j 0:=λe=>f (O8 h.nd G H e);have C:cz (gZ L i j)=((cz L).set i ((L.getD j 0:Nat):Int)).set j ((L.getD i 0:Nat):Int):=by unfold gZ;rw[oK,oK]
 have D:cz (DJ T L i j)=((cz T).set (L.getD j 0) (i:Int)).set (L.getD i 0) (j:Int):=by unfold DJ;rw[oK,oK]
 have l:=Yd G H f h.nd (λx k=>(h.dom x k).2) h.xU;have a:=xM G H f;have HF:Hid (∀W q,IZ W g cap (cz (gZ L i j))->ae [g] w W->ae [B.ga] W q->IZ q B.ga T.length (cz (DJ T L i j))->pz q B F A rp g cap (gZ L i j) (DJ T L i j)/\ae [g,B.ga] w q):=by
  intro W q r b u s;have d:ae [g,B.ga] w q:=(b.mono σ).trans (u.mono σ);have J:=h.s3;refine⟨⟨?_,r.upd u (by simp;exact c.1),by rw[wG];exact s,d.kept h.Tp (by simp;exact⟨λe=>c.2.1 e.symm,λe=>c.2.2 e.symm⟩),by rw[wG];exact d.kept h.Tj (by simp;exact⟨λe=>c.2.1 e.symm,λe=>c.2.2 e.symm⟩),?_,t,c,J,λx k=>by rw[wG];exact h.dom x (a.mem_iff.1 k),a.nodup_iff.2 h.nd,l,by rw[wG];exact I⟩,d⟩
  .rw[lH];exact h.hd.upd d (by simp;exact⟨t.1,t.2.1⟩)
  .obtain⟨st,X⟩:=h.Io;exact⟨st,X.upd d (λx k U=>by simp at k;rcases k with rfl|rfl;exact J.2.1 U;exact J.2.2.1 U)⟩
 have Q:Hid (IZ w g cap (cz L)/\IZ w B.ga T.length (cz T)):=⟨h.row,h.AJ⟩;clear h Y l a;generalize gZ L i j=L' at *;generalize DJ T L i j=T' at *;generalize L.getD i 0=x at *;generalize L.getD j 0=y at *;generalize T.getD x 0=tx at *;generalize T.getD y 0=ty at *;generalize L.length=n at *;generalize T.length=m at *;have hiI:(i:Int)<(n:Int):=ω;have Gr:(j:Int)<(n:Int):=ω;have Dy:(x:Int)<(m:Int):=ω;have XN:(y:Int)<(m:Int):=ω;have K:=χ C;have M:=χ D;clear C D;have hgl:rp≠g:=t.1;have R:¬i=j:=f
 go_enter func278,ntmps278
 go_upto_region 0 with(fail)
 go_cut [] (λW=>ae [] ((w.setCell ⟨g,i,none⟩ (.int .i64 (y:Int))).setCell ⟨g,j,none⟩ (.int .i64 (x:Int))) W)
 case first=>
  go_wp2
  go_region
  all_goals
   go_wp2
   go_meet
   first|exact⟨rfl,rfl,rfl,Θ _,λ_ _ _=>rfl⟩|exact ν
 case rest=>
 have E:=hcut;clear hcut;rename World=>W;have r:IZ W g cap (cz L'):=by rw[K.out];exact((Q.out.1.set i _).set j _).upd E σ
 have b:ae [g] w W:=ae.then β E;have d1:W.cell? ⟨g,i,none⟩=some ((y:Int):V):=E.was γ;have d2:W.cell? ⟨g,j,none⟩=some ((x:Int):V):=E.was γ;have e0:=b.kept N (by simp;exact t.1);have e1:=b.kept O (by simp;exact t.1);have S:=b.kept P (by simp;exact λe=>c.2.1 e.symm);have ex:=b.kept o (by simp;exact λe=>c.1 e.symm);have ey:=b.kept p (by simp;exact λe=>c.1 e.symm);have gx:=b.ay o (by simp;exact λe=>c.1 e.symm) v;have gy:=b.ay p (by simp;exact λe=>c.1 e.symm) z;have e00:W.cell? ⟨B.n0,2,none⟩=some (.slice (some B.ga) m m):=S
 have s:=Q.out.2.upd b (by simp;exact λe=>c.1 e.symm);have HT:=χ (ψ s (ψ r b));clear N O P o p v z ci Z fi fj s r b S E;go_wp2
 go_region
 all_goals
  go_wp2;go_end0;obtain⟨s,r,b⟩:=HT.out;exact⟨rfl,HF.out _ _ r b β (by rw[M.out];exact((s.drewN _).set y _).set x _)⟩
end
def Jp{M t:List Nat}{k:Nat}(a:k<M.length):(M++t).getD k 0=M.getD k 0:=by
 grind
def Qt{M t:List Nat}{i j:Nat}(a:i<M.length)(b:j<M.length):gZ (M++t) i j=gZ M i j++t:=by
 unfold gZ
 grind
structure nP(w0:World)(B:HB)(F:List Nat)(A:NS)(rp g cap:Nat)(t M T:List Nat)(w:World)(M' T':List Nat):Prop where
 pi:pz w B F A rp g cap (M'++t) T'
 perm:M'.Perm M
 off:∀x,x∉M++t->T'.getD x 0=T.getD x 0
 tl:T'.length=T.length
 upd:ae [g,B.ga,B.c] w0 w
section
variable{w0 w:World}{B:HB}{F:List Nat}{A:NS}{rp g cap:Nat}{t M T M' T':List Nat}
def nP.start(h:pz w B F A rp g cap (M++t) T):nP w B F A rp g cap t M T w M T:=⟨h,ό _,λ_ _=>rfl,rfl,ae.refl _ _⟩
def nP.asked{w':World}(h:nP w0 B F A rp g cap t M T w M' T')(hp:pz w' B F A rp g cap (M'++t) T')(a:ae [B.c] w w'):nP w0 B F A rp g cap t M T w' M' T':=
 ⟨hp,h.perm,h.off,h.tl,h.upd.trans (a.mono σ)⟩
def nP.swap{w':World}{i j:Nat}(h:nP w0 B F A rp g cap t M T w M' T')(c:i<M'.length)(d:j<M'.length)(a:i≠j)(hp:pz w' B F A rp g cap (gZ (M'++t) i j) (DJ T' (M'++t) i j))(f:ae [g,B.ga] w w'):
  nP w0 B F A rp g cap t M T w' (gZ M' i j) (DJ T' (M'++t) i j):=by
 refine⟨by rw[←Qt c d];exact hp,(xM c d a).trans h.perm,λx b=>?_,by rw[wG];exact h.tl,h.upd.trans (f.mono σ)⟩;rw[O0 (by grind) (by grind) (λe=>b ?_)]
 .exact h.off x b
 .exact(h.perm.append_right t).mem_iff.1 e
def Bw{a b:Nat}(d:a≠b)(h:¬om A a b):om A b a:=by
 rcases jA (A:=A) d with c|c
 .exact absurd (dY.2 c) h
 .exact dY.2 c
def nP.ne(h:nP w0 B F A rp g cap t M T w M' T'){i j:Nat}(b:i<M'.length)(c:j<M'.length)(a:i≠j):M'.getD i 0≠M'.getD j 0:=λe=>a (O8 (θ.1 h.pi.nd).1 b c e)
def NU:MI 298 "Less" 275:=λ_ _=>by kernel_rfl
def GR:MI 298 "Swap" 278:=λ_ _=>by kernel_rfl
def NB:MI 298 "Len" 270:=λ_ _=>by kernel_rfl
def YO:MI 298 "Push" 277:=λ_ _=>by kernel_rfl
def aa9:MI 298 "Pop" 276:=λ_ _=>by kernel_rfl
def nP.less(h:nP w0 B F A rp g cap t M T w M' T'){i j:Nat}(c:i<M'.length)(d:j<M'.length){b:Bool}(f:decide (dA A (M'.getD i 0) (M'.getD j 0))=b):
  Calls prog 275 #[(rp:Nat),(i:Int),(j:Int)] w λe w'=>e=.returned b/\nP w0 B F A rp g cap t M T w' M' T':=by
 have k:=LP h.pi i j (by rw[υ];omega) (by rw[υ];omega);rw[Jp c,Jp d,f] at k;exact k.mono (λe w' a=>⟨a.1,h.asked a.2.1 a.2.2⟩)
def nP.swaps(h:nP w0 B F A rp g cap t M T w M' T'){i j:Nat}(c:i<M'.length)(d:j<M'.length)(a:i≠j):
  Calls prog 278 #[(rp:Nat),(i:Int),(j:Int)] w λe w'=>e=.returned (.tuple #[])/\nP w0 B F A rp g cap t M T w' (gZ M' i j) (DJ T' (M'++t) i j):=
 (Co h.pi i j (by rw[υ];omega) (by rw[υ];omega) a).mono (λe w' b=>⟨b.1,h.swap c d a b.2.1 b.2.2⟩)
def CK(H:nP w0 B F A rp g cap t M T w M' T')(u:Nat)(c:fI (om A) 2 M' u)(i:Below (om A) 2 M' u (M'.getD u 0)):
  Calls prog 272 #[.iface 298 (.pointer (some (rp:Nat))),(u:Int)] w λe w'=>e=.returned (.tuple #[])/\∃a m,nP w0 B F A rp g cap t M T w' a m/\Hp (om A) 2 a:=by
 have L:=NU rp;have N:=GR rp;have y:=χ (ψ H (ψ c i));clear H c i
 go_enter func272,ntmps272
 go_wp2
 go_loopw [1,4] (λE P wr=>∃(j:Nat) (a m:List Nat),E=.int .i64 (j:Int)/\nP w0 B F A rp g cap t M T wr a m/\fI (om A) 2 a j/\Below (om A) 2 a j (a.getD j 0)) (λE _ _=>(intOf E).toNat)
 case atStart=>exact⟨u,M',T',rfl,y.out.1,y.out.2.1,y.out.2.2⟩
 case round=>
  obtain⟨j,a,m,rfl,f,c,i⟩:=hrel;rename World=>wr;have b:=c.lt;have k:(a++t).length<=65536:=f.pi.len;rw[υ] at k
  by_cases q:j=0
  .subst q;have s:=c.done ω i (Α rfl);have n:=χ (ψ f s);clear f c i s b k;go_wp2;go_end0;exact⟨rfl,a,m,n.out.1,n.out.2⟩
  .have hp:=fw (d:=2) ω (show 0<j by omega);have O:((j:Int)-1).tdiv 2=(par 2 j:Int):=by
    unfold par;rw[show(j:Int)-1=((j-1:Nat):Int) by omega]
    rfl
   have o:=f.ne b (show par 2 j<a.length by omega) ω;cases r:decide (dA A (a.getD j 0) (a.getD (par 2 j) 0)) with
   |false=>
    have z:=f.less b (show par 2 j<a.length by omega) r;have s:=c.done ω i (Β (Bw o (λh=>by rw[dY] at h;rw[decide_eq_false_iff_not] at r;exact r h)));have n:=χ s;clear f c i s r o;generalize par 2 j=p at *;have C:((p:Int) == (j:Int))=false:=ζ;have D:0<j:=ω;clear q
    go_wp2_with ((((with_reducible refine z.mono ?_));rintro e v ⟨rfl,l⟩))
    go_end0;exact⟨rfl,a,m,l,n.out⟩
   |true=>
    have z:=f.less b (show par 2 j<a.length by omega) r;have G:=c.acH (jh A) ω (dY.2 (ϟ r));have I:∀v,nP w0 B F A rp g cap t M T v a m->_:=λv J=>nP.swaps J (show par 2 j<a.length by omega) b ω;have n:=χ G;clear f c i G r o;generalize par 2 j=p at *;have C:((p:Int) == (j:Int))=false:=ζ;have D:0<j:=ω;clear q
    go_wp2_with (first
     |(((with_reducible refine z.mono ?_));rintro e v ⟨rfl,l⟩)
     | (((with_reducible refine (I _ l).mono ?_));rintro e K ⟨rfl,x⟩))
    go_roundw
    case rel=>exact⟨p,_,_,by go_num,x,n.out.1,n.out.2⟩
    case measure=>simp[intOf];omega
end
section
variable{w0 w:World}{B:HB}{F:List Nat}{A:NS}{rp g cap:Nat}{t M T M' T':List Nat}
def Og(A:NS)(i0:Nat)(b:Bool)(M2:List Nat):Prop:=(b=true->Hp (om A) 2 M2)/\(b=false->fI (om A) 2 M2 i0/\Below (om A) 2 M2 i0 (M2.getD i0 0))
def wI{b i:Nat}{a:List Nat}(c:fI (om A) 2 a i)(d:Below (om A) 2 a i (a.getD i 0))(f:b<=i)(e:b<i->om A (a.getD (par 2 i) 0) (a.getD i 0)):Og A b (decide (b<i)) a:=by
 constructor
 .intro h;exact c.done ω d (Β (e (by grind)))
 .grind
def Pn(w0:World)(B:HB)(F:List Nat)(A:NS)(rp g cap:Nat)(t M T:List Nat)(w:World)(i0 i2:Nat):Prop:=∃M2 T2,nP w0 B F A rp g cap t M T w M2 T2/\Og A i0 (decide (i0<i2)) M2
def BA(h0:nP w0 B F A rp g cap t M T w M' T')(J n:Nat)(hn:n=M'.length)(o:fI (om A) 2 M' J):
  Calls prog 271 #[.iface 298 (.pointer (some (rp:Nat))),(J:Int),(n:Int)] w λe w'=>∃i2,e=.returned (.bool (decide (J<i2)))/\Pn w0 B F A rp g cap t M T w' J i2:=by
 have m1:=NU rp;have m2:=GR rp;have W:=χ (ψ h0 (ψ o hn));clear h0 o hn
 go_enter func271,ntmps271
 go_wp2
 go_loopw [7,8,9,10] (λY v8 v9 v10 wr=>∃(i:Nat) (a u:List Nat),Y=.int .i64 (i:Int)/\nP w0 B F A rp g cap t M T wr a u/\fI (om A) 2 a i/\a.length=n/\J<=i/\(J<i->om A (a.getD (par 2 i) 0) (a.getD i 0))) (λY _ _ _ _=>n-(intOf Y).toNat)
 case atStart=>exact⟨J,M',T',rfl,W.out.1,W.out.2.1,W.out.2.2.symm,Θ _,λh=>absurd h (Nat.lt_irrefl _)⟩
 case round=>
  obtain⟨i,a,u,rfl,r,o,y,G,C⟩:=hrel;rename World=>wr;have X:=o.lt;rw[y] at X;have N:(a++t).length<=65536:=r.pi.len;rw[υ,y] at N;obtain⟨d,p⟩:∃d,d=2*i+1:=⟨_,rfl⟩;have he1:2*(i:Int)+1=(d:Int):=ω;obtain⟨s,v⟩:∃s,s=d+1:=⟨_,rfl⟩;have he2:(d:Int)+1=(s:Int):=ω;have hj10:¬(d:Int)<0:=ω
  by_cases hc1:d<n
  .have O:¬(d:Int)≥(n:Int):=ω;have k:=QM (R:=om A) (L:=a) (i:=i) y ω (λh2 hr=>Bw (r.ne ω ω ω) hr);rw[show 2*i+1=d from p.symm,show 2*i+2=s by omega] at k
   by_cases U:s<n
   .have P:(s:Int)<(n:Int):=ω;cases m:decide (dA A (a.getD s 0) (a.getD d 0)) with
    |true=>
     have x:=k.2 ⟨U,dY.2 (ϟ m)⟩;have Q:=r.less (show s<a.length by omega) (show d<a.length by omega) m;cases b:decide (dA A (a.getD s 0) (a.getD i 0)) with
     |true=>
      have D:∀c,nP w0 B F A rp g cap t M T c a u->_:=λc q=>nP.less q (show s<a.length by omega) (show i<a.length by omega) b;have S:∀c,nP w0 B F A rp g cap t M T c a u->_:=λc q=>nP.swaps q (show i<a.length by omega) (show s<a.length by omega) ω;have H:=o.Bv (jh A) x (dY.2 (ϟ b));have l:=χ (ψ H y);clear r o C x m b H k y p v
      go_wp2_with (first|(((with_reducible refine Q.mono ?_));rintro e c ⟨rfl,j⟩)|(((with_reducible refine(D _ j).mono ?_));rintro e K ⟨rfl,f⟩)|(((with_reducible refine(S _ f).mono ?_));rintro e Z ⟨rfl,z⟩)|fail)
      go_roundw
      case rel=>exact⟨s,_,_,by go_num,z,l.out.1.1,by rw[lH];exact l.out.2,ω,λ_=>l.out.1.2⟩
      case measure=>simp[intOf];omega
     |false=>
      have D:∀c,nP w0 B F A rp g cap t M T c a u->_:=λc q=>nP.less q (show s<a.length by omega) (show i<a.length by omega) b;have I:=Bw (r.ne (show s<a.length by omega) (show i<a.length by omega) ω) (λh=>by rw[dY] at h;rw[decide_eq_false_iff_not] at b;exact b h);have E:=wI o (qC (jh A) x I) G C;have l:=χ E;clear r o C x m b E k y p v I
      go_wp2_with (first|(((with_reducible refine Q.mono ?_));rintro e c ⟨rfl,j⟩)|(((with_reducible refine(D _ j).mono ?_));rintro e K ⟨rfl,f⟩)|fail)
      go_ret;exact⟨i,rfl,a,u,f,l.out⟩
    |false=>
     have x:=k.1 (λh=>by rw[decide_eq_false_iff_not] at m;exact m (dY.1 h.2));have Q:=r.less (show s<a.length by omega) (show d<a.length by omega) m;cases b:decide (dA A (a.getD d 0) (a.getD i 0)) with
     |true=>
      have D:∀c,nP w0 B F A rp g cap t M T c a u->_:=λc q=>nP.less q (show d<a.length by omega) (show i<a.length by omega) b;have S:∀c,nP w0 B F A rp g cap t M T c a u->_:=λc q=>nP.swaps q (show i<a.length by omega) (show d<a.length by omega) ω;have H:=o.Bv (jh A) x (dY.2 (ϟ b));have l:=χ (ψ H y);clear r o C x m b H k y p v
      go_wp2_with (first|(((with_reducible refine Q.mono ?_));rintro e c ⟨rfl,j⟩)|(((with_reducible refine(D _ j).mono ?_));rintro e K ⟨rfl,f⟩)|(((with_reducible refine(S _ f).mono ?_));rintro e Z ⟨rfl,z⟩)|fail)
      go_roundw
      case rel=>exact⟨d,_,_,by go_num,z,l.out.1.1,by rw[lH];exact l.out.2,ω,λ_=>l.out.1.2⟩
      case measure=>simp[intOf];omega
     |false=>
      have D:∀c,nP w0 B F A rp g cap t M T c a u->_:=λc q=>nP.less q (show d<a.length by omega) (show i<a.length by omega) b;have I:=Bw (r.ne (show d<a.length by omega) (show i<a.length by omega) ω) (λh=>by rw[dY] at h;rw[decide_eq_false_iff_not] at b;exact b h);have E:=wI o (qC (jh A) x I) G C;have l:=χ E;clear r o C x m b E k y p v I
      go_wp2_with (first|(((with_reducible refine Q.mono ?_));rintro e c ⟨rfl,j⟩)|(((with_reducible refine(D _ j).mono ?_));rintro e K ⟨rfl,f⟩)|fail)
      go_ret;exact⟨i,rfl,a,u,f,l.out⟩
   .have P:¬(s:Int)<(n:Int):=ω;have x:=k.1 (λh=>U h.1);have j:=r;cases b:decide (dA A (a.getD d 0) (a.getD i 0)) with
    |true=>
     have D:∀c,nP w0 B F A rp g cap t M T c a u->_:=λc q=>nP.less q (show d<a.length by omega) (show i<a.length by omega) b;have S:∀c,nP w0 B F A rp g cap t M T c a u->_:=λc q=>nP.swaps q (show i<a.length by omega) (show d<a.length by omega) ω;have H:=o.Bv (jh A) x (dY.2 (ϟ b));have l:=χ (ψ H y);clear r o C x b H k y p v
     go_wp2_with (first|(((with_reducible refine(D _ j).mono ?_));rintro e K ⟨rfl,f⟩)|(((with_reducible refine(S _ f).mono ?_));rintro e Z ⟨rfl,z⟩)|fail)
     go_roundw
     case rel=>exact⟨d,_,_,by go_num,z,l.out.1.1,by rw[lH];exact l.out.2,ω,λ_=>l.out.1.2⟩
     case measure=>simp[intOf];omega
    |false=>
     have D:∀c,nP w0 B F A rp g cap t M T c a u->_:=λc q=>nP.less q (show d<a.length by omega) (show i<a.length by omega) b;have I:=Bw (r.ne (show d<a.length by omega) (show i<a.length by omega) ω) (λh=>by rw[dY] at h;rw[decide_eq_false_iff_not] at b;exact b h);have E:=wI o (qC (jh A) x I) G C;have l:=χ E;clear r o C x b E k y p v I
     go_wp2_with (first|(((with_reducible refine(D _ j).mono ?_));rintro e K ⟨rfl,f⟩)|fail)
     go_ret;exact⟨i,rfl,a,u,f,l.out⟩
  .have O:(d:Int)≥(n:Int):=ω;have E:=wI o (BL ω ω) G C;have l:=χ (ψ r E);clear r o C E y p v;go_wp2;go_ret;exact⟨i,rfl,a,u,l.out.1,l.out.2⟩
end
structure FK(w:World)(B:HB)(F:List Nat)(A:NS)(rp:Nat)(v:Value)(L T:List Nat):Prop where
 hd:aQ w rp 302 2 (Ow B v)
 own:w.ownsRow 0 3 1 v L.length (aZ (cz L))
 AJ:IZ w B.ga T.length (cz T)
 Tp:w.cell? B.n0=some (B.c:V)
 Tj:w.cell? ⟨B.n0,2,none⟩=some (.slice (some B.ga) T.length T.length)
 Io:∃st,aD w B.c F A st
 s1:rp≠B.ga/\rp≠B.n0
 sg:∀g,v.ownBlock=some g->g≠rp/\g≠B.ga/\g≠B.n0/\g∉F
 s2:B.ga≠B.n0
 s3:rp∉F/\B.ga∉F/\B.n0∉F
 dom:∀x,x∈L->bY A (x:Int)=true/\x<T.length
 nd:L.Nodup
 xU:∀j x,L[j]?=some x->T.getD x 0=j
 tl:T.length<=65536
section
variable{w:World}{B:HB}{F:List Nat}{A:NS}{rp g cap:Nat}{v:Value}{L T:List Nat}
def FK.full(h:FK w B F A rp v L T)(c:0<L.length):∃g cap,v=.slice (some (g:Nat)) L.length cap/\pz w B F A rp g cap L T:=by
 have a:=h.own;rw[←dN] at a;obtain⟨g,cap,rfl,b, -⟩:=IZ.jd a (by rw[dN];exact c);have hs:=h.sg g rfl;rw[dN];refine⟨g,cap,rfl,?_,b,h.AJ,h.Tp,h.Tj,h.Io,⟨λe=>hs.1 e.symm,h.s1.1,h.s1.2⟩,⟨hs.2.1,hs.2.2.1,h.s2⟩,⟨h.s3.1,hs.2.2.2,h.s3.2.1,h.s3.2.2⟩,h.dom,h.nd,h.xU,h.tl⟩;have:=h.hd;rwa[dN] at this
def pz.any(h:pz w B F A rp g cap L T):FK w B F A rp (.slice (some (g:Nat)) L.length cap) L T:=by
 have a:=h.row.own;rw[dN] at a;refine⟨h.hd,a,h.AJ,h.Tp,h.Tj,h.Io,h.s1.2,λk b=>?_,h.s2.2.2,⟨h.s3.1,h.s3.2.2⟩,h.dom,h.nd,h.xU,h.tl⟩;cases b;exact⟨λe=>h.s1.1 e.symm,h.s2.1,h.s2.2.1,h.s3.2.1⟩
def FK.len(h:FK w B F A rp v L T):L.length<=65536:=by
 rcases Nat.eq_zero_or_pos L.length with e|e
 .omega
 .obtain⟨g,cap, -,a⟩:=h.full e;exact a.len
def FK.upd{w':World}{S:List Nat}(h:FK w B F A rp v L T)(a:ae S w w')(d:∀x,x∈S->x∉rp::B.ga::B.n0::(F++v.ownBlock.toList)):FK w' B F A rp v L T:=by
 have b:∀x,x∈rp::B.ga::B.n0::(F++v.ownBlock.toList)->x∉S:=λx c f=>d x f c;refine⟨h.hd.upd a (b _ σ),au h.own a (λk i=>b k (by grind)),h.AJ.upd a (b _ σ),a.kept h.Tp (b _ σ),a.kept h.Tj (b _ σ),?_,h.s1,h.sg,h.s2,h.s3,h.dom,h.nd,h.xU,h.tl⟩;obtain⟨st,e⟩:=h.Io;exact⟨st,e.upd a (λx c g=>d x c (by simp[g]))⟩
def FK.ag{w':World}(h:FK w B F A rp v L T)(a:ae [] w w'):FK w' B F A rp v L T:=h.upd a σ
def Rz(l:List Nat)(x:Nat):cz (l++[x])=cz l++[(x:Int)]:=by unfold cz;simp
def Vv{L T:List Nat}{x:Nat}(a:x∉L)(b:x<T.length)(h:∀j x,L[j]?=some x->T.getD x 0=j):∀j y,(L++[x])[j]?=some y->(T.set x L.length).getD y 0=j:=by
 grind
def ML(h:FK w B F A rp v L T)(x:Nat)(C:x∉L)(d:bY A (x:Int)=true)(Ti:x<T.length)(hl:L.length<T.length):
  Calls prog 277 #[(rp:Nat),.iface 3 (.int .i64 (x:Int))] w λe w'=>e=.returned (.tuple #[])/\∃g cap,pz w' B F A rp g cap (L++[x]) (T.set x L.length)/\ae (rp::B.ga::v.ownBlock.toList) w w'/\(v.ownBlock=some g\/w.heap.size<=g):=by
 have hle:=h.len;obtain⟨t,u,rfl,hcv⟩:=bz h.own;have c0:w.cell? (rp:Nat)=some (B.n0:V):=h.hd.cellAt 0 ω rfl;have O:w.cell? ⟨rp,1,none⟩=some (.slice t L.length u):=h.hd.cellAt 1 ω rfl;have n2:=h.Tj;have ct:w.cell? ⟨B.ga,x,none⟩=some (((T.getD x 0:Nat):Int):V):=by
  have:=h.AJ.cell x (by rw[dN];exact Ti);rwa[pJ] at this
 have ft:=h.AJ.free x;have fr:=h.hd.free 1;have P:=χ (ψ h (ψ C (ψ d Ti)));have Dy:(x:Int)<(T.length:Int):=ω;have J:=h.s1;clear h C d;generalize hn:L.length=n at *;generalize c:T.length=m at *;have r:=χ (ψ hn c);clear hn c;generalize T.getD x 0=tx at *;have Di:∀W:World,(Instr.typeAssert (.iface 3 (.int .i64 (x:Int))) 20 3 false).run prog W=.ok (.int .i64 (x:Int)) W:=λW=>by kernel_rfl
 go_enter func277,ntmps277
 go_upto_region 1 with(fail)
 go_cut [] (λW=>ae [] (w.setCell ⟨B.ga,x,none⟩ (.int .i64 (n:Int))) W)
 case first=>
  go_wp2
  go_region
  all_goals
   go_wp2
   go_meet
   first|exact⟨rfl,rfl,rfl,Θ _,λ_ _ _=>rfl⟩|exact ν
 case rest=>
 have Q:=hcut;clear hcut;rename World=>W;obtain⟨h,C,d,D⟩:=P.out;have p:ae [B.ga] w W:=ae.then β Q;have R:W.cell? ⟨rp,1,none⟩=some (.slice t n u):=p.kept O (by simp;exact J.1);have Ho:=p.ay O (by simp;exact J.1) fr;have I:IZ W B.ga m (cz (T.set x n)):=by
  rw[oK];have:=h.AJ;rw[r.out.2] at this;exact(this.set x _).upd Q σ
 have ho:W.ownsRow 0 3 1 (.slice t n u) n (aZ (cz L)):=by
  have:=au h.own p (λk X=>by simp;exact(h.sg k X).2.1);rwa[r.out.1] at this
 have HP:=χ (ψ p I);clear h C d p I c0 O n2 ct ft fr Q;have hrl:rp<W.heap.size:=Ε _ _ R
 go_wp2_with (((at_builtin;refine bD rfl _ _ 77 rfl 0 3 (.int .i64 0) 1 8 underlying77 gN rfl δ _ _ _ rfl (ho) [.int .i64 (x:Int)] rfl (by simp[Value.oneCell']) (by first|rfl|(rw[Κ];rfl)) μ ω (ω) ?_;intro v2 K G i I7);obtain⟨f,M,rfl,_,Y,_,hc3, -, -⟩:=fU G ω;(have S:¬(Value.slice t n u).ownBlock=some rp:=λe=>(P.out.1.sg rp e).1 rfl);(have U:=i.kept R (λc=>S (Option.mem_toList.1 c)));(have fr2:=i.ay R (λc=>S (Option.mem_toList.1 c)) Ho)))
 go_end0;obtain⟨h,C,d,D⟩:=P.out;obtain⟨p,I⟩:=HP.out;have hsz:=p.size;have H:(Value.slice t n u).ownBlock=some f\/w.heap.size<=f:=by
  rcases I7 with e|e
  .exact Α (e.symm.trans rfl)
  .exact Β (by have:=e f rfl;omega)
 have E:ae [rp] K (K.setCell ⟨rp,1,none⟩ (.slice (some (f:Nat)) (n+1) M)):=β;have q:ae (rp::B.ga::(Value.slice t n u).ownBlock.toList) w (K.setCell ⟨rp,1,none⟩ (.slice (some (f:Nat)) (n+1) M)):=((p.mono σ).trans (i.mono (λz s=>Λ _ (Λ _ s)))).trans (E.mono σ);have l:f≠rp/\f≠B.ga/\f≠B.n0/\f∉F:=by
  rcases H with e|e
  .exact h.sg f e
  .refine⟨λU=>?_,λU=>?_,λU=>?_,λc=>?_⟩
   .have:=h.hd.lt;omega
   .have:=h.AJ.lt;omega
   .have:=Ε _ _ h.Tp;dsimp only at this;omega
   .obtain⟨st,N⟩:=h.Io;have:=N.lt f c;omega
 have o:∀z,z∈rp::B.ga::(Value.slice t n u).ownBlock.toList->z≠B.n0/\z∉F:=λz s=>by
  simp only[ρ] at s;rcases s with rfl|rfl|s
  .exact⟨h.s1.2,h.s3.1⟩
  .exact⟨h.s2,h.s3.2.1⟩
  .have:=h.sg z (Option.mem_toList.1 s);exact⟨this.2.2.1,this.2.2.2⟩
 refine⟨rfl,f,M,⟨?_,?_,?_,q.kept h.Tp (λc=>(o _ c).1 rfl),?_,?_,⟨λe=>l.1 e.symm,h.s1⟩,⟨l.2.1,l.2.2.1,h.s2⟩,⟨h.s3.1,l.2.2.2,h.s3.2⟩,λy hy=>?_,?_,?_,?_⟩,q,H⟩
 .rw[υ,r.out.1];refine(((h.hd.upd p (by simp;exact J.1)).upd i (λc=>S (Option.mem_toList.1 c))).set 1 _).ext (λj hj=>?_);rcases(ω:j=0\/j=1) with rfl|rfl<;>rfl
 .refine⟨?_⟩;rw[Rz,υ,dN,r.out.1,dO];exact au G E (λk X=>by cases X;simp;exact l.1)
 .rw[Ι,r.out.2];exact(I.upd i (λc=>(h.sg B.ga (Option.mem_toList.1 c)).2.1 rfl)).upd E (by simp;exact λe=>J.1 e.symm)
 .rw[Ι];exact q.kept h.Tj (λc=>(o _ c).1 rfl)
 .obtain⟨st,N⟩:=h.Io;exact⟨st,N.upd q (λz s=>(o z s).2)⟩
 .rw[Ι];rcases τ.1 hy with e|e
  .exact h.dom y e
  .simp at e;subst e;exact⟨d,by rw[r.out.2];exact D⟩
 .rw[θ];exact⟨h.nd,σ,λa ha b Z e=>by simp at Z;subst Z;subst e;exact C ha⟩
 .have:=Vv C (by rw[r.out.2];exact D) h.xU;rwa[r.out.1] at this
 .rw[Ι];exact h.tl
end
section
variable{w:World}{B:HB}{F:List Nat}{A:NS}{rp g cap:Nat}{v:Value}{L T M:List Nat}
def E5(x:Nat)(h:pz w B F A rp g cap (M++[x]) T):
  Calls prog 276 #[(rp:Nat)] w λe w'=>e=.returned (.iface 3 (.int .i64 (x:Int)))/\FK w' B F A rp (.slice (some (g:Nat)) M.length cap) M T/\ae [rp] w w':=by
 have q:=h.h1;have r:=h.len;have C:=h.JK M.length σ;have ex:(M++[x]).getD M.length 0=x:=by simp[φ]
 rw[ex] at C;have fr:=h.hd.free 1;have d:=h.capb;rw[υ,List.length_singleton] at q r d;have a:=h.s1;have D:Hid (∀W,ae [] (w.setCell ⟨rp,1,none⟩ (.slice (some (g:Nat)) M.length cap)) W->FK W B F A rp (.slice (some (g:Nat)) M.length cap) M T/\ae [rp] w W):=by
  intro W p;have b:ae [rp] w W:=ae.then β p;have i:=h.s3;have s:=h.row.own;rw[dN] at s;have t:=Kz s (k:=M.length) σ;rw[Cm,Bi,List.take_left'  rfl] at t;refine⟨⟨?_,au t b (λk m=>by cases m;simp;exact λe=>a.1 e.symm),h.AJ.upd b (by simp;exact λe=>a.2.1 e.symm),b.kept h.Tp (by simp;exact λe=>a.2.2 e.symm),b.kept h.Tj (by simp;exact λe=>a.2.2 e.symm),?_,a.2,λk m=>?_,h.s2.2.2,⟨i.1,i.2.2⟩,λy J=>h.dom y (τ.2 (Α J)),(θ.1 h.nd).1,λj y o=>h.xU j y ?_,h.tl⟩,b⟩
  .refine(((h.hd.set 1 _).ext (λj o=>?_)).upd p σ);rcases(ω:j=0\/j=1) with rfl|rfl<;>rfl
  .obtain⟨st,v⟩:=h.Io;exact⟨st,v.upd b (λz u K=>by simp at u;subst u;exact i.1 K)⟩
  .cases m;exact⟨λe=>a.1 e.symm,h.s2.1,h.s2.2.1,i.2.1⟩
  .obtain⟨l,_⟩:=List.getElem?_eq_some_iff.1 o;rw[Ρ l];exact o
 clear h ex;generalize M.length=n at *;have E:(n:Int)<(cap:Int):=ω;have G:IntKind.i64.wrap (n:Int)=(n:Int):=Μ _ ω;obtain⟨f,c⟩:∃f,f=n+1:=⟨_,rfl⟩;rw[←c] at q r d;have H:(f:Int)-1=(n:Int):=ω;have I:(n:Int)<(f:Int):=ω;clear c
 go_enter func276,ntmps276
 go_wp2
 go_region
 all_goals
  go_wp2
  go_region
  all_goals
   go_wp2;go_ret;refine⟨rfl,D.out _ ?_⟩
   first|exact⟨rfl,rfl,rfl,Θ _,λ_ _ _=>rfl⟩|exact ν
def PuE(w0:World)(B:HB)(F:List Nat)(A:NS)(rp:Nat)(v:Value)(L T:List Nat)(x:Nat)(w:World):Prop:=∃g cap L' T',pz w B F A rp g cap L' T'/\L'.Perm (x::L)/\Hp (om A) 2 L'/\(∀y,y∉x::L->T'.getD y 0=T.getD y 0)/\T'.length=T.length/\ae (rp::B.ga::B.c::v.ownBlock.toList) w0 w/\(v.ownBlock=some g\/w0.heap.size<=g)
def Eh(h:FK w B F A rp v L T)(x:Nat)(C:x∉L)(k:bY A (x:Int)=true)(D:x<T.length)(E:L.length<T.length)(G:Hp (om A) 2 L):
  Calls prog 269 #[.iface 298 (.pointer (some (rp:Nat))),.iface 3 (.int .i64 (x:Int))] w λe w'=>e=.returned (.tuple #[])/\PuE w B F A rp v L T x w':=by
 have U:=YO rp;have W:=NB rp;have K:=h.len;have M:=ML h x C k D E;have N:∀a g cap,pz a B F A rp g cap (L++[x]) (T.set x L.length)->ae (rp::B.ga::v.ownBlock.toList) w a->(v.ownBlock=some g\/w.heap.size<=g)->Calls prog 272 #[.iface 298 (.pointer (some (rp:Nat))),(L.length:Int)] a λe w'=>e=.returned (.tuple #[])/\PuE w B F A rp v L T x w':=by
  intro a g cap m d u;obtain⟨r,s⟩:=Hp.snoc (x:=x) G (jh A) ω;have O:nP a B F A rp g cap [] (L++[x]) (T.set x L.length) a (L++[x]) (T.set x L.length):=nP.start (by rw[Υ];exact m);have t:(L++[x]).getD L.length 0=x:=by simp[φ]
  refine(CK O L.length r (by rw[t];exact s)).mono ?_;rintro e w' ⟨rfl,H,I,b,o⟩;have i:=b.pi;rw[Υ] at i;refine⟨rfl,g,cap,H,I,i,b.perm.trans Φ,o,λy l=>?_,by rw[b.tl,Ι],(d.mono (λz j=>?_)).joined b.upd (λz j=>?_),u⟩
  .simp only[ρ,not_or] at l;rw[b.off y (by simp[l.1,l.2]),gT,Γ (λe=>l.1 e.1)]
  .simp only[ρ] at j ⊢;rcases j with c|c|c
   .exact Α c
   .exact Β (Α c)
   .exact Β (Β (Β c))
  .simp only[ρ,ς,or_false] at j ⊢;rcases j with c|c|c
   .rcases u with e|e
    .left;right;right;right;rw[c];exact Option.mem_toList.2 e
    .right;omega
   .exact Α (Β (Α c))
   .exact Α (Β (Β (Α c)))
 have P:∀a g cap,pz a B F A rp g cap (L++[x]) (T.set x L.length)->Calls prog 270 #[(rp:Nat)] a λe w'=>e=.returned (.int .i64 ((L.length:Int)+1))/\w'=a:=λa g cap m=>by
  have:=zk m;rw[υ,List.length_singleton] at this;exact this
 clear h C k D E G;generalize L.length=n at *;have Q:(n:Int)+1-1=(n:Int):=ω
 go_enter func269,ntmps269
 go_wp2_with (first
  |(((with_reducible refine M.mono ?_));rintro e a ⟨rfl,g,cap,f,d,p⟩)
  |(((with_reducible refine(P _ _ _ f).mono ?_));rintro e R ⟨rfl,q⟩;subst q)
  | (((with_reducible refine (N _ _ _ f d p).mono ?_));rintro e S ⟨rfl,J⟩))
 go_end0;exact⟨rfl,J⟩
def Xb(h:pz w B F A rp g cap L T)(i:Nat)(o:fI (om A) 2 L i):
  Calls prog 267 #[.iface 298 (.pointer (some (rp:Nat))),(i:Int)] w λe w'=>e=.returned (.tuple #[])/\∃L' T',nP w B F A rp g cap [] L T w' L' T'/\Hp (om A) 2 L':=by
 have C:=NB rp;have k:nP w B F A rp g cap [] L T w L T:=nP.start (by rw[Υ];exact h);have s:=zk h;have kd:=BA k i L.length rfl o;have t:∀l a d,nP w B F A rp g cap [] L T l a d->Og A i false a->_:=λl a d u m=>CK u i (m.2 rfl).1 (m.2 rfl).2;unfold Pn at kd;clear h o k;generalize L.length=n at *
 go_enter func267,ntmps267
 go_wp2_with (first
  |(((with_reducible refine s.mono ?_));rintro e x ⟨rfl,rfl⟩)
  |(((with_reducible refine kd.mono ?_));rintro e y ⟨p,rfl,a,d,b,c⟩;generalize decide (i<p)=v at *;cases v)
  | (((with_reducible refine (t _ _ _ b c).mono ?_));rintro e z ⟨rfl,q,r,f,j⟩))
 .go_end0;exact⟨rfl,q,r,f,j⟩
 .go_end0;exact⟨rfl,a,d,b,c.1 rfl⟩
def BN{l:List Nat}{n:Nat}(h:l.length=n+1):l=l.take n++[l.getD n 0]:=by
 have a:n<l.length:=ω;have b:=List.take_append_drop n l;rw[Ϝ a,List.drop_eq_nil_of_le ω] at b
 grind
def ReE(w0:World)(B:HB)(F:List Nat)(A:NS)(rp g cap:Nat)(L T:List Nat)(x:Nat)(w:World):Prop:=∃L' T',FK w B F A rp (.slice (some g) L'.length cap) L' T'/\(x::L').Perm L/\Hp (om A) 2 L'/\(∀y,y∉L->T'.getD y 0=T.getD y 0)/\T'.length=T.length/\ae [rp,g,B.ga,B.c] w0 w
def J3(h:pz w B F A rp g cap L T)(i x:Nat)(O:L[i]?=some x)(P:Hp (om A) 2 L):
  Calls prog 268 #[.iface 298 (.pointer (some (rp:Nat))),(i:Int)] w λe w'=>e=.returned (.iface 3 (.int .i64 (x:Int)))/\ReE w B F A rp g cap L T x w':=by
 have m1:=GR rp;have m2:=NB rp;have m3:=aa9 rp;have u:=zk h;have E:=h.len;obtain⟨s,D⟩:=List.getElem?_eq_some_iff.1 O;obtain⟨n,t⟩:∃n,L.length=n+1:=⟨L.length-1,ω⟩;have l:L.getD i 0=x:=by rw[φ,O];rfl
 by_cases Z:i=n
 .subst Z;have hs:=BN t;rw[l] at hs;have U:=h;rw[hs] at U;have N:=E5 x U;have G:Hp (om A) 2 (L.take i):=P.take ω;have hp:(x::L.take i).Perm L:=by
   conv=>rhs;rw[hs]
   exact(Φ (l₁:=[x]))
  have HQ:=χ (ψ G hp);rw[t] at u E;have W:(i:Int)+1-1=(i:Int):=ω;have X:IntKind.i64.wrap (i:Int)=(i:Int):=Μ _ ω;rw[show((i+1:Nat):Int)=(i:Int)+1 from rfl] at u;clear U hs P G hp O D l h s t;have Y:((i:Int) != (i:Int))=false:=σ
  go_enter func268,ntmps268
  go_wp2_with (first
   |(((with_reducible refine u.mono ?_));rintro e d ⟨rfl,rfl⟩)
   | (((with_reducible refine N.mono ?_));rintro e r ⟨rfl,m,c⟩))
  go_ret;exact⟨rfl,_,T,m,HQ.out.2,HQ.out.1,λ_ _=>rfl,rfl,c.mono σ⟩
 .have hil:i<n:=ω;have j:n<L.length:=ω;have ks:=Co h i n s j ω;have q:(gZ L i n).length=n+1:=by rw[lH,t]
  have hs:=BN q;rw[ni s j,Δ rfl,l] at hs;obtain⟨M,k⟩:∃M,M=(gZ L i n).take n:=⟨_,rfl⟩;rw[←k] at hs;have H:M.length=n:=by rw[k,Ϗ,q];omega
  have I:M=(L.take n).set i (L.getD n 0):=by
   rw[k];unfold gZ;rw[List.take_set_of_le (Θ _),List.take_set]
  have J:fI (om A) 2 M i:=by
   rw[I];exact((P.take ω).hole (jh A) ω (by rw[Ϗ];omega)).any ω _
  have hp:(M++[x]).Perm L:=by rw[←hs];exact xM s j ω
  have kd:∀a,pz a B F A rp g cap (gZ L i n) (DJ T L i n)->Calls prog 271 #[.iface 298 (.pointer (some (rp:Nat))),(i:Int),(n:Int)] a λe w'=>∃K,e=.returned (.bool (decide (i<K)))/\Pn a B F A rp g cap [x] M (DJ T L i n) w' i K:=λa v=>by
   rw[hs] at v;exact BA (nP.start v) i n H.symm J
  have ku:∀a d b f,nP a B F A rp g cap [x] M (DJ T L i n) d b f->Og A i false b->_:=λa d b f v o=>CK v i (o.2 rfl).1 (o.2 rfl).2;have N:∀a d b f,nP a B F A rp g cap [x] M (DJ T L i n) d b f->_:=λa d b f v=>E5 x v.pi;unfold Pn at kd;have HE:Hid (∀a d r b f,ae [g,B.ga] w a->nP a B F A rp g cap [x] M (DJ T L i n) d b f->Hp (om A) 2 b->FK r B F A rp (.slice (some (g:Nat)) b.length cap) b f->ae [rp] d r->ReE w B F A rp g cap L T x r):=by
   intro a d r b f Q o R h3 c;refine⟨b,f,h3,?_,R,λy hy=>?_,by rw[o.tl,wG],((Q.mono σ).trans (o.upd.mono σ)).trans (c.mono σ)⟩
   .exact(Φ (l₁:=[x])).trans ((o.perm.append_right [x]).trans hp)
   .rw[o.off y (λhm=>hy (hp.mem_iff.1 hm)),O0 s j hy]
  rw[t] at u E;have W:(n:Int)+1-1=(n:Int):=ω;have X:IntKind.i64.wrap (n:Int)=(n:Int):=Μ _ ω;rw[show((n+1:Nat):Int)=(n:Int)+1 from rfl] at u;clear k H I J hp hs q j O D l h s t P;have Y:((n:Int) != (i:Int))=true:=ζ;generalize gZ L i n=b at *;generalize DJ T L i n=f at *
  go_enter func268,ntmps268
  go_wp2_with (first
   |(((with_reducible refine u.mono ?_));rintro e d ⟨rfl,rfl⟩)
   |(((with_reducible refine ks.mono ?_));rintro e r ⟨rfl,m,c⟩)
   |(((with_reducible refine(kd _ m).mono ?_));rintro e w4 ⟨K,rfl,L4,T4,p,z⟩;generalize decide (i<K)=bd at *;cases bd)
   |(((with_reducible refine(ku _ _ _ _ p z).mono ?_));rintro e w5 ⟨rfl,L5,T5,NV,S⟩)
   | ((go_at_call 276;(with_reducible first|refine (N _ _ _ _ NV).mono ?_|refine (N _ _ _ _ p).mono ?_));rintro e w6 ⟨rfl,C,iD⟩))
  .go_ret;exact⟨rfl,HE.out _ _ _ _ _ c NV S C iD⟩
  .go_ret;exact⟨rfl,HE.out _ _ _ _ _ c p (z.1 rfl) C iD⟩
end
structure nX(R:Nat->Nat->Prop)(d:Nat)(L:List Nat)(i k b:Nat):Prop where
 b0:∃q,b=d*i+q/\1<=q/\q<k
 lt:b<L.length
 all:∀q,1<=q->q<k->d*i+q<L.length->d*i+q≠b->R (L.getD b 0) (L.getD (d*i+q) 0)
def nX.one{R:Nat->Nat->Prop}{d:Nat}{L:List Nat}{i:Nat}(h:d*i+1<L.length):nX R d L i 2 (d*i+1):=
 ⟨⟨1,rfl,ω,ω⟩,h,λq b c _ a=>absurd (show d*i+q=d*i+1 by omega) a⟩
def nX.end{R:Nat->Nat->Prop}{d:Nat}{L:List Nat}{i k b:Nat}(h:nX R d L i k b)(g:2<=d)(o:k=d+1):tQ R d L i b:=by
 obtain⟨q,rfl,m,n⟩:=h.b0;have hp:=(vQ (i:=i) (j:=d*i+q) g).2 ω;refine⟨hp.1,h.lt,hp.2,λj l f c a=>?_⟩;have:=(vQ g).1 ⟨l,c⟩;have e:j=d*i+(j-d*i):=ω;rw[e] at f a ⊢;exact h.all _ ω ω f a
def nX.stay{R:Nat->Nat->Prop}{d:Nat}{L:List Nat}{i k b:Nat}(h:nX R d L i k b)(l:d*i+k<L.length->R (L.getD b 0) (L.getD (d*i+k) 0)):nX R d L i (k+1) b:=by
 obtain⟨q,f,g,m⟩:=h.b0;refine⟨⟨q,f,g,ω⟩,h.lt,λa g1 g2 c j=>?_⟩
 by_cases e:a=k
 .subst e;exact l c
 .exact h.all a g1 ω c j
def nX.turn{R:Nat->Nat->Prop}{d:Nat}{L:List Nat}{i k b:Nat}(n:∀a b c,R a b->R b c->R a c)(h:nX R d L i k b)(o:1<=k)(p:d*i+k<L.length)(j:R (L.getD (d*i+k) 0) (L.getD b 0)):nX R d L i (k+1) (d*i+k):=by
 refine⟨⟨k,rfl,o,ω⟩,p,λf g1 g2 l m=>?_⟩;have e:f≠k:=λe=>m (by rw[e])
 by_cases g:d*i+f=b
 .rw[g];exact j
 .exact n _ _ _ j (h.all f g1 ω l g)
def Lu(O:iy){w:World}{rp mb g cap d:Nat}{f:Int->Option Int}{L:List Nat}(T:O.at_ w)(h:wV w rp mb g cap d f L)(hd:2<=d/\d<=16)(hl:L.length<=65536)(i x:Nat)(hi:i<L.length)
  (Q:(L.set i x).Nodup) (l:∀y,y∈L.set i x->O.dom y) (F:QT O rp mb g):
  Calls prog 156 #[rp,.iface O.ty (.pointer (some O.p)),(i:Int)] w λe w'=>∃(c:Nat),e=.returned (.tuple #[(c:Int),.bool (decide (d*i+1<L.length))])/\O.On w w'/\(d*i+1<L.length->tQ O.R d L i c):=by
 have R:=λk (hk:1<=k/\k<=d) W=>QZ d i k hd ω hk W;have r:=R 1 ⟨ω,ω⟩;rw[show((1:Nat):Int)=1 from rfl] at r;have c0:=h.h0;have Y:=h.h1;have s:=F.wr;have HX:=χ (ψ T (ψ h (ψ Q (ψ l hd))));generalize M:L.length=n at *;have D:=χ M;clear h T Q l F M
 by_cases hz:n<=d*i+1
 .rw[Ξ (show ¬d*i+1<n by omega)];have G:decide (((d*i+1:Nat):Int)≥(n:Int))=true:=ζ;have H:=χ hz;clear hz R;generalize d * i+1=c at *
  go_enter func156,ntmps156
  have hnc:n<=c:=H.out
  go_wp2_with ((((with_reducible refine(r _).mono ?_));rintro e q ⟨rfl,a⟩;(have Y:=a.was Y)))
  go_ret2;exact⟨0,rfl,⟨O.upd HX.out.1 a σ,a.mono σ⟩,λh=>by have:=H.out;omega⟩
 .rw[Ν (show d*i+1<n by omega)];have G:decide (((d*i+1:Nat):Int)≥(n:Int))=false:=ζ;have H:=χ (show d*i+1<n by omega);clear hz;have HC:=χ (show d*i+1=d*i+1 from rfl)
  revert HC H G r
  generalize E:d*i+1=c0';intro r G H _;have HC:=χ E;have hnc:¬n<=c0':=by have:=H.out;omega
  go_enter func156,ntmps156
  clear E
  go_wp2_with ((((with_reducible refine(r _).mono ?_));rintro e q ⟨rfl,a⟩;(have Y:=a.was Y)))
  go_loopw [8,10,11,12] (λbv kv _ _ wr=>∃(b k:Nat),2<=k/\k<=d+1/\bv=.int .i64 (b:Int)/\kv=.int .i64 (k:Int)/\nX O.R d L i k b/\O.On w wr) (λ_ kv _ _ _=>d+1-(intOf kv).toNat)
  case atStart=>exact⟨c0',2,ω,ω,rfl,rfl,by rw[←HC.out];exact nX.one (by have:=H.out;have:=D.out;have:=HC.out;omega),O.upd HX.out.1 a σ,a.mono σ⟩
  case round=>
   clear a Y;obtain⟨b,k,hk1,I,rfl,rfl,o,j⟩:=hrel;rename World=>wr;obtain⟨T,h,Q,l,hd⟩:=HX.out;have S:=h.upd j.upd s.1 s.2.1 s.2.2;have q0:=S.h0;have Z:=S.h1
   by_cases hkd:k<=d
   .have hkd':(k:Int)<=(d:Int):=ω;have kc2:=R k ⟨ω,hkd⟩;have hwk:IntKind.i64.wrap ((k:Int)+1)=(k:Int)+1:=Μ _ ω;rw[D.out] at Z
    by_cases m:d*i+k<n
    .have J:d*i+k≠i:=by
      have:i<=d*i:=Nat.le_mul_of_pos_left _ ω;omega
     obtain⟨qb,X4,U,X⟩:=o.b0;have t:=o.lt;have K:b≠i:=by
      have:i<=d*i:=Nat.le_mul_of_pos_left _ ω;omega
     have hdc:=l _ (rZ (x:=x) (show d*i+k<L.length by rw[D.out];exact m) J);have hdb:=l _ (rZ (x:=x) t K);have p:L.getD (d*i+k) 0≠L.getD b 0:=λe=>by
      have h1:(L.set i x)[d*i+k]?=some (L.getD b 0):=by rw[List.getElem?_set_ne (λe=>J e.symm),←e,φ,ε (by rw[D.out];exact m)];rfl
      have h2:(L.set i x)[b]?=some (L.getD b 0):=by rw[List.getElem?_set_ne (λe=>K e.symm),φ,ε t];rfl
      obtain⟨g1,e1⟩:=List.getElem?_eq_some_iff.1 h1;obtain⟨g2,e2⟩:=List.getElem?_eq_some_iff.1 h2;have:=(List.getElem_inj Q).1 (e1.trans e2.symm);omega
     have d1:=S.cell (d*i+k) (by rw[D.out];exact m);have d2:=S.cell b t;have HY:=χ (ψ o (ψ j (ψ p (ψ m I))));have hgL:decide (((d*i+k:Nat):Int)<(n:Int))=true:=ζ;have hcI:((d*i+k:Nat):Int)<(n:Int):=ω;have hbI:(b:Int)<(n:Int):=by rw[D.out] at t;omega
     have RB:=s.1;have hgw:=s.2.2;have hat:=j.at_;have C:k+1<=d+1:=ω;clear o j X4 U X t K m J T h Q l S p R;generalize u:d * i+k=c at *;generalize hx1:L.getD c 0=xc at *;generalize hx2:L.getD b 0=xb at *;have A:=χ (ψ u (ψ hx1 hx2));clear u hx1 hx2
     go_upto_region 8 with((((with_reducible refine(kc2 _).mono ?_));rintro e q ⟨rfl,a⟩))
     have B:O.On q q:=.start (O.upd hat a σ);have cp1:∀W,O.On q W->W.cell? ⟨g,c,none⟩=some ((xc:Int):V):=λW N=>N.upd.kept (a.was d1) hgw;have cb1:∀W,O.On q W->W.cell? ⟨g,b,none⟩=some ((xb:Int):V):=λW N=>N.upd.kept (a.was d2) hgw;have cg1:∀W,O.On q W->W.cell? ⟨rp,1,none⟩=some (.slice (some g) n cap):=λW N=>N.upd.kept (a.was Z) RB;have hm:∀W,O.On q W->_:=λW N=>O.X3 N.at_;have M:=O.Z5;have hen:=O.ent;unfold Enters at hen
     go_region_held3 (O.On q) (first|assumption|exact B|(refine iy.On.drew ?_;first|assumption|exact B)|(refine iy.On.drewN ?_ _;first|assumption|exact B))
      (first
       | ((with_reducible refine (O.ask xc xb (iy.On.at_ (w0:=q) (by first|assumption|exact B|(refine iy.On.drew ?_;first|assumption|exact B)|(refine iy.On.drewN ?_ _;first|assumption|exact B))) hdc hdb).mono ?_);rintro e w5 ⟨rfl,DT,dD⟩;(have xu:O.On q w5:=iy.On.asked (by first|assumption|exact B|(refine iy.On.drew ?_;first|assumption|exact B)|(refine iy.On.drewN ?_ _;first|assumption|exact B)) DT dD)))
     have HZ2:=χ (a.mono (σ:∀z,z∈[]->z∈O.wr) |>.trans xu.upd);have HO5:=χ xu.at_;clear cp1 cb1 cg1 hm B xu dD DT d1 d2 q0 Z;cases P:O.lt xc xb with
     |false=>
      go_wp2
      go_roundw
      case rel=>
       obtain⟨o,j,p,m,I⟩:=HY.out;refine⟨b,k+1,ω,C,rfl,by go_num,o.stay (λ_=>?_),HO5.out,j.upd.trans HZ2.out⟩;rw[A.out.1,A.out.2.1,A.out.2.2];rcases O.total xc xb (λe=>by rw[e] at p;exact p rfl) with e|e
       .rw[e] at P;cases P
       .exact e
      case measure=>simp[intOf];omega
     |true=>
      go_wp2
      go_roundw
      case rel=>
       obtain⟨o,j,p,m,I⟩:=HY.out;refine⟨c,k+1,ω,C,rfl,by go_num,?_,HO5.out,j.upd.trans HZ2.out⟩;have ht:=o.turn O.tr ω (by rw[A.out.1,D.out];exact m) (by rw[A.out.1,A.out.2.1,A.out.2.2];exact P);rw[A.out.1] at ht;exact ht
      case measure=>simp[intOf];omega
    .have hgL:decide (((d*i+k:Nat):Int)<(n:Int))=false:=ζ;have HY:=χ (ψ o (ψ j m));have C:k+1<=d+1:=ω;clear o j m T h Q l S R;generalize u:d * i+k=c at *;have A:=χ u;clear u;have hgN:decide (c<n)=false:=by simp at hgL ⊢;omega
     go_upto_region 8 with((((with_reducible refine(kc2 _).mono ?_));rintro e q ⟨rfl,a⟩;(have Z:=a.was Z);(have q0:=a.was q0)))
     go_quiet (fail)
     go_wp2
     go_roundw
     case rel=>
      obtain⟨o,j,m⟩:=HY.out;exact⟨b,k+1,ω,C,rfl,by go_num,o.stay (λh=>absurd h (by have:=D.out;have:=A.out;omega)),O.upd j.at_ (a.drewN nq) σ,j.upd.trans ((a.drewN nq).mono σ)⟩
     case measure=>simp[intOf];omega
   .have hkd':¬(k:Int)<=(d:Int):=ω;clear R;go_wp2;exact bodyPost_ret (v:=.tuple #[(b:Int),true]) (by simp[results,results156,go_sem]) rfl ⟨b,rfl,j,λ_=>o.end hd.1 ω⟩
def R9(O:iy){w:World}{rp mb g cap d:Nat}{f:Int->Option Int}{L:List Nat}(E:O.at_ w)(h:wV w rp mb g cap d f L)(B:2<=d/\d<=16)(hl:L.length<=65536)(i x:Nat)(q:fI O.R d L i)(s:nQ f L i x)
  (hn:(L.set i x).Nodup) (N:∀y,y∈L.set i x->O.dom y) (h16:∀y,y∈L.set i x->y<=65536) (P:QT O rp mb g) (t:i=0\/O.R (L.getD (par d i) 0) x):
  Calls prog 147 #[rp,.iface O.ty (.pointer (some O.p)),(i:Int),(x:Int)] w λe w'=>∃(f':Int->Option Int) (L':List Nat),e=.returned (.tuple #[])/\wV w' rp mb g cap d f' L'/\xN f' L'/\L'.Perm (L.set i x)/\O.at_ w'/\ae (g::mb::O.wr) w w'/\Hp O.R d L':=by
 have hi0:=q.lt;have hxm:x∈L.set i x:=Η (show(L.set i x)[i]?=some x by simp[hi0]);have hdx:=N x hxm;have hxl:=h16 x hxm;have M:=χ (ψ hn (ψ N (ψ h16 (ψ P B))));have n:=P.wr
 go_enter func147,ntmps147
 go_wp2
 go_loopw [2,8,9] (λiv _ _ wr=>∃(Y:Nat) (f':Int->Option Int) (L':List Nat),iv=.int .i64 (Y:Int)/\wV wr rp mb g cap d f' L'/\fI O.R d L' Y/\nQ f' L' Y x/\L'.length=L.length/\(L'.set Y x).Perm (L.set i x)/\O.at_ wr/\ae (g::mb::O.wr) w wr/\(Y=0\/O.R (L'.getD (par d Y) 0) x)) (λiv _ _ _=>L.length-(intOf iv).toNat)
 case atStart=>exact⟨i,f,L,rfl,h,q,s,rfl,ό _,E,ae.refl _ _,t⟩
 case round=>
  clear h q s E t;obtain⟨D,f1,r,rfl,h,q,s,m,a,E,F,t⟩:=hrel;rename World=>wr;have o:=q.lt;have j:(r.set D x).Nodup:=a.nodup_iff.2 M.out.1;have U:=Lu O E h B ω D x o j (λy k=>M.out.2.1 y (a.mem_iff.1 k)) M.out.2.2.2.1;have ks:=λW (K:ae O.wr wr W)=>uM (h.upd K n.1 n.2.1 n.2.2) D x o hxl ω;have RB:=n.1;have hgw:=n.2.2;have hcg:=h.h1;have hlt:=h.lt
  by_cases G:d*D+1<r.length
  .rw[Ν G] at U;have A:=λc b=>h.cell c b;have hdl:=λc (b:tQ O.R d r D c)=>M.out.2.1 (r.getD c 0) (a.mem_iff.1 (rZ b.lt (by have:=fw B.1 b.c0;have:=b.pc;omega)));have I:=λc (b:tQ O.R d r D c) W (K:ae O.wr wr W)=>uM (h.upd K n.1 n.2.1 n.2.2) D (r.getD c 0) o (M.out.2.2.1 _ (a.mem_iff.1 (rZ b.lt (by have:=fw B.1 b.c0;have:=b.pc;omega)))) ω;have HF:=χ (ψ q (ψ s (ψ j (ψ a (ψ E (ψ t (ψ F (ψ m (ψ G h)))))))));clear q s j a t F m h
   go_upto_region 1 with((((with_reducible refine U.mono ?_));rintro e C ⟨c,rfl,u,Z⟩))
   have b:=Z G;have hcl:=b.lt;have hcI:(c:Int)<(r.length:Int):=ω;have hdc:=hdl c b;have hcc:=A c hcl;have I:=I c b;have HC:=χ (ψ b u);clear A hdl b Z G U;generalize k:r.getD c 0=y at *;have H:O.On C C:=.start u.at_;have cp1:∀W,O.On C W->W.cell? ⟨g,c,none⟩=some ((y:Int):V):=λW K=>K.upd.kept (u.upd.kept hcc hgw) hgw;have cg1:∀W,O.On C W->W.cell? ⟨rp,1,none⟩=some (.slice (some g) r.length cap):=λW K=>K.upd.kept (u.upd.kept hcg RB) RB;have hm:∀W,O.On C W->_:=λW K=>O.X3 K.at_;have hnl:=O.Z5;have hen:=O.ent
   unfold Enters at hen
   go_region_held3 (O.On C) (first|assumption|exact H|(refine iy.On.drew ?_;first|assumption|exact H)|(refine iy.On.drewN ?_ _;first|assumption|exact H))
    (first
     | ((with_reducible refine (O.ask y x (iy.On.at_ (w0:=C) (by first|assumption|exact H|(refine iy.On.drew ?_;first|assumption|exact H)|(refine iy.On.drewN ?_ _;first|assumption|exact H))) hdc hdx).mono ?_);rintro e S ⟨rfl,DT,T⟩;(have xu:O.On C S:=iy.On.asked (by first|assumption|exact H|(refine iy.On.drew ?_;first|assumption|exact H)|(refine iy.On.drewN ?_ _;first|assumption|exact H)) DT T)))
   have X:ae O.wr wr S:=HC.out.2.upd.trans xu.upd;have J:=ks S X;have ks6:=I S X;have HY:=χ (ψ k (ψ xu.at_ X));have cp5:=cp1 S xu;have cg5:=cg1 S xu;clear ks I cp1 cg1 hm H xu T DT E hcc hcg u;cases R:O.lt y x with
   |false=>
    clear ks6
    go_wp2_with ((((with_reducible refine J.mono ?_));rintro e w2 ⟨rfl,hR,l⟩))
    obtain⟨q,s,j,a,E,t,F,m,G,h⟩:=HF.out;obtain⟨k,z,T⟩:=HY.out;obtain⟨b,u⟩:=HC.out;have hne:r.getD c 0≠x:=Oj o b.lt (by have:=fw B.1 b.c0;have:=b.pc;omega) j;have hxc:O.R x (r.getD c 0):=by
     rcases O.total x (r.getD c 0) (λe=>hne e.symm) with e|e
     .exact e
     .rw[k] at e;rw[e] at R;cases R
    exact bodyPost_ret (v:=.tuple #[]) (by simp[results,results147,go_sem]) rfl ⟨_,_,rfl,hR,s.fill o j,a,O.upd z l (λy k=>by have:=M.out.2.2.2.1;simp at k;rcases k with rfl|rfl;exact this.c;exact this.b),(F.trans (T.mono (by simp +contextual))).trans (l.mono (by simp +contextual)),q.fill B.1 (qC O.tr b hxc) t⟩
   |true=>
    clear J
    go_wp2_with ((((with_reducible refine ks6.mono ?_));rintro e w2 ⟨rfl,hR,l⟩))
    go_roundw
    case rel=>
     obtain⟨q,s,j,a,E,t,F,m,G,h⟩:=HF.out;obtain⟨k,z,T⟩:=HY.out;obtain⟨b,u⟩:=HC.out;have hci:D<c:=by have:=fw B.1 b.c0;have:=b.pc;omega
     have Q:=q.down O.tr B.1 b (x:=x) (by rw[k];exact R);rw[k] at Q;have hmv:=s.move o (p:=c) b.lt ω j;rw[k] at hmv;have hpr:=zF (L:=r) (i:=D) (p:=c) (x:=x) o b.lt ω;rw[k] at hpr;exact⟨c,_,_,rfl,hR,Q.1,hmv,by rw[Ι];exact m,hpr.trans a,O.upd z l (λy k=>by have:=M.out.2.2.2.1;simp at k;rcases k with rfl|rfl;exact this.c;exact this.b),(F.trans (T.mono (by simp +contextual))).trans (l.mono (by simp +contextual)),Β Q.2⟩
    case measure=>
     have hci:D<c:=by have b:=HC.out.1;have:=fw B.1 b.c0;have:=b.pc;omega
     have:=HF.out.2.2.2.2.2.2.2.1;simp[intOf];omega
  .rw[Ξ G] at U;have HF:=χ (ψ q (ψ s (ψ j (ψ a (ψ E (ψ t (ψ F (ψ m G))))))));clear q s j a t F m h G
   go_upto_region 1 with((((with_reducible refine U.mono ?_));rintro e C ⟨c,rfl,u, -⟩))
   go_quiet (fail)
   have X:ae O.wr wr (C.drewN nq):=(u.drewN nq).upd;have z:=(u.drewN nq).at_;have J:=ks _ X;clear ks U u
   go_wp2_with ((((with_reducible refine J.mono ?_));rintro e w2 ⟨rfl,hR,l⟩))
   obtain⟨q,s,j,a,E,t,F,m,G⟩:=HF.out;exact bodyPost_ret (v:=.tuple #[]) (by simp[results,results147,go_sem]) rfl ⟨_,_,rfl,hR,s.fill o j,a,O.upd z l (λy k=>by have:=M.out.2.2.2.1;simp at k;rcases k with rfl|rfl;exact this.c;exact this.b),(F.trans (X.mono (by simp +contextual))).trans (l.mono (by simp +contextual)),q.fill B.1 (BL B.1 ω) t⟩
