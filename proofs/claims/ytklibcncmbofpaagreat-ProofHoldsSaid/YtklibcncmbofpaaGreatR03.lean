/-
  Lemmas for ProofHolds: PrP, PrP2, PrP3, Dij, Edg, Idx, Grf, Grg, PrP4. Conditions: those of each lemma.
-/
import Derived.Deep.Slices
import Derived.Deep.Strs
import Derived.Lib.Mul64
import Derived.Laws.Bits64b
import Derived.IntWalk
import Derived.Test.YtklibcncmbofpaaGreatR02
set_option linter.all false
set_option maxHeartbeats 8000000
set_option maxRecDepth 10000
namespace Go.Proofs.YtklibcncmbofpaaGreat
structure En where
 f:Nat
 t:Nat
 w:Nat
def inf:Nat:=9223372036854775807
def bI(d:Nat->Nat)(x v:Nat):Nat->Nat:=fun y=>if y=x then v else d y
def jP(d:Nat->Nat)(e:En):Nat->Nat:=if d e.f≠inf/\d e.f+e.w<d e.t then bI d e.t (d e.f+e.w)else d
def pass(E:List En)(d:Nat->Nat):Nat->Nat:=E.foldl jP d
def d0(s:Nat):Nat->Nat:=fun v=>if v=s then 0 else inf
def passes(E:List En)(s:Nat):Nat->(Nat->Nat)
 | 0=>d0 s
 | k+1=>pass E (passes E s k)
def cntF(d:Nat->Nat)(n:Nat):Nat:=((List.range n).filter (fun v=>decide (d v≠inf))).length
theorem lZ(d:Nat->Nat)(n:Nat):cntF d (n+1)=cntF d n+if d n≠inf then 1 else 0:=by
 unfold cntF;rw[List.range_succ,List.filter_append,υ]
 by_cases h:d n=inf
 ·rw[List.filter_cons_of_neg (by simpa using h),if_neg (by simpa using h)];simp
 ·rw[List.filter_cons_of_pos (by simpa using h),if_pos h];simp
theorem EW(d:Nat->Nat)(n:Nat):cntF d n<=n:=by
 induction n with
 | zero=>simp[cntF]
 | succ n ih=>rw[lZ];split<;>omega
theorem Ef{d d':Nat->Nat}{n:Nat}(h:∀v,v<n->(d v=inf↔d' v=inf)):cntF d n=cntF d' n:=by
 induction n with
 | zero=>rfl
 | succ n ih=>
  rw[lZ,lZ,ih (fun v hv=>h v ω)];have:=h n ω
  by_cases e:d n=inf
  ·rw[if_neg (by simpa using e),if_neg (by simpa using this.1 e)]
  ·rw[if_pos e,if_pos (fun e2=>e (this.2 e2))]
theorem wJ{d:Nat->Nat}{n x v:Nat}(hx:x<n)(h1:d x=inf)(h2:v≠inf):cntF (bI d x v) n=cntF d n+1:=by
 induction n with
 | zero=>omega
 | succ n ih=>
  rw[lZ,lZ]
  by_cases e:x=n
  ·subst e;have:cntF (bI d x v) x=cntF d x:=Ef (fun y hy=>by unfold bI;rw[if_neg ω]);rw[this,if_pos (by unfold bI;rw[if_pos rfl];exact h2),if_neg (by simpa using h1)]
  ·rw[ih ω];have:bI d x v n=d n:=by unfold bI;rw[if_neg ω]
   rw[this]
   split<;>omega
inductive TL (E:List En) (s:Nat):Nat->Nat->Prop
 | here:TL E s s 0
 | on {u x:Nat} (e:En):e∈E->TL E s u x->e.f=u->TL E s e.t (x+e.w)
structure Rx(E:List En)(s N m:Nat)(d:Nat->Nat):Prop where
 src:d s=0
 le:∀v,d v<=inf
 bd:∀v,v<N->d v≠inf->d v+m<=cntF d N*m
 way:∀v,d v≠inf->TL E s v (d v)
section
variable {E:List En}{s N m:Nat}{d:Nat->Nat}
theorem Rx.sum(h:Rx E s N m d)(hm:N*m<=inf){e:En}(hf:e.f<N)(hw:e.w<=m)(hd:d e.f≠inf):d e.f+e.w<=inf:=by
 have h1:=h.bd e.f hf hd;have h2:cntF d N*m<=N*m:=Nat.mul_le_mul_right m (EW _ _);omega
theorem XK(hs:s<N)(hm:0<inf):Rx E s N m (d0 s):=by
 have h1:cntF (d0 s) N=1:=by
  have e:d0 s=bI (fun _=>inf) s 0:=rfl;rw[e,wJ hs rfl (by unfold inf;omega)];have:∀n,cntF (fun _=>inf) n=0:=fun n=>by
   induction n with
   | zero=>rfl
   | succ n ih=>rw[lZ,ih];simp
  rw[this]
 refine⟨by simp[d0],fun v=>?_,fun v hv hd=>?_,fun v hd=>?_⟩
 ·unfold d0;split<;>omega
 ·have:v=s:=by
   by_cases e:v=s
   ·exact e
   ·exact absurd (by unfold d0;rw[if_neg e]) hd
  subst this;rw[h1];simp[d0]
 ·have:v=s:=by
   by_cases e:v=s
   ·exact e
   ·exact absurd (by unfold d0;rw[if_neg e]) hd
  subst this;have:d0 v v=0:=by simp[d0]
  rw[this];exact .here
theorem xu(d:Nat->Nat)(e:En)(v:Nat):jP d e v<=d v:=by
 unfold jP
 split
 ·rename_i h
  unfold bI
  split
  ·rename_i e2;subst e2;omega
  ·exact Nat.le_refl _
 ·exact Nat.le_refl _
theorem Mm(h:Rx E s N m d)(hm:N*m<=inf)(hm0:0<m){e:En}(he:e∈E)(hf:e.f<N)(ht:e.t<N)(hw:e.w<=m):Rx E s N m (jP d e):=by
 have hle:=xu d e;unfold jP at hle⊢
 split
 ·rename_i hc
  rw[if_pos hc]at hle;have hlt:d e.f+e.w<inf:=by have:=h.le e.t;omega
  have hcn:cntF d N<=cntF (bI d e.t (d e.f+e.w)) N:=by
   by_cases hi:d e.t=inf
   ·rw[wJ ht hi ω];omega
   ·rw[Ef (d:=bI d e.t (d e.f+e.w)) (d':=d) (fun v hv=>by
     unfold bI
     split
     ·rename_i ev;subst ev;constructor
      ·intro;omega
      ·intro h2;exact absurd h2 hi
     ·exact Iff.rfl)]
    exact Nat.le_refl _
  refine⟨?_,fun v=>?_,fun v hv hd=>?_,fun v hd=>?_⟩
  ·have:=hle s;rw[h.src]at this;omega
  ·have:=hle v;have:=h.le v;omega
  ·by_cases ev:v=e.t
   ·have e1:bI d e.t (d e.f+e.w) v=d e.f+e.w:=by unfold bI;rw[if_pos ev]
    rw[e1]
    by_cases hi:d e.t=inf
    ·rw[wJ ht hi ω,Nat.succ_mul];have:=h.bd e.f hf hc.1;omega
    ·have h1:=h.bd e.t ht hi;have h2:=Nat.mul_le_mul_right m hcn;omega
   ·have e1:bI d e.t (d e.f+e.w) v=d v:=by unfold bI;rw[if_neg ev]
    rw[e1]at hd⊢;have h1:=h.bd v hv hd;have h2:=Nat.mul_le_mul_right m hcn;omega
  ·by_cases ev:v=e.t
   ·have e1:bI d e.t (d e.f+e.w) v=d e.f+e.w:=by unfold bI;rw[if_pos ev]
    rw[e1,ev];exact .on e he (h.way _ hc.1) rfl
   ·have e1:bI d e.t (d e.f+e.w) v=d v:=by unfold bI;rw[if_neg ev]
    rw[e1]at hd⊢;exact h.way v hd
 ·exact h
end
structure IY(E:List En)(s N m:Nat):Prop where
 src:s<N
 pos:0<m
 nm:N*m<=inf
 e:∀e,e∈E->e.f<N/\e.t<N/\e.w<=m
def xH(E:List En)(d:Nat->Nat):Prop:=∀e,e∈E->d e.f≠inf->d e.t<=d e.f+e.w
def xR(d:Nat->Nat)(n:Nat):Nat:=((List.range n).map d).sum
theorem uh(d:Nat->Nat)(n:Nat):xR d (n+1)=xR d n+d n:=by
 unfold xR;rw[List.range_succ,List.map_append,List.sum_append];simp
theorem Mg{d d':Nat->Nat}(h:∀v,d' v<=d v)(n:Nat):xR d' n<=xR d n:=by
 induction n with
 | zero=>exact Nat.le_refl _
 | succ n ih=>rw[uh,uh];have:=h n;omega
theorem Xg{d d':Nat->Nat}(h:∀v,d' v<=d v){n x:Nat}(hx:x<n)(hl:d' x<d x):xR d' n<xR d n:=by
 induction n with
 | zero=>omega
 | succ n ih=>
  rw[uh,uh]
  by_cases e:x=n
  ·subst e;have:=Mg h x;omega
  ·have:=ih ω;have:=h n;omega
section
variable {E:List En}{s N m:Nat}{d L:Nat->Nat}
theorem zi(l:List En)(d:Nat->Nat)(v:Nat):l.foldl jP d v<=d v:=by
 induction l generalizing d with
 | nil=>exact Nat.le_refl _
 | cons e l ih=>exact Nat.le_trans (ih _) (xu d e v)
theorem WU(g:IY E s N m)(l:List En)(hl:∀e,e∈l->e∈E)(h:Rx E s N m d):Rx E s N m (l.foldl jP d):=by
 induction l generalizing d with
 | nil=>exact h
 | cons e l ih=>
  have he:=hl e σ;obtain⟨a,b,c⟩:=g.e e he;exact ih (fun x hx=>hl x (by simp[hx])) (Mm h g.nm g.pos he a b c)
theorem nT(g:IY E s N m)(k:Nat):Rx E s N m (passes E s k):=by
 induction k with
 | zero=>exact XK g.src (by unfold inf;omega)
 | succ k ih=>exact WU g E (fun _ h=>h) ih
theorem ym(E:List En)(s k v:Nat):passes E s (k+1) v<=passes E s k v:=zi E _ v
theorem VW{d:Nat->Nat}{e:En}(h:jP d e≠d):jP d e e.t<d e.t:=by
 unfold jP at h⊢
 split
 ·rename_i hc;unfold bI;rw[if_pos rfl];exact hc.2
 ·rename_i hc;rw[if_neg hc]at h;exact absurd rfl h
theorem GA(l:List En)(hl:∀e,e∈l->e.t<N)(d:Nat->Nat)(h:¬xR (l.foldl jP d) N<xR d N):∀e,e∈l->jP d e=d:=by
 induction l generalizing d with
 | nil=>intro e he;cases he
 | cons a l ih=>
  simp only[List.foldl_cons]at h;have h1:=Mg (zi l (jP d a)) N;have ha:jP d a=d:=Classical.byContradiction fun hn=>by
   have:=Xg (xu d a) (hl a σ) (VW hn);omega
  rw[ha]at h;intro e he;rcases ρ.1 he with rfl|he
  ·exact ha
  ·exact ih (fun x hx=>hl x (by simp[hx])) d h e he
theorem Zk(g:IY E s N m):∃K,∀e,e∈E->jP (passes E s K) e=passes E s K:=by
 have key:∀b k,xR (passes E s k) N<=b->∃K,∀e,e∈E->jP (passes E s K) e=passes E s K:=by
  intro b
  induction b with
  | zero=>
   intro k hk;exact⟨k,GA E (fun e he=>(g.e e he).2.1) _ ω⟩
  | succ b ih=>
   intro k hk
   by_cases h:xR (E.foldl jP (passes E s k)) N<xR (passes E s k) N
   ·exact ih (k+1) (by show xR (E.foldl jP (passes E s k)) N<=b;omega)
   ·exact⟨k,GA E (fun e he=>(g.e e he).2.1) _ h⟩
 exact key _ 0 (Nat.le_refl _)
theorem TE{d:Nat->Nat}(h:∀e,e∈E->jP d e=d):xH E d:=by
 intro e he hf;have h1:=h e he;apply Nat.le_of_not_lt;intro hlt;have h2:jP d e e.t=d e.f+e.w:=by unfold jP;rw[if_pos ⟨hf,hlt⟩];unfold bI;rw[if_pos rfl]
 rw[h1]at h2;omega
theorem Jp(hF:xH E L)(hi:∀v,d v<=inf){e:En}(he:e∈E)(h:∀v,L v<=d v)(v:Nat):L v<=jP d e v:=by
 unfold jP
 split
 ·rename_i hc
  unfold bI
  split
  ·rename_i ev
   have h1:=h e.f;have h3:=hi e.f;have h2:=hF e he ω;rw[ev];omega
  ·exact h v
 ·exact h v
theorem J2(hF:xH E L)(l:List En)(hl:∀e,e∈l->e∈E)(hi:∀v,d v<=inf)(h:∀v,L v<=d v):∀v,L v<=l.foldl jP d v:=by
 induction l generalizing d with
 | nil=>exact h
 | cons e l ih=>exact ih (fun x hx=>hl x (by simp[hx])) (fun v=>Nat.le_trans (xu d e v) (hi v)) (Jp hF hi (hl e σ) h)
theorem wS(g:IY E s N m)(hF:xH E L)(h0:L s=0)(hi:∀v,L v<=inf)(k:Nat):∀v,L v<=passes E s k v:=by
 induction k with
 | zero=>intro v;show L v<=d0 s v;unfold d0;split;(rename_i e;subst e;omega);exact hi v
 | succ k ih=>exact J2 hF E (fun _ h=>h) (nT g k).le ih
theorem UX(hF:xH E L)(U:Nat->Prop)(l:List En)(hl:∀e,e∈l->e∈E)(hi:∀v,d v<=inf)(h:∀v,L v<=d v)(hU:∀v,U v->L v<d v)(hx:∃v,U v/\l.foldl jP d v=L v) :
  ∃e,e∈E/\¬U e.f/\U e.t/\L e.f+e.w=L e.t/\L e.f≠inf:=by
 induction l generalizing d with
 | nil=>obtain⟨v,h1,h2⟩:=hx;have:=hU v h1;simp only[List.foldl_nil]at h2;omega
 | cons e l ih=>
  have he:=hl e σ
  by_cases hu:∀v,U v->L v<jP d e v
  ·exact ih (fun x hx=>hl x (by simp[hx])) (fun v=>Nat.le_trans (xu d e v) (hi v)) (Jp hF hi he h) hu hx
  ·obtain⟨v,hv⟩:=Classical.not_forall.1 hu;obtain⟨h1,h2⟩:=Classical.not_imp.1 hv;have h3:=Jp hF hi he h v;have h4:=hU v h1;have h5:jP d e v=L v:=ω;have hc:(d e.f≠inf/\d e.f+e.w<d e.t)/\v=e.t:=by
    unfold jP at h5
    split at h5
    ·rename_i hc
     refine⟨hc,Classical.byContradiction fun hn=>?_⟩;unfold bI at h5;rw[if_neg hn]at h5;omega
    ·omega
   obtain⟨hc,rfl⟩:=hc;have h6:jP d e e.t=d e.f+e.w:=by unfold jP;rw[if_pos hc];unfold bI;rw[if_pos rfl]
   have h7:=h e.f;have h8:=hi e.f;have h9:=hF e he ω;have h10:L e.f=d e.f:=ω;exact⟨e,he,fun hn=>by have:=hU _ hn;omega,h1,ω,ω⟩
theorem FC(g:IY E s N m)(hF:xH E L)(h0:L s=0)(hi:∀v,L v<=inf)(U:Nat->Prop)(k j:Nat)(hU:∀v,U v->L v<passes E s k v)(hx:∃v,U v/\passes E s (k+j) v=L v) :
  ∃e,e∈E/\¬U e.f/\U e.t/\L e.f+e.w=L e.t/\L e.f≠inf:=by
 induction j with
 | zero=>obtain⟨v,h1,h2⟩:=hx;have:=hU v h1;simp only[Nat.add_zero]at h2;omega
 | succ j ih=>
  by_cases hj:∃v,U v/\passes E s (k+j) v=L v
  ·exact ih hj
  ·have hb:=wS g hF h0 hi (k+j)
   exact UX hF U E (fun _ h=>h) (nT g (k+j)).le hb (fun v hv=>by
    have h1:=hb v;have h2:passes E s (k+j) v≠L v:=fun h=>hj ⟨v,hv,h⟩
    omega) hx
theorem Ow(hF:xH E L)(hi:∀v,d v<=inf)(h:∀v,L v<=d v){e:En}(he:e∈E)(h1:d e.f=L e.f)(h2:L e.f+e.w=L e.t)(h3:L e.f≠inf):pass E d e.t=L e.t:=by
 obtain⟨l1,l2,hE⟩:=List.append_of_mem he;have hall:=J2 hF E (fun _ h=>h) hi h e.t;have hl1:∀x,x∈l1->x∈E:=fun x hx=>by rw[hE];simp[hx]
 have ha:=J2 hF l1 hl1 hi h e.f;have hb:=zi l1 d e.f;have hup:pass E d e.t<=L e.t:=by
  unfold pass
  conv=>lhs;rw[hE]
  rw[List.foldl_append,List.foldl_cons];refine Nat.le_trans (zi l2 _ _) ?_;generalize l1.foldl jP d=d1 at *;have hd:d1 e.f=L e.f:=ω;unfold jP
  split
  ·unfold bI;rw[if_pos rfl,hd];omega
  ·rename_i hc
   have:¬ (d1 e.f+e.w<d1 e.t):=fun hlt=>hc ⟨by rw[hd];exact h3,hlt⟩;omega
 unfold pass at hup⊢;omega
def sH(P:Nat->Prop)[DecidablePred P](n:Nat):Nat:=((List.range n).filter (fun v=>decide (P v))).length
theorem nI(P:Nat->Prop)[DecidablePred P](n:Nat):sH P (n+1)=sH P n+if P n then 1 else 0:=by
 unfold sH;rw[List.range_succ,List.filter_append,υ]
 by_cases h:P n
 ·rw[List.filter_cons_of_pos (by simpa using h),if_pos h];simp
 ·rw[List.filter_cons_of_neg (by simpa using h),if_neg h];simp
theorem Mh(P:Nat->Prop)[DecidablePred P](n:Nat):sH P n<=n:=by
 induction n with
 | zero=>simp[sH]
 | succ n ih=>rw[nI];split<;>omega
theorem Pd{P Q:Nat->Prop}[DecidablePred P][DecidablePred Q](h:∀v,P v->Q v)(n:Nat):sH P n<=sH Q n:=by
 induction n with
 | zero=>exact Nat.le_refl _
 | succ n ih=>
  rw[nI,nI]
  by_cases e:P n
  ·rw[if_pos e,if_pos (h n e)];omega
  ·rw[if_neg e];omega
theorem DY{P Q:Nat->Prop}[DecidablePred P][DecidablePred Q](h:∀v,P v->Q v){n x:Nat}(hx:x<n)(h1:¬P x)(h2:Q x):sH P n<sH Q n:=by
 induction n with
 | zero=>omega
 | succ n ih=>
  rw[nI,nI]
  by_cases e:x=n
  ·subst e;have:=Pd h x;rw[if_neg h1,if_pos h2];omega
  ·have:=ih ω
   by_cases e2:P n
   ·rw[if_pos e2,if_pos (h n e2)];omega
   ·rw[if_neg e2];omega
theorem Hl{P:Nat->Prop}[DecidablePred P]{n x:Nat}(hx:x<n)(h:P x):0<sH P n:=by
 induction n with
 | zero=>omega
 | succ n ih=>
  rw[nI]
  by_cases e:x=n
  ·subst e;rw[if_pos h];omega
  ·have:=ih ω;omega
theorem Nz(g:IY E s N m):xH E (passes E s N):=by
 obtain⟨K,hK⟩:=Zk g;have hF:=TE hK;have hr:=nT g K;have hb:=fun k=>wS g hF hr.src hr.le k;have key:∀k,(∀v,v<N->passes E s k v=passes E s K v)\/k<sH (fun v=>passes E s k v=passes E s K v) N:=by
  intro k
  induction k with
  | zero=>exact Or.inr (Hl g.src (by rw[hr.src];show d0 s s=0;simp[d0]))
  | succ k ih=>
   by_cases hall:∀v,v<N->passes E s k v=passes E s K v
   ·left;intro v hv;have h1:=ym E s k v;have h2:=hb (k+1) v;rw[hall v hv]at h1;omega
   ·have ih:=ih.resolve_left hall;right;obtain⟨v,hv⟩:=Classical.not_forall.1 hall;obtain⟨hv1,hv2⟩:=Classical.not_imp.1 hv;have hkK:k<=K:=Classical.byContradiction fun hn=>by
     have hmono:∀j,passes E s (K+j) v<=passes E s K v:=fun j=>by
      induction j with
      | zero=>exact Nat.le_refl _
      | succ j ih2=>exact Nat.le_trans (ym E s (K+j) v) ih2
     have h1:=hmono (k-K);rw[show K+(k-K)=k by omega]at h1;have h2:=hb k v;omega
    obtain⟨e,he,h1,h2,h3,h4⟩:=FC g hF hr.src hr.le (fun v=>v<N/\passes E s k v≠passes E s K v) k (K-k) (fun v hv=>by
     have:=hb k v;have:=hv.2
     omega) ⟨v,⟨hv1,hv2⟩,by rw[show k+(K-k)=K by omega]⟩
    have hef:passes E s k e.f=passes E s K e.f:=Classical.byContradiction fun hn=>h1 ⟨(g.e e he).1,hn⟩;have hset:=Ow hF (nT g k).le (hb k) he hef h3 h4
    have:=DY (P:=fun v=>passes E s k v=passes E s K v) (Q:=fun v=>passes E s (k+1) v=passes E s K v) (fun v hv=>by
     have h1:=ym E s k v;have h2:=hb (k+1) v;rw[hv]at h1
     omega) h2.1 h2.2 hset
    omega
 have hN:∀v,v<N->passes E s N v=passes E s K v:=by
  rcases key N with h|h
  ·exact h
  ·have:=Mh (fun v=>passes E s N v=passes E s K v) N;omega
 intro e he hf;obtain⟨a,b,_⟩:=g.e e he;rw[hN _ a]at hf⊢;rw[hN _ b];exact hF e he hf
theorem Uf(hF:xH E L)(h0:L s=0)(hi:∀v,L v<=inf){v x:Nat}(h:TL E s v x)(hx:x<inf):L v<=x:=by
 induction h with
 | here=>omega
 | on e he _ hf ih=>
  subst hf;have h1:=ih ω;have h2:=hF e he ω;omega
end
def Fy(E:List En)(i:Int):En:=E.getD i.toNat ⟨0,0,0⟩
def ma(E:List En)(by':Nat->Int)(x:Nat):Nat:=if by' x=-1 then x else (Fy E (by' x)).f
theorem qU{E:List En}{by':Nat->Int}{x:Nat}(h:by' x≠-1):ma E by' x=(Fy E (by' x)).f:=by unfold ma;rw[if_neg h]
def jA(E:List En)(by':Nat->Int)(D:Nat->Nat)(x:Nat):Bool:=
 decide (0<=by' x) && decide (by' x<E.length) && decide ((Fy E (by' x)).t=x) && decide (D (ma E by' x)≠inf) && decide (D (ma E by' x)+(Fy E (by' x)).w=D x)
def bC(E:List En)(by':Nat->Int)(D:Nat->Nat)(s:Nat):Nat->Nat->Bool
 | 0,x=>decide (x=s)
 | k+1,x=>decide (x=s) || (jA E by' D x && bC E by' D s k (ma E by' x))
def jL(E:List En)(by':Nat->Int):Nat->Nat->Nat
 | 0,x=>x
 | k+1,x=>jL E by' k (ma E by' x)
def X4(E:List En)(N s:Nat)(D d:Nat->Nat)(by':Nat->Int):Prop:=
 ∀v,v<N->d v=D v/\((v=s\/D v=inf)->by' v=-1)/\(¬ (v=s\/D v=inf)->bC E by' D s N v=true)
def Xh(E:List En)(N s:Nat)(d:Nat->Nat)(by':Nat->Int):Prop:=
 d s=0/\by' s=-1/\xH E d/\(∀v,v<N->((v≠s/\d v≠inf)↔by' v≠-1)/\(v≠s/\d v≠inf->jA E by' d v=true))/\∀v,v<N->by' v≠-1->∃k,jL E by' k v=s
section
variable {E:List En}{by':Nat->Int}{D d:Nat->Nat}{s N m:Nat}
theorem iK(E:List En)(by':Nat->Int)(D:Nat->Nat)(x:Nat):jA E by' D x=true↔0<=by' x/\by' x<E.length/\(Fy E (by' x)).t=x/\D (ma E by' x)≠inf/\D (ma E by' x)+(Fy E (by' x)).w=D x:=by
 unfold jA;simp[and_assoc]
theorem MB{i:Int}(h0:0<=i)(h1:i<E.length):Fy E i∈E:=by
 unfold Fy;have:i.toNat<E.length:=ω;rw[φ,ε this];exact List.getElem_mem _
theorem Em:∀ (k x:Nat),bC E by' D s k x=true->∃j,jL E by' j x=s:=by
 intro k
 induction k with
 | zero=>intro x h;exact⟨0,by simp only[jL];simpa[bC]using h⟩
 | succ k ih=>
  intro x h;unfold bC at h
  by_cases e:x=s
  ·exact⟨0,e⟩
  ·simp only[e,decide_false,Bool.false_or,Bool.and_eq_true]at h;obtain⟨j,hj⟩:=ih _ h.2;exact⟨j+1,hj⟩
theorem nC:∀ (k x:Nat),bC E by' D s k x=true->bC E by' D s (k+1) x=true:=by
 intro k
 induction k with
 | zero=>intro x h;unfold bC at h⊢;rw[h];rfl
 | succ k ih=>
  intro x h;unfold bC at h⊢
  by_cases e:x=s
  ·simp[e]
  ·simp only[e,decide_false,Bool.false_or,Bool.and_eq_true]at h⊢;exact⟨h.1,ih _ h.2⟩
theorem wO{i j x:Nat}(hij:i<=j)(h:bC E by' D s i x=true):bC E by' D s j x=true:=by
 induction hij with
 | refl=>exact h
 | step _ ih=>exact nC _ _ ih
theorem sG{k:Nat}(hs:∀x,x<N->jA E by' D x=true->ma E by' x<N)(h:∀x,x<N->bC E by' D s (k+1) x=true->bC E by' D s k x=true) :
  ∀j x,x<N->bC E by' D s (k+j) x=true->bC E by' D s k x=true:=by
 intro j
 induction j with
 | zero=>intro x _ h;exact h
 | succ j ih=>
  intro x hx hc;have hc':bC E by' D s ((k+j)+1) x=true:=hc;unfold bC at hc'
  by_cases e:x=s
  ·refine wO (i:=0) ω ?_;unfold bC;simpa using e
  ·simp only[e,decide_false,Bool.false_or,Bool.and_eq_true]at hc';have h1:=ih _ (hs x hx hc'.1) hc'.2;apply h x hx;unfold bC;simp only[e,decide_false,Bool.false_or,Bool.and_eq_true];exact⟨hc'.1,h1⟩
theorem II(XQ:s<N)(hs:∀x,x<N->jA E by' D x=true->ma E by' x<N){j x:Nat}(hx:x<N)(h:bC E by' D s j x=true):bC E by' D s N x=true:=by
 have key:∀k,(∀x,x<N->bC E by' D s (k+1) x=true->bC E by' D s k x=true)\/k<sH (fun x=>bC E by' D s k x=true) N:=by
  intro k
  induction k with
  | zero=>exact Or.inr (Hl XQ (by simp[bC]))
  | succ k ih=>
   rcases ih with ih|ih
   ·left;intro x hx hc;have:=sG (k:=k) hs ih 2 x hx hc;exact nC _ _ this
   ·by_cases hall:∀x,x<N->bC E by' D s (k+1) x=true->bC E by' D s k x=true
    ·left;intro x hx hc;have:=sG (k:=k) hs hall 2 x hx hc;exact nC _ _ this
    ·right;obtain⟨x,hx⟩:=Classical.not_forall.1 hall;obtain⟨h1,h2⟩:=Classical.not_imp.1 hx;obtain⟨h3,h4⟩:=Classical.not_imp.1 h2;have:=DY (P:=fun x=>bC E by' D s k x=true) (Q:=fun x=>bC E by' D s (k+1) x=true) (fun v hv=>nC _ _ hv) h1 h4 h3;omega
 rcases key N with hk|hk
 ·by_cases hj:j<=N
  ·exact wO hj h
  ·have e:N+(j-N)=j:=ω;exact sG (k:=N) hs hk (j-N) x hx (by rw[e];exact h)
 ·have:=Mh (fun x=>bC E by' D s N x=true) N;omega
theorem qd(g:IY E s N m){x:Nat}(h:jA E by' D x=true):ma E by' x<N:=by
 obtain⟨h0,h1,_⟩:=(iK E by' D x).1 h;rw[qU ω];exact(g.e _ (MB h0 h1)).1
theorem Dx(g:IY E s N m)(hd:∀v,v<N->d v<=inf):Xh E N s d by'↔X4 E N s (passes E s N) d by':=by
 have R:=nT g N;have F:=Nz g;constructor
 ·rintro⟨hd0,hb0,hF,hv,hr⟩;have hF':xH E (fun v=>if v<N then d v else inf):=fun e he hf=>by
   obtain⟨a,b,_⟩:=g.e e he;simp only[a,b,if_pos]at hf⊢;exact hF e he hf
  have up:∀v,v<N->passes E s N v≠inf->d v<=passes E s N v:=fun v nK hfin=>by
   have h1:=R.le v
   have:=Uf (L:=fun v=>if v<N then d v else inf) hF' (by simp only[g.src,if_pos];exact hd0) (fun v=>by
    by_cases e:v<N
    ·simp only[e,if_pos];exact hd v e
    ·simp only[e,if_false];exact Nat.le_refl _) (R.way v hfin) ω
   simpa only[nK,if_pos]using this
  have down:∀k v,v<N->d v≠inf->jL E by' k v=s->passes E s N v<=d v:=by
   intro k
   induction k with
   | zero=>intro v nK _ hk;simp only[jL]at hk;subst hk;rw[R.src];omega
   | succ k ih=>
    intro v nK hfin hk
    by_cases e:v=s
    ·subst e;rw[R.src];omega
    ·have hst:=(hv v nK).2 ⟨e,hfin⟩;obtain⟨h0,h1,h2,h3,h4⟩:=(iK E by' d v).1 hst;have hp:=qd g hst;have h5:=ih _ hp h3 hk;have h6:=hd _ hp;rw[qU ω]at h3 h4 h5 h6;have h7:=F _ (MB h0 h1) ω;rw[h2]at h7;omega
  have same:∀v,v<N->d v=passes E s N v:=fun v nK=>by
   have h1:=hd v nK;have h2:=R.le v
   by_cases hfin:d v=inf
   ·by_cases h3:passes E s N v=inf
    ·rw[hfin,h3]
    ·have:=up v nK h3;omega
   ·have hdn:passes E s N v<=d v:=by
     by_cases e:v=s
     ·subst e;rw[R.src];omega
     ·obtain⟨k,hk⟩:=hr v nK ((hv v nK).1.1 ⟨e,hfin⟩);exact down k v nK hfin hk
    have:=up v nK ω;omega
  have sOk:∀v,v<N->jA E by' d v=true->jA E by' (passes E s N) v=true:=fun v nK h=>by
   have hp:=qd g h;obtain⟨h0,h1,h2,h3,h4⟩:=(iK E by' d v).1 h;rw[same _ hp]at h3 h4;rw[same _ nK]at h4;exact(iK E by' _ v).2 ⟨h0,h1,h2,h3,h4⟩
  intro v nK;refine⟨same v nK,fun h=>?_,fun h=>?_⟩
  ·apply Classical.byContradiction;intro hn;obtain⟨h1,h2⟩:=(hv v nK).1.2 hn;rcases h with h|h
   ·exact h1 h
   ·exact h2 (by rw[same v nK];exact h)
  ·have h1:v≠s/\d v≠inf:=⟨fun e=>h (Or.inl e),fun e=>h (Or.inr (by rw[←same v nK];exact e))⟩;obtain⟨k,hk⟩:=hr v nK ((hv v nK).1.1 h1);have hch:∀k v,v<N->d v≠inf->jL E by' k v=s->bC E by' (passes E s N) s k v=true:=by
    intro k
    induction k with
    | zero=>intro v _ _ hk;simp only[jL]at hk;unfold bC;simpa using hk
    | succ k ih=>
     intro v nK hfin hk;unfold bC
     by_cases e:v=s
     ·simp[e]
     ·have hst:=(hv v nK).2 ⟨e,hfin⟩;obtain⟨_,_,_,h3,_⟩:=(iK E by' d v).1 hst;simp only[e,decide_false,Bool.false_or,Bool.and_eq_true];exact⟨sOk v nK hst,ih _ (qd g hst) h3 hk⟩
   exact II g.src (fun x _ h=>qd g h) nK (hch k v nK h1.2 hk)
 ·intro hT;have same:∀v,v<N->d v=passes E s N v:=fun v hv=>(hT v hv).1;have hFd:xH E d:=fun e he hf=>by
   obtain⟨a,b,_⟩:=g.e e he;rw[same _ a]at hf⊢;rw[same _ b];exact F e he hf
  have hch:∀v,v<N->v≠s/\d v≠inf->bC E by' (passes E s N) s N v=true:=fun v hv h=>(hT v hv).2.2 (fun hn=>by
   rcases hn with hn|hn
   ·exact h.1 hn
   ·exact h.2 (by rw[same v hv];exact hn))
  have hN:0<N:=Nat.lt_of_le_of_lt (Nat.zero_le _) g.src;have hst:∀v,v<N->v≠s/\d v≠inf->jA E by' (passes E s N) v=true:=fun v hv h=>by
   have h1:=hch v hv h;obtain⟨n,rfl⟩:∃n,N=n+1:=⟨N-1,ω⟩;unfold bC at h1;simp only[h.1,decide_false,Bool.false_or,Bool.and_eq_true]at h1;exact h1.1
  refine⟨by rw[same _ g.src,R.src],(hT s g.src).2.1 (Or.inl rfl),hFd,fun v hv=>⟨⟨fun h hn=>?_,fun h=>?_⟩,fun h=>?_⟩,fun v hv hb=>?_⟩
  ·obtain⟨h0,_⟩:=(iK E by' _ v).1 (hst v hv h);omega
  ·refine⟨fun e=>h ((hT v hv).2.1 (Or.inl e)),fun e=>h ((hT v hv).2.1 (Or.inr (by rw[←same v hv];exact e)))⟩
  ·have h1:=hst v hv h;have hp:=qd g h1;obtain⟨h0,h1,h2,h3,h4⟩:=(iK E by' _ v).1 h1;rw[←same _ hp]at h3 h4;rw[←same _ hv]at h4;exact(iK E by' d v).2 ⟨h0,h1,h2,h3,h4⟩
  ·have h1:v≠s/\d v≠inf:=⟨fun e=>hb ((hT v hv).2.1 (Or.inl e)),fun e=>hb ((hT v hv).2.1 (Or.inr (by rw[←same v hv];exact e)))⟩;exact Em N v (hch v hv h1)
end
def jv(E:List En)(i:Nat):En:=E.getD i ⟨0,0,0⟩
theorem El{E:List En}{i:Nat}(h:i<E.length):jv E i∈E:=by
 unfold jv;rw[φ,ε h];exact List.getElem_mem _
structure DJ(E:List En)(s N m:Nat)(d:Nat->Nat)(b:Nat->Int)(S:List Nat)(W:Nat->Prop)(R:Nat->Prop):Prop where
 rx:Rx E s N m d
 nd:S.Nodup
 sN:∀v,v∈S->v<N
 wN:∀v,W v->v<N/\v∉S
 rc:∀v,v<N->(d v≠inf↔v∈S\/W v)
 mono:∀u v,u∈S->W v->d u<=d v
 top:∀u x S',S=x::S'->u∈S->d u<=d x
 rel:∀i,i<E.length->R i->(jv E i).f∈S->d (jv E i).t<=d (jv E i).f+(jv E i).w
 bs:b s=-1
 bn:∀v,v<N->d v=inf->b v=-1
 be:∀v,v<N->v≠s->d v≠inf->∃i:Nat,b v=i/\i<E.length/\(jv E i).t=v/\d (jv E i).f+(jv E i).w=d v/\(v∉S->(jv E i).f∈S)/\∀l1 l2,S=l1++v::l2->(jv E i).f∈l2
section
variable {E:List En}{s N m:Nat}{d:Nat->Nat}{b:Nat->Int}{S:List Nat}{W R:Nat->Prop}
theorem UU(hs:s<N):DJ E s N m (d0 s) (fun _=>-1) [] (fun v=>v=s) (fun _=>True):=by
 have e:∀v,d0 s v≠inf↔v=s:=fun v=>by
  unfold d0
  by_cases h:v=s
  ·rw[if_pos h];simp[h,inf]
  ·rw[if_neg h];simp[h]
 refine⟨XK hs δ,σ,σ,fun v hv=>⟨by rw[hv];exact hs,σ⟩,fun v hv=>by rw[e];simp,σ,σ,σ,rfl,fun _ _ _=>rfl,fun v hv hne hd=>absurd ((e v).1 hd) hne⟩
theorem U9(h:DJ E s N m d b S W (fun _=>True)){v:Nat}(hv:W v)(hmin:∀u,W u->d v<=d u):DJ E s N m d b (v::S) (fun u=>W u/\u≠v) (fun i=>(jv E i).f≠v):=by
 obtain⟨nK,Ti⟩:=h.wN v hv;refine⟨h.rx,List.nodup_cons.2 ⟨Ti,h.nd⟩,fun u hu=>?_,fun u hu=>⟨(h.wN u hu.1).1,fun hm=>?_⟩,fun u hu=>?_,fun u x hu hx=>?_,fun u x S' hS hu=>?_,fun i hi hR hf=>?_,h.bs,h.bn,fun u hu hne hd=>?_⟩
 ·rcases ρ.1 hu with rfl|hu
  ·exact nK
  ·exact h.sN u hu
 ·rcases ρ.1 hm with e|e
  ·exact hu.2 e
  ·exact(h.wN u hu.1).2 e
 ·rw[h.rc u hu,ρ];constructor
  ·rintro(h1|h1)
   ·exact Or.inl (Or.inr h1)
   ·by_cases e:u=v
    ·exact Or.inl (Or.inl e)
    ·exact Or.inr ⟨h1,e⟩
  ·rintro((h1|h1)|h1)
   ·rw[h1];exact Or.inr hv
   ·exact Or.inl h1
   ·exact Or.inr h1.1
 ·rcases ρ.1 hu with rfl|hu
  ·exact hmin x hx.1
  ·exact h.mono u x hu hx.1
 ·cases hS;rcases ρ.1 hu with rfl|hu
  ·exact Nat.le_refl _
  ·exact h.mono u v hu hv
 ·rcases ρ.1 hf with e|e
  ·exact absurd e hR
  ·exact h.rel i hi trivial e
 ·obtain⟨i,h1,h2,h3,h4,h5,h6⟩:=h.be u hu hne hd;refine⟨i,h1,h2,h3,h4,fun hn=>ρ.2 (Or.inr (h5 (fun hm=>hn (ρ.2 (Or.inr hm))))),fun l1 l2 hS=>?_⟩;cases l1 with
  | nil=>
   simp only[List.nil_append,List.cons.injEq]at hS;rw[←hS.2];exact h5 (by rw[←hS.1];exact Ti)
  | cons y l1=>
   simp only[List.cons_append,List.cons.injEq]at hS;exact h6 l1 l2 hS.2
theorem UR{v:Nat}(h:DJ E s N m d b (v::S) W R){i:Nat}(hf:(jv E i).f=v)(hn:¬d v+(jv E i).w<d (jv E i).t):DJ E s N m d b (v::S) W (fun j=>R j\/j=i):=by
 refine⟨h.rx,h.nd,h.sN,h.wN,h.rc,h.mono,h.top,fun j hj hR hm=>?_,h.bs,h.bn,h.be⟩;rcases hR with hR|rfl
 ·exact h.rel j hj hR hm
 ·rw[hf];omega
theorem YO(g:IY E s N m){v:Nat}(h:DJ E s N m d b (v::S) W R){i:Nat}(hi:i<E.length)(hf:(jv E i).f=v)(hn:d v+(jv E i).w<d (jv E i).t) :
  DJ E s N m (bI d (jv E i).t (d v+(jv E i).w)) (fun u=>if u=(jv E i).t then (i:Int)else b u) (v::S) (fun u=>W u\/u=(jv E i).t) (fun j=>R j\/j=i):=by
 have hmem:=El hi;obtain⟨hfN,UE,NN⟩:=g.e _ hmem;have nK:v<N:=by rw[←hf];exact hfN
 have hvd:d v≠inf:=(h.rc v nK).2 (Or.inl σ);have hle:=h.rx.le (jv E i).t;have hrel:jP d (jv E i)=bI d (jv E i).t (d v+(jv E i).w):=by unfold jP;rw[hf,if_pos ⟨hvd,hn⟩]
 have hrx:=Mm h.rx g.nm g.pos hmem hfN UE NN;rw[hrel]at hrx;have htS:(jv E i).t∉v::S:=fun hm=>by
  have:=h.top _ v S rfl hm;omega
 have hts:(jv E i).t≠s:=fun e=>by rw[e,h.rx.src]at hn;omega
 have hv0:∀u,u∈v::S->bI d (jv E i).t (d v+(jv E i).w) u=d u:=fun u hu=>by unfold bI;rw[if_neg (fun e=>htS (by rw[←e];exact hu))]
 have hv1:∀u,bI d (jv E i).t (d v+(jv E i).w) u<=d u:=fun u=>by
  unfold bI
  split
  ·rename_i e;rw[e];omega
  ·exact Nat.le_refl _
 refine⟨hrx,h.nd,h.sN,fun u hu=>?_,fun u hu=>?_,fun u x hu hx=>?_,fun u x S' hS hu=>?_,fun j hj hR hm=>?_,?_,fun u hu hd=>?_,fun u hu hne hd=>?_⟩
 ·rcases hu with hu|rfl
  ·exact h.wN u hu
  ·exact⟨UE,htS⟩
 ·by_cases e:u=(jv E i).t
  ·have:bI d (jv E i).t (d v+(jv E i).w) u=d v+(jv E i).w:=by unfold bI;rw[if_pos e]
   rw[this];constructor
   ·intro _;exact Or.inr (Or.inr e)
   ·intro _;omega
  ·have:bI d (jv E i).t (d v+(jv E i).w) u=d u:=by unfold bI;rw[if_neg e]
   rw[this,h.rc u hu];constructor
   ·rintro(h1|h1)
    ·exact Or.inl h1
    ·exact Or.inr (Or.inl h1)
   ·rintro(h1|h1|h1)
    ·exact Or.inl h1
    ·exact Or.inr h1
    ·exact absurd h1 e
 ·rw[hv0 u hu];rcases hx with hx|rfl
  ·by_cases e:x=(jv E i).t
   ·unfold bI;rw[if_pos e];have:=h.top u v S rfl hu;omega
   ·unfold bI;rw[if_neg e];exact h.mono u x hu hx
  ·unfold bI;rw[if_pos rfl];have:=h.top u v S rfl hu;omega
 ·rw[hv0 u hu,hv0 x (by rw[hS];simp)];exact h.top u x S' hS hu
 ·rcases hR with hR|rfl
  ·rw[hv0 _ hm];exact Nat.le_trans (hv1 _) (h.rel j hj hR hm)
  ·rw[hv0 _ hm,hf];unfold bI;rw[if_pos rfl];exact Nat.le_refl _
 ·show(if s=(jv E i).t then (i:Int)else b s)=-1
  rw[if_neg (fun e=>hts e.symm)];exact h.bs
 ·have e:u≠(jv E i).t:=fun e=>by
   unfold bI at hd;rw[if_pos e]at hd;omega
  show(if u=(jv E i).t then (i:Int)else b u)=-1
  rw[if_neg e];unfold bI at hd;rw[if_neg e]at hd;exact h.bn u hu hd
 ·by_cases e:u=(jv E i).t
  ·refine⟨i,by show(if u=(jv E i).t then (i:Int)else b u)=i;rw[if_pos e],hi,e.symm,?_,fun _=>by rw[hf];simp,fun l1 l2 hS=>absurd (by rw[hS,e];simp) htS⟩;rw[hf,hv0 v σ];unfold bI;rw[if_pos e]
  ·have hdu:bI d (jv E i).t (d v+(jv E i).w) u=d u:=by unfold bI;rw[if_neg e]
   rw[hdu]at hd⊢;obtain⟨j,h1,h2,h3,h4,h5,h6⟩:=h.be u hu hne hd;have hjS:(jv E j).f∈v::S:=by
    by_cases hm:u∈v::S
    ·obtain⟨l1,l2,hl⟩:=List.append_of_mem hm;rw[hl];have:=h6 l1 l2 hl;simp[this]
    ·exact h5 hm
   refine⟨j,by show(if u=(jv E i).t then (i:Int)else b u)=j;rw[if_neg e];exact h1,h2,h3,?_,h5,h6⟩;rw[hv0 _ hjS];exact h4
theorem Un{v:Nat}(h:DJ E s N m d b (v::S) W R)(hR:∀i,i<E.length->R i):DJ E s N m d b (v::S) W (fun _=>True):=
 ⟨h.rx,h.nd,h.sN,h.wN,h.rc,h.mono,h.top,fun i hi _ hm=>h.rel i hi (hR i hi) hm,h.bs,h.bn,h.be⟩
theorem ZI(hs:s<N)(g:IY E s N m)(h:DJ E s N m d b S W (fun _=>True))(hW:∀v,¬W v):Xh E N s d b:=by
 have hrc:∀v,v<N->(d v≠inf↔v∈S):=fun v hv=>by
  rw[h.rc v hv];exact⟨fun e=>e.elim id (fun e=>(hW v e).elim),Or.inl⟩
 have hbe:∀v,v<N->v≠s->d v≠inf->∃i:Nat,b v=i/\i<E.length/\(jv E i).t=v/\d (jv E i).f+(jv E i).w=d v/\(jv E i).f∈S/\∀l1 l2,S=l1++v::l2->(jv E i).f∈l2:=fun v hv hne hd=>by
  obtain⟨i,h1,h2,h3,h4,_,h6⟩:=h.be v hv hne hd;refine⟨i,h1,h2,h3,h4,?_,h6⟩;obtain⟨l1,l2,hl⟩:=List.append_of_mem ((hrc v hv).1 hd);have:=h6 l1 l2 hl;rw[hl];simp[this]
 have Xz:∀i:Nat,Fy E (i:Int)=jv E i:=fun i=>by unfold Fy jv;rw[show((i:Nat):Int).toNat=i by omega]
 have hbn:∀v,v<N->b v≠-1->v≠s/\d v≠inf:=fun v hv hb=>⟨fun e=>hb (by rw[e];exact h.bs),fun e=>hb (h.bn v hv e)⟩
 have Cg:∀v i,b v=((i:Nat):Int)->ma E b v=(jv E i).f:=fun v i hb=>by rw[qU ω,hb,Xz]
 refine⟨h.rx.src,h.bs,fun e he hd=>?_,fun v hv=>⟨⟨fun ⟨h1,h2⟩=>?_,hbn v hv⟩,fun ⟨h1,h2⟩=>?_⟩,?_⟩
 ·obtain⟨i,hi,rfl⟩:=List.mem_iff_getElem.1 he;have hg:jv E i=E[i]:=by unfold jv;rw[φ,ε hi];rfl
  have:=h.rel i hi trivial (by rw[hg];exact(hrc _ (g.e _ he).1).1 hd);rwa[hg]at this
 ·obtain⟨i,hb,_⟩:=hbe v hv h1 h2;rw[hb];omega
 ·obtain⟨i,hb,hi,ht,hsum,hfS,_⟩:=hbe v hv h1 h2;rw[iK,Cg v i hb,hb,Xz];exact⟨ω,ω,ht,(hrc _ (h.sN _ hfS)).2 hfS,hsum⟩
 ·-- the way back,by the places in S
  have key:∀ (n:Nat) (l1 l2:List Nat) (v:Nat),l2.length<=n->S=l1++v::l2->∃k,jL E b k v=s:=by
   intro n
   induction n with
   | zero=>
    intro l1 l2 v hl hS
    by_cases e:v=s
    ·exact⟨0,e⟩
    ·have Ti:v∈S:=by rw[hS];simp
     obtain⟨i,hb,hi,ht,hsum,hfS,h6⟩:=hbe v (h.sN v Ti) e ((hrc v (h.sN v Ti)).2 Ti);have:=h6 l1 l2 hS;have hl0:l2=[]:=List.eq_nil_of_length_eq_zero ω;rw[hl0]at this;cases this
   | succ n ih=>
    intro l1 l2 v hl hS
    by_cases e:v=s
    ·exact⟨0,e⟩
    ·have Ti:v∈S:=by rw[hS];simp
     obtain⟨i,hb,hi,ht,hsum,hfS,h6⟩:=hbe v (h.sN v Ti) e ((hrc v (h.sN v Ti)).2 Ti);obtain⟨m1,m2,hm⟩:=List.append_of_mem (h6 l1 l2 hS);have hlen:m2.length<=n:=by rw[hm]at hl;simp at hl;omega
     obtain⟨k,hk⟩:=ih (l1++v::m1) m2 (jv E i).f hlen (by rw[hS,hm];simp);exact⟨k+1,by show jL E b k (ma E b v)=s;rw[Cg v i hb];exact hk⟩
  intro v hv hb;obtain⟨h1,h2⟩:=hbn v hv hb;obtain⟨l1,l2,hl⟩:=List.append_of_mem ((hrc v hv).1 h2);exact key l2.length l1 l2 v (Nat.le_refl _) hl
end
end Go.Proofs.YtklibcncmbofpaaGreat
namespace Go.Proofs.YtklibcncmbofpaaGreat
open Go Go.RowKit
structure Ed where
 f:Int
 t:Int
 w:Int
instance:Inhabited Ed:=⟨⟨0,0,0⟩⟩
def Ed.val(e:Ed):Value:=.agg #[.int .i64 e.f,.int .i64 e.t,.int .i64 e.w]
def vY(w:World)(v:Value)(E:List Ed):Prop:=
 ∃a cap,v=.slice a E.length cap/\cap<=9223372036854775807/\E.length<=9223372036854775807/\∀j e,E[j]?=some e->∃g off,a=some ⟨g,off,none⟩/\g<w.heap.size/\
  w.cell? ⟨g,off+j*3,none⟩=some (.int .i64 e.f)/\w.cell? ⟨g,off+j*3+1,none⟩=some (.int .i64 e.t)/\w.cell? ⟨g,off+j*3+2,none⟩=some (.int .i64 e.w)
theorem vY.upd{w w':World}{v:Value}{E:List Ed}(h:vY w v E)(hu:aa [] w w'):vY w' v E:=by
 obtain⟨a,cap,rfl,h1,h1',h2⟩:=h;refine⟨a,cap,rfl,h1,h1',fun j e hj=>?_⟩;obtain⟨g,off,rfl,hg,h3,h4,h5⟩:=h2 j e hj;exact⟨g,off,rfl,Nat.lt_of_lt_of_le hg hu.size,hu.was h3,hu.was h4,hu.was h5⟩
theorem vY.shape{w:World}{v:Value}{E:List Ed}(h:vY w v E):∃a cap,v=.slice a E.length cap/\cap<=9223372036854775807:=by
 obtain⟨a,cap,rfl,h1,_⟩:=h;exact⟨a,cap,rfl,h1⟩
theorem vY.at{w:World}{a:Option Addr}{n c:Nat}{E:List Ed}(h:vY w (.slice a n c) E)(j:Nat)(hj:j<E.length):∃g off,a=some ⟨g,off,none⟩/\g<w.heap.size/\
  w.cell? ⟨g,off+j*3,none⟩=some (.int .i64 (E.getD j default).f)/\w.cell? ⟨g,off+j*3+1,none⟩=some (.int .i64 (E.getD j default).t)/\w.cell? ⟨g,off+j*3+2,none⟩=some (.int .i64 (E.getD j default).w):=by
 obtain⟨a',cap,he,h1,h1',h2⟩:=h;cases he;exact h2 j _ (by simp[φ,hj])
set_option maxRecDepth 100000 in
open Go.ChangeShapes Go.ChangeAt Go.WideShapes in
theorem G6{H:Type}{enc:TypeId×Value->H}{W:World}{v:Value}{y:DataW H×List MemPlace}{m:Nat}{base:Nat}{sp:Nat->Bool}
  (hf:DataW.trod enc Tryz.prog W base sp true m 55 [v]=some y):∃E,vY W v E/\∀e,e∈E->-9223372036854775808<=e.w/\e.w<=9223372036854775807:=by
 rcases Go.Deep.open_slice Tryz.underlying55 hf with⟨hcs,_⟩|⟨y,l,c,m,n,D,Pl,hcs,_,hl,hm,hmm,_,hx⟩
 ·simp at hcs;subst hcs;exact⟨[],⟨none,0,rfl,ω,σ,fun j e h=>by simp at h⟩,fun e he=>by cases he⟩
 ·simp at hcs;subst hcs;have hlm:l<=m:=by rw[hmm];split<;>omega
  have hc4:Tryz.prog.cellsOf 67=3:=by kernel_rfl
  rw[hc4]at hx;have key:∀i,∃q:(Int×Int×Int),i<l->W.cell? (y.add (i*3))=some (.int .i64 q.1)/\W.cell? (y.add (i*3+1))=some (.int .i64 q.2.1)/\W.cell? (y.add (i*3+2))=some (.int .i64 q.2.2)/\(-9223372036854775808<=q.2.2/\q.2.2<=9223372036854775807):=fun i=>by
   by_cases hi:i<l
   ·obtain⟨cs,h1,h2⟩:=hx i ω;obtain⟨_,hlen,hcell⟩:=World.cells?_some h1;obtain⟨xs,n',_,_,_,hlx,YG⟩:=DataW.trod_struct Tryz.underlying67 h2
    match cs,hlen with
    | [c0,c1,c2],_=>
     have f0:=YG 0 _ rfl;have f1:=YG 1 _ rfl;have f2:=YG 2 _ rfl
     match xs,hlx with
     | [x0,x1,x2],_=>
      obtain⟨k,e0,_,_⟩:=DataW.trod_int Tryz.underlying3 f0;obtain⟨p,e1,_,_⟩:=DataW.trod_int Tryz.underlying3 f1;obtain⟨x,e2,_,wx⟩:=DataW.trod_int Tryz.underlying2 f2;have g0:=hcell 0 ω;have g1:=hcell 1 ω;have g2:=hcell 2 ω;rw[Go.Deep.add_add]at g0 g1 g2;have t1:Tryz.prog.cellsOf 3=1:=by kernel_rfl
      have t2:Tryz.prog.cellsOf 2=1:=by kernel_rfl
      simp[t1,t2]at e0 e1 e2;subst e0 e1 e2;exact⟨(k,p,x),fun _=>⟨by simpa using g0,by simpa using g1,by simpa using g2,by simp[Lit.wf,IntKind.min,IntKind.max,IntKind.signed,IntKind.bits]at wx;omega⟩⟩
   ·exact⟨(0,0,0),fun h=>absurd h hi⟩
  obtain⟨q,hq⟩:=Classical.axiomOfChoice key;have hlen:((List.range l).map fun i=>(⟨(q i).1,(q i).2.1,(q i).2.2⟩:Ed)).length=l:=σ;refine⟨(List.range l).map fun i=>⟨(q i).1,(q i).2.1,(q i).2.2⟩,⟨some y,c,by rw[hlen],by unfold maxLen at hm;omega,by rw[hlen];unfold maxLen at hm;omega,fun j e hj=>?_⟩,fun e he=>?_⟩
  rotate_left
  ·obtain⟨i,hi,rfl⟩:=List.mem_map.1 he;exact(hq i (List.mem_range.1 hi)).2.2.2
  obtain⟨b,off,spot⟩:=y;have hjl:j<l:=by
   have:=(List.getElem?_eq_some_iff.1 hj).1;rwa[hlen]at this
  have hspot:spot=none:=by have:=World.cell?_spot (hq 0 ω).1;simpa[Addr.add]using this
  subst hspot;rw[List.getElem?_map,List.getElem?_range hjl]at hj;simp only[Option.map_some,Option.some.injEq]at hj;subst hj;have hh:=hq j hjl;refine⟨b,off,rfl,?_,?_⟩
  ·have:=World.block_lt_of_cell? W _ hh.1;rw[Go.WideShapes.add_plain]at this;exact this
  ·simpa only[Go.WideShapes.add_plain,Nat.add_assoc]using (ψ hh.1 (ψ hh.2.1 hh.2.2.1))
def qx(N x:Int):Bool:=decide (0<=x) && decide (x<N)
def lU(N:Int)(e:Ed):Bool:=qx N e.f && qx N e.t
def gG(N:Int)(E:List Ed):Bool:=decide (0<=N) && decide (N<=4096) && decide (E.length<=65536) && E.all (lU N)
def bE(N:Int)(E:List Ed):Bool:=gG N E && E.all (fun e=>decide (0<=e.w) && decide (e.w<=9223372036854775807 / max N 1))
theorem Al(N x:Int)(a:Option Addr)(n c:Nat)(w:World) :
  Calls Tryz.prog 88 #[.agg #[.int .i64 N,.slice a n c],.int .i64 x] w fun e w'=>e=.returned (.bool (qx N x))/\aa [] w w':=by
 unfold qx
 by_cases h:0<=x
 ·go_enter Tryz.func88,Tryz.ntmps88
  go_wp2;go_ret;exact⟨aT (by simp[h]),(aa.refl _ _).alloc _⟩
 ·go_enter Tryz.func88,Tryz.ntmps88
  go_wp2;go_ret;exact⟨aT (by rw[decide_eq_false ω];rfl),(aa.refl _ _).alloc _⟩
def BoxG(w:World)(B:Nat)(N:Int)(vs:Value):Prop:=w.cell? ⟨B,0,none⟩=some (.int .i64 N)/\w.cell? ⟨B,1,none⟩=some vs
theorem J3(e:Ed)(B:Nat)(N:Int)(a:Option Addr)(n c:Nat)(w:World)(h:BoxG w B N (.slice a n c)) :
  Calls Tryz.prog 87 #[e.val,.pointer (some ⟨B,0,none⟩)] w fun x w'=>x=.returned (.bool (!(lU N e)))/\aa [] w w':=by
 obtain⟨ef,et,ew⟩:=e;unfold Ed.val lU;have h0:=fun W (hu:aa [] w W)=>hu.was h.1;have h1:=fun W (hu:aa [] w W)=>hu.was h.2;have H0:=χ h0;have H1:=χ h1;clear h0 h1;obtain⟨hN,hV⟩:=h;have hB:B<w.heap.size:=World.block_lt_of_cell? w _ hN;have k1:=fun W=>Al N ef a n c W;have k2:=fun W=>Al N et a n c W;cases hb:qx N ef
 ·rw[hb]at k1
  go_enter Tryz.func87,Tryz.ntmps87
  go_wp2_with ((go_at_call 88;(with_reducible refine(k1 _).mono ?_));rintro e w1 ⟨rfl,hu1⟩;have q0:=H0.out _ (((aa.refl _ _).alloc _).trans hu1))
  go_ret;exact⟨aT σ,((aa.refl _ _).alloc _).trans hu1⟩
 ·rw[hb]at k1;have hu0:aa [] w (w.alloc (.cells #[.int .i64 ef,.int .i64 et,.int .i64 ew] 67)):=(aa.refl _ _).alloc _;have E1:∀W,aa [] (w.alloc (.cells #[.int .i64 ef,.int .i64 et,.int .i64 ew] 67)) W->W.cell? ⟨w.heap.size,1,none⟩=some (.int .i64 et):=fun W h=>h.was σ;have HE1:=χ E1;clear E1
  go_enter Tryz.func87,Tryz.ntmps87
  go_wp2_with (first
   | ((go_at_call 88;(with_reducible refine(k1 _).mono ?_));rintro e w1 ⟨rfl,hu1⟩;have q0:=H0.out _ (hu0.trans hu1);have q1:=H1.out _ (hu0.trans hu1);have q2:=HE1.out _ hu1)
   | ((go_at_call 88;(with_reducible refine(k2 _).mono ?_));rintro e w2 ⟨rfl,hu2⟩))
  go_ret;exact⟨aT σ,(hu0.trans hu1).trans hu2⟩
def Mc(b:Bool)(w:World)(r:Ending)(w':World):Prop:=∃i:Int,r=.returned (.int .i64 i)/\decide (0<=i)=b/\aa [] w w'
theorem IM{α:Type}(P:α->Bool)(l:List α)(k:Nat)(x:α)(hx:l[k]?=some x):(l.take (k+1)).any P=((l.take k).any P || P x):=by
 rw[List.take_add_one,hx];simp
theorem Rn(w:World)(va:Value)(E:List Ed)(P:Ed->Bool)(f:FuncId)(rR:Array Value)(hE:vY w va E)(hen:Enters f)
  (hc:∀ (W:World) (e:Ed),aa [] w W->e∈E->Calls Tryz.prog f (#[e.val]++rR) W fun r w'=>r=.returned (.bool (P e))/\aa [] W w') :
  Calls Tryz.prog 89 #[va,.func (Fn.func f) #[] rR] w (Mc (E.any P) w):=by
 obtain⟨a,cap,rfl,hcap⟩:=hE.shape;have HE:=χ hE;have HC:=χ hc;unfold Enters at hen;have hcp:E.length<=9223372036854775807:=by obtain⟨_,_,_,_,h,_⟩:=hE;exact h
 clear hE hc;generalize hn:E.length=n at *;have HN:=χ hn;clear hn
 go_enter Tryz.func89,Tryz.ntmps89
 go_wp2
 go_loopw [5,8] (fun _ i wr=>∃k:Nat,k<=n/\i=.int .i64 (k:Int)/\(E.take k).any P=false/\aa [] w wr) (fun _ i _=>n-(intOf i).toNat)
 case atStart=>exact⟨0,ω,rfl,σ,aa.refl _ _⟩
 case round=>
  obtain⟨k,hk,rfl,hany,hu⟩:=hrel;rename World=>wr
  by_cases hkn:k<n
  ·have E8:k<E.length:=by rw[HN.out];exact hkn
   have hx:E[k]?=some (E.getD k default):=by simp[φ,E8]
   have hmem:E.getD k default∈E:=List.mem_of_getElem? hx;obtain⟨g,off,rfl,hg,c0,c1,c2⟩:=(HE.out.upd hu).at k E8;have kc:=HC.out wr _ hu hmem;generalize E.getD k default=e at *;obtain⟨ef,et,ew⟩:=e;have HM:=χ hmem;have HT:=χ (IM P E k _ hx);have HA:=χ hany;have hwr:IntKind.i64.wrap ((k:Int)+1)=(k:Int)+1:=IntWalk.i64_in _ ω;dsimp only at c0 c1 c2;unfold Ed.val at kc;clear hx hmem hany;cases hp:P ⟨ef,et,ew⟩with
   | false=>
    rw[hp]at kc;have HP:=χ hp;clear hp
    go_wp2_with (first
     | ((with_reducible refine(kc).mono ?_);rintro e w2 ⟨rfl,hu2⟩)
     | fail)
    go_roundw
    case rel=>exact⟨k+1,ω,by go_num,by rw[HT.out,HA.out,HP.out];rfl,hu.trans hu2⟩
    case measure=>simp[intOf];omega
   | true=>
    rw[hp]at kc;have HP:=χ hp;clear hp
    go_wp2_with (first
     | ((with_reducible refine(kc).mono ?_);rintro e w2 ⟨rfl,hu2⟩)
     | fail)
    go_ret;refine⟨(k:Int),rfl,?_,hu.trans hu2⟩;rw[List.any_eq_true.2 ⟨_,HM.out,HP.out⟩];simp
  ·obtain rfl:k=n:=ω;have hfin:E.any P=false:=by rw[←hany,←HN.out,List.take_length]
   have HF:=χ hfin;clear hany hfin;go_wp2;go_ret;exact⟨-1,rfl,by rw[HF.out];rfl,hu⟩
theorem QO(w:World)(va:Value)(E:List Int)(P:Int->Bool)(f:FuncId)(rR:Array Value)(hE:gI w [] va E)(hen:Enters f)
  (hc:∀ (W:World) (e:Int),aa [] w W->e∈E->Calls Tryz.prog f (#[.int .i64 e]++rR) W fun r w'=>r=.returned (.bool (P e))/\aa [] W w') :
  Calls Tryz.prog 77 #[va,.func (Fn.func f) #[] rR] w (Mc (E.any P) w):=by
 obtain⟨a,cap,rfl,hcap,hcap2,hcell⟩:=hE;have HE:=χ hcell;have HC:=χ hc;unfold Enters at hen;have hcp:E.length<=9223372036854775807:=ω;clear hcell hc;generalize hn:E.length=n at *;have HN:=χ hn;clear hn
 go_enter Tryz.func77,Tryz.ntmps77
 go_wp2
 go_loopw [5,8] (fun _ i wr=>∃k:Nat,k<=n/\i=.int .i64 (k:Int)/\(E.take k).any P=false/\aa [] w wr) (fun _ i _=>n-(intOf i).toNat)
 case atStart=>exact⟨0,ω,rfl,σ,aa.refl _ _⟩
 case round=>
  obtain⟨k,hk,rfl,hany,hu⟩:=hrel;rename World=>wr
  by_cases hkn:k<n
  ·have E8:k<E.length:=by rw[HN.out];exact hkn
   have hx:E[k]?=some (E.getD k 0):=by simp[φ,E8]
   have hmem:E.getD k 0∈E:=List.mem_of_getElem? hx;obtain⟨g,off,rfl,hg,_,c0'⟩:=HE.out k _ hx;have c0:=hu.was c0';have kc:=HC.out wr _ hu hmem;generalize E.getD k 0=e at *;have HM:=χ hmem;have HT:=χ (IM P E k _ hx);have HA:=χ hany;have hwr:IntKind.i64.wrap ((k:Int)+1)=(k:Int)+1:=IntWalk.i64_in _ ω;clear c0';clear hx hmem hany;cases hp:P e with
   | false=>
    rw[hp]at kc;have HP:=χ hp;clear hp
    go_wp2_with (first
     | ((with_reducible refine(kc).mono ?_);rintro e w2 ⟨rfl,hu2⟩)
     | fail)
    go_roundw
    case rel=>exact⟨k+1,ω,by go_num,by rw[HT.out,HA.out,HP.out];rfl,hu.trans hu2⟩
    case measure=>simp[intOf];omega
   | true=>
    rw[hp]at kc;have HP:=χ hp;clear hp
    go_wp2_with (first
     | ((with_reducible refine(kc).mono ?_);rintro e w2 ⟨rfl,hu2⟩)
     | fail)
    go_ret;refine⟨(k:Int),rfl,?_,hu.trans hu2⟩;rw[List.any_eq_true.2 ⟨_,HM.out,HP.out⟩];simp
  ·obtain rfl:k=n:=ω;have hfin:E.any P=false:=by rw[←hany,←HN.out,List.take_length]
   have HF:=χ hfin;clear hany hfin;go_wp2;go_ret;exact⟨-1,rfl,by rw[HF.out];rfl,hu⟩
theorem Gb(w:World)(va:Value)(E:List Ed)(P:Ed->Bool)(f:FuncId)(rR:Array Value)(hE:vY w va E)(hen:Enters f)
  (hc:∀ (W:World) (e:Ed),aa [] w W->e∈E->Calls Tryz.prog f (#[e.val]++rR) W fun r w'=>r=.returned (.bool (P e))/\aa [] W w') :
  Calls Tryz.prog 78 #[va,.func (Fn.func f) #[] rR] w fun r w'=>r=.returned (.bool (E.any P))/\aa [] w w':=by
 have k:=Rn w va E P f rR hE hen hc;generalize E.any P=b at *
 go_enter Tryz.func78,Tryz.ntmps78
 go_wp2_with (first
  | ((go_at_call 89;(with_reducible refine(k).mono ?_));rintro e w1 ⟨i,rfl,hi,hu⟩)
  | fail)
 go_ret;exact⟨aT (by rw[←hi]),hu⟩
theorem Rw(w:World)(va:Value)(E:List Int)(P:Int->Bool)(f:FuncId)(rR:Array Value)(hE:gI w [] va E)(hen:Enters f)
  (hc:∀ (W:World) (e:Int),aa [] w W->e∈E->Calls Tryz.prog f (#[.int .i64 e]++rR) W fun r w'=>r=.returned (.bool (P e))/\aa [] W w') :
  Calls Tryz.prog 59 #[va,.func (Fn.func f) #[] rR] w fun r w'=>r=.returned (.bool (E.any P))/\aa [] w w':=by
 have k:=QO w va E P f rR hE hen hc;generalize E.any P=b at *
 go_enter Tryz.func59,Tryz.ntmps59
 go_wp2_with (first
  | ((go_at_call 77;(with_reducible refine(k).mono ?_));rintro e w1 ⟨i,rfl,hi,hu⟩)
  | fail)
 go_ret;exact⟨aT (by rw[←hi]),hu⟩
theorem Hm(E:List Ed)(P:Ed->Bool):E.any (fun e=>!(P e))=!(E.all P):=by
 induction E with
 | nil=>rfl
 | cons e l ih=>rw[List.any_cons,List.all_cons,ih];cases P e<;>simp
theorem Be(w:World)(N:Int)(va:Value)(E:List Ed)(hE:vY w va E) :
  Calls Tryz.prog 74 #[.agg #[.int .i64 N,va]] w fun r w'=>r=.returned (.int .i64 (if gG N E then 0 else 201))/\aa [] w w':=by
 obtain⟨a,cap,rfl,hcap⟩:=hE.shape;have HE:=χ hE;have hl:E.length<=9223372036854775807:=by obtain⟨_,_,_,_,h,_⟩:=hE;exact h
 clear hE;have key:gG N E=(decide (0<=N) && decide (N<=4096) && decide (E.length<=65536) && E.all (lU N)):=rfl
 by_cases h0:N<0
 ·have hr:gG N E=false:=by rw[key,decide_eq_false ω];rfl
  rw[hr];clear key hr
  go_enter Tryz.func74,Tryz.ntmps74
  go_wp2;go_ret;exact⟨rfl,ξ⟩
 ·by_cases h1:N > 4096
  ·have hr:gG N E=false:=by rw[key,decide_eq_false (ω:¬N<=4096)];simp
   rw[hr];clear key hr
   go_enter Tryz.func74,Tryz.ntmps74
   go_wp2;go_ret;exact⟨rfl,ξ⟩
  ·by_cases h2:(E.length:Int) > 65536
   ·have hr:gG N E=false:=by rw[key,decide_eq_false (ω:¬E.length<=65536)];simp
    rw[hr];clear key hr;generalize E.length=n at *
    go_enter Tryz.func74,Tryz.ntmps74
    go_wp2;go_ret;exact⟨rfl,ξ⟩
   ·have hr:gG N E=E.all (lU N):=by rw[key,decide_eq_true (ω:0<=N),decide_eq_true (ω:N<=4096),decide_eq_true (ω:E.length<=65536)];simp
    have u0:aa [] w (w.alloc (.cells #[.int .i64 N,.slice a E.length cap] 57)):=(aa.refl _ _).alloc _;have kc:=fun W (hW:aa [] (w.alloc (.cells #[.int .i64 N,.slice a E.length cap] 57)) W)=>Gb W (.slice a E.length cap) E (fun e=>!(lU N e)) 87 #[.pointer (some ⟨w.heap.size,0,none⟩)] (HE.out.upd (u0.trans hW)) (fun _ _=>by kernel_rfl)
     (fun W2 e hW2 _=>J3 e w.heap.size N a E.length cap W2 ⟨(hW.trans hW2).was σ,(hW.trans hW2).was σ⟩)
    rw[Hm]at kc;rw[hr];clear key hr;cases hall:E.all (lU N)with
    | false=>
     rw[hall]at kc;clear hall;generalize E.length=n at *
     go_enter Tryz.func74,Tryz.ntmps74
     go_wp2_with (first
      | ((go_at_call 78;(with_reducible refine(kc _ (aa.refl _ _)).mono ?_));rintro e w1 ⟨rfl,hu1⟩)
      | fail)
     go_ret;exact⟨rfl,u0.trans hu1⟩
    | true=>
     rw[hall]at kc;clear hall;generalize E.length=n at *
     go_enter Tryz.func74,Tryz.ntmps74
     go_wp2_with (first
      | ((go_at_call 78;(with_reducible refine(kc _ (aa.refl _ _)).mono ?_));rintro e w1 ⟨rfl,hu1⟩)
      | fail)
     go_ret;exact⟨rfl,u0.trans hu1⟩
theorem FZ{α:Type}(P:α->Bool)(l:List α)(k:Nat)(x:α)(hx:l[k]?=some x)(h:(l.take k).all P=true):(l.take (k+1)).all P=P x:=by
 rw[List.take_add_one,hx];simp[h]
theorem vH{α:Type}(P:α->Bool)(l:List α)(x:α)(hx:x∈l)(h:P x=false):l.all P=false:=by
 cases e:l.all P with
 | false=>rfl
 | true=>rw[List.all_eq_true.1 e x hx]at h;cases h
theorem fe{N:Int}{E:List Ed}(h:gG N E=true){e:Ed}(he:e∈E):0<=e.f/\e.f<N/\0<=e.t/\e.t<N:=by
 unfold gG at h;simp only[Bool.and_eq_true]at h;have:=List.all_eq_true.1 h.2 e he;unfold lU qx at this;simp only[Bool.and_eq_true,decide_eq_true_eq]at this;omega
theorem lN{N:Int}{E:List Ed}(h:gG N E=true):0<=N/\N<=4096/\E.length<=65536:=by
 unfold gG at h;simp only[Bool.and_eq_true,decide_eq_true_eq]at h;omega
theorem KS(w:World)(N:Int)(va:Value)(E:List Ed)(hE:vY w va E) :
  Calls Tryz.prog 56 #[.agg #[.int .i64 N,va]] w fun r w'=>r=.returned (.bool (gG N E))/\aa [] w w':=by
 obtain⟨a,cap,rfl,hcap⟩:=hE.shape;have HE:=χ hE;have hl:E.length<=9223372036854775807:=by obtain⟨_,_,_,_,h,_⟩:=hE;exact h
 clear hE;have u0:aa [] w (w.alloc (.cells #[.int .i64 N,.slice a E.length cap] 57)):=(aa.refl _ _).alloc _;have HK:=χ (show gG N E=(decide (0<=N) && decide (N<=4096) && decide (E.length<=65536) && E.all (lU N))from rfl);generalize hn:E.length=n at *;have HN:=χ hn;clear hn
 go_enter Tryz.func56,Tryz.ntmps56
 go_wp2
 go_loopw [4,8] (fun _ i wr=>∃k:Nat,k<=n/\i=.int .i64 (k:Int)/\(E.take k).all (lU N)=true/\aa [] (w.alloc (.cells #[.int .i64 N,.slice a n cap] 57)) wr) (fun _ i _=>n-(intOf i).toNat)
 case atStart=>exact⟨0,ω,rfl,σ,aa.refl _ _⟩
 case round=>
  obtain⟨k,hk,rfl,hall,hu⟩:=hrel;rename World=>wr;have q0:wr.cell? ⟨w.heap.size,0,none⟩=some (.int .i64 N):=hu.was σ;have q1:wr.cell? ⟨w.heap.size,1,none⟩=some (.slice a n cap):=hu.was σ;have hsz:w.heap.size<wr.heap.size:=by have:=hu.size;simp at this;omega
  by_cases hkn:k<n
  ·have E8:k<E.length:=by rw[HN.out];exact hkn
   have hx:E[k]?=some (E.getD k default):=by simp[φ,E8]
   have hmem:E.getD k default∈E:=List.mem_of_getElem? hx;obtain⟨g,off,rfl,hg,c0,c1,c2⟩:=(HE.out.upd (u0.trans hu)).at k E8;generalize E.getD k default=e at *;have HT:=χ (FZ (lU N) E k _ hx hall);have HM:=χ hmem;have hwr:IntKind.i64.wrap ((k:Int)+1)=(k:Int)+1:=IntWalk.i64_in _ ω;obtain⟨ef,et,ew⟩:=e;dsimp only at c0 c1 c2;clear hx hmem hall HE;have hend:lU N ⟨ef,et,ew⟩=(qx N ef && qx N et):=rfl
   by_cases b0:ef<0
   ·have hf:Hid (gG N E=false):=χ (by rw[HK.out,vH (lU N) E _ HM.out (by rw[hend];unfold qx;rw[decide_eq_false ω];rfl)];simp);clear hend;go_wp2;go_ret;exact⟨by rw[hf.out];rfl,by have:=u0.trans hu;exact β⟩
   ·by_cases b1:ef≥N
    ·have hf:Hid (gG N E=false):=χ (by rw[HK.out,vH (lU N) E _ HM.out (by rw[hend];unfold qx;rw[decide_eq_false (ω:¬ef<N)];simp)];simp);clear hend;go_wp2;go_ret;exact⟨by rw[hf.out];rfl,by have:=u0.trans hu;exact β⟩
    ·by_cases b2:et<0
     ·have hf:Hid (gG N E=false):=χ (by rw[HK.out,vH (lU N) E _ HM.out (by rw[hend];unfold qx;rw[decide_eq_false (ω:¬0<=et)];simp)];simp);clear hend;go_wp2;go_ret;exact⟨by rw[hf.out];rfl,by have:=u0.trans hu;exact β⟩
     ·by_cases b3:et≥N
      ·have hf:Hid (gG N E=false):=χ (by rw[HK.out,vH (lU N) E _ HM.out (by rw[hend];unfold qx;rw[decide_eq_false (ω:¬et<N)];simp)];simp);clear hend;go_wp2;go_ret;exact⟨by rw[hf.out];rfl,by have:=u0.trans hu;exact β⟩
      ·have ht:Hid (lU N ⟨ef,et,ew⟩=true):=χ (by rw[hend];unfold qx;simp;omega);clear hend;go_wp2;exact⟨⟨k+1,ω,by go_num,by rw[HT.out,ht.out],β⟩,by simp[intOf];omega⟩
  ·obtain rfl:k=n:=ω;have hfin:E.all (lU N)=true:=by rw[←hall,←HN.out,List.take_length]
   have hr:Hid (gG N E=(decide (0<=N) && decide (N<=4096) && decide (k<=65536))):=χ (by rw[HK.out,hfin,Bool.and_true]);clear hall hfin
   by_cases b0:N≥0
   ·by_cases b1:N<=4096
    ·go_wp2;go_ret;exact⟨aT (by rw[hr.out];first|(simp[b0,b1];done)|(simp[b0,b1];omega)),by have:=u0.trans hu;exact β⟩
    ·go_wp2;go_ret;exact⟨aT (by rw[hr.out];first|(simp[b0,b1];done)|(simp[b0,b1];omega)),by have:=u0.trans hu;exact β⟩
   ·go_wp2;go_ret;exact⟨aT (by rw[hr.out,decide_eq_false (ω:¬0<=N)];first|rfl|(simp;done)|(simp;omega)),by have:=u0.trans hu;exact β⟩
end Go.Proofs.YtklibcncmbofpaaGreat
namespace Go.Proofs.YtklibcncmbofpaaGreat
section
variable {E:List En}{by':Nat->Int}{s N:Nat}{mk:Nat->Nat}
theorem lW(E:List En)(by':Nat->Int):∀ (i j x:Nat),jL E by' (i+j) x=jL E by' j (jL E by' i x):=by
 intro i
 induction i with
 | zero=>intro j x;rw[Nat.zero_add];rfl
 | succ i ih=>intro j x;rw[show i+1+j=(i+j)+1 by omega];exact ih j _
theorem xX{x:Nat}(h:by' x=-1):∀k,jL E by' k x=x:=by
 intro k
 induction k with
 | zero=>rfl
 | succ k ih=>show jL E by' k (ma E by' x)=x;rw[show ma E by' x=x by unfold ma;rw[if_pos h]];exact ih
def rA(E:List En)(by':Nat->Int)(s x:Nat):Prop:=∃k,jL E by' k x=s
theorem Ui(hs:by' s=-1){x j:Nat}(hj:1<=j)(h:jL E by' j x=x)(hx:x≠s):¬rA E by' s x:=by
 rintro⟨k,hk⟩;have hm:∀m,jL E by' (m*j) x=x:=by
  intro m
  induction m with
  | zero=>simp[jL]
  | succ m ih=>rw[Nat.succ_mul,lW,ih,h]
 have h1:k<=k*j:=Nat.le_mul_of_pos_right k hj;have h2:=lW E by' k (k*j-k) x;rw[show k+(k*j-k)=k*j by omega,hm,hk,xX hs]at h2;exact hx h2
theorem VS(hs:by' s=-1){v x k:Nat}(h:jL E by' k v=x)(hx:x≠s)(hg:rA E by' s v):rA E by' s x:=by
 obtain⟨n,hn⟩:=hg
 by_cases hkn:k<=n
 ·refine⟨n-k,?_⟩;rw[←h,←lW,show k+(n-k)=n by omega,hn]
 ·exfalso;have:=lW E by' n (k-n) v;rw[show n+(k-n)=k by omega,h,hn,xX hs]at this;exact hx this
theorem Du{v x k:Nat}(h:jL E by' k v=x)(hg:rA E by' s x):rA E by' s v:=by
 obtain⟨n,hn⟩:=hg;exact⟨k+n,by rw[lW,h,hn]⟩
structure Ua(E:List En)(by':Nat->Int)(s N:Nat):Prop where
 src:by' s=-1
 sN:s<N
 par:∀x,x<N->by' x≠-1->ma E by' x<N/\(ma E by' x=s\/by' (ma E by' x)≠-1)
structure Mk(E:List En)(by':Nat->Int)(s N v:Nat)(mk:Nat->Nat):Prop where
 src:mk s=N+1
 old:∀x,x<N->x≠s->mk x≠0->mk x<=v/\rA E by' s x
 all:∀u,u<v->by' u≠-1->rA E by' s u
structure Db(E:List En)(by':Nat->Int)(s N v:Nat)(mk:Nat->Nat)(a:Nat):Prop where
 src:mk s=N+1
 aN:a<N
 at_:∃k,jL E by' k v=a
 old:∀x,x<N->x≠s->mk x≠0->(mk x<=v/\rA E by' s x)\/(mk x=v+1/\by' v≠-1/\by' x≠-1/\∃j,1<=j/\jL E by' j x=a)
 on:a=s\/by' a≠-1\/a=v
 all:∀u,u<v->by' u≠-1->rA E by' s u
theorem Nf:Mk E by' s N 0 (bI (fun _=>0) s (N+1)):=
 ⟨by unfold bI;rw[if_pos rfl],fun x _ hs h=>by unfold bI at h;rw[if_neg hs]at h;exact absurd rfl h,fun u hu=>ω⟩
theorem Vt{v:Nat}(h:Mk E by' s N v mk)(hv:v<N):Db E by' s N v mk v:=
 ⟨h.src,hv,⟨0,rfl⟩,fun x hx hs hm=>Or.inl (h.old x hx hs hm),Or.inr (Or.inr rfl),h.all⟩
theorem Pg(B:Ua E by' s N){v a:Nat}(h:Db E by' s N v mk a)(h0:mk a=0)(hb:by' a≠-1):Db E by' s N v (bI mk a (v+1)) (ma E by' a):=by
 have has:a≠s:=fun e=>by rw[e,h.src]at h0;omega
 obtain⟨hp,hp2⟩:=B.par a h.aN hb;obtain⟨k,hk⟩:=h.at_;have hvb:by' v≠-1:=fun e=>by
  have:=xX (E:=E) e k;rw[hk]at this;exact hb (by rw[this];exact e)
 refine⟨?_,hp,⟨k+1,by rw[lW,hk];rfl⟩,fun x hx hs hm=>?_,hp2.elim Or.inl (fun h=>Or.inr (Or.inl h)),h.all⟩
 ·unfold bI;rw[if_neg (fun e=>has e.symm)];exact h.src
 ·by_cases e:x=a
  ·subst e;right;exact⟨by unfold bI;rw[if_pos rfl],hvb,hb,1,Nat.le_refl _,rfl⟩
  ·have e1:bI mk a (v+1) x=mk x:=by unfold bI;rw[if_neg e]
   rw[e1]at hm⊢;rcases h.old x hx hs hm with h1|⟨h1,h2,h3,j,h4,h5⟩
   ·exact Or.inl h1
   ·exact Or.inr ⟨h1,h2,h3,j+1,ω,by rw[lW,h5];rfl⟩
theorem OM(B:Ua E by' s N){v a:Nat}(h:Db E by' s N v mk a)(h1:mk a=v+1)(h2:by' v≠-1)(h3:a≠s):¬rA E by' s v:=by
 obtain⟨k,hk⟩:=h.at_;rcases h.old a h.aN h3 ω with h4|⟨_,_,_,j,h5,h6⟩
 ·omega
 ·exact fun hg=>Ui B.src h5 h6 h3 (VS B.src hk h3 hg)
theorem ug(B:Ua E by' s N){v a:Nat}(h:Db E by' s N v mk a)(h0:¬ (mk a=0/\by' a≠-1))(h1:¬ (mk a=v+1/\by' v≠-1/\a≠s)):Mk E by' s N (v+1) mk:=by
 obtain⟨k,hk⟩:=h.at_;have key:by' v=-1\/rA E by' s a:=by
  by_cases hb:by' v=-1
  ·exact Or.inl hb
  ·right
   by_cases e:a=s
   ·exact⟨0,e⟩
   ·by_cases hm:mk a=0
    ·have I8:by' a=-1:=Classical.byContradiction fun hn=>h0 ⟨hm,hn⟩;rcases h.on with h2|h2|h2
     ·exact absurd h2 e
     ·exact absurd I8 h2
     ·subst h2;exact absurd I8 hb
    ·rcases h.old a h.aN e hm with h2|⟨h2,_⟩
     ·exact h2.2
     ·exact absurd ⟨h2,hb,e⟩ h1
 refine⟨h.src,fun x hx hs hm=>?_,fun u hu hbu=>?_⟩
 ·rcases h.old x hx hs hm with h2|⟨h2,h3,h4,j,h5,h6⟩
  ·exact⟨ω,h2.2⟩
  ·refine⟨ω,?_⟩;rcases key with h7|h7
   ·exact absurd h7 h3
   ·exact Du h6 h7
 ·by_cases e:u=v
  ·subst e;rcases key with h7|h7
   ·exact absurd h7 hbu
   ·exact Du hk h7
  ·exact h.all u ω hbu
theorem Ol{v a:Nat}(ha:a<N)(h0:mk a=0):sH (fun x=>bI mk a (v+1) x=0) N<sH (fun x=>mk x=0) N:=by
 refine DY (fun x hx=>?_) ha ?_ h0
 ·unfold bI at hx
  split at hx
  ·omega
  ·exact hx
 ·unfold bI;rw[if_pos rfl];omega
end
end Go.Proofs.YtklibcncmbofpaaGreat
