/-
  Lemmas for PathBest: PrP, PrP2, PrP3, Dij, Edg, Idx, Grf. Conditions: those of each lemma.
-/
import Derived.Deep.Slices
import Derived.Deep.Strs
import Derived.Lib.Mul64
import Derived.Laws.Bits64b
import Derived.IntWalk
import Derived.Test.YtklibcncmbofpaaGreatB03
set_option linter.all false
set_option maxHeartbeats 8000000
set_option maxRecDepth 10000
namespace Go.Proofs.YtklibcncmbofpaaGreat
structure En where
 f:Nat
 t:Nat
 w:Nat
def inf:Nat:=9223372036854775807
def cK (d:Nat->Nat) (x v:Nat):Nat->Nat:=fun y=>if y=x then v else d y
def jS (d:Nat->Nat) (e:En):Nat->Nat:=if d e.f≠inf/\d e.f+e.w<d e.t then cK d e.t (d e.f+e.w) else d
def pass (E:List En) (d:Nat->Nat):Nat->Nat:=E.foldl jS d
def d0 (s:Nat):Nat->Nat:=fun v=>if v=s then 0 else inf
def passes (E:List En) (s:Nat):Nat->(Nat->Nat)
 | 0=>d0 s
 | k+1=>pass E (passes E s k)
def cntF (d:Nat->Nat) (n:Nat):Nat:=((List.range n).filter (fun v=>decide (d v≠inf))).length
theorem lZ (d:Nat->Nat) (n:Nat):cntF d (n+1)=cntF d n+if d n≠inf then 1 else 0:=by
 unfold cntF;rw [List.range_succ,List.filter_append,υ]
 by_cases h:d n=inf
 ·rw [List.filter_cons_of_neg (by simpa using h),if_neg (by simpa using h)];simp
 ·rw [List.filter_cons_of_pos (by simpa using h),if_pos h];simp
theorem Ey (d:Nat->Nat) (n:Nat):cntF d n<=n:=by
 induction n with
 | zero=>simp [cntF]
 | succ n ih=>rw [lZ];split<;>omega
theorem Dw {d d':Nat->Nat} {n:Nat} (h:∀v,v<n->(d v=inf↔d' v=inf)):cntF d n=cntF d' n:=by
 induction n with
 | zero=>rfl
 | succ n ih=>
  rw [lZ,lZ,ih (fun v hv=>h v ω)];have:=h n ω
  by_cases e:d n=inf
  ·rw [if_neg (by simpa using e),if_neg (by simpa using this.1 e)]
  ·rw [if_pos e,if_pos (fun e2=>e (this.2 e2))]
theorem wM {d:Nat->Nat} {n x v:Nat} (hx:x<n) (h1:d x=inf) (h2:v≠inf):cntF (cK d x v) n=cntF d n+1:=by
 induction n with
 | zero=>omega
 | succ n ih=>
  rw [lZ,lZ]
  by_cases e:x=n
  ·subst e;have:cntF (cK d x v) x=cntF d x:=Dw (fun y hy=>by unfold cK;rw [if_neg ω]);rw [this,if_pos (by unfold cK;rw [if_pos rfl];exact h2),if_neg (by simpa using h1)]
  ·rw [ih ω];have:cK d x v n=d n:=by unfold cK;rw [if_neg ω]
   rw [this]
   split<;>omega
inductive QD (E:List En) (s:Nat):Nat->Nat->Prop
 | here:QD E s s 0
 | on {u x:Nat} (e:En):e∈E->QD E s u x->e.f=u->QD E s e.t (x+e.w)
structure Rx (E:List En) (s N m:Nat) (d:Nat->Nat):Prop where
 src:d s=0
 le:∀v,d v<=inf
 bd:∀v,v<N->d v≠inf->d v+m<=cntF d N*m
 way:∀v,d v≠inf->QD E s v (d v)
section
variable {E:List En} {s N m:Nat} {d:Nat->Nat}
theorem Rx.sum (h:Rx E s N m d) (hm:N*m<=inf) {e:En} (hf:e.f<N) (hw:e.w<=m) (hd:d e.f≠inf):d e.f+e.w<=inf:=by
 have h1:=h.bd e.f hf hd;have h2:cntF d N*m<=N*m:=Nat.mul_le_mul_right m (Ey _ _);omega
theorem Xv (hs:s<N) (hm:0<inf):Rx E s N m (d0 s):=by
 have h1:cntF (d0 s) N=1:=by
  have e:d0 s=cK (fun _=>inf) s 0:=rfl;rw [e,wM hs rfl (by unfold inf;omega)];have:∀n,cntF (fun _=>inf) n=0:=fun n=>by
   induction n with
   | zero=>rfl
   | succ n ih=>rw [lZ,ih];simp
  rw [this]
 refine ⟨by simp [d0],fun v=>?_,fun v hv hd=>?_,fun v hd=>?_⟩
 ·unfold d0;split<;>omega
 ·have:v=s:=by
   by_cases e:v=s
   ·exact e
   ·exact absurd (by unfold d0;rw [if_neg e]) hd
  subst this;rw [h1];simp [d0]
 ·have:v=s:=by
   by_cases e:v=s
   ·exact e
   ·exact absurd (by unfold d0;rw [if_neg e]) hd
  subst this;have:d0 v v=0:=by simp [d0]
  rw [this];exact .here
theorem xh (d:Nat->Nat) (e:En) (v:Nat):jS d e v<=d v:=by
 unfold jS
 split
 ·rename_i h
  unfold cK
  split
  ·rename_i e2;subst e2;omega
  ·exact Nat.le_refl _
 ·exact Nat.le_refl _
theorem Lj (h:Rx E s N m d) (hm:N*m<=inf) (hm0:0<m) {e:En} (he:e∈E) (hf:e.f<N) (ht:e.t<N) (hw:e.w<=m):Rx E s N m (jS d e):=by
 have hle:=xh d e;unfold jS at hle ⊢
 split
 ·rename_i hc
  rw [if_pos hc] at hle;have hlt:d e.f+e.w<inf:=by have:=h.le e.t;omega
  have hcn:cntF d N<=cntF (cK d e.t (d e.f+e.w)) N:=by
   by_cases hi:d e.t=inf
   ·rw [wM ht hi ω];omega
   ·rw [Dw (d:=cK d e.t (d e.f+e.w)) (d':=d) (fun v hv=>by
     unfold cK
     split
     ·rename_i ev;subst ev;constructor
      ·intro;omega
      ·intro h2;exact absurd h2 hi
     ·exact Iff.rfl)]
    exact Nat.le_refl _
  refine ⟨?_,fun v=>?_,fun v hv hd=>?_,fun v hd=>?_⟩
  ·have:=hle s;rw [h.src] at this;omega
  ·have:=hle v;have:=h.le v;omega
  ·by_cases ev:v=e.t
   ·have e1:cK d e.t (d e.f+e.w) v=d e.f+e.w:=by unfold cK;rw [if_pos ev]
    rw [e1]
    by_cases hi:d e.t=inf
    ·rw [wM ht hi ω,Nat.succ_mul];have:=h.bd e.f hf hc.1;omega
    ·have h1:=h.bd e.t ht hi;have h2:=Nat.mul_le_mul_right m hcn;omega
   ·have e1:cK d e.t (d e.f+e.w) v=d v:=by unfold cK;rw [if_neg ev]
    rw [e1] at hd ⊢;have h1:=h.bd v hv hd;have h2:=Nat.mul_le_mul_right m hcn;omega
  ·by_cases ev:v=e.t
   ·have e1:cK d e.t (d e.f+e.w) v=d e.f+e.w:=by unfold cK;rw [if_pos ev]
    rw [e1,ev];exact .on e he (h.way _ hc.1) rfl
   ·have e1:cK d e.t (d e.f+e.w) v=d v:=by unfold cK;rw [if_neg ev]
    rw [e1] at hd ⊢;exact h.way v hd
 ·exact h
end
structure II (E:List En) (s N m:Nat):Prop where
 src:s<N
 pos:0<m
 nm:N*m<=inf
 e:∀e,e∈E->e.f<N/\e.t<N/\e.w<=m
def xM (E:List En) (d:Nat->Nat):Prop:=∀e,e∈E->d e.f≠inf->d e.t<=d e.f+e.w
def xK (d:Nat->Nat) (n:Nat):Nat:=((List.range n).map d).sum
theorem tu (d:Nat->Nat) (n:Nat):xK d (n+1)=xK d n+d n:=by
 unfold xK;rw [List.range_succ,List.map_append,List.sum_append];simp
theorem Lb {d d':Nat->Nat} (h:∀v,d' v<=d v) (n:Nat):xK d' n<=xK d n:=by
 induction n with
 | zero=>exact Nat.le_refl _
 | succ n ih=>rw [tu,tu];have:=h n;omega
theorem VL {d d':Nat->Nat} (h:∀v,d' v<=d v) {n x:Nat} (hx:x<n) (hl:d' x<d x):xK d' n<xK d n:=by
 induction n with
 | zero=>omega
 | succ n ih=>
  rw [tu,tu]
  by_cases e:x=n
  ·subst e;have:=Lb h x;omega
  ·have:=ih ω;have:=h n;omega
section
variable {E:List En} {s N m:Nat} {d L:Nat->Nat}
theorem yL (l:List En) (d:Nat->Nat) (v:Nat):l.foldl jS d v<=d v:=by
 induction l generalizing d with
 | nil=>exact Nat.le_refl _
 | cons e l ih=>exact Nat.le_trans (ih _) (xh d e v)
theorem Uy (g:II E s N m) (l:List En) (hl:∀e,e∈l->e∈E) (h:Rx E s N m d):Rx E s N m (l.foldl jS d):=by
 induction l generalizing d with
 | nil=>exact h
 | cons e l ih=>
  have he:=hl e σ;obtain ⟨a,b,c⟩:=g.e e he;exact ih (fun x hx=>hl x (by simp [hx])) (Lj h g.nm g.pos he a b c)
theorem ma (g:II E s N m) (k:Nat):Rx E s N m (passes E s k):=by
 induction k with
 | zero=>exact Xv g.src (by unfold inf;omega)
 | succ k ih=>exact Uy g E (fun _ h=>h) ih
theorem xq (E:List En) (s k v:Nat):passes E s (k+1) v<=passes E s k v:=yL E _ v
theorem Wv {d:Nat->Nat} {e:En} (h:jS d e≠d):jS d e e.t<d e.t:=by
 unfold jS at h ⊢
 split
 ·rename_i hc;unfold cK;rw [if_pos rfl];exact hc.2
 ·rename_i hc;rw [if_neg hc] at h;exact absurd rfl h
theorem Hw (l:List En) (hl:∀e,e∈l->e.t<N) (d:Nat->Nat) (h:¬xK (l.foldl jS d) N<xK d N):∀e,e∈l->jS d e=d:=by
 induction l generalizing d with
 | nil=>intro e he;cases he
 | cons a l ih=>
  simp only [List.foldl_cons] at h;have h1:=Lb (yL l (jS d a)) N;have ha:jS d a=d:=Classical.byContradiction fun hn=>by
   have:=VL (xh d a) (hl a σ) (Wv hn);omega
  rw [ha] at h;intro e he;rcases ρ.1 he with rfl|he
  ·exact ha
  ·exact ih (fun x hx=>hl x (by simp [hx])) d h e he
theorem Ym (g:II E s N m):∃K,∀e,e∈E->jS (passes E s K) e=passes E s K:=by
 have key:∀b k,xK (passes E s k) N<=b->∃K,∀e,e∈E->jS (passes E s K) e=passes E s K:=by
  intro b
  induction b with
  | zero=>
   intro k hk;exact ⟨k,Hw E (fun e he=>(g.e e he).2.1) _ ω⟩
  | succ b ih=>
   intro k hk
   by_cases h:xK (E.foldl jS (passes E s k)) N<xK (passes E s k) N
   ·exact ih (k+1) (by show xK (E.foldl jS (passes E s k)) N<=b;omega)
   ·exact ⟨k,Hw E (fun e he=>(g.e e he).2.1) _ h⟩
 exact key _ 0 (Nat.le_refl _)
theorem Q4 {d:Nat->Nat} (h:∀e,e∈E->jS d e=d):xM E d:=by
 intro e he hf;have h1:=h e he;apply Nat.le_of_not_lt;intro hlt;have h2:jS d e e.t=d e.f+e.w:=by unfold jS;rw [if_pos ⟨hf,hlt⟩];unfold cK;rw [if_pos rfl]
 rw [h1] at h2;omega
theorem J5 (hF:xM E L) (hi:∀v,d v<=inf) {e:En} (he:e∈E) (h:∀v,L v<=d v) (v:Nat):L v<=jS d e v:=by
 unfold jS
 split
 ·rename_i hc
  unfold cK
  split
  ·rename_i ev
   have h1:=h e.f;have h3:=hi e.f;have h2:=hF e he ω;rw [ev];omega
  ·exact h v
 ·exact h v
theorem Ke (hF:xM E L) (l:List En) (hl:∀e,e∈l->e∈E) (hi:∀v,d v<=inf) (h:∀v,L v<=d v):∀v,L v<=l.foldl jS d v:=by
 induction l generalizing d with
 | nil=>exact h
 | cons e l ih=>exact ih (fun x hx=>hl x (by simp [hx])) (fun v=>Nat.le_trans (xh d e v) (hi v)) (J5 hF hi (hl e σ) h)
theorem vO (g:II E s N m) (hF:xM E L) (h0:L s=0) (hi:∀v,L v<=inf) (k:Nat):∀v,L v<=passes E s k v:=by
 induction k with
 | zero=>intro v;show L v<=d0 s v;unfold d0;split;(rename_i e;subst e;omega);exact hi v
 | succ k ih=>exact Ke hF E (fun _ h=>h) (ma g k).le ih
theorem Vo (hF:xM E L) (U:Nat->Prop) (l:List En) (hl:∀e,e∈l->e∈E) (hi:∀v,d v<=inf) (h:∀v,L v<=d v) (hU:∀v,U v->L v<d v) (hx:∃v,U v/\l.foldl jS d v=L v) :
  ∃e,e∈E/\¬U e.f/\U e.t/\L e.f+e.w=L e.t/\L e.f≠inf:=by
 induction l generalizing d with
 | nil=>obtain ⟨v,h1,h2⟩:=hx;have:=hU v h1;simp only [List.foldl_nil] at h2;omega
 | cons e l ih=>
  have he:=hl e σ
  by_cases hu:∀v,U v->L v<jS d e v
  ·exact ih (fun x hx=>hl x (by simp [hx])) (fun v=>Nat.le_trans (xh d e v) (hi v)) (J5 hF hi he h) hu hx
  ·obtain ⟨v,hv⟩:=Classical.not_forall.1 hu;obtain ⟨h1,h2⟩:=Classical.not_imp.1 hv;have h3:=J5 hF hi he h v;have h4:=hU v h1;have h5:jS d e v=L v:=ω;have hc:(d e.f≠inf/\d e.f+e.w<d e.t)/\v=e.t:=by
    unfold jS at h5
    split at h5
    ·rename_i hc
     refine ⟨hc,Classical.byContradiction fun hn=>?_⟩;unfold cK at h5;rw [if_neg hn] at h5;omega
    ·omega
   obtain ⟨hc,rfl⟩:=hc;have h6:jS d e e.t=d e.f+e.w:=by unfold jS;rw [if_pos hc];unfold cK;rw [if_pos rfl]
   have h7:=h e.f;have h8:=hi e.f;have h9:=hF e he ω;have h10:L e.f=d e.f:=ω;exact ⟨e,he,fun hn=>by have:=hU _ hn;omega,h1,ω,ω⟩
theorem Hg (g:II E s N m) (hF:xM E L) (h0:L s=0) (hi:∀v,L v<=inf) (U:Nat->Prop) (k j:Nat) (hU:∀v,U v->L v<passes E s k v) (hx:∃v,U v/\passes E s (k+j) v=L v) :
  ∃e,e∈E/\¬U e.f/\U e.t/\L e.f+e.w=L e.t/\L e.f≠inf:=by
 induction j with
 | zero=>obtain ⟨v,h1,h2⟩:=hx;have:=hU v h1;simp only [Nat.add_zero] at h2;omega
 | succ j ih=>
  by_cases hj:∃v,U v/\passes E s (k+j) v=L v
  ·exact ih hj
  ·have hb:=vO g hF h0 hi (k+j)
   exact Vo hF U E (fun _ h=>h) (ma g (k+j)).le hb (fun v hv=>by
    have h1:=hb v;have h2:passes E s (k+j) v≠L v:=fun h=>hj ⟨v,hv,h⟩
    omega) hx
theorem MX (hF:xM E L) (hi:∀v,d v<=inf) (h:∀v,L v<=d v) {e:En} (he:e∈E) (h1:d e.f=L e.f) (h2:L e.f+e.w=L e.t) (h3:L e.f≠inf):pass E d e.t=L e.t:=by
 obtain ⟨l1,l2,hE⟩:=List.append_of_mem he;have hall:=Ke hF E (fun _ h=>h) hi h e.t;have hl1:∀x,x∈l1->x∈E:=fun x hx=>by rw [hE];simp [hx]
 have ha:=Ke hF l1 hl1 hi h e.f;have hb:=yL l1 d e.f;have hup:pass E d e.t<=L e.t:=by
  unfold pass
  conv=>lhs;rw [hE]
  rw [List.foldl_append,List.foldl_cons];refine Nat.le_trans (yL l2 _ _) ?_;generalize l1.foldl jS d=d1 at *;have hd:d1 e.f=L e.f:=ω;unfold jS
  split
  ·unfold cK;rw [if_pos rfl,hd];omega
  ·rename_i hc
   have:¬ (d1 e.f+e.w<d1 e.t):=fun hlt=>hc ⟨by rw [hd];exact h3,hlt⟩;omega
 unfold pass at hup ⊢;omega
def xE (P:Nat->Prop) [DecidablePred P] (n:Nat):Nat:=((List.range n).filter (fun v=>decide (P v))).length
theorem nQ (P:Nat->Prop) [DecidablePred P] (n:Nat):xE P (n+1)=xE P n+if P n then 1 else 0:=by
 unfold xE;rw [List.range_succ,List.filter_append,υ]
 by_cases h:P n
 ·rw [List.filter_cons_of_pos (by simpa using h),if_pos h];simp
 ·rw [List.filter_cons_of_neg (by simpa using h),if_neg h];simp
theorem DV (P:Nat->Prop) [DecidablePred P] (n:Nat):xE P n<=n:=by
 induction n with
 | zero=>simp [xE]
 | succ n ih=>rw [nQ];split<;>omega
theorem OZ {P Q:Nat->Prop} [DecidablePred P] [DecidablePred Q] (h:∀v,P v->Q v) (n:Nat):xE P n<=xE Q n:=by
 induction n with
 | zero=>exact Nat.le_refl _
 | succ n ih=>
  rw [nQ,nQ]
  by_cases e:P n
  ·rw [if_pos e,if_pos (h n e)];omega
  ·rw [if_neg e];omega
theorem yX {P Q:Nat->Prop} [DecidablePred P] [DecidablePred Q] (h:∀v,P v->Q v) {n x:Nat} (hx:x<n) (h1:¬P x) (h2:Q x):xE P n<xE Q n:=by
 induction n with
 | zero=>omega
 | succ n ih=>
  rw [nQ,nQ]
  by_cases e:x=n
  ·subst e;have:=OZ h x;rw [if_neg h1,if_pos h2];omega
  ·have:=ih ω
   by_cases e2:P n
   ·rw [if_pos e2,if_pos (h n e2)];omega
   ·rw [if_neg e2];omega
theorem zm {P:Nat->Prop} [DecidablePred P] {n x:Nat} (hx:x<n) (h:P x):0<xE P n:=by
 induction n with
 | zero=>omega
 | succ n ih=>
  rw [nQ]
  by_cases e:x=n
  ·subst e;rw [if_pos h];omega
  ·have:=ih ω;omega
theorem Ce (g:II E s N m):xM E (passes E s N):=by
 obtain ⟨K,hK⟩:=Ym g;have hF:=Q4 hK;have hr:=ma g K;have hb:=fun k=>vO g hF hr.src hr.le k;have key:∀k,(∀v,v<N->passes E s k v=passes E s K v)\/k<xE (fun v=>passes E s k v=passes E s K v) N:=by
  intro k
  induction k with
  | zero=>exact Or.inr (zm g.src (by rw [hr.src];show d0 s s=0;simp [d0]))
  | succ k ih=>
   by_cases hall:∀v,v<N->passes E s k v=passes E s K v
   ·left;intro v hv;have h1:=xq E s k v;have h2:=hb (k+1) v;rw [hall v hv] at h1;omega
   ·have ih:=ih.resolve_left hall;right;obtain ⟨v,hv⟩:=Classical.not_forall.1 hall;obtain ⟨hv1,hv2⟩:=Classical.not_imp.1 hv;have hkK:k<=K:=Classical.byContradiction fun hn=>by
     have hmono:∀j,passes E s (K+j) v<=passes E s K v:=fun j=>by
      induction j with
      | zero=>exact Nat.le_refl _
      | succ j ih2=>exact Nat.le_trans (xq E s (K+j) v) ih2
     have h1:=hmono (k-K);rw [show K+(k-K)=k by omega] at h1;have h2:=hb k v;omega
    obtain ⟨e,he,h1,h2,h3,h4⟩:=Hg g hF hr.src hr.le (fun v=>v<N/\passes E s k v≠passes E s K v) k (K-k) (fun v hv=>by
     have:=hb k v;have:=hv.2
     omega) ⟨v,⟨hv1,hv2⟩,by rw [show k+(K-k)=K by omega]⟩
    have hef:passes E s k e.f=passes E s K e.f:=Classical.byContradiction fun hn=>h1 ⟨(g.e e he).1,hn⟩;have hset:=MX hF (ma g k).le (hb k) he hef h3 h4
    have:=yX (P:=fun v=>passes E s k v=passes E s K v) (Q:=fun v=>passes E s (k+1) v=passes E s K v) (fun v hv=>by
     have h1:=xq E s k v;have h2:=hb (k+1) v;rw [hv] at h1
     omega) h2.1 h2.2 hset
    omega
 have hN:∀v,v<N->passes E s N v=passes E s K v:=by
  rcases key N with h|h
  ·exact h
  ·have:=DV (fun v=>passes E s N v=passes E s K v) N;omega
 intro e he hf;obtain ⟨a,b,_⟩:=g.e e he;rw [hN _ a] at hf ⊢;rw [hN _ b];exact hF e he hf
theorem RY (hF:xM E L) (h0:L s=0) (hi:∀v,L v<=inf) {v x:Nat} (h:QD E s v x) (hx:x<inf):L v<=x:=by
 induction h with
 | here=>omega
 | on e he _ hf ih=>
  subst hf;have h1:=ih ω;have h2:=hF e he ω;omega
end
def IP (E:List En) (i:Int):En:=E.getD i.toNat ⟨0,0,0⟩
def qd (E:List En) (by':Nat->Int) (x:Nat):Nat:=if by' x=-1 then x else (IP E (by' x)).f
theorem wz {E:List En} {by':Nat->Int} {x:Nat} (h:by' x≠-1):qd E by' x=(IP E (by' x)).f:=by unfold qd;rw [if_neg h]
def jr (E:List En) (by':Nat->Int) (D:Nat->Nat) (x:Nat):Bool:=
 decide (0<=by' x) && decide (by' x<E.length) && decide ((IP E (by' x)).t=x) && decide (D (qd E by' x)≠inf) && decide (D (qd E by' x)+(IP E (by' x)).w=D x)
def aY (E:List En) (by':Nat->Int) (D:Nat->Nat) (s:Nat):Nat->Nat->Bool
 | 0,x=>decide (x=s)
 | k+1,x=>decide (x=s) || (jr E by' D x && aY E by' D s k (qd E by' x))
def r9 (E:List En) (by':Nat->Int):Nat->Nat->Nat
 | 0,x=>x
 | k+1,x=>r9 E by' k (qd E by' x)
def XC (E:List En) (N s:Nat) (D d:Nat->Nat) (by':Nat->Int):Prop:=
 ∀v,v<N->d v=D v/\((v=s\/D v=inf)->by' v=-1)/\(¬ (v=s\/D v=inf)->aY E by' D s N v=true)
def Xl (E:List En) (N s:Nat) (d:Nat->Nat) (by':Nat->Int):Prop:=
 d s=0/\by' s=-1/\xM E d/\(∀v,v<N->((v≠s/\d v≠inf)↔by' v≠-1)/\(v≠s/\d v≠inf->jr E by' d v=true))/\∀v,v<N->by' v≠-1->∃k,r9 E by' k v=s
section
variable {E:List En} {by':Nat->Int} {D d:Nat->Nat} {s N m:Nat}
theorem ig (E:List En) (by':Nat->Int) (D:Nat->Nat) (x:Nat):jr E by' D x=true↔0<=by' x/\by' x<E.length/\(IP E (by' x)).t=x/\D (qd E by' x)≠inf/\D (qd E by' x)+(IP E (by' x)).w=D x:=by
 unfold jr;simp [and_assoc]
theorem LW {i:Int} (h0:0<=i) (h1:i<E.length):IP E i∈E:=by
 unfold IP;have:i.toNat<E.length:=ω;rw [φ,ε this];exact List.getElem_mem _
theorem EL:∀ (k x:Nat),aY E by' D s k x=true->∃j,r9 E by' j x=s:=by
 intro k
 induction k with
 | zero=>intro x h;exact ⟨0,by simp only [r9];simpa [aY] using h⟩
 | succ k ih=>
  intro x h;unfold aY at h
  by_cases e:x=s
  ·exact ⟨0,e⟩
  ·simp only [e,decide_false,Bool.false_or,Bool.and_eq_true] at h;obtain ⟨j,hj⟩:=ih _ h.2;exact ⟨j+1,hj⟩
theorem jR:∀ (k x:Nat),aY E by' D s k x=true->aY E by' D s (k+1) x=true:=by
 intro k
 induction k with
 | zero=>intro x h;unfold aY at h ⊢;rw [h];rfl
 | succ k ih=>
  intro x h;unfold aY at h ⊢
  by_cases e:x=s
  ·simp [e]
  ·simp only [e,decide_false,Bool.false_or,Bool.and_eq_true] at h ⊢;exact ⟨h.1,ih _ h.2⟩
theorem xk {i j x:Nat} (hij:i<=j) (h:aY E by' D s i x=true):aY E by' D s j x=true:=by
 induction hij with
 | refl=>exact h
 | step _ ih=>exact jR _ _ ih
theorem oJ {k:Nat} (hs:∀x,x<N->jr E by' D x=true->qd E by' x<N) (h:∀x,x<N->aY E by' D s (k+1) x=true->aY E by' D s k x=true) :
  ∀j x,x<N->aY E by' D s (k+j) x=true->aY E by' D s k x=true:=by
 intro j
 induction j with
 | zero=>intro x _ h;exact h
 | succ j ih=>
  intro x hx hc;have hc':aY E by' D s ((k+j)+1) x=true:=hc;unfold aY at hc'
  by_cases e:x=s
  ·refine xk (i:=0) ω ?_;unfold aY;simpa using e
  ·simp only [e,decide_false,Bool.false_or,Bool.and_eq_true] at hc';have h1:=ih _ (hs x hx hc'.1) hc'.2;apply h x hx;unfold aY;simp only [e,decide_false,Bool.false_or,Bool.and_eq_true];exact ⟨hc'.1,h1⟩
theorem Gy (P6:s<N) (hs:∀x,x<N->jr E by' D x=true->qd E by' x<N) {j x:Nat} (hx:x<N) (h:aY E by' D s j x=true):aY E by' D s N x=true:=by
 have key:∀k,(∀x,x<N->aY E by' D s (k+1) x=true->aY E by' D s k x=true)\/k<xE (fun x=>aY E by' D s k x=true) N:=by
  intro k
  induction k with
  | zero=>exact Or.inr (zm P6 (by simp [aY]))
  | succ k ih=>
   rcases ih with ih|ih
   ·left;intro x hx hc;have:=oJ (k:=k) hs ih 2 x hx hc;exact jR _ _ this
   ·by_cases hall:∀x,x<N->aY E by' D s (k+1) x=true->aY E by' D s k x=true
    ·left;intro x hx hc;have:=oJ (k:=k) hs hall 2 x hx hc;exact jR _ _ this
    ·right;obtain ⟨x,hx⟩:=Classical.not_forall.1 hall;obtain ⟨h1,h2⟩:=Classical.not_imp.1 hx;obtain ⟨h3,h4⟩:=Classical.not_imp.1 h2;have:=yX (P:=fun x=>aY E by' D s k x=true) (Q:=fun x=>aY E by' D s (k+1) x=true) (fun v hv=>jR _ _ hv) h1 h4 h3;omega
 rcases key N with hk|hk
 ·by_cases hj:j<=N
  ·exact xk hj h
  ·have e:N+(j-N)=j:=ω;exact oJ (k:=N) hs hk (j-N) x hx (by rw [e];exact h)
 ·have:=DV (fun x=>aY E by' D s N x=true) N;omega
theorem nZ (g:II E s N m) {x:Nat} (h:jr E by' D x=true):qd E by' x<N:=by
 obtain ⟨h0,h1,_⟩:=(ig E by' D x).1 h;rw [wz ω];exact (g.e _ (LW h0 h1)).1
theorem Ct (g:II E s N m) (hd:∀v,v<N->d v<=inf):Xl E N s d by'↔XC E N s (passes E s N) d by':=by
 have R:=ma g N;have F:=Ce g;constructor
 ·rintro ⟨hd0,hb0,hF,hv,hr⟩;have hF':xM E (fun v=>if v<N then d v else inf):=fun e he hf=>by
   obtain ⟨a,b,_⟩:=g.e e he;simp only [a,b,if_pos] at hf ⊢;exact hF e he hf
  have up:∀v,v<N->passes E s N v≠inf->d v<=passes E s N v:=fun v qi hfin=>by
   have h1:=R.le v
   have:=RY (L:=fun v=>if v<N then d v else inf) hF' (by simp only [g.src,if_pos];exact hd0) (fun v=>by
    by_cases e:v<N
    ·simp only [e,if_pos];exact hd v e
    ·simp only [e,if_false];exact Nat.le_refl _) (R.way v hfin) ω
   simpa only [qi,if_pos] using this
  have down:∀k v,v<N->d v≠inf->r9 E by' k v=s->passes E s N v<=d v:=by
   intro k
   induction k with
   | zero=>intro v qi _ hk;simp only [r9] at hk;subst hk;rw [R.src];omega
   | succ k ih=>
    intro v qi hfin hk
    by_cases e:v=s
    ·subst e;rw [R.src];omega
    ·have hst:=(hv v qi).2 ⟨e,hfin⟩;obtain ⟨h0,h1,h2,h3,h4⟩:=(ig E by' d v).1 hst;have hp:=nZ g hst;have h5:=ih _ hp h3 hk;have h6:=hd _ hp;rw [wz ω] at h3 h4 h5 h6;have h7:=F _ (LW h0 h1) ω;rw [h2] at h7;omega
  have same:∀v,v<N->d v=passes E s N v:=fun v qi=>by
   have h1:=hd v qi;have h2:=R.le v
   by_cases hfin:d v=inf
   ·by_cases h3:passes E s N v=inf
    ·rw [hfin,h3]
    ·have:=up v qi h3;omega
   ·have hdn:passes E s N v<=d v:=by
     by_cases e:v=s
     ·subst e;rw [R.src];omega
     ·obtain ⟨k,hk⟩:=hr v qi ((hv v qi).1.1 ⟨e,hfin⟩);exact down k v qi hfin hk
    have:=up v qi ω;omega
  have sOk:∀v,v<N->jr E by' d v=true->jr E by' (passes E s N) v=true:=fun v qi h=>by
   have hp:=nZ g h;obtain ⟨h0,h1,h2,h3,h4⟩:=(ig E by' d v).1 h;rw [same _ hp] at h3 h4;rw [same _ qi] at h4;exact (ig E by' _ v).2 ⟨h0,h1,h2,h3,h4⟩
  intro v qi;refine ⟨same v qi,fun h=>?_,fun h=>?_⟩
  ·apply Classical.byContradiction;intro hn;obtain ⟨h1,h2⟩:=(hv v qi).1.2 hn;rcases h with h|h
   ·exact h1 h
   ·exact h2 (by rw [same v qi];exact h)
  ·have h1:v≠s/\d v≠inf:=⟨fun e=>h (Or.inl e),fun e=>h (Or.inr (by rw [←same v qi];exact e))⟩;obtain ⟨k,hk⟩:=hr v qi ((hv v qi).1.1 h1);have hch:∀k v,v<N->d v≠inf->r9 E by' k v=s->aY E by' (passes E s N) s k v=true:=by
    intro k
    induction k with
    | zero=>intro v _ _ hk;simp only [r9] at hk;unfold aY;simpa using hk
    | succ k ih=>
     intro v qi hfin hk;unfold aY
     by_cases e:v=s
     ·simp [e]
     ·have hst:=(hv v qi).2 ⟨e,hfin⟩;obtain ⟨_,_,_,h3,_⟩:=(ig E by' d v).1 hst;simp only [e,decide_false,Bool.false_or,Bool.and_eq_true];exact ⟨sOk v qi hst,ih _ (nZ g hst) h3 hk⟩
   exact Gy g.src (fun x _ h=>nZ g h) qi (hch k v qi h1.2 hk)
 ·intro hT;have same:∀v,v<N->d v=passes E s N v:=fun v hv=>(hT v hv).1;have hFd:xM E d:=fun e he hf=>by
   obtain ⟨a,b,_⟩:=g.e e he;rw [same _ a] at hf ⊢;rw [same _ b];exact F e he hf
  have hch:∀v,v<N->v≠s/\d v≠inf->aY E by' (passes E s N) s N v=true:=fun v hv h=>(hT v hv).2.2 (fun hn=>by
   rcases hn with hn|hn
   ·exact h.1 hn
   ·exact h.2 (by rw [same v hv];exact hn))
  have hN:0<N:=Nat.lt_of_le_of_lt (Nat.zero_le _) g.src;have hst:∀v,v<N->v≠s/\d v≠inf->jr E by' (passes E s N) v=true:=fun v hv h=>by
   have h1:=hch v hv h;obtain ⟨n,rfl⟩:∃n,N=n+1:=⟨N-1,ω⟩;unfold aY at h1;simp only [h.1,decide_false,Bool.false_or,Bool.and_eq_true] at h1;exact h1.1
  refine ⟨by rw [same _ g.src,R.src],(hT s g.src).2.1 (Or.inl rfl),hFd,fun v hv=>⟨⟨fun h hn=>?_,fun h=>?_⟩,fun h=>?_⟩,fun v hv hb=>?_⟩
  ·obtain ⟨h0,_⟩:=(ig E by' _ v).1 (hst v hv h);omega
  ·refine ⟨fun e=>h ((hT v hv).2.1 (Or.inl e)),fun e=>h ((hT v hv).2.1 (Or.inr (by rw [←same v hv];exact e)))⟩
  ·have h1:=hst v hv h;have hp:=nZ g h1;obtain ⟨h0,h1,h2,h3,h4⟩:=(ig E by' _ v).1 h1;rw [←same _ hp] at h3 h4;rw [←same _ hv] at h4;exact (ig E by' d v).2 ⟨h0,h1,h2,h3,h4⟩
  ·have h1:v≠s/\d v≠inf:=⟨fun e=>hb ((hT v hv).2.1 (Or.inl e)),fun e=>hb ((hT v hv).2.1 (Or.inr (by rw [←same v hv];exact e)))⟩;exact EL N v (hch v hv h1)
end
def jC (E:List En) (i:Nat):En:=E.getD i ⟨0,0,0⟩
theorem Dz {E:List En} {i:Nat} (h:i<E.length):jC E i∈E:=by
 unfold jC;rw [φ,ε h];exact List.getElem_mem _
structure DJ (E:List En) (s N m:Nat) (d:Nat->Nat) (b:Nat->Int) (S:List Nat) (W:Nat->Prop) (R:Nat->Prop):Prop where
 rx:Rx E s N m d
 nd:S.Nodup
 sN:∀v,v∈S->v<N
 wN:∀v,W v->v<N/\v∉S
 rc:∀v,v<N->(d v≠inf↔v∈S\/W v)
 mono:∀u v,u∈S->W v->d u<=d v
 top:∀u x S',S=x::S'->u∈S->d u<=d x
 rel:∀i,i<E.length->R i->(jC E i).f∈S->d (jC E i).t<=d (jC E i).f+(jC E i).w
 bs:b s=-1
 bn:∀v,v<N->d v=inf->b v=-1
 be:∀v,v<N->v≠s->d v≠inf->∃i:Nat,b v=i/\i<E.length/\(jC E i).t=v/\d (jC E i).f+(jC E i).w=d v/\(v∉S->(jC E i).f∈S)/\∀l1 l2,S=l1++v::l2->(jC E i).f∈l2
section
variable {E:List En} {s N m:Nat} {d:Nat->Nat} {b:Nat->Int} {S:List Nat} {W R:Nat->Prop}
theorem UW (hs:s<N):DJ E s N m (d0 s) (fun _=>-1) [] (fun v=>v=s) (fun _=>True):=by
 have e:∀v,d0 s v≠inf↔v=s:=fun v=>by
  unfold d0
  by_cases h:v=s
  ·rw [if_pos h];simp [h,inf]
  ·rw [if_neg h];simp [h]
 refine ⟨Xv hs δ,σ,σ,fun v hv=>⟨by rw [hv];exact hs,σ⟩,fun v hv=>by rw [e];simp,σ,σ,σ,rfl,fun _ _ _=>rfl,fun v hv hne hd=>absurd ((e v).1 hd) hne⟩
theorem Uw (h:DJ E s N m d b S W (fun _=>True)) {v:Nat} (hv:W v) (hmin:∀u,W u->d v<=d u):DJ E s N m d b (v::S) (fun u=>W u/\u≠v) (fun i=>(jC E i).f≠v):=by
 obtain ⟨qi,Qb⟩:=h.wN v hv;refine ⟨h.rx,List.nodup_cons.2 ⟨Qb,h.nd⟩,fun u hu=>?_,fun u hu=>⟨(h.wN u hu.1).1,fun hm=>?_⟩,fun u hu=>?_,fun u x hu hx=>?_,fun u x S' hS hu=>?_,fun i hi hR hf=>?_,h.bs,h.bn,fun u hu hne hd=>?_⟩
 ·rcases ρ.1 hu with rfl|hu
  ·exact qi
  ·exact h.sN u hu
 ·rcases ρ.1 hm with e|e
  ·exact hu.2 e
  ·exact (h.wN u hu.1).2 e
 ·rw [h.rc u hu,ρ];constructor
  ·rintro (h1|h1)
   ·exact Or.inl (Or.inr h1)
   ·by_cases e:u=v
    ·exact Or.inl (Or.inl e)
    ·exact Or.inr ⟨h1,e⟩
  ·rintro ((h1|h1)|h1)
   ·rw [h1];exact Or.inr hv
   ·exact Or.inl h1
   ·exact Or.inr h1.1
 ·rcases ρ.1 hu with rfl|hu
  ·exact hmin x hx.1
  ·exact h.mono u x hu hx.1
 ·cases hS;rcases ρ.1 hu with rfl|hu
  ·exact Nat.le_refl _
  ·exact h.mono u v hu hv
 ·rcases ρ.1 hf with e|e
  ·exact absurd e hR
  ·exact h.rel i hi trivial e
 ·obtain ⟨i,h1,h2,h3,h4,h5,h6⟩:=h.be u hu hne hd;refine ⟨i,h1,h2,h3,h4,fun hn=>ρ.2 (Or.inr (h5 (fun hm=>hn (ρ.2 (Or.inr hm))))),fun l1 l2 hS=>?_⟩;cases l1 with
  | nil=>
   simp only [List.nil_append,List.cons.injEq] at hS;rw [←hS.2];exact h5 (by rw [←hS.1];exact Qb)
  | cons y l1=>
   simp only [List.cons_append,List.cons.injEq] at hS;exact h6 l1 l2 hS.2
theorem Wd {v:Nat} (h:DJ E s N m d b (v::S) W R) {i:Nat} (hf:(jC E i).f=v) (hn:¬d v+(jC E i).w<d (jC E i).t):DJ E s N m d b (v::S) W (fun j=>R j\/j=i):=by
 refine ⟨h.rx,h.nd,h.sN,h.wN,h.rc,h.mono,h.top,fun j hj hR hm=>?_,h.bs,h.bn,h.be⟩;rcases hR with hR|rfl
 ·exact h.rel j hj hR hm
 ·rw [hf];omega
theorem X5 (g:II E s N m) {v:Nat} (h:DJ E s N m d b (v::S) W R) {i:Nat} (hi:i<E.length) (hf:(jC E i).f=v) (hn:d v+(jC E i).w<d (jC E i).t) :
  DJ E s N m (cK d (jC E i).t (d v+(jC E i).w)) (fun u=>if u=(jC E i).t then (i:Int) else b u) (v::S) (fun u=>W u\/u=(jC E i).t) (fun j=>R j\/j=i):=by
 have hmem:=Dz hi;obtain ⟨hfN,Uj,QJ⟩:=g.e _ hmem;have qi:v<N:=by rw [←hf];exact hfN
 have hvd:d v≠inf:=(h.rc v qi).2 (Or.inl σ);have hle:=h.rx.le (jC E i).t;have hrel:jS d (jC E i)=cK d (jC E i).t (d v+(jC E i).w):=by unfold jS;rw [hf,if_pos ⟨hvd,hn⟩]
 have hrx:=Lj h.rx g.nm g.pos hmem hfN Uj QJ;rw [hrel] at hrx;have htS:(jC E i).t∉v::S:=fun hm=>by
  have:=h.top _ v S rfl hm;omega
 have hts:(jC E i).t≠s:=fun e=>by rw [e,h.rx.src] at hn;omega
 have hv0:∀u,u∈v::S->cK d (jC E i).t (d v+(jC E i).w) u=d u:=fun u hu=>by unfold cK;rw [if_neg (fun e=>htS (by rw [←e];exact hu))]
 have hv1:∀u,cK d (jC E i).t (d v+(jC E i).w) u<=d u:=fun u=>by
  unfold cK
  split
  ·rename_i e;rw [e];omega
  ·exact Nat.le_refl _
 refine ⟨hrx,h.nd,h.sN,fun u hu=>?_,fun u hu=>?_,fun u x hu hx=>?_,fun u x S' hS hu=>?_,fun j hj hR hm=>?_,?_,fun u hu hd=>?_,fun u hu hne hd=>?_⟩
 ·rcases hu with hu|rfl
  ·exact h.wN u hu
  ·exact ⟨Uj,htS⟩
 ·by_cases e:u=(jC E i).t
  ·have:cK d (jC E i).t (d v+(jC E i).w) u=d v+(jC E i).w:=by unfold cK;rw [if_pos e]
   rw [this];constructor
   ·intro _;exact Or.inr (Or.inr e)
   ·intro _;omega
  ·have:cK d (jC E i).t (d v+(jC E i).w) u=d u:=by unfold cK;rw [if_neg e]
   rw [this,h.rc u hu];constructor
   ·rintro (h1|h1)
    ·exact Or.inl h1
    ·exact Or.inr (Or.inl h1)
   ·rintro (h1|h1|h1)
    ·exact Or.inl h1
    ·exact Or.inr h1
    ·exact absurd h1 e
 ·rw [hv0 u hu];rcases hx with hx|rfl
  ·by_cases e:x=(jC E i).t
   ·unfold cK;rw [if_pos e];have:=h.top u v S rfl hu;omega
   ·unfold cK;rw [if_neg e];exact h.mono u x hu hx
  ·unfold cK;rw [if_pos rfl];have:=h.top u v S rfl hu;omega
 ·rw [hv0 u hu,hv0 x (by rw [hS];simp)];exact h.top u x S' hS hu
 ·rcases hR with hR|rfl
  ·rw [hv0 _ hm];exact Nat.le_trans (hv1 _) (h.rel j hj hR hm)
  ·rw [hv0 _ hm,hf];unfold cK;rw [if_pos rfl];exact Nat.le_refl _
 ·show (if s=(jC E i).t then (i:Int) else b s)=-1
  rw [if_neg (fun e=>hts e.symm)];exact h.bs
 ·have e:u≠(jC E i).t:=fun e=>by
   unfold cK at hd;rw [if_pos e] at hd;omega
  show (if u=(jC E i).t then (i:Int) else b u)=-1
  rw [if_neg e];unfold cK at hd;rw [if_neg e] at hd;exact h.bn u hu hd
 ·by_cases e:u=(jC E i).t
  ·refine ⟨i,by show (if u=(jC E i).t then (i:Int) else b u)=i;rw [if_pos e],hi,e.symm,?_,fun _=>by rw [hf];simp,fun l1 l2 hS=>absurd (by rw [hS,e];simp) htS⟩;rw [hf,hv0 v σ];unfold cK;rw [if_pos e]
  ·have hdu:cK d (jC E i).t (d v+(jC E i).w) u=d u:=by unfold cK;rw [if_neg e]
   rw [hdu] at hd ⊢;obtain ⟨j,h1,h2,h3,h4,h5,h6⟩:=h.be u hu hne hd;have hjS:(jC E j).f∈v::S:=by
    by_cases hm:u∈v::S
    ·obtain ⟨l1,l2,hl⟩:=List.append_of_mem hm;rw [hl];have:=h6 l1 l2 hl;simp [this]
    ·exact h5 hm
   refine ⟨j,by show (if u=(jC E i).t then (i:Int) else b u)=j;rw [if_neg e];exact h1,h2,h3,?_,h5,h6⟩;rw [hv0 _ hjS];exact h4
theorem Tq {v:Nat} (h:DJ E s N m d b (v::S) W R) (hR:∀i,i<E.length->R i):DJ E s N m d b (v::S) W (fun _=>True):=
 ⟨h.rx,h.nd,h.sN,h.wN,h.rc,h.mono,h.top,fun i hi _ hm=>h.rel i hi (hR i hi) hm,h.bs,h.bn,h.be⟩
theorem ZA (hs:s<N) (g:II E s N m) (h:DJ E s N m d b S W (fun _=>True)) (hW:∀v,¬W v):Xl E N s d b:=by
 have hrc:∀v,v<N->(d v≠inf↔v∈S):=fun v hv=>by
  rw [h.rc v hv];exact ⟨fun e=>e.elim id (fun e=>(hW v e).elim),Or.inl⟩
 have hbe:∀v,v<N->v≠s->d v≠inf->∃i:Nat,b v=i/\i<E.length/\(jC E i).t=v/\d (jC E i).f+(jC E i).w=d v/\(jC E i).f∈S/\∀l1 l2,S=l1++v::l2->(jC E i).f∈l2:=fun v hv hne hd=>by
  obtain ⟨i,h1,h2,h3,h4,_,h6⟩:=h.be v hv hne hd;refine ⟨i,h1,h2,h3,h4,?_,h6⟩;obtain ⟨l1,l2,hl⟩:=List.append_of_mem ((hrc v hv).1 hd);have:=h6 l1 l2 hl;rw [hl];simp [this]
 have Xj:∀i:Nat,IP E (i:Int)=jC E i:=fun i=>by unfold IP jC;rw [show ((i:Nat):Int).toNat=i by omega]
 have hbn:∀v,v<N->b v≠-1->v≠s/\d v≠inf:=fun v hv hb=>⟨fun e=>hb (by rw [e];exact h.bs),fun e=>hb (h.bn v hv e)⟩
 have U5:∀v i,b v=((i:Nat):Int)->qd E b v=(jC E i).f:=fun v i hb=>by rw [wz ω,hb,Xj]
 refine ⟨h.rx.src,h.bs,fun e he hd=>?_,fun v hv=>⟨⟨fun ⟨h1,h2⟩=>?_,hbn v hv⟩,fun ⟨h1,h2⟩=>?_⟩,?_⟩
 ·obtain ⟨i,hi,rfl⟩:=List.mem_iff_getElem.1 he;have hg:jC E i=E[i]:=by unfold jC;rw [φ,ε hi];rfl
  have:=h.rel i hi trivial (by rw [hg];exact (hrc _ (g.e _ he).1).1 hd);rwa [hg] at this
 ·obtain ⟨i,hb,_⟩:=hbe v hv h1 h2;rw [hb];omega
 ·obtain ⟨i,hb,hi,ht,hsum,hfS,_⟩:=hbe v hv h1 h2;rw [ig,U5 v i hb,hb,Xj];exact ⟨ω,ω,ht,(hrc _ (h.sN _ hfS)).2 hfS,hsum⟩
 ·-- the way back,by the places in S
  have key:∀ (n:Nat) (l1 l2:List Nat) (v:Nat),l2.length<=n->S=l1++v::l2->∃k,r9 E b k v=s:=by
   intro n
   induction n with
   | zero=>
    intro l1 l2 v hl hS
    by_cases e:v=s
    ·exact ⟨0,e⟩
    ·have Qb:v∈S:=by rw [hS];simp
     obtain ⟨i,hb,hi,ht,hsum,hfS,h6⟩:=hbe v (h.sN v Qb) e ((hrc v (h.sN v Qb)).2 Qb);have:=h6 l1 l2 hS;have hl0:l2=[]:=List.eq_nil_of_length_eq_zero ω;rw [hl0] at this;cases this
   | succ n ih=>
    intro l1 l2 v hl hS
    by_cases e:v=s
    ·exact ⟨0,e⟩
    ·have Qb:v∈S:=by rw [hS];simp
     obtain ⟨i,hb,hi,ht,hsum,hfS,h6⟩:=hbe v (h.sN v Qb) e ((hrc v (h.sN v Qb)).2 Qb);obtain ⟨m1,m2,hm⟩:=List.append_of_mem (h6 l1 l2 hS);have hlen:m2.length<=n:=by rw [hm] at hl;simp at hl;omega
     obtain ⟨k,hk⟩:=ih (l1++v::m1) m2 (jC E i).f hlen (by rw [hS,hm];simp);exact ⟨k+1,by show r9 E b k (qd E b v)=s;rw [U5 v i hb];exact hk⟩
  intro v hv hb;obtain ⟨h1,h2⟩:=hbn v hv hb;obtain ⟨l1,l2,hl⟩:=List.append_of_mem ((hrc v hv).1 h2);exact key l2.length l1 l2 v (Nat.le_refl _) hl
end
end Go.Proofs.YtklibcncmbofpaaGreat
namespace Go.Proofs.YtklibcncmbofpaaGreat
open Go Go.RowKit
structure Ed where
 f:Int
 t:Int
 w:Int
instance:Inhabited Ed:=⟨⟨0,0,0⟩⟩
def Ed.val (e:Ed):Value:=.agg #[.int .i64 e.f,.int .i64 e.t,.int .i64 e.w]
def Bi (w:World) (v:Value) (E:List Ed):Prop:=
 ∃a cap,v=.slice a E.length cap/\cap<=9223372036854775807/\E.length<=9223372036854775807/\∀j e,E[j]?=some e->∃g off,a=some ⟨g,off,none⟩/\g<w.heap.size/\
  w.cell? ⟨g,off+j*3,none⟩=some (.int .i64 e.f)/\w.cell? ⟨g,off+j*3+1,none⟩=some (.int .i64 e.t)/\w.cell? ⟨g,off+j*3+2,none⟩=some (.int .i64 e.w)
theorem Bi.upd {w w':World} {v:Value} {E:List Ed} (h:Bi w v E) (hu:aa [] w w'):Bi w' v E:=by
 obtain ⟨a,cap,rfl,h1,h1',h2⟩:=h;refine ⟨a,cap,rfl,h1,h1',fun j e hj=>?_⟩;obtain ⟨g,off,rfl,hg,h3,h4,h5⟩:=h2 j e hj;exact ⟨g,off,rfl,Nat.lt_of_lt_of_le hg hu.size,hu.was h3,hu.was h4,hu.was h5⟩
theorem Bi.shape {w:World} {v:Value} {E:List Ed} (h:Bi w v E):∃a cap,v=.slice a E.length cap/\cap<=9223372036854775807:=by
 obtain ⟨a,cap,rfl,h1,_⟩:=h;exact ⟨a,cap,rfl,h1⟩
theorem Bi.at {w:World} {a:Option Addr} {n c:Nat} {E:List Ed} (h:Bi w (.slice a n c) E) (j:Nat) (hj:j<E.length):∃g off,a=some ⟨g,off,none⟩/\g<w.heap.size/\
  w.cell? ⟨g,off+j*3,none⟩=some (.int .i64 (E.getD j default).f)/\w.cell? ⟨g,off+j*3+1,none⟩=some (.int .i64 (E.getD j default).t)/\w.cell? ⟨g,off+j*3+2,none⟩=some (.int .i64 (E.getD j default).w):=by
 obtain ⟨a',cap,he,h1,h1',h2⟩:=h;cases he;exact h2 j _ (by simp [φ,hj])
set_option maxRecDepth 100000 in
open Go.ChangeShapes Go.ChangeAt Go.WideShapes in
theorem Gn {H:Type} {enc:TypeId×Value->H} {W:World} {v:Value} {y:DataW H×List MemPlace} {m:Nat} {base:Nat} {sp:Nat->Bool}
  (hf:DataW.trod enc Tryz.prog W base sp true m 55 [v]=some y):∃E,Bi W v E/\∀e,e∈E->-9223372036854775808<=e.w/\e.w<=9223372036854775807:=by
 rcases Go.Deep.open_slice Tryz.underlying55 hf with ⟨hcs,_⟩|⟨y,l,c,m,n,D,Pl,hcs,_,hl,hm,hmm,_,hx⟩
 ·simp at hcs;subst hcs;exact ⟨[],⟨none,0,rfl,ω,σ,fun j e h=>by simp at h⟩,fun e he=>by cases he⟩
 ·simp at hcs;subst hcs;have hlm:l<=m:=by rw [hmm];split<;>omega
  have hc4:Tryz.prog.cellsOf 67=3:=by kernel_rfl
  rw [hc4] at hx;have key:∀i,∃q:(Int×Int×Int),i<l->W.cell? (y.add (i*3))=some (.int .i64 q.1)/\W.cell? (y.add (i*3+1))=some (.int .i64 q.2.1)/\W.cell? (y.add (i*3+2))=some (.int .i64 q.2.2)/\(-9223372036854775808<=q.2.2/\q.2.2<=9223372036854775807):=fun i=>by
   by_cases hi:i<l
   ·obtain ⟨cs,h1,h2⟩:=hx i ω;obtain ⟨_,hlen,hcell⟩:=World.cells?_some h1;obtain ⟨xs,n',_,_,_,hlx,Yu⟩:=DataW.trod_struct Tryz.underlying67 h2
    match cs,hlen with
    | [c0,c1,c2],_=>
     have f0:=Yu 0 _ rfl;have f1:=Yu 1 _ rfl;have f2:=Yu 2 _ rfl
     match xs,hlx with
     | [x0,x1,x2],_=>
      obtain ⟨k,e0,_,_⟩:=DataW.trod_int Tryz.underlying3 f0;obtain ⟨p,e1,_,_⟩:=DataW.trod_int Tryz.underlying3 f1;obtain ⟨x,e2,_,wx⟩:=DataW.trod_int Tryz.underlying2 f2;have g0:=hcell 0 ω;have g1:=hcell 1 ω;have g2:=hcell 2 ω;rw [Go.Deep.add_add] at g0 g1 g2;have t1:Tryz.prog.cellsOf 3=1:=by kernel_rfl
      have t2:Tryz.prog.cellsOf 2=1:=by kernel_rfl
      simp [t1,t2] at e0 e1 e2;subst e0 e1 e2;exact ⟨(k,p,x),fun _=>⟨by simpa using g0,by simpa using g1,by simpa using g2,by simp [Lit.wf,IntKind.min,IntKind.max,IntKind.signed,IntKind.bits] at wx;omega⟩⟩
   ·exact ⟨(0,0,0),fun h=>absurd h hi⟩
  obtain ⟨q,hq⟩:=Classical.axiomOfChoice key;have hlen:((List.range l).map fun i=>(⟨(q i).1,(q i).2.1,(q i).2.2⟩:Ed)).length=l:=σ;refine ⟨(List.range l).map fun i=>⟨(q i).1,(q i).2.1,(q i).2.2⟩,⟨some y,c,by rw [hlen],by unfold maxLen at hm;omega,by rw [hlen];unfold maxLen at hm;omega,fun j e hj=>?_⟩,fun e he=>?_⟩
  rotate_left
  ·obtain ⟨i,hi,rfl⟩:=List.mem_map.1 he;exact (hq i (List.mem_range.1 hi)).2.2.2
  obtain ⟨b,off,spot⟩:=y;have hjl:j<l:=by
   have:=(List.getElem?_eq_some_iff.1 hj).1;rwa [hlen] at this
  have hspot:spot=none:=by have:=World.cell?_spot (hq 0 ω).1;simpa [Addr.add] using this
  subst hspot;rw [List.getElem?_map,List.getElem?_range hjl] at hj;simp only [Option.map_some,Option.some.injEq] at hj;subst hj;have hh:=hq j hjl;refine ⟨b,off,rfl,?_,?_⟩
  ·have:=World.block_lt_of_cell? W _ hh.1;rw [Go.WideShapes.add_plain] at this;exact this
  ·simpa only [Go.WideShapes.add_plain,Nat.add_assoc] using (ψ hh.1 (ψ hh.2.1 hh.2.2.1))
def qj (N x:Int):Bool:=decide (0<=x) && decide (x<N)
def lW (N:Int) (e:Ed):Bool:=qj N e.f && qj N e.t
def fU (N:Int) (E:List Ed):Bool:=decide (0<=N) && decide (N<=4096) && decide (E.length<=65536) && E.all (lW N)
def dV (N:Int) (E:List Ed):Bool:=fU N E && E.all (fun e=>decide (0<=e.w) && decide (e.w<=9223372036854775807 / max N 1))
theorem zK (N x:Int) (a:Option Addr) (n c:Nat) (w:World) :
  Calls Tryz.prog 88 #[.agg #[.int .i64 N,.slice a n c],.int .i64 x] w fun e w'=>e=.returned (.bool (qj N x))/\aa [] w w':=by
 unfold qj
 by_cases h:0<=x
 ·go_enter Tryz.func88,Tryz.ntmps88
  go_wp2;go_ret;exact ⟨bf (by simp [h]),(aa.refl _ _).alloc _⟩
 ·go_enter Tryz.func88,Tryz.ntmps88
  go_wp2;go_ret;exact ⟨bf (by rw [decide_eq_false ω];rfl),(aa.refl _ _).alloc _⟩
def BoxG (w:World) (B:Nat) (N:Int) (vs:Value):Prop:=w.cell? ⟨B,0,none⟩=some (.int .i64 N)/\w.cell? ⟨B,1,none⟩=some vs
theorem JY (e:Ed) (B:Nat) (N:Int) (a:Option Addr) (n c:Nat) (w:World) (h:BoxG w B N (.slice a n c)) :
  Calls Tryz.prog 87 #[e.val,.pointer (some ⟨B,0,none⟩)] w fun x w'=>x=.returned (.bool (!(lW N e)))/\aa [] w w':=by
 obtain ⟨ef,et,ew⟩:=e;unfold Ed.val lW;have h0:=fun W (hu:aa [] w W)=>hu.was h.1;have h1:=fun W (hu:aa [] w W)=>hu.was h.2;have H0:=χ h0;have H1:=χ h1;clear h0 h1;obtain ⟨hN,hV⟩:=h;have hB:B<w.heap.size:=World.block_lt_of_cell? w _ hN;have k1:=fun W=>zK N ef a n c W;have k2:=fun W=>zK N et a n c W;cases hb:qj N ef
 ·rw [hb] at k1
  go_enter Tryz.func87,Tryz.ntmps87
  go_wp2_with ((go_at_call 88;(with_reducible refine (k1 _).mono ?_));rintro e w1 ⟨rfl,hu1⟩;have q0:=H0.out _ (((aa.refl _ _).alloc _).trans hu1))
  go_ret;exact ⟨bf σ,((aa.refl _ _).alloc _).trans hu1⟩
 ·rw [hb] at k1;have hu0:aa [] w (w.alloc (.cells #[.int .i64 ef,.int .i64 et,.int .i64 ew] 67)):=(aa.refl _ _).alloc _;have E1:∀W,aa [] (w.alloc (.cells #[.int .i64 ef,.int .i64 et,.int .i64 ew] 67)) W->W.cell? ⟨w.heap.size,1,none⟩=some (.int .i64 et):=fun W h=>h.was σ;have HE1:=χ E1;clear E1
  go_enter Tryz.func87,Tryz.ntmps87
  go_wp2_with (first
   | ((go_at_call 88;(with_reducible refine (k1 _).mono ?_));rintro e w1 ⟨rfl,hu1⟩;have q0:=H0.out _ (hu0.trans hu1);have q1:=H1.out _ (hu0.trans hu1);have q2:=HE1.out _ hu1)
   | ((go_at_call 88;(with_reducible refine (k2 _).mono ?_));rintro e w2 ⟨rfl,hu2⟩))
  go_ret;exact ⟨bf σ,(hu0.trans hu1).trans hu2⟩
def Vx (b:Bool) (w:World) (r:Ending) (w':World):Prop:=∃i:Int,r=.returned (.int .i64 i)/\decide (0<=i)=b/\aa [] w w'
theorem TW {α:Type} (P:α->Bool) (l:List α) (k:Nat) (x:α) (hx:l[k]?=some x):(l.take (k+1)).any P=((l.take k).any P || P x):=by
 rw [List.take_add_one,hx];simp
theorem Qu (w:World) (va:Value) (E:List Ed) (P:Ed->Bool) (f:FuncId) (Ba:Array Value) (hE:Bi w va E) (hen:Enters f)
  (hc:∀ (W:World) (e:Ed),aa [] w W->e∈E->Calls Tryz.prog f (#[e.val]++Ba) W fun r w'=>r=.returned (.bool (P e))/\aa [] W w') :
  Calls Tryz.prog 89 #[va,.func (Fn.func f) #[] Ba] w (Vx (E.any P) w):=by
 obtain ⟨a,cap,rfl,hcap⟩:=hE.shape;have HE:=χ hE;have HC:=χ hc;unfold Enters at hen;have hcp:E.length<=9223372036854775807:=by obtain ⟨_,_,_,_,h,_⟩:=hE;exact h
 clear hE hc;generalize hn:E.length=n at *;have HN:=χ hn;clear hn
 go_enter Tryz.func89,Tryz.ntmps89
 go_wp2
 go_loopw [5,8] (fun _ i wr=>∃k:Nat,k<=n/\i=.int .i64 (k:Int)/\(E.take k).any P=false/\aa [] w wr) (fun _ i _=>n-(intOf i).toNat)
 case atStart=>exact ⟨0,ω,rfl,σ,aa.refl _ _⟩
 case round=>
  obtain ⟨k,hk,rfl,hany,hu⟩:=hrel;rename World=>wr
  by_cases hkn:k<n
  ·have LP:k<E.length:=by rw [HN.out];exact hkn
   have hx:E[k]?=some (E.getD k default):=by simp [φ,LP]
   have hmem:E.getD k default∈E:=List.mem_of_getElem? hx;obtain ⟨g,off,rfl,hg,c0,c1,c2⟩:=(HE.out.upd hu).at k LP;have kc:=HC.out wr _ hu hmem;generalize E.getD k default=e at *;obtain ⟨ef,et,ew⟩:=e;have HM:=χ hmem;have HT:=χ (TW P E k _ hx);have HA:=χ hany;have hwr:IntKind.i64.wrap ((k:Int)+1)=(k:Int)+1:=IntWalk.i64_in _ ω;dsimp only at c0 c1 c2;unfold Ed.val at kc;clear hx hmem hany;cases hp:P ⟨ef,et,ew⟩ with
   | false=>
    rw [hp] at kc;have HP:=χ hp;clear hp
    go_wp2_with (first
     | ((with_reducible refine (kc).mono ?_);rintro e w2 ⟨rfl,hu2⟩)
     | fail)
    go_roundw
    case rel=>exact ⟨k+1,ω,by go_num,by rw [HT.out,HA.out,HP.out];rfl,hu.trans hu2⟩
    case measure=>simp [intOf];omega
   | true=>
    rw [hp] at kc;have HP:=χ hp;clear hp
    go_wp2_with (first
     | ((with_reducible refine (kc).mono ?_);rintro e w2 ⟨rfl,hu2⟩)
     | fail)
    go_ret;refine ⟨(k:Int),rfl,?_,hu.trans hu2⟩;rw [List.any_eq_true.2 ⟨_,HM.out,HP.out⟩];simp
  ·obtain rfl:k=n:=ω;have hfin:E.any P=false:=by rw [←hany,←HN.out,List.take_length]
   have HF:=χ hfin;clear hany hfin;go_wp2;go_ret;exact ⟨-1,rfl,by rw [HF.out];rfl,hu⟩
theorem Q5 (w:World) (va:Value) (E:List Ed) (P:Ed->Bool) (f:FuncId) (Ba:Array Value) (hE:Bi w va E) (hen:Enters f)
  (hc:∀ (W:World) (e:Ed),aa [] w W->e∈E->Calls Tryz.prog f (#[e.val]++Ba) W fun r w'=>r=.returned (.bool (P e))/\aa [] W w') :
  Calls Tryz.prog 78 #[va,.func (Fn.func f) #[] Ba] w fun r w'=>r=.returned (.bool (E.any P))/\aa [] w w':=by
 have k:=Qu w va E P f Ba hE hen hc;generalize E.any P=b at *
 go_enter Tryz.func78,Tryz.ntmps78
 go_wp2_with (first
  | ((go_at_call 89;(with_reducible refine (k).mono ?_));rintro e w1 ⟨i,rfl,hi,hu⟩)
  | fail)
 go_ret;exact ⟨bf (by rw [←hi]),hu⟩
theorem Ha (E:List Ed) (P:Ed->Bool):E.any (fun e=>!(P e))=!(E.all P):=by
 induction E with
 | nil=>rfl
 | cons e l ih=>rw [List.any_cons,List.all_cons,ih];cases P e<;>simp
theorem vM (w:World) (N:Int) (va:Value) (E:List Ed) (hE:Bi w va E) :
  Calls Tryz.prog 74 #[.agg #[.int .i64 N,va]] w fun r w'=>r=.returned (.int .i64 (if fU N E then 0 else 201))/\aa [] w w':=by
 obtain ⟨a,cap,rfl,hcap⟩:=hE.shape;have HE:=χ hE;have hl:E.length<=9223372036854775807:=by obtain ⟨_,_,_,_,h,_⟩:=hE;exact h
 clear hE;have key:fU N E=(decide (0<=N) && decide (N<=4096) && decide (E.length<=65536) && E.all (lW N)):=rfl
 by_cases h0:N<0
 ·have hr:fU N E=false:=by rw [key,decide_eq_false ω];rfl
  rw [hr];clear key hr
  go_enter Tryz.func74,Tryz.ntmps74
  go_wp2;go_ret;exact ⟨rfl,ξ⟩
 ·by_cases h1:N > 4096
  ·have hr:fU N E=false:=by rw [key,decide_eq_false (ω:¬N<=4096)];simp
   rw [hr];clear key hr
   go_enter Tryz.func74,Tryz.ntmps74
   go_wp2;go_ret;exact ⟨rfl,ξ⟩
  ·by_cases h2:(E.length:Int) > 65536
   ·have hr:fU N E=false:=by rw [key,decide_eq_false (ω:¬E.length<=65536)];simp
    rw [hr];clear key hr;generalize E.length=n at *
    go_enter Tryz.func74,Tryz.ntmps74
    go_wp2;go_ret;exact ⟨rfl,ξ⟩
   ·have hr:fU N E=E.all (lW N):=by rw [key,decide_eq_true (ω:0<=N),decide_eq_true (ω:N<=4096),decide_eq_true (ω:E.length<=65536)];simp
    have u0:aa [] w (w.alloc (.cells #[.int .i64 N,.slice a E.length cap] 57)):=(aa.refl _ _).alloc _;have kc:=fun W (hW:aa [] (w.alloc (.cells #[.int .i64 N,.slice a E.length cap] 57)) W)=>Q5 W (.slice a E.length cap) E (fun e=>!(lW N e)) 87 #[.pointer (some ⟨w.heap.size,0,none⟩)] (HE.out.upd (u0.trans hW)) (fun _ _=>by kernel_rfl)
     (fun W2 e hW2 _=>JY e w.heap.size N a E.length cap W2 ⟨(hW.trans hW2).was σ,(hW.trans hW2).was σ⟩)
    rw [Ha] at kc;rw [hr];clear key hr;cases hall:E.all (lW N) with
    | false=>
     rw [hall] at kc;clear hall;generalize E.length=n at *
     go_enter Tryz.func74,Tryz.ntmps74
     go_wp2_with (first
      | ((go_at_call 78;(with_reducible refine (kc _ (aa.refl _ _)).mono ?_));rintro e w1 ⟨rfl,hu1⟩)
      | fail)
     go_ret;exact ⟨rfl,u0.trans hu1⟩
    | true=>
     rw [hall] at kc;clear hall;generalize E.length=n at *
     go_enter Tryz.func74,Tryz.ntmps74
     go_wp2_with (first
      | ((go_at_call 78;(with_reducible refine (kc _ (aa.refl _ _)).mono ?_));rintro e w1 ⟨rfl,hu1⟩)
      | fail)
     go_ret;exact ⟨rfl,u0.trans hu1⟩
end Go.Proofs.YtklibcncmbofpaaGreat
