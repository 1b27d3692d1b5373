/-
  Lemmas for PathAlike: PrP, PrP2, PrP3, Dij, Edg, Idx, Grf, Grg, PrP4, PrW, PrI. Conditions: those of each lemma.
-/
import Derived.Deep.Slices
import Derived.Deep.Strs
import Derived.Lib.Mul64
import Derived.Laws.Bits64b
import Derived.IntWalk
import Derived.Lib.SmallJoins
import Derived.Test.YtklibcncmbofpaaGreatA01
set_option linter.all false
set_option maxHeartbeats 8000000
set_option maxRecDepth 10000
namespace Go.Proofs.YtklibcncmbofpaaGreat
structure En where
 f:Nat
 t:Nat
 w:Nat
def inf:Nat:=9223372036854775807
def bW (d:Nat->Nat) (x v:Nat):Nat->Nat:=fun y=>if y=x then v else d y
def jy (d:Nat->Nat) (e:En):Nat->Nat:=if d e.f≠inf/\d e.f+e.w<d e.t then bW d e.t (d e.f+e.w) else d
def pass (E:List En) (d:Nat->Nat):Nat->Nat:=E.foldl jy d
def d0 (s:Nat):Nat->Nat:=fun v=>if v=s then 0 else inf
def passes (E:List En) (s:Nat):Nat->(Nat->Nat)
 | 0=>d0 s
 | k+1=>pass E (passes E s k)
def cntF (d:Nat->Nat) (n:Nat):Nat:=((List.range n).filter (fun v=>decide (d v≠inf))).length
theorem lH (d:Nat->Nat) (n:Nat):cntF d (n+1)=cntF d n+if d n≠inf then 1 else 0:=by
 unfold cntF;rw [List.range_succ,List.filter_append,υ]
 by_cases h:d n=inf
 ·rw [List.filter_cons_of_neg (by simpa using h),Γ (by simpa using h)];simp
 ·rw [List.filter_cons_of_pos (by simpa using h),Δ h];simp
theorem EB (d:Nat->Nat) (n:Nat):cntF d n<=n:=by
 induction n with
 | zero=>simp [cntF]
 | succ n ih=>rw [lH];split<;>omega
theorem Ef {d d':Nat->Nat} {n:Nat} (h:∀v,v<n->(d v=inf↔d' v=inf)):cntF d n=cntF d' n:=by
 induction n with
 | zero=>rfl
 | succ n ih=>
  rw [lH,lH,ih (fun v hv=>h v ω)];have:=h n ω
  by_cases e:d n=inf
  ·rw [Γ (by simpa using e),Γ (by simpa using this.1 e)]
  ·rw [Δ e,Δ (fun e2=>e (this.2 e2))]
theorem vS {d:Nat->Nat} {n x v:Nat} (hx:x<n) (h1:d x=inf) (h2:v≠inf):cntF (bW d x v) n=cntF d n+1:=by
 induction n with
 | zero=>omega
 | succ n ih=>
  rw [lH,lH]
  by_cases e:x=n
  ·subst e;have:cntF (bW d x v) x=cntF d x:=Ef (fun y hy=>by unfold bW;rw [Γ ω]);rw [this,Δ (by unfold bW;rw [Δ rfl];exact h2),Γ (by simpa using h1)]
  ·rw [ih ω];have:bW d x v n=d n:=by unfold bW;rw [Γ ω]
   rw [this]
   split<;>omega
inductive Sl (E:List En) (s:Nat):Nat->Nat->Prop
 | here:Sl E s s 0
 | on {u x:Nat} (e:En):e∈E->Sl E s u x->e.f=u->Sl E s e.t (x+e.w)
structure Rx (E:List En) (s N m:Nat) (d:Nat->Nat):Prop where
 src:d s=0
 le:∀v,d v<=inf
 bd:∀v,v<N->d v≠inf->d v+m<=cntF d N*m
 way:∀v,d v≠inf->Sl E s v (d v)
section
variable {E:List En} {s N m:Nat} {d:Nat->Nat}
theorem Rx.sum (h:Rx E s N m d) (hm:N*m<=inf) {e:En} (hf:e.f<N) (hw:e.w<=m) (hd:d e.f≠inf):d e.f+e.w<=inf:=by
 have h1:=h.bd e.f hf hd;have h2:cntF d N*m<=N*m:=Nat.mul_le_mul_right m (EB _ _);omega
theorem WM (hs:s<N) (hm:0<inf):Rx E s N m (d0 s):=by
 have h1:cntF (d0 s) N=1:=by
  have e:d0 s=bW (fun _=>inf) s 0:=rfl;rw [e,vS hs rfl (by unfold inf;omega)];have:∀n,cntF (fun _=>inf) n=0:=fun n=>by
   induction n with
   | zero=>rfl
   | succ n ih=>rw [lH,ih];simp
  rw [this]
 refine ⟨by simp [d0],fun v=>?_,fun v hv hd=>?_,fun v hd=>?_⟩
 ·unfold d0;split<;>omega
 ·have:v=s:=by
   by_cases e:v=s
   ·exact e
   ·exact absurd (by unfold d0;rw [Γ e]) hd
  subst this;rw [h1];simp [d0]
 ·have:v=s:=by
   by_cases e:v=s
   ·exact e
   ·exact absurd (by unfold d0;rw [Γ e]) hd
  subst this;have:d0 v v=0:=by simp [d0]
  rw [this];exact .here
theorem wo (d:Nat->Nat) (e:En) (v:Nat):jy d e v<=d v:=by
 unfold jy
 split
 ·rename_i h
  unfold bW
  split
  ·rename_i e2;subst e2;omega
  ·exact Θ _
 ·exact Θ _
theorem Mk (h:Rx E s N m d) (hm:N*m<=inf) (hm0:0<m) {e:En} (he:e∈E) (hf:e.f<N) (ht:e.t<N) (hw:e.w<=m):Rx E s N m (jy d e):=by
 have hle:=wo d e;unfold jy at hle ⊢
 split
 ·rename_i hc
  rw [Δ hc] at hle;have hlt:d e.f+e.w<inf:=by have:=h.le e.t;omega
  have hcn:cntF d N<=cntF (bW d e.t (d e.f+e.w)) N:=by
   by_cases hi:d e.t=inf
   ·rw [vS ht hi ω];omega
   ·rw [Ef (d:=bW d e.t (d e.f+e.w)) (d':=d) (fun v hv=>by
     unfold bW
     split
     ·rename_i ev;subst ev;constructor
      ·intro;omega
      ·intro h2;exact absurd h2 hi
     ·exact Iff.rfl)]
    exact Θ _
  refine ⟨?_,fun v=>?_,fun v hv hd=>?_,fun v hd=>?_⟩
  ·have:=hle s;rw [h.src] at this;omega
  ·have:=hle v;have:=h.le v;omega
  ·by_cases ev:v=e.t
   ·have e1:bW d e.t (d e.f+e.w) v=d e.f+e.w:=by unfold bW;rw [Δ ev]
    rw [e1]
    by_cases hi:d e.t=inf
    ·rw [vS ht hi ω,Nat.succ_mul];have:=h.bd e.f hf hc.1;omega
    ·have h1:=h.bd e.t ht hi;have h2:=Nat.mul_le_mul_right m hcn;omega
   ·have e1:bW d e.t (d e.f+e.w) v=d v:=by unfold bW;rw [Γ ev]
    rw [e1] at hd ⊢;have h1:=h.bd v hv hd;have h2:=Nat.mul_le_mul_right m hcn;omega
  ·by_cases ev:v=e.t
   ·have e1:bW d e.t (d e.f+e.w) v=d e.f+e.w:=by unfold bW;rw [Δ ev]
    rw [e1,ev];exact .on e he (h.way _ hc.1) rfl
   ·have e1:bW d e.t (d e.f+e.w) v=d v:=by unfold bW;rw [Γ ev]
    rw [e1] at hd ⊢;exact h.way v hd
 ·exact h
end
structure EW (E:List En) (s N m:Nat):Prop where
 src:s<N
 pos:0<m
 nm:N*m<=inf
 e:∀e,e∈E->e.f<N/\e.t<N/\e.w<=m
def xm (E:List En) (d:Nat->Nat):Prop:=∀e,e∈E->d e.f≠inf->d e.t<=d e.f+e.w
def xx (d:Nat->Nat) (n:Nat):Nat:=((List.range n).map d).sum
theorem tZ (d:Nat->Nat) (n:Nat):xx d (n+1)=xx d n+d n:=by
 unfold xx;rw [List.range_succ,List.map_append,List.sum_append];simp
theorem K4 {d d':Nat->Nat} (h:∀v,d' v<=d v) (n:Nat):xx d' n<=xx d n:=by
 induction n with
 | zero=>exact Θ _
 | succ n ih=>rw [tZ,tZ];have:=h n;omega
theorem VU {d d':Nat->Nat} (h:∀v,d' v<=d v) {n x:Nat} (hx:x<n) (hl:d' x<d x):xx d' n<xx d n:=by
 induction n with
 | zero=>omega
 | succ n ih=>
  rw [tZ,tZ]
  by_cases e:x=n
  ·subst e;have:=K4 h x;omega
  ·have:=ih ω;have:=h n;omega
section
variable {E:List En} {s N m:Nat} {d L:Nat->Nat}
theorem yH (l:List En) (d:Nat->Nat) (v:Nat):l.foldl jy d v<=d v:=by
 induction l generalizing d with
 | nil=>exact Θ _
 | cons e l ih=>exact Χ (ih _) (wo d e v)
theorem V9 (g:EW E s N m) (l:List En) (hl:∀e,e∈l->e∈E) (h:Rx E s N m d):Rx E s N m (l.foldl jy d):=by
 induction l generalizing d with
 | nil=>exact h
 | cons e l ih=>
  have he:=hl e σ;obtain ⟨a,b,c⟩:=g.e e he;exact ih (fun x hx=>hl x (by simp [hx])) (Mk h g.nm g.pos he a b c)
theorem j5 (g:EW E s N m) (k:Nat):Rx E s N m (passes E s k):=by
 induction k with
 | zero=>exact WM g.src (by unfold inf;omega)
 | succ k ih=>exact V9 g E (fun _ h=>h) ih
theorem xk (E:List En) (s k v:Nat):passes E s (k+1) v<=passes E s k v:=yH E _ v
theorem UE {d:Nat->Nat} {e:En} (h:jy d e≠d):jy d e e.t<d e.t:=by
 unfold jy at h ⊢
 split
 ·rename_i hc;unfold bW;rw [Δ rfl];exact hc.2
 ·rename_i hc;rw [Γ hc] at h;exact absurd rfl h
theorem Gj (l:List En) (hl:∀e,e∈l->e.t<N) (d:Nat->Nat) (h:¬xx (l.foldl jy d) N<xx d N):∀e,e∈l->jy d e=d:=by
 induction l generalizing d with
 | nil=>intro e he;cases he
 | cons a l ih=>
  simp only [List.foldl_cons] at h;have h1:=K4 (yH l (jy d a)) N;have ha:jy d a=d:=Ϙ fun hn=>by
   have:=VU (wo d a) (hl a σ) (UE hn);omega
  rw [ha] at h;intro e he;rcases ρ.1 he with rfl|he
  ·exact ha
  ·exact ih (fun x hx=>hl x (by simp [hx])) d h e he
theorem Yh (g:EW E s N m):∃K,∀e,e∈E->jy (passes E s K) e=passes E s K:=by
 have key:∀b k,xx (passes E s k) N<=b->∃K,∀e,e∈E->jy (passes E s K) e=passes E s K:=by
  intro b
  induction b with
  | zero=>
   intro k hk;exact ⟨k,Gj E (fun e he=>(g.e e he).2.1) _ ω⟩
  | succ b ih=>
   intro k hk
   by_cases h:xx (E.foldl jy (passes E s k)) N<xx (passes E s k) N
   ·exact ih (k+1) (by show xx (E.foldl jy (passes E s k)) N<=b;omega)
   ·exact ⟨k,Gj E (fun e he=>(g.e e he).2.1) _ h⟩
 exact key _ 0 (Θ _)
theorem TK {d:Nat->Nat} (h:∀e,e∈E->jy d e=d):xm E d:=by
 intro e he hf;have h1:=h e he;apply Nat.le_of_not_lt;intro hlt;have h2:jy d e e.t=d e.f+e.w:=by unfold jy;rw [Δ ⟨hf,hlt⟩];unfold bW;rw [Δ rfl]
 rw [h1] at h2;omega
theorem Jy (hF:xm E L) (hi:∀v,d v<=inf) {e:En} (he:e∈E) (h:∀v,L v<=d v) (v:Nat):L v<=jy d e v:=by
 unfold jy
 split
 ·rename_i hc
  unfold bW
  split
  ·rename_i ev
   have h1:=h e.f;have h3:=hi e.f;have h2:=hF e he ω;rw [ev];omega
  ·exact h v
 ·exact h v
theorem I8 (hF:xm E L) (l:List En) (hl:∀e,e∈l->e∈E) (hi:∀v,d v<=inf) (h:∀v,L v<=d v):∀v,L v<=l.foldl jy d v:=by
 induction l generalizing d with
 | nil=>exact h
 | cons e l ih=>exact ih (fun x hx=>hl x (by simp [hx])) (fun v=>Χ (wo d e v) (hi v)) (Jy hF hi (hl e σ) h)
theorem qx (g:EW E s N m) (hF:xm E L) (h0:L s=0) (hi:∀v,L v<=inf) (k:Nat):∀v,L v<=passes E s k v:=by
 induction k with
 | zero=>intro v;show L v<=d0 s v;unfold d0;split;(rename_i e;subst e;omega);exact hi v
 | succ k ih=>exact I8 hF E (fun _ h=>h) (j5 g k).le ih
theorem Uh (hF:xm E L) (U:Nat->Prop) (l:List En) (hl:∀e,e∈l->e∈E) (hi:∀v,d v<=inf) (h:∀v,L v<=d v) (hU:∀v,U v->L v<d v) (hx:∃v,U v/\l.foldl jy d v=L v) :
  ∃e,e∈E/\¬U e.f/\U e.t/\L e.f+e.w=L e.t/\L e.f≠inf:=by
 induction l generalizing d with
 | nil=>obtain ⟨v,h1,h2⟩:=hx;have:=hU v h1;simp only [List.foldl_nil] at h2;omega
 | cons e l ih=>
  have he:=hl e σ
  by_cases hu:∀v,U v->L v<jy d e v
  ·exact ih (fun x hx=>hl x (by simp [hx])) (fun v=>Χ (wo d e v) (hi v)) (Jy hF hi he h) hu hx
  ·obtain ⟨v,hv⟩:=Classical.not_forall.1 hu;obtain ⟨h1,h2⟩:=Classical.not_imp.1 hv;have h3:=Jy hF hi he h v;have h4:=hU v h1;have h5:jy d e v=L v:=ω;have hc:(d e.f≠inf/\d e.f+e.w<d e.t)/\v=e.t:=by
    unfold jy at h5
    split at h5
    ·rename_i hc
     refine ⟨hc,Ϙ fun hn=>?_⟩;unfold bW at h5;rw [Γ hn] at h5;omega
    ·omega
   obtain ⟨hc,rfl⟩:=hc;have h6:jy d e e.t=d e.f+e.w:=by unfold jy;rw [Δ hc];unfold bW;rw [Δ rfl]
   have h7:=h e.f;have h8:=hi e.f;have h9:=hF e he ω;have h10:L e.f=d e.f:=ω;exact ⟨e,he,fun hn=>by have:=hU _ hn;omega,h1,ω,ω⟩
theorem EZ (g:EW E s N m) (hF:xm E L) (h0:L s=0) (hi:∀v,L v<=inf) (U:Nat->Prop) (k j:Nat) (hU:∀v,U v->L v<passes E s k v) (hx:∃v,U v/\passes E s (k+j) v=L v) :
  ∃e,e∈E/\¬U e.f/\U e.t/\L e.f+e.w=L e.t/\L e.f≠inf:=by
 induction j with
 | zero=>obtain ⟨v,h1,h2⟩:=hx;have:=hU v h1;simp only [ϔ] at h2;omega
 | succ j ih=>
  by_cases hj:∃v,U v/\passes E s (k+j) v=L v
  ·exact ih hj
  ·have hb:=qx g hF h0 hi (k+j)
   exact Uh hF U E (fun _ h=>h) (j5 g (k+j)).le hb (fun v hv=>by
    have h1:=hb v;have h2:passes E s (k+j) v≠L v:=fun h=>hj ⟨v,hv,h⟩
    omega) hx
theorem MV (hF:xm E L) (hi:∀v,d v<=inf) (h:∀v,L v<=d v) {e:En} (he:e∈E) (h1:d e.f=L e.f) (h2:L e.f+e.w=L e.t) (h3:L e.f≠inf):pass E d e.t=L e.t:=by
 obtain ⟨l1,l2,hE⟩:=List.append_of_mem he;have hall:=I8 hF E (fun _ h=>h) hi h e.t;have hl1:∀x,x∈l1->x∈E:=fun x hx=>by rw [hE];simp [hx]
 have ha:=I8 hF l1 hl1 hi h e.f;have hb:=yH l1 d e.f;have hup:pass E d e.t<=L e.t:=by
  unfold pass
  conv=>lhs;rw [hE]
  rw [List.foldl_append,List.foldl_cons];refine Χ (yH l2 _ _) ?_;generalize l1.foldl jy d=d1 at *;have hd:d1 e.f=L e.f:=ω;unfold jy
  split
  ·unfold bW;rw [Δ rfl,hd];omega
  ·rename_i hc
   have:¬ (d1 e.f+e.w<d1 e.t):=fun hlt=>hc ⟨by rw [hd];exact h3,hlt⟩;omega
 unfold pass at hup ⊢;omega
def yl (P:Nat->Prop) [DecidablePred P] (n:Nat):Nat:=((List.range n).filter (fun v=>decide (P v))).length
theorem mY (P:Nat->Prop) [DecidablePred P] (n:Nat):yl P (n+1)=yl P n+if P n then 1 else 0:=by
 unfold yl;rw [List.range_succ,List.filter_append,υ]
 by_cases h:P n
 ·rw [List.filter_cons_of_pos (by simpa using h),Δ h];simp
 ·rw [List.filter_cons_of_neg (by simpa using h),Γ h];simp
theorem Ma (P:Nat->Prop) [DecidablePred P] (n:Nat):yl P n<=n:=by
 induction n with
 | zero=>simp [yl]
 | succ n ih=>rw [mY];split<;>omega
theorem NH {P Q:Nat->Prop} [DecidablePred P] [DecidablePred Q] (h:∀v,P v->Q v) (n:Nat):yl P n<=yl Q n:=by
 induction n with
 | zero=>exact Θ _
 | succ n ih=>
  rw [mY,mY]
  by_cases e:P n
  ·rw [Δ e,Δ (h n e)];omega
  ·rw [Γ e];omega
theorem Ml {P Q:Nat->Prop} [DecidablePred P] [DecidablePred Q] (h:∀v,P v->Q v) {n x:Nat} (hx:x<n) (h1:¬P x) (h2:Q x):yl P n<yl Q n:=by
 induction n with
 | zero=>omega
 | succ n ih=>
  rw [mY,mY]
  by_cases e:x=n
  ·subst e;have:=NH h x;rw [Γ h1,Δ h2];omega
  ·have:=ih ω
   by_cases e2:P n
   ·rw [Δ e2,Δ (h n e2)];omega
   ·rw [Γ e2];omega
theorem Hr {P:Nat->Prop} [DecidablePred P] {n x:Nat} (hx:x<n) (h:P x):0<yl P n:=by
 induction n with
 | zero=>omega
 | succ n ih=>
  rw [mY]
  by_cases e:x=n
  ·subst e;rw [Δ h];omega
  ·have:=ih ω;omega
theorem Da (g:EW E s N m):xm E (passes E s N):=by
 obtain ⟨K,hK⟩:=Yh g;have hF:=TK hK;have hr:=j5 g K;have hb:=fun k=>qx g hF hr.src hr.le k;have key:∀k,(∀v,v<N->passes E s k v=passes E s K v)\/k<yl (fun v=>passes E s k v=passes E s K v) N:=by
  intro k
  induction k with
  | zero=>exact Β (Hr g.src (by rw [hr.src];show d0 s s=0;simp [d0]))
  | succ k ih=>
   by_cases hall:∀v,v<N->passes E s k v=passes E s K v
   ·left;intro v hv;have h1:=xk E s k v;have h2:=hb (k+1) v;rw [hall v hv] at h1;omega
   ·have ih:=ih.resolve_left hall;right;obtain ⟨v,hv⟩:=Classical.not_forall.1 hall;obtain ⟨hv1,hv2⟩:=Classical.not_imp.1 hv;have hkK:k<=K:=Ϙ fun hn=>by
     have hmono:∀j,passes E s (K+j) v<=passes E s K v:=fun j=>by
      induction j with
      | zero=>exact Θ _
      | succ j ih2=>exact Χ (xk E s (K+j) v) ih2
     have h1:=hmono (k-K);rw [show K+(k-K)=k by omega] at h1;have h2:=hb k v;omega
    obtain ⟨e,he,h1,h2,h3,h4⟩:=EZ g hF hr.src hr.le (fun v=>v<N/\passes E s k v≠passes E s K v) k (K-k) (fun v hv=>by
     have:=hb k v;have:=hv.2
     omega) ⟨v,⟨hv1,hv2⟩,by rw [show k+(K-k)=K by omega]⟩
    have hef:passes E s k e.f=passes E s K e.f:=Ϙ fun hn=>h1 ⟨(g.e e he).1,hn⟩;have hset:=MV hF (j5 g k).le (hb k) he hef h3 h4
    have:=Ml (P:=fun v=>passes E s k v=passes E s K v) (Q:=fun v=>passes E s (k+1) v=passes E s K v) (fun v hv=>by
     have h1:=xk E s k v;have h2:=hb (k+1) v;rw [hv] at h1
     omega) h2.1 h2.2 hset
    omega
 have hN:∀v,v<N->passes E s N v=passes E s K v:=by
  rcases key N with h|h
  ·exact h
  ·have:=Ma (fun v=>passes E s N v=passes E s K v) N;omega
 intro e he hf;obtain ⟨a,b,_⟩:=g.e e he;rw [hN _ a] at hf ⊢;rw [hN _ b];exact hF e he hf
theorem PM (hF:xm E L) (h0:L s=0) (hi:∀v,L v<=inf) {v x:Nat} (h:Sl E s v x) (hx:x<inf):L v<=x:=by
 induction h with
 | here=>omega
 | on e he _ hf ih=>
  subst hf;have h1:=ih ω;have h2:=hF e he ω;omega
end
def IC (E:List En) (i:Int):En:=E.getD i.toNat ⟨0,0,0⟩
def qZ (E:List En) (by':Nat->Int) (x:Nat):Nat:=if by' x=-1 then x else (IC E (by' x)).f
theorem yS {E:List En} {by':Nat->Int} {x:Nat} (h:by' x≠-1):qZ E by' x=(IC E (by' x)).f:=by unfold qZ;rw [Γ h]
def jF (E:List En) (by':Nat->Int) (D:Nat->Nat) (x:Nat):Bool:=
 decide (0<=by' x) && decide (by' x<E.length) && decide ((IC E (by' x)).t=x) && decide (D (qZ E by' x)≠inf) && decide (D (qZ E by' x)+(IC E (by' x)).w=D x)
def bg (E:List En) (by':Nat->Int) (D:Nat->Nat) (s:Nat):Nat->Nat->Bool
 | 0,x=>decide (x=s)
 | k+1,x=>decide (x=s) || (jF E by' D x && bg E by' D s k (qZ E by' x))
def rX (E:List En) (by':Nat->Int):Nat->Nat->Nat
 | 0,x=>x
 | k+1,x=>rX E by' k (qZ E by' x)
def Xg (E:List En) (N s:Nat) (D d:Nat->Nat) (by':Nat->Int):Prop:=
 ∀v,v<N->d v=D v/\((v=s\/D v=inf)->by' v=-1)/\(¬ (v=s\/D v=inf)->bg E by' D s N v=true)
def Xb (E:List En) (N s:Nat) (d:Nat->Nat) (by':Nat->Int):Prop:=
 d s=0/\by' s=-1/\xm E d/\(∀v,v<N->((v≠s/\d v≠inf)↔by' v≠-1)/\(v≠s/\d v≠inf->jF E by' d v=true))/\∀v,v<N->by' v≠-1->∃k,rX E by' k v=s
section
variable {E:List En} {by':Nat->Int} {D d:Nat->Nat} {s N m:Nat}
theorem iq (E:List En) (by':Nat->Int) (D:Nat->Nat) (x:Nat):jF E by' D x=true↔0<=by' x/\by' x<E.length/\(IC E (by' x)).t=x/\D (qZ E by' x)≠inf/\D (qZ E by' x)+(IC E (by' x)).w=D x:=by
 unfold jF;simp [and_assoc]
theorem LX {i:Int} (h0:0<=i) (h1:i<E.length):IC E i∈E:=by
 unfold IC;have:i.toNat<E.length:=ω;rw [φ,ε this];exact ϗ _
theorem DW:∀ (k x:Nat),bg E by' D s k x=true->∃j,rX E by' j x=s:=by
 intro k
 induction k with
 | zero=>intro x h;exact ⟨0,by simp only [rX];simpa [bg] using h⟩
 | succ k ih=>
  intro x h;unfold bg at h
  by_cases e:x=s
  ·exact ⟨0,e⟩
  ·simp only [e,decide_false,Bool.false_or,Τ] at h;obtain ⟨j,hj⟩:=ih _ h.2;exact ⟨j+1,hj⟩
theorem mK:∀ (k x:Nat),bg E by' D s k x=true->bg E by' D s (k+1) x=true:=by
 intro k
 induction k with
 | zero=>intro x h;unfold bg at h ⊢;rw [h];rfl
 | succ k ih=>
  intro x h;unfold bg at h ⊢
  by_cases e:x=s
  ·simp [e]
  ·simp only [e,decide_false,Bool.false_or,Τ] at h ⊢;exact ⟨h.1,ih _ h.2⟩
theorem wM {i j x:Nat} (hij:i<=j) (h:bg E by' D s i x=true):bg E by' D s j x=true:=by
 induction hij with
 | refl=>exact h
 | step _ ih=>exact mK _ _ ih
theorem sG {k:Nat} (hs:∀x,x<N->jF E by' D x=true->qZ E by' x<N) (h:∀x,x<N->bg E by' D s (k+1) x=true->bg E by' D s k x=true) :
  ∀j x,x<N->bg E by' D s (k+j) x=true->bg E by' D s k x=true:=by
 intro j
 induction j with
 | zero=>intro x _ h;exact h
 | succ j ih=>
  intro x hx hc;have hc':bg E by' D s ((k+j)+1) x=true:=hc;unfold bg at hc'
  by_cases e:x=s
  ·refine wM (i:=0) ω ?_;unfold bg;simpa using e
  ·simp only [e,decide_false,Bool.false_or,Τ] at hc';have h1:=ih _ (hs x hx hc'.1) hc'.2;apply h x hx;unfold bg;simp only [e,decide_false,Bool.false_or,Τ];exact ⟨hc'.1,h1⟩
theorem Io (Zu:s<N) (hs:∀x,x<N->jF E by' D x=true->qZ E by' x<N) {j x:Nat} (hx:x<N) (h:bg E by' D s j x=true):bg E by' D s N x=true:=by
 have key:∀k,(∀x,x<N->bg E by' D s (k+1) x=true->bg E by' D s k x=true)\/k<yl (fun x=>bg E by' D s k x=true) N:=by
  intro k
  induction k with
  | zero=>exact Β (Hr Zu (by simp [bg]))
  | succ k ih=>
   rcases ih with ih|ih
   ·left;intro x hx hc;have:=sG (k:=k) hs ih 2 x hx hc;exact mK _ _ this
   ·by_cases hall:∀x,x<N->bg E by' D s (k+1) x=true->bg E by' D s k x=true
    ·left;intro x hx hc;have:=sG (k:=k) hs hall 2 x hx hc;exact mK _ _ this
    ·right;obtain ⟨x,hx⟩:=Classical.not_forall.1 hall;obtain ⟨h1,h2⟩:=Classical.not_imp.1 hx;obtain ⟨h3,h4⟩:=Classical.not_imp.1 h2;have:=Ml (P:=fun x=>bg E by' D s k x=true) (Q:=fun x=>bg E by' D s (k+1) x=true) (fun v hv=>mK _ _ hv) h1 h4 h3;omega
 rcases key N with hk|hk
 ·by_cases hj:j<=N
  ·exact wM hj h
  ·have e:N+(j-N)=j:=ω;exact sG (k:=N) hs hk (j-N) x hx (by rw [e];exact h)
 ·have:=Ma (fun x=>bg E by' D s N x=true) N;omega
theorem pg (g:EW E s N m) {x:Nat} (h:jF E by' D x=true):qZ E by' x<N:=by
 obtain ⟨h0,h1,_⟩:=(iq E by' D x).1 h;rw [yS ω];exact (g.e _ (LX h0 h1)).1
theorem C8 (g:EW E s N m) (hd:∀v,v<N->d v<=inf):Xb E N s d by'↔Xg E N s (passes E s N) d by':=by
 have R:=j5 g N;have F:=Da g;constructor
 ·rintro ⟨hd0,hb0,hF,hv,hr⟩;have hF':xm E (fun v=>if v<N then d v else inf):=fun e he hf=>by
   obtain ⟨a,b,_⟩:=g.e e he;simp only [a,b,Δ] at hf ⊢;exact hF e he hf
  have up:∀v,v<N->passes E s N v≠inf->d v<=passes E s N v:=fun v pE hfin=>by
   have h1:=R.le v
   have:=PM (L:=fun v=>if v<N then d v else inf) hF' (by simp only [g.src,Δ];exact hd0) (fun v=>by
    by_cases e:v<N
    ·simp only [e,Δ];exact hd v e
    ·simp only [e,if_false];exact Θ _) (R.way v hfin) ω
   simpa only [pE,Δ] using this
  have down:∀k v,v<N->d v≠inf->rX E by' k v=s->passes E s N v<=d v:=by
   intro k
   induction k with
   | zero=>intro v pE _ hk;simp only [rX] at hk;subst hk;rw [R.src];omega
   | succ k ih=>
    intro v pE hfin hk
    by_cases e:v=s
    ·subst e;rw [R.src];omega
    ·have hst:=(hv v pE).2 ⟨e,hfin⟩;obtain ⟨h0,h1,h2,h3,h4⟩:=(iq E by' d v).1 hst;have hp:=pg g hst;have h5:=ih _ hp h3 hk;have h6:=hd _ hp;rw [yS ω] at h3 h4 h5 h6;have h7:=F _ (LX h0 h1) ω;rw [h2] at h7;omega
  have same:∀v,v<N->d v=passes E s N v:=fun v pE=>by
   have h1:=hd v pE;have h2:=R.le v
   by_cases hfin:d v=inf
   ·by_cases h3:passes E s N v=inf
    ·rw [hfin,h3]
    ·have:=up v pE h3;omega
   ·have hdn:passes E s N v<=d v:=by
     by_cases e:v=s
     ·subst e;rw [R.src];omega
     ·obtain ⟨k,hk⟩:=hr v pE ((hv v pE).1.1 ⟨e,hfin⟩);exact down k v pE hfin hk
    have:=up v pE ω;omega
  have sOk:∀v,v<N->jF E by' d v=true->jF E by' (passes E s N) v=true:=fun v pE h=>by
   have hp:=pg g h;obtain ⟨h0,h1,h2,h3,h4⟩:=(iq E by' d v).1 h;rw [same _ hp] at h3 h4;rw [same _ pE] at h4;exact (iq E by' _ v).2 ⟨h0,h1,h2,h3,h4⟩
  intro v pE;refine ⟨same v pE,fun h=>?_,fun h=>?_⟩
  ·apply Ϙ;intro hn;obtain ⟨h1,h2⟩:=(hv v pE).1.2 hn;rcases h with h|h
   ·exact h1 h
   ·exact h2 (by rw [same v pE];exact h)
  ·have h1:v≠s/\d v≠inf:=⟨fun e=>h (Α e),fun e=>h (Β (by rw [←same v pE];exact e))⟩;obtain ⟨k,hk⟩:=hr v pE ((hv v pE).1.1 h1);have hch:∀k v,v<N->d v≠inf->rX E by' k v=s->bg E by' (passes E s N) s k v=true:=by
    intro k
    induction k with
    | zero=>intro v _ _ hk;simp only [rX] at hk;unfold bg;simpa using hk
    | succ k ih=>
     intro v pE hfin hk;unfold bg
     by_cases e:v=s
     ·simp [e]
     ·have hst:=(hv v pE).2 ⟨e,hfin⟩;obtain ⟨_,_,_,h3,_⟩:=(iq E by' d v).1 hst;simp only [e,decide_false,Bool.false_or,Τ];exact ⟨sOk v pE hst,ih _ (pg g hst) h3 hk⟩
   exact Io g.src (fun x _ h=>pg g h) pE (hch k v pE h1.2 hk)
 ·intro hT;have same:∀v,v<N->d v=passes E s N v:=fun v hv=>(hT v hv).1;have hFd:xm E d:=fun e he hf=>by
   obtain ⟨a,b,_⟩:=g.e e he;rw [same _ a] at hf ⊢;rw [same _ b];exact F e he hf
  have hch:∀v,v<N->v≠s/\d v≠inf->bg E by' (passes E s N) s N v=true:=fun v hv h=>(hT v hv).2.2 (fun hn=>by
   rcases hn with hn|hn
   ·exact h.1 hn
   ·exact h.2 (by rw [same v hv];exact hn))
  have hN:0<N:=Nat.lt_of_le_of_lt (Nat.zero_le _) g.src;have hst:∀v,v<N->v≠s/\d v≠inf->jF E by' (passes E s N) v=true:=fun v hv h=>by
   have h1:=hch v hv h;obtain ⟨n,rfl⟩:∃n,N=n+1:=⟨N-1,ω⟩;unfold bg at h1;simp only [h.1,decide_false,Bool.false_or,Τ] at h1;exact h1.1
  refine ⟨by rw [same _ g.src,R.src],(hT s g.src).2.1 (Α rfl),hFd,fun v hv=>⟨⟨fun h hn=>?_,fun h=>?_⟩,fun h=>?_⟩,fun v hv hb=>?_⟩
  ·obtain ⟨h0,_⟩:=(iq E by' _ v).1 (hst v hv h);omega
  ·refine ⟨fun e=>h ((hT v hv).2.1 (Α e)),fun e=>h ((hT v hv).2.1 (Β (by rw [←same v hv];exact e)))⟩
  ·have h1:=hst v hv h;have hp:=pg g h1;obtain ⟨h0,h1,h2,h3,h4⟩:=(iq E by' _ v).1 h1;rw [←same _ hp] at h3 h4;rw [←same _ hv] at h4;exact (iq E by' d v).2 ⟨h0,h1,h2,h3,h4⟩
  ·have h1:v≠s/\d v≠inf:=⟨fun e=>hb ((hT v hv).2.1 (Α e)),fun e=>hb ((hT v hv).2.1 (Β (by rw [←same v hv];exact e)))⟩;exact DW N v (hch v hv h1)
end
def iZ (E:List En) (i:Nat):En:=E.getD i ⟨0,0,0⟩
theorem Es {E:List En} {i:Nat} (h:i<E.length):iZ E i∈E:=by
 unfold iZ;rw [φ,ε h];exact ϗ _
structure DJ (E:List En) (s N m:Nat) (d:Nat->Nat) (b:Nat->Int) (S:List Nat) (W:Nat->Prop) (R:Nat->Prop):Prop where
 rx:Rx E s N m d
 nd:S.Nodup
 sN:∀v,v∈S->v<N
 wN:∀v,W v->v<N/\v∉S
 rc:∀v,v<N->(d v≠inf↔v∈S\/W v)
 mono:∀u v,u∈S->W v->d u<=d v
 top:∀u x S',S=x::S'->u∈S->d u<=d x
 rel:∀i,i<E.length->R i->(iZ E i).f∈S->d (iZ E i).t<=d (iZ E i).f+(iZ E i).w
 bs:b s=-1
 bn:∀v,v<N->d v=inf->b v=-1
 be:∀v,v<N->v≠s->d v≠inf->∃i:Nat,b v=i/\i<E.length/\(iZ E i).t=v/\d (iZ E i).f+(iZ E i).w=d v/\(v∉S->(iZ E i).f∈S)/\∀l1 l2,S=l1++v::l2->(iZ E i).f∈l2
section
variable {E:List En} {s N m:Nat} {d:Nat->Nat} {b:Nat->Int} {S:List Nat} {W R:Nat->Prop}
theorem Wl (hs:s<N):DJ E s N m (d0 s) (fun _=>-1) [] (fun v=>v=s) (fun _=>True):=by
 have e:∀v,d0 s v≠inf↔v=s:=fun v=>by
  unfold d0
  by_cases h:v=s
  ·rw [Δ h];simp [h,inf]
  ·rw [Γ h];simp [h]
 refine ⟨WM hs δ,σ,σ,fun v hv=>⟨by rw [hv];exact hs,σ⟩,fun v hv=>by rw [e];simp,σ,σ,σ,rfl,fun _ _ _=>rfl,fun v hv hne hd=>absurd ((e v).1 hd) hne⟩
theorem Wq (h:DJ E s N m d b S W (fun _=>True)) {v:Nat} (hv:W v) (hmin:∀u,W u->d v<=d u):DJ E s N m d b (v::S) (fun u=>W u/\u≠v) (fun i=>(iZ E i).f≠v):=by
 obtain ⟨pE,QH⟩:=h.wN v hv;refine ⟨h.rx,List.nodup_cons.2 ⟨QH,h.nd⟩,fun u hu=>?_,fun u hu=>⟨(h.wN u hu.1).1,fun hm=>?_⟩,fun u hu=>?_,fun u x hu hx=>?_,fun u x S' hS hu=>?_,fun i hi hR hf=>?_,h.bs,h.bn,fun u hu hne hd=>?_⟩
 ·rcases ρ.1 hu with rfl|hu
  ·exact pE
  ·exact h.sN u hu
 ·rcases ρ.1 hm with e|e
  ·exact hu.2 e
  ·exact (h.wN u hu.1).2 e
 ·rw [h.rc u hu,ρ];constructor
  ·rintro (h1|h1)
   ·exact Α (Β h1)
   ·by_cases e:u=v
    ·exact Α (Α e)
    ·exact Β ⟨h1,e⟩
  ·rintro ((h1|h1)|h1)
   ·rw [h1];exact Β hv
   ·exact Α h1
   ·exact Β h1.1
 ·rcases ρ.1 hu with rfl|hu
  ·exact hmin x hx.1
  ·exact h.mono u x hu hx.1
 ·cases hS;rcases ρ.1 hu with rfl|hu
  ·exact Θ _
  ·exact h.mono u v hu hv
 ·rcases ρ.1 hf with e|e
  ·exact absurd e hR
  ·exact h.rel i hi trivial e
 ·obtain ⟨i,h1,h2,h3,h4,h5,h6⟩:=h.be u hu hne hd;refine ⟨i,h1,h2,h3,h4,fun hn=>ρ.2 (Β (h5 (fun hm=>hn (ρ.2 (Β hm))))),fun l1 l2 hS=>?_⟩;cases l1 with
  | nil=>
   simp only [Ϛ,List.cons.injEq] at hS;rw [←hS.2];exact h5 (by rw [←hS.1];exact QH)
  | cons y l1=>
   simp only [List.cons_append,List.cons.injEq] at hS;exact h6 l1 l2 hS.2
theorem UY {v:Nat} (h:DJ E s N m d b (v::S) W R) {i:Nat} (hf:(iZ E i).f=v) (hn:¬d v+(iZ E i).w<d (iZ E i).t):DJ E s N m d b (v::S) W (fun j=>R j\/j=i):=by
 refine ⟨h.rx,h.nd,h.sN,h.wN,h.rc,h.mono,h.top,fun j hj hR hm=>?_,h.bs,h.bn,h.be⟩;rcases hR with hR|rfl
 ·exact h.rel j hj hR hm
 ·rw [hf];omega
theorem Yw (g:EW E s N m) {v:Nat} (h:DJ E s N m d b (v::S) W R) {i:Nat} (hi:i<E.length) (hf:(iZ E i).f=v) (hn:d v+(iZ E i).w<d (iZ E i).t) :
  DJ E s N m (bW d (iZ E i).t (d v+(iZ E i).w)) (fun u=>if u=(iZ E i).t then (i:Int) else b u) (v::S) (fun u=>W u\/u=(iZ E i).t) (fun j=>R j\/j=i):=by
 have hmem:=Es hi;obtain ⟨hfN,TR,XZ⟩:=g.e _ hmem;have pE:v<N:=by rw [←hf];exact hfN
 have hvd:d v≠inf:=(h.rc v pE).2 (Α σ);have hle:=h.rx.le (iZ E i).t;have hrel:jy d (iZ E i)=bW d (iZ E i).t (d v+(iZ E i).w):=by unfold jy;rw [hf,Δ ⟨hvd,hn⟩]
 have hrx:=Mk h.rx g.nm g.pos hmem hfN TR XZ;rw [hrel] at hrx;have Z7:(iZ E i).t∉v::S:=fun hm=>by
  have:=h.top _ v S rfl hm;omega
 have hts:(iZ E i).t≠s:=fun e=>by rw [e,h.rx.src] at hn;omega
 have hv0:∀u,u∈v::S->bW d (iZ E i).t (d v+(iZ E i).w) u=d u:=fun u hu=>by unfold bW;rw [Γ (fun e=>Z7 (by rw [←e];exact hu))]
 have hv1:∀u,bW d (iZ E i).t (d v+(iZ E i).w) u<=d u:=fun u=>by
  unfold bW
  split
  ·rename_i e;rw [e];omega
  ·exact Θ _
 refine ⟨hrx,h.nd,h.sN,fun u hu=>?_,fun u hu=>?_,fun u x hu hx=>?_,fun u x S' hS hu=>?_,fun j hj hR hm=>?_,?_,fun u hu hd=>?_,fun u hu hne hd=>?_⟩
 ·rcases hu with hu|rfl
  ·exact h.wN u hu
  ·exact ⟨TR,Z7⟩
 ·by_cases e:u=(iZ E i).t
  ·have:bW d (iZ E i).t (d v+(iZ E i).w) u=d v+(iZ E i).w:=by unfold bW;rw [Δ e]
   rw [this];constructor
   ·intro _;exact Β (Β e)
   ·intro _;omega
  ·have:bW d (iZ E i).t (d v+(iZ E i).w) u=d u:=by unfold bW;rw [Γ e]
   rw [this,h.rc u hu];constructor
   ·rintro (h1|h1)
    ·exact Α h1
    ·exact Β (Α h1)
   ·rintro (h1|h1|h1)
    ·exact Α h1
    ·exact Β h1
    ·exact absurd h1 e
 ·rw [hv0 u hu];rcases hx with hx|rfl
  ·by_cases e:x=(iZ E i).t
   ·unfold bW;rw [Δ e];have:=h.top u v S rfl hu;omega
   ·unfold bW;rw [Γ e];exact h.mono u x hu hx
  ·unfold bW;rw [Δ rfl];have:=h.top u v S rfl hu;omega
 ·rw [hv0 u hu,hv0 x (by rw [hS];simp)];exact h.top u x S' hS hu
 ·rcases hR with hR|rfl
  ·rw [hv0 _ hm];exact Χ (hv1 _) (h.rel j hj hR hm)
  ·rw [hv0 _ hm,hf];unfold bW;rw [Δ rfl];exact Θ _
 ·show (if s=(iZ E i).t then (i:Int) else b s)=-1
  rw [Γ (fun e=>hts e.symm)];exact h.bs
 ·have e:u≠(iZ E i).t:=fun e=>by
   unfold bW at hd;rw [Δ e] at hd;omega
  show (if u=(iZ E i).t then (i:Int) else b u)=-1
  rw [Γ e];unfold bW at hd;rw [Γ e] at hd;exact h.bn u hu hd
 ·by_cases e:u=(iZ E i).t
  ·refine ⟨i,by show (if u=(iZ E i).t then (i:Int) else b u)=i;rw [Δ e],hi,e.symm,?_,fun _=>by rw [hf];simp,fun l1 l2 hS=>absurd (by rw [hS,e];simp) Z7⟩;rw [hf,hv0 v σ];unfold bW;rw [Δ e]
  ·have hdu:bW d (iZ E i).t (d v+(iZ E i).w) u=d u:=by unfold bW;rw [Γ e]
   rw [hdu] at hd ⊢;obtain ⟨j,h1,h2,h3,h4,h5,h6⟩:=h.be u hu hne hd;have hjS:(iZ E j).f∈v::S:=by
    by_cases hm:u∈v::S
    ·obtain ⟨l1,l2,hl⟩:=List.append_of_mem hm;rw [hl];have:=h6 l1 l2 hl;simp [this]
    ·exact h5 hm
   refine ⟨j,by show (if u=(iZ E i).t then (i:Int) else b u)=j;rw [Γ e];exact h1,h2,h3,?_,h5,h6⟩;rw [hv0 _ hjS];exact h4
theorem QE {v:Nat} (h:DJ E s N m d b (v::S) W R) (hR:∀i,i<E.length->R i):DJ E s N m d b (v::S) W (fun _=>True):=
 ⟨h.rx,h.nd,h.sN,h.wN,h.rc,h.mono,h.top,fun i hi _ hm=>h.rel i hi (hR i hi) hm,h.bs,h.bn,h.be⟩
theorem XQ (hs:s<N) (g:EW E s N m) (h:DJ E s N m d b S W (fun _=>True)) (hW:∀v,¬W v):Xb E N s d b:=by
 have hrc:∀v,v<N->(d v≠inf↔v∈S):=fun v hv=>by
  rw [h.rc v hv];exact ⟨fun e=>e.elim id (fun e=>(hW v e).elim),Α⟩
 have hbe:∀v,v<N->v≠s->d v≠inf->∃i:Nat,b v=i/\i<E.length/\(iZ E i).t=v/\d (iZ E i).f+(iZ E i).w=d v/\(iZ E i).f∈S/\∀l1 l2,S=l1++v::l2->(iZ E i).f∈l2:=fun v hv hne hd=>by
  obtain ⟨i,h1,h2,h3,h4,_,h6⟩:=h.be v hv hne hd;refine ⟨i,h1,h2,h3,h4,?_,h6⟩;obtain ⟨l1,l2,hl⟩:=List.append_of_mem ((hrc v hv).1 hd);have:=h6 l1 l2 hl;rw [hl];simp [this]
 have WN:∀i:Nat,IC E (i:Int)=iZ E i:=fun i=>by unfold IC iZ;rw [show ((i:Nat):Int).toNat=i by omega]
 have hbn:∀v,v<N->b v≠-1->v≠s/\d v≠inf:=fun v hv hb=>⟨fun e=>hb (by rw [e];exact h.bs),fun e=>hb (h.bn v hv e)⟩
 have UZ:∀v i,b v=((i:Nat):Int)->qZ E b v=(iZ E i).f:=fun v i hb=>by rw [yS ω,hb,WN]
 refine ⟨h.rx.src,h.bs,fun e he hd=>?_,fun v hv=>⟨⟨fun ⟨h1,h2⟩=>?_,hbn v hv⟩,fun ⟨h1,h2⟩=>?_⟩,?_⟩
 ·obtain ⟨i,hi,rfl⟩:=List.mem_iff_getElem.1 he;have hg:iZ E i=E[i]:=by unfold iZ;rw [φ,ε hi];rfl
  have:=h.rel i hi trivial (by rw [hg];exact (hrc _ (g.e _ he).1).1 hd);rwa [hg] at this
 ·obtain ⟨i,hb,_⟩:=hbe v hv h1 h2;rw [hb];omega
 ·obtain ⟨i,hb,hi,ht,hsum,hfS,_⟩:=hbe v hv h1 h2;rw [iq,UZ v i hb,hb,WN];exact ⟨ω,ω,ht,(hrc _ (h.sN _ hfS)).2 hfS,hsum⟩
 ·-- the way back,by the places in S
  have key:∀ (n:Nat) (l1 l2:List Nat) (v:Nat),l2.length<=n->S=l1++v::l2->∃k,rX E b k v=s:=by
   intro n
   induction n with
   | zero=>
    intro l1 l2 v hl hS
    by_cases e:v=s
    ·exact ⟨0,e⟩
    ·have QH:v∈S:=by rw [hS];simp
     obtain ⟨i,hb,hi,ht,hsum,hfS,h6⟩:=hbe v (h.sN v QH) e ((hrc v (h.sN v QH)).2 QH);have:=h6 l1 l2 hS;have hl0:l2=[]:=ϙ ω;rw [hl0] at this;cases this
   | succ n ih=>
    intro l1 l2 v hl hS
    by_cases e:v=s
    ·exact ⟨0,e⟩
    ·have QH:v∈S:=by rw [hS];simp
     obtain ⟨i,hb,hi,ht,hsum,hfS,h6⟩:=hbe v (h.sN v QH) e ((hrc v (h.sN v QH)).2 QH);obtain ⟨m1,m2,hm⟩:=List.append_of_mem (h6 l1 l2 hS);have hlen:m2.length<=n:=by rw [hm] at hl;simp at hl;omega
     obtain ⟨k,hk⟩:=ih (l1++v::m1) m2 (iZ E i).f hlen (by rw [hS,hm];simp);exact ⟨k+1,by show rX E b k (qZ E b v)=s;rw [UZ v i hb];exact hk⟩
  intro v hv hb;obtain ⟨h1,h2⟩:=hbn v hv hb;obtain ⟨l1,l2,hl⟩:=List.append_of_mem ((hrc v hv).1 h2);exact key l2.length l1 l2 v (Θ _) hl
end
end Go.Proofs.YtklibcncmbofpaaGreat
namespace Go.Proofs.YtklibcncmbofpaaGreat
open Go Go.RowKit
structure Ed where
 f:Int
 t:Int
 w:Int
instance:Inhabited Ed:=⟨⟨0,0,0⟩⟩
def Ed.val (e:Ed):Value:=.agg #[.int .i64 e.f,.int .i64 e.t,.int .i64 e.w]
def vB (w:World) (v:Value) (E:List Ed):Prop:=
 ∃a cap,v=.slice a E.length cap/\cap<=9223372036854775807/\E.length<=9223372036854775807/\∀j e,E[j]?=some e->∃g off,a=some ⟨g,off,none⟩/\g<w.heap.size/\
  w.cell? ⟨g,off+j*3,none⟩=some (.int .i64 e.f)/\w.cell? ⟨g,off+j*3+1,none⟩=some (.int .i64 e.t)/\w.cell? ⟨g,off+j*3+2,none⟩=some (.int .i64 e.w)
theorem vB.upd {w w':World} {v:Value} {E:List Ed} (h:vB w v E) (hu:aa [] w w'):vB w' v E:=by
 obtain ⟨a,cap,rfl,h1,h1',h2⟩:=h;refine ⟨a,cap,rfl,h1,h1',fun j e hj=>?_⟩;obtain ⟨g,off,rfl,hg,h3,h4,h5⟩:=h2 j e hj;exact ⟨g,off,rfl,Ψ hg hu.size,hu.was h3,hu.was h4,hu.was h5⟩
theorem vB.shape {w:World} {v:Value} {E:List Ed} (h:vB w v E):∃a cap,v=.slice a E.length cap/\cap<=9223372036854775807:=by
 obtain ⟨a,cap,rfl,h1,_⟩:=h;exact ⟨a,cap,rfl,h1⟩
theorem vB.at {w:World} {a:Option Addr} {n c:Nat} {E:List Ed} (h:vB w (.slice a n c) E) (j:Nat) (hj:j<E.length):∃g off,a=some ⟨g,off,none⟩/\g<w.heap.size/\
  w.cell? ⟨g,off+j*3,none⟩=some (.int .i64 (E.getD j default).f)/\w.cell? ⟨g,off+j*3+1,none⟩=some (.int .i64 (E.getD j default).t)/\w.cell? ⟨g,off+j*3+2,none⟩=some (.int .i64 (E.getD j default).w):=by
 obtain ⟨a',cap,he,h1,h1',h2⟩:=h;cases he;exact h2 j _ (by simp [φ,hj])
set_option maxRecDepth 100000 in
open Go.ChangeShapes Go.ChangeAt Go.WideShapes in
theorem Gz {H:Type} {enc:TypeId×Value->H} {W:World} {v:Value} {y:DataW H×List MemPlace} {m:Nat} {base:Nat} {sp:Nat->Bool}
  (hf:DataW.trod enc Tryz.prog W base sp true m 55 [v]=some y):∃E,vB W v E/\∀e,e∈E->-9223372036854775808<=e.w/\e.w<=9223372036854775807:=by
 rcases Go.Deep.open_slice Tryz.underlying55 hf with ⟨hcs,_⟩|⟨y,l,c,m,n,D,Pl,hcs,_,hl,hm,hmm,_,hx⟩
 ·simp at hcs;subst hcs;exact ⟨[],⟨none,0,rfl,ω,σ,fun j e h=>by simp at h⟩,fun e he=>by cases he⟩
 ·simp at hcs;subst hcs;have hlm:l<=m:=by rw [hmm];split<;>omega
  have hc4:Tryz.prog.cellsOf 67=3:=by kernel_rfl
  rw [hc4] at hx;have key:∀i,∃q:(Int×Int×Int),i<l->W.cell? (y.add (i*3))=some (.int .i64 q.1)/\W.cell? (y.add (i*3+1))=some (.int .i64 q.2.1)/\W.cell? (y.add (i*3+2))=some (.int .i64 q.2.2)/\(-9223372036854775808<=q.2.2/\q.2.2<=9223372036854775807):=fun i=>by
   by_cases hi:i<l
   ·obtain ⟨cs,h1,h2⟩:=hx i ω;obtain ⟨_,hlen,hcell⟩:=World.cells?_some h1;obtain ⟨xs,n',_,_,_,hlx,Yy⟩:=DataW.trod_struct Tryz.underlying67 h2
    match cs,hlen with
    | [c0,c1,c2],_=>
     have f0:=Yy 0 _ rfl;have f1:=Yy 1 _ rfl;have f2:=Yy 2 _ rfl
     match xs,hlx with
     | [x0,x1,x2],_=>
      obtain ⟨k,e0,_,_⟩:=DataW.trod_int Tryz.underlying3 f0;obtain ⟨p,e1,_,_⟩:=DataW.trod_int Tryz.underlying3 f1;obtain ⟨x,e2,_,wx⟩:=DataW.trod_int Tryz.underlying2 f2;have g0:=hcell 0 ω;have g1:=hcell 1 ω;have g2:=hcell 2 ω;rw [Go.Deep.add_add] at g0 g1 g2;have t1:Tryz.prog.cellsOf 3=1:=by kernel_rfl
      have t2:Tryz.prog.cellsOf 2=1:=by kernel_rfl
      simp [t1,t2] at e0 e1 e2;subst e0 e1 e2;exact ⟨(k,p,x),fun _=>⟨by simpa using g0,by simpa using g1,by simpa using g2,by simp [Lit.wf,IntKind.min,IntKind.max,IntKind.signed,IntKind.bits] at wx;omega⟩⟩
   ·exact ⟨(0,0,0),fun h=>absurd h hi⟩
  obtain ⟨q,hq⟩:=Classical.axiomOfChoice key;have hlen:((List.range l).map fun i=>(⟨(q i).1,(q i).2.1,(q i).2.2⟩:Ed)).length=l:=σ;refine ⟨(List.range l).map fun i=>⟨(q i).1,(q i).2.1,(q i).2.2⟩,⟨some y,c,by rw [hlen],by unfold maxLen at hm;omega,by rw [hlen];unfold maxLen at hm;omega,fun j e hj=>?_⟩,fun e he=>?_⟩
  rotate_left
  ·obtain ⟨i,hi,rfl⟩:=List.mem_map.1 he;exact (hq i (List.mem_range.1 hi)).2.2.2
  obtain ⟨b,off,spot⟩:=y;have hjl:j<l:=by
   have:=(List.getElem?_eq_some_iff.1 hj).1;rwa [hlen] at this
  have hspot:spot=none:=by have:=World.cell?_spot (hq 0 ω).1;simpa [Addr.add] using this
  subst hspot;rw [ϑ,List.getElem?_range hjl] at hj;simp only [Option.map_some,ϖ] at hj;subst hj;have hh:=hq j hjl;refine ⟨b,off,rfl,?_,?_⟩
  ·have:=Ε W _ hh.1;rw [Go.WideShapes.add_plain] at this;exact this
  ·simpa only [Go.WideShapes.add_plain,Nat.add_assoc] using (ψ hh.1 (ψ hh.2.1 hh.2.2.1))
def pG (N x:Int):Bool:=decide (0<=x) && decide (x<N)
def kZ (N:Int) (e:Ed):Bool:=pG N e.f && pG N e.t
def fP (N:Int) (E:List Ed):Bool:=decide (0<=N) && decide (N<=4096) && decide (E.length<=65536) && E.all (kZ N)
def bI (N:Int) (E:List Ed):Bool:=fP N E && E.all (fun e=>decide (0<=e.w) && decide (e.w<=9223372036854775807 / max N 1))
theorem zq (N x:Int) (a:Option Addr) (n c:Nat) (w:World) :
  Calls Tryz.prog 88 #[.agg #[.int .i64 N,.slice a n c],.int .i64 x] w fun e w'=>e=.returned (.bool (pG N x))/\aa [] w w':=by
 unfold pG
 by_cases h:0<=x
 ·go_enter Tryz.func88,Tryz.ntmps88
  go_wp2;go_ret;exact ⟨aU (by simp [h]),(aa.refl _ _).alloc _⟩
 ·go_enter Tryz.func88,Tryz.ntmps88
  go_wp2;go_ret;exact ⟨aU (by rw [Ξ ω];rfl),(aa.refl _ _).alloc _⟩
def BoxG (w:World) (B:Nat) (N:Int) (vs:Value):Prop:=w.cell? ⟨B,0,none⟩=some (.int .i64 N)/\w.cell? ⟨B,1,none⟩=some vs
theorem I6 (e:Ed) (B:Nat) (N:Int) (a:Option Addr) (n c:Nat) (w:World) (h:BoxG w B N (.slice a n c)) :
  Calls Tryz.prog 87 #[e.val,.pointer (some ⟨B,0,none⟩)] w fun x w'=>x=.returned (.bool (!(kZ N e)))/\aa [] w w':=by
 obtain ⟨ef,et,ew⟩:=e;unfold Ed.val kZ;have h0:=fun W (hu:aa [] w W)=>hu.was h.1;have h1:=fun W (hu:aa [] w W)=>hu.was h.2;have H0:=χ h0;have H1:=χ h1;clear h0 h1;obtain ⟨hN,hV⟩:=h;have hB:B<w.heap.size:=Ε w _ hN;have k1:=fun W=>zq N ef a n c W;have k2:=fun W=>zq N et a n c W;cases hb:pG N ef
 ·rw [hb] at k1
  go_enter Tryz.func87,Tryz.ntmps87
  go_wp2_with ((go_at_call 88;(with_reducible refine (k1 _).mono ?_));rintro e w1 ⟨rfl,hu1⟩;have q0:=H0.out _ (((aa.refl _ _).alloc _).trans hu1))
  go_ret;exact ⟨aU σ,((aa.refl _ _).alloc _).trans hu1⟩
 ·rw [hb] at k1;have hu0:aa [] w (w.alloc (.cells #[.int .i64 ef,.int .i64 et,.int .i64 ew] 67)):=(aa.refl _ _).alloc _;have E1:∀W,aa [] (w.alloc (.cells #[.int .i64 ef,.int .i64 et,.int .i64 ew] 67)) W->W.cell? ⟨w.heap.size,1,none⟩=some (.int .i64 et):=fun W h=>h.was σ;have HE1:=χ E1;clear E1
  go_enter Tryz.func87,Tryz.ntmps87
  go_wp2_with (first
   | ((go_at_call 88;(with_reducible refine (k1 _).mono ?_));rintro e w1 ⟨rfl,hu1⟩;have q0:=H0.out _ (hu0.trans hu1);have q1:=H1.out _ (hu0.trans hu1);have q2:=HE1.out _ hu1)
   | ((go_at_call 88;(with_reducible refine (k2 _).mono ?_));rintro e w2 ⟨rfl,hu2⟩))
  go_ret;exact ⟨aU σ,(hu0.trans hu1).trans hu2⟩
def Vq (b:Bool) (w:World) (r:Ending) (w':World):Prop:=∃i:Int,r=.returned (.int .i64 i)/\decide (0<=i)=b/\aa [] w w'
theorem PK {α:Type} (P:α->Bool) (l:List α) (k:Nat) (x:α) (hx:l[k]?=some x):(l.take (k+1)).any P=((l.take k).any P || P x):=by
 rw [Ϗ,hx];simp
theorem P8 (w:World) (va:Value) (E:List Ed) (P:Ed->Bool) (f:FuncId) (zO:Array Value) (hE:vB w va E) (hen:Enters f)
  (hc:∀ (W:World) (e:Ed),aa [] w W->e∈E->Calls Tryz.prog f (#[e.val]++zO) W fun r w'=>r=.returned (.bool (P e))/\aa [] W w') :
  Calls Tryz.prog 89 #[va,.func (Fn.func f) #[] zO] w (Vq (E.any P) w):=by
 obtain ⟨a,cap,rfl,hcap⟩:=hE.shape;have HE:=χ hE;have HC:=χ hc;unfold Enters at hen;have hcp:E.length<=9223372036854775807:=by obtain ⟨_,_,_,_,h,_⟩:=hE;exact h
 clear hE hc;generalize hn:E.length=n at *;have HN:=χ hn;clear hn
 go_enter Tryz.func89,Tryz.ntmps89
 go_wp2
 go_loopw [5,8] (fun _ i wr=>∃k:Nat,k<=n/\i=.int .i64 (k:Int)/\(E.take k).any P=false/\aa [] w wr) (fun _ i _=>n-(intOf i).toNat)
 case atStart=>exact ⟨0,ω,rfl,σ,aa.refl _ _⟩
 case round=>
  obtain ⟨k,hk,rfl,hany,hu⟩:=hrel;rename World=>wr
  by_cases hkn:k<n
  ·have LP:k<E.length:=by rw [HN.out];exact hkn
   have hx:E[k]?=some (E.getD k default):=by simp [φ,LP]
   have hmem:E.getD k default∈E:=Η hx;obtain ⟨g,off,rfl,hg,c0,c1,c2⟩:=(HE.out.upd hu).at k LP;have kc:=HC.out wr _ hu hmem;generalize E.getD k default=e at *;obtain ⟨ef,et,ew⟩:=e;have HM:=χ hmem;have HT:=χ (PK P E k _ hx);have HA:=χ hany;have hwr:IntKind.i64.wrap ((k:Int)+1)=(k:Int)+1:=Μ _ ω;dsimp only at c0 c1 c2;unfold Ed.val at kc;clear hx hmem hany;cases hp:P ⟨ef,et,ew⟩ with
   | false=>
    rw [hp] at kc;have HP:=χ hp;clear hp
    go_wp2_with (first
     | ((with_reducible refine (kc).mono ?_);rintro e w2 ⟨rfl,hu2⟩)
     | fail)
    go_roundw
    case rel=>exact ⟨k+1,ω,by go_num,by rw [HT.out,HA.out,HP.out];rfl,hu.trans hu2⟩
    case measure=>simp [intOf];omega
   | true=>
    rw [hp] at kc;have HP:=χ hp;clear hp
    go_wp2_with (first
     | ((with_reducible refine (kc).mono ?_);rintro e w2 ⟨rfl,hu2⟩)
     | fail)
    go_ret;refine ⟨(k:Int),rfl,?_,hu.trans hu2⟩;rw [List.any_eq_true.2 ⟨_,HM.out,HP.out⟩];simp
  ·obtain rfl:k=n:=ω;have hfin:E.any P=false:=by rw [←hany,←HN.out,List.take_length]
   have HF:=χ hfin;clear hany hfin;go_wp2;go_ret;exact ⟨-1,rfl,by rw [HF.out];rfl,hu⟩
theorem Py (w:World) (va:Value) (E:List Ed) (P:Ed->Bool) (f:FuncId) (zO:Array Value) (hE:vB w va E) (hen:Enters f)
  (hc:∀ (W:World) (e:Ed),aa [] w W->e∈E->Calls Tryz.prog f (#[e.val]++zO) W fun r w'=>r=.returned (.bool (P e))/\aa [] W w') :
  Calls Tryz.prog 78 #[va,.func (Fn.func f) #[] zO] w fun r w'=>r=.returned (.bool (E.any P))/\aa [] w w':=by
 have k:=P8 w va E P f zO hE hen hc;generalize E.any P=b at *
 go_enter Tryz.func78,Tryz.ntmps78
 go_wp2_with (first
  | ((go_at_call 89;(with_reducible refine (k).mono ?_));rintro e w1 ⟨i,rfl,hi,hu⟩)
  | fail)
 go_ret;exact ⟨aU (by rw [←hi]),hu⟩
theorem EY (E:List Ed) (P:Ed->Bool):E.any (fun e=>!(P e))=!(E.all P):=by
 induction E with
 | nil=>rfl
 | cons e l ih=>rw [List.any_cons,List.all_cons,ih];cases P e<;>simp
theorem y5 (w:World) (N:Int) (va:Value) (E:List Ed) (hE:vB w va E) :
  Calls Tryz.prog 74 #[.agg #[.int .i64 N,va]] w fun r w'=>r=.returned (.int .i64 (if fP N E then 0 else 201))/\aa [] w w':=by
 obtain ⟨a,cap,rfl,hcap⟩:=hE.shape;have HE:=χ hE;have hl:E.length<=9223372036854775807:=by obtain ⟨_,_,_,_,h,_⟩:=hE;exact h
 clear hE;have key:fP N E=(decide (0<=N) && decide (N<=4096) && decide (E.length<=65536) && E.all (kZ N)):=rfl
 by_cases h0:N<0
 ·have hr:fP N E=false:=by rw [key,Ξ ω];rfl
  rw [hr];clear key hr
  go_enter Tryz.func74,Tryz.ntmps74
  go_wp2;go_ret;exact ⟨rfl,ξ⟩
 ·by_cases h1:N > 4096
  ·have hr:fP N E=false:=by rw [key,Ξ (ω:¬N<=4096)];simp
   rw [hr];clear key hr
   go_enter Tryz.func74,Tryz.ntmps74
   go_wp2;go_ret;exact ⟨rfl,ξ⟩
  ·by_cases h2:(E.length:Int) > 65536
   ·have hr:fP N E=false:=by rw [key,Ξ (ω:¬E.length<=65536)];simp
    rw [hr];clear key hr;generalize E.length=n at *
    go_enter Tryz.func74,Tryz.ntmps74
    go_wp2;go_ret;exact ⟨rfl,ξ⟩
   ·have hr:fP N E=E.all (kZ N):=by rw [key,Ν (ω:0<=N),Ν (ω:N<=4096),Ν (ω:E.length<=65536)];simp
    have u0:aa [] w (w.alloc (.cells #[.int .i64 N,.slice a E.length cap] 57)):=(aa.refl _ _).alloc _;have kc:=fun W (hW:aa [] (w.alloc (.cells #[.int .i64 N,.slice a E.length cap] 57)) W)=>Py W (.slice a E.length cap) E (fun e=>!(kZ N e)) 87 #[.pointer (some ⟨w.heap.size,0,none⟩)] (HE.out.upd (u0.trans hW)) (fun _ _=>by kernel_rfl)
     (fun W2 e hW2 _=>I6 e w.heap.size N a E.length cap W2 ⟨(hW.trans hW2).was σ,(hW.trans hW2).was σ⟩)
    rw [EY] at kc;rw [hr];clear key hr;cases hall:E.all (kZ N) with
    | false=>
     rw [hall] at kc;clear hall;generalize E.length=n at *
     go_enter Tryz.func74,Tryz.ntmps74
     go_wp2_with (first
      | ((go_at_call 78;(with_reducible refine (kc _ (aa.refl _ _)).mono ?_));rintro e w1 ⟨rfl,hu1⟩)
      | fail)
     go_ret;exact ⟨rfl,u0.trans hu1⟩
    | true=>
     rw [hall] at kc;clear hall;generalize E.length=n at *
     go_enter Tryz.func74,Tryz.ntmps74
     go_wp2_with (first
      | ((go_at_call 78;(with_reducible refine (kc _ (aa.refl _ _)).mono ?_));rintro e w1 ⟨rfl,hu1⟩)
      | fail)
     go_ret;exact ⟨rfl,u0.trans hu1⟩
theorem G6 {α:Type} (P:α->Bool) (l:List α) (k:Nat) (x:α) (hx:l[k]?=some x) (h:(l.take k).all P=true):(l.take (k+1)).all P=P x:=by
 rw [Ϗ,hx];simp [h]
theorem uO {α:Type} (P:α->Bool) (l:List α) (x:α) (hx:x∈l) (h:P x=false):l.all P=false:=by
 cases e:l.all P with
 | false=>rfl
 | true=>rw [List.all_eq_true.1 e x hx] at h;cases h
theorem jA {N:Int} {E:List Ed} (h:fP N E=true) {e:Ed} (he:e∈E):0<=e.f/\e.f<N/\0<=e.t/\e.t<N:=by
 unfold fP at h;simp only [Τ] at h;have:=List.all_eq_true.1 h.2 e he;unfold kZ pG at this;simp only [Τ,Ο] at this;omega
theorem oO {N:Int} {E:List Ed} (h:fP N E=true):0<=N/\N<=4096/\E.length<=65536:=by
 unfold fP at h;simp only [Τ,Ο] at h;omega
theorem Jh (w:World) (N:Int) (va:Value) (E:List Ed) (hE:vB w va E) :
  Calls Tryz.prog 56 #[.agg #[.int .i64 N,va]] w fun r w'=>r=.returned (.bool (fP N E))/\aa [] w w':=by
 obtain ⟨a,cap,rfl,hcap⟩:=hE.shape;have HE:=χ hE;have hl:E.length<=9223372036854775807:=by obtain ⟨_,_,_,_,h,_⟩:=hE;exact h
 clear hE;have u0:aa [] w (w.alloc (.cells #[.int .i64 N,.slice a E.length cap] 57)):=(aa.refl _ _).alloc _;have HK:=χ (show fP N E=(decide (0<=N) && decide (N<=4096) && decide (E.length<=65536) && E.all (kZ N)) from rfl);generalize hn:E.length=n at *;have HN:=χ hn;clear hn
 go_enter Tryz.func56,Tryz.ntmps56
 go_wp2
 go_loopw [4,8] (fun _ i wr=>∃k:Nat,k<=n/\i=.int .i64 (k:Int)/\(E.take k).all (kZ N)=true/\aa [] (w.alloc (.cells #[.int .i64 N,.slice a n cap] 57)) wr) (fun _ i _=>n-(intOf i).toNat)
 case atStart=>exact ⟨0,ω,rfl,σ,aa.refl _ _⟩
 case round=>
  obtain ⟨k,hk,rfl,hall,hu⟩:=hrel;rename World=>wr;have q0:wr.cell? ⟨w.heap.size,0,none⟩=some (.int .i64 N):=hu.was σ;have q1:wr.cell? ⟨w.heap.size,1,none⟩=some (.slice a n cap):=hu.was σ;have hsz:w.heap.size<wr.heap.size:=by have:=hu.size;simp at this;omega
  by_cases hkn:k<n
  ·have LP:k<E.length:=by rw [HN.out];exact hkn
   have hx:E[k]?=some (E.getD k default):=by simp [φ,LP]
   have hmem:E.getD k default∈E:=Η hx;obtain ⟨g,off,rfl,hg,c0,c1,c2⟩:=(HE.out.upd (u0.trans hu)).at k LP;generalize E.getD k default=e at *;have HT:=χ (G6 (kZ N) E k _ hx hall);have HM:=χ hmem;have hwr:IntKind.i64.wrap ((k:Int)+1)=(k:Int)+1:=Μ _ ω;obtain ⟨ef,et,ew⟩:=e;dsimp only at c0 c1 c2;clear hx hmem hall HE;have hend:kZ N ⟨ef,et,ew⟩=(pG N ef && pG N et):=rfl
   by_cases b0:ef<0
   ·have hf:Hid (fP N E=false):=χ (by rw [HK.out,uO (kZ N) E _ HM.out (by rw [hend];unfold pG;rw [Ξ ω];rfl)];simp);clear hend;go_wp2;go_ret;exact ⟨by rw [hf.out];rfl,by have:=u0.trans hu;exact β⟩
   ·by_cases b1:ef≥N
    ·have hf:Hid (fP N E=false):=χ (by rw [HK.out,uO (kZ N) E _ HM.out (by rw [hend];unfold pG;rw [Ξ (ω:¬ef<N)];simp)];simp);clear hend;go_wp2;go_ret;exact ⟨by rw [hf.out];rfl,by have:=u0.trans hu;exact β⟩
    ·by_cases b2:et<0
     ·have hf:Hid (fP N E=false):=χ (by rw [HK.out,uO (kZ N) E _ HM.out (by rw [hend];unfold pG;rw [Ξ (ω:¬0<=et)];simp)];simp);clear hend;go_wp2;go_ret;exact ⟨by rw [hf.out];rfl,by have:=u0.trans hu;exact β⟩
     ·by_cases b3:et≥N
      ·have hf:Hid (fP N E=false):=χ (by rw [HK.out,uO (kZ N) E _ HM.out (by rw [hend];unfold pG;rw [Ξ (ω:¬et<N)];simp)];simp);clear hend;go_wp2;go_ret;exact ⟨by rw [hf.out];rfl,by have:=u0.trans hu;exact β⟩
      ·have ht:Hid (kZ N ⟨ef,et,ew⟩=true):=χ (by rw [hend];unfold pG;simp;omega);clear hend;go_wp2;exact ⟨⟨k+1,ω,by go_num,by rw [HT.out,ht.out],β⟩,by simp [intOf];omega⟩
  ·obtain rfl:k=n:=ω;have hfin:E.all (kZ N)=true:=by rw [←hall,←HN.out,List.take_length]
   have hr:Hid (fP N E=(decide (0<=N) && decide (N<=4096) && decide (k<=65536))):=χ (by rw [HK.out,hfin,Bool.and_true]);clear hall hfin
   by_cases b0:N≥0
   ·by_cases b1:N<=4096
    ·go_wp2;go_ret;exact ⟨aU (by rw [hr.out];first|(simp [b0,b1];done)|(simp [b0,b1];omega)),by have:=u0.trans hu;exact β⟩
    ·go_wp2;go_ret;exact ⟨aU (by rw [hr.out];first|(simp [b0,b1];done)|(simp [b0,b1];omega)),by have:=u0.trans hu;exact β⟩
   ·go_wp2;go_ret;exact ⟨aU (by rw [hr.out,Ξ (ω:¬0<=N)];first|rfl|(simp;done)|(simp;omega)),by have:=u0.trans hu;exact β⟩
end Go.Proofs.YtklibcncmbofpaaGreat
namespace Go.Proofs.YtklibcncmbofpaaGreat
section
variable {E:List En} {by':Nat->Int} {s N:Nat} {mk:Nat->Nat}
def abn (E:List En) (by':Nat->Int) (s x:Nat):Prop:=∃k,rX E by' k x=s
end
end Go.Proofs.YtklibcncmbofpaaGreat
namespace Go.Proofs.YtklibcncmbofpaaGreat
open Go Go.RowKit
def Xe (x:Int):Bool:=decide (0<=x) && decide (x≠9223372036854775807)
def Cu (D:List Int) (e:Ed):Bool:=decide (D.getD e.f.toNat 0≠9223372036854775807) && decide (e.w<=9223372036854775807-D.getD e.f.toNat 0) && decide (D.getD e.t.toNat 0 > D.getD e.f.toNat 0+e.w)
def Q8 (D:List Int) (E:List Ed):Bool:=!(E.any (Cu D))
def Lx (w:World) (v:Value) (N:Int) (E:List Ed) (va:Value):Prop:=v=.agg #[.int .i64 N,va]/\vB w va E/\∀e,e∈E->-9223372036854775808<=e.w/\e.w<=9223372036854775807
set_option maxRecDepth 100000 in
open Go.Joins in
theorem BI {H:Type} {enc:TypeId×Value->H} {W:World} {v:Value} {d:DataW H} {p:List MemPlace} {base:Nat} {sp:Nat->Bool}
  (ho:Value.okWide Tryz.prog W .any base 57 v) (h:DataW.Trod enc Tryz.prog W 0 sp true 57 v d p):∃N E va,Lx W v N E va:=by
 obtain ⟨c0,c1,y0,y1,m,rfl,_,_,hy0,hy1⟩:=open_agg2 Tryz.underlying57 (by kernel_rfl) (show Tryz.prog.cellsOf 57=2 by kernel_rfl) ho h;obtain ⟨N,e0,_,wa⟩:=DataW.trod_int Tryz.underlying3 hy0;obtain ⟨E,hE,hb⟩:=Gz hy1;simp at e0;subst e0;exact ⟨N,E,_,rfl,hE,hb⟩
end Go.Proofs.YtklibcncmbofpaaGreat
