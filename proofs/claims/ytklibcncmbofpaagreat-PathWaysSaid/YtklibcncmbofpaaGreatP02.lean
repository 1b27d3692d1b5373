/-
  Lemmas for PathWays: PrP3, Dij. Conditions: those of each lemma.
-/
import Derived.WalkKit
import Derived.WalkSpells
import Derived.WalkLawsBesides
import Derived.BigQuiet
import Derived.Deep.RegionHeld3
import Derived.ProofKit
import Derived.OpenShut
import Derived.Lib.Hide
import Derived.Test.YtklibcncmbofpaaGreatP01
set_option linter.unusedVariables false
set_option linter.unusedSimpArgs false
namespace Go.Proofs.YtklibcncmbofpaaGreat
def edN (E : List En) (i : Int) : En := E.getD i.toNat ⟨0, 0, 0⟩
def parN (E : List En) (by' : Nat → Int) (x : Nat) : Nat := if by' x = -1 then x else (edN E (by' x)).f
theorem parN_of {E : List En} {by' : Nat → Int} {x : Nat} (h : by' x ≠ -1) : parN E by' x = (edN E (by' x)).f := by unfold parN; rw [if_neg h]
def stepOk (E : List En) (by' : Nat → Int) (D : Nat → Nat) (x : Nat) : Bool :=
 decide (0 ≤ by' x) && decide (by' x < E.length) && decide ((edN E (by' x)).t = x) && decide (D (parN E by' x) ≠ inf) && decide (D (parN E by' x) + (edN E (by' x)).w = D x)
def chainOk (E : List En) (by' : Nat → Int) (D : Nat → Nat) (s : Nat) : Nat → Nat → Bool
 | 0, x => decide (x = s)
 | k + 1, x => decide (x = s) || (stepOk E by' D x && chainOk E by' D s k (parN E by' x))
def iterP (E : List En) (by' : Nat → Int) : Nat → Nat → Nat
 | 0, x => x
 | k + 1, x => iterP E by' k (parN E by' x)
def TreeP (E : List En) (N s : Nat) (D d : Nat → Nat) (by' : Nat → Int) : Prop :=
 ∀ v, v < N → d v = D v ∧ ((v = s ∨ D v = inf) → by' v = -1) ∧ (¬ (v = s ∨ D v = inf) → chainOk E by' D s N v = true)
def ProvP (E : List En) (N s : Nat) (d : Nat → Nat) (by' : Nat → Int) : Prop :=
 d s = 0 ∧ by' s = -1 ∧ Feas E d ∧ (∀ v, v < N → ((v ≠ s ∧ d v ≠ inf) ↔ by' v ≠ -1) ∧ (v ≠ s ∧ d v ≠ inf → stepOk E by' d v = true)) ∧ ∀ v, v < N → by' v ≠ -1 → ∃ k, iterP E by' k v = s
section
variable {E : List En} {by' : Nat → Int} {D d : Nat → Nat} {s N m : Nat}
theorem stepOk_iff (E : List En) (by' : Nat → Int) (D : Nat → Nat) (x : Nat) : stepOk E by' D x = true ↔ 0 ≤ by' x ∧ by' x < E.length ∧ (edN E (by' x)).t = x ∧ D (parN E by' x) ≠ inf ∧ D (parN E by' x) + (edN E (by' x)).w = D x := by
 unfold stepOk; simp [and_assoc]
theorem edN_mem {i : Int} (h0 : 0 ≤ i) (h1 : i < E.length) : edN E i ∈ E := by
 unfold edN
 have : i.toNat < E.length := by omega
 rw [List.getD_eq_getElem?_getD, List.getElem?_eq_getElem this]
 exact List.getElem_mem _
theorem chainOk_iter : ∀ (k x : Nat), chainOk E by' D s k x = true → ∃ j, iterP E by' j x = s := by
 intro k
 induction k with
 | zero => intro x h; exact ⟨0, by simp only [iterP]; simpa [chainOk] using h⟩
 | succ k ih =>
  intro x h
  unfold chainOk at h
  by_cases e : x = s
  ·exact ⟨0, e⟩
  ·simp only [e, decide_false, Bool.false_or, Bool.and_eq_true] at h
   obtain ⟨j, hj⟩ := ih _ h.2
   exact ⟨j + 1, hj⟩
theorem chainOk_succ : ∀ (k x : Nat), chainOk E by' D s k x = true → chainOk E by' D s (k + 1) x = true := by
 intro k
 induction k with
 | zero => intro x h; unfold chainOk at h ⊢; rw [h]; rfl
 | succ k ih =>
  intro x h
  unfold chainOk at h ⊢
  by_cases e : x = s
  ·simp [e]
  ·simp only [e, decide_false, Bool.false_or, Bool.and_eq_true] at h ⊢
   exact ⟨h.1, ih _ h.2⟩
theorem chainOk_mono {i j x : Nat} (hij : i ≤ j) (h : chainOk E by' D s i x = true) : chainOk E by' D s j x = true := by
 induction hij with
 | refl => exact h
 | step _ ih => exact chainOk_succ _ _ ih
theorem chain_still {k : Nat} (hs : ∀ x, x < N → stepOk E by' D x = true → parN E by' x < N) (h : ∀ x, x < N → chainOk E by' D s (k + 1) x = true → chainOk E by' D s k x = true) :
  ∀ j x, x < N → chainOk E by' D s (k + j) x = true → chainOk E by' D s k x = true := by
 intro j
 induction j with
 | zero => intro x _ h; exact h
 | succ j ih =>
  intro x hx hc
  have hc' : chainOk E by' D s ((k + j) + 1) x = true := hc
  unfold chainOk at hc'
  by_cases e : x = s
  ·refine chainOk_mono (i := 0) (by omega) ?_
   unfold chainOk; simpa using e
  ·simp only [e, decide_false, Bool.false_or, Bool.and_eq_true] at hc'
   have h1 := ih _ (hs x hx hc'.1) hc'.2
   apply h x hx
   unfold chainOk
   simp only [e, decide_false, Bool.false_or, Bool.and_eq_true]
   exact ⟨hc'.1, h1⟩
theorem chain_short (hsN : s < N) (hs : ∀ x, x < N → stepOk E by' D x = true → parN E by' x < N) {j x : Nat} (hx : x < N) (h : chainOk E by' D s j x = true) : chainOk E by' D s N x = true := by
 have key : ∀ k, (∀ x, x < N → chainOk E by' D s (k + 1) x = true → chainOk E by' D s k x = true) ∨ k < cntS (fun x => chainOk E by' D s k x = true) N := by
  intro k
  induction k with
  | zero => exact Or.inr (cntS_pos hsN (by simp [chainOk]))
  | succ k ih =>
   rcases ih with ih | ih
   ·left
    intro x hx hc
    have := chain_still (k := k) hs ih 2 x hx hc
    exact chainOk_succ _ _ this
   ·by_cases hall : ∀ x, x < N → chainOk E by' D s (k + 1) x = true → chainOk E by' D s k x = true
    ·left
     intro x hx hc
     have := chain_still (k := k) hs hall 2 x hx hc
     exact chainOk_succ _ _ this
    ·right
     obtain ⟨x, hx⟩ := Classical.not_forall.1 hall
     obtain ⟨h1, h2⟩ := Classical.not_imp.1 hx
     obtain ⟨h3, h4⟩ := Classical.not_imp.1 h2
     have := cntS_lt (P := fun x => chainOk E by' D s k x = true) (Q := fun x => chainOk E by' D s (k + 1) x = true) (fun v hv => chainOk_succ _ _ hv) h1 h4 h3
     omega
 rcases key N with hk | hk
 ·by_cases hj : j ≤ N
  ·exact chainOk_mono hj h
  ·have e : N + (j - N) = j := by omega
   exact chain_still (k := N) hs hk (j - N) x hx (by rw [e]; exact h)
 ·have := cntS_le (fun x => chainOk E by' D s N x = true) N
  omega
theorem step_par (g : GOk E s N m) {x : Nat} (h : stepOk E by' D x = true) : parN E by' x < N := by
 obtain ⟨h0, h1, _⟩ := (stepOk_iff E by' D x).1 h
 rw [parN_of (by omega)]
 exact (g.e _ (edN_mem h0 h1)).1
theorem prov_tree (g : GOk E s N m) (hd : ∀ v, v < N → d v ≤ inf) : ProvP E N s d by' ↔ TreeP E N s (passes E s N) d by' := by
 have R := passes_rx g N
 have F := bf_enough g
 constructor
 ·rintro ⟨hd0, hb0, hF, hv, hr⟩
  have hF' : Feas E (fun v => if v < N then d v else inf) := fun e he hf => by
   obtain ⟨a, b, _⟩ := g.e e he
   simp only [a, b, if_pos] at hf ⊢
   exact hF e he hf
  have up : ∀ v, v < N → passes E s N v ≠ inf → d v ≤ passes E s N v := fun v hvN hfin => by
   have h1 := R.le v
   have := feas_way (L := fun v => if v < N then d v else inf) hF' (by simp only [g.src, if_pos]; exact hd0) (fun v => by
    by_cases e : v < N
    ·simp only [e, if_pos]; exact hd v e
    ·simp only [e, if_false]; exact Nat.le_refl _) (R.way v hfin) (by omega)
   simpa only [hvN, if_pos] using this
  have down : ∀ k v, v < N → d v ≠ inf → iterP E by' k v = s → passes E s N v ≤ d v := by
   intro k
   induction k with
   | zero => intro v hvN _ hk; simp only [iterP] at hk; subst hk; rw [R.src]; omega
   | succ k ih =>
    intro v hvN hfin hk
    by_cases e : v = s
    ·subst e; rw [R.src]; omega
    ·have hst := (hv v hvN).2 ⟨e, hfin⟩
     obtain ⟨h0, h1, h2, h3, h4⟩ := (stepOk_iff E by' d v).1 hst
     have hp := step_par g hst
     have h5 := ih _ hp h3 hk
     have h6 := hd _ hp
     rw [parN_of (by omega)] at h3 h4 h5 h6
     have h7 := F _ (edN_mem h0 h1) (by omega)
     rw [h2] at h7
     omega
  have same : ∀ v, v < N → d v = passes E s N v := fun v hvN => by
   have h1 := hd v hvN
   have h2 := R.le v
   by_cases hfin : d v = inf
   ·by_cases h3 : passes E s N v = inf
    ·rw [hfin, h3]
    ·have := up v hvN h3; omega
   ·have hdn : passes E s N v ≤ d v := by
     by_cases e : v = s
     ·subst e; rw [R.src]; omega
     ·obtain ⟨k, hk⟩ := hr v hvN ((hv v hvN).1.1 ⟨e, hfin⟩)
      exact down k v hvN hfin hk
    have := up v hvN (by omega)
    omega
  have sOk : ∀ v, v < N → stepOk E by' d v = true → stepOk E by' (passes E s N) v = true := fun v hvN h => by
   have hp := step_par g h
   obtain ⟨h0, h1, h2, h3, h4⟩ := (stepOk_iff E by' d v).1 h
   rw [same _ hp] at h3 h4
   rw [same _ hvN] at h4
   exact (stepOk_iff E by' _ v).2 ⟨h0, h1, h2, h3, h4⟩
  intro v hvN
  refine ⟨same v hvN, fun h => ?_, fun h => ?_⟩
  ·apply Classical.byContradiction
   intro hn
   obtain ⟨h1, h2⟩ := (hv v hvN).1.2 hn
   rcases h with h | h
   ·exact h1 h
   ·exact h2 (by rw [same v hvN]; exact h)
  ·have h1 : v ≠ s ∧ d v ≠ inf := ⟨fun e => h (Or.inl e), fun e => h (Or.inr (by rw [← same v hvN]; exact e))⟩
   obtain ⟨k, hk⟩ := hr v hvN ((hv v hvN).1.1 h1)
   have hch : ∀ k v, v < N → d v ≠ inf → iterP E by' k v = s → chainOk E by' (passes E s N) s k v = true := by
    intro k
    induction k with
    | zero => intro v _ _ hk; simp only [iterP] at hk; unfold chainOk; simpa using hk
    | succ k ih =>
     intro v hvN hfin hk
     unfold chainOk
     by_cases e : v = s
     ·simp [e]
     ·have hst := (hv v hvN).2 ⟨e, hfin⟩
      obtain ⟨_, _, _, h3, _⟩ := (stepOk_iff E by' d v).1 hst
      simp only [e, decide_false, Bool.false_or, Bool.and_eq_true]
      exact ⟨sOk v hvN hst, ih _ (step_par g hst) h3 hk⟩
   exact chain_short g.src (fun x _ h => step_par g h) hvN (hch k v hvN h1.2 hk)
 ·intro hT
  have same : ∀ v, v < N → d v = passes E s N v := fun v hv => (hT v hv).1
  have hFd : Feas E d := fun e he hf => by
   obtain ⟨a, b, _⟩ := g.e e he
   rw [same _ a] at hf ⊢
   rw [same _ b]
   exact F e he hf
  have hch : ∀ v, v < N → v ≠ s ∧ d v ≠ inf → chainOk E by' (passes E s N) s N v = true := fun v hv h => (hT v hv).2.2 (fun hn => by
   rcases hn with hn | hn
   ·exact h.1 hn
   ·exact h.2 (by rw [same v hv]; exact hn))
  have hN : 0 < N := Nat.lt_of_le_of_lt (Nat.zero_le _) g.src
  have hst : ∀ v, v < N → v ≠ s ∧ d v ≠ inf → stepOk E by' (passes E s N) v = true := fun v hv h => by
   have h1 := hch v hv h
   obtain ⟨n, rfl⟩ : ∃ n, N = n + 1 := ⟨N - 1, by omega⟩
   unfold chainOk at h1
   simp only [h.1, decide_false, Bool.false_or, Bool.and_eq_true] at h1
   exact h1.1
  refine ⟨by rw [same _ g.src, R.src], (hT s g.src).2.1 (Or.inl rfl), hFd, fun v hv => ⟨⟨fun h hn => ?_, fun h => ?_⟩, fun h => ?_⟩, fun v hv hb => ?_⟩
  ·obtain ⟨h0, _⟩ := (stepOk_iff E by' _ v).1 (hst v hv h)
   omega
  ·refine ⟨fun e => h ((hT v hv).2.1 (Or.inl e)), fun e => h ((hT v hv).2.1 (Or.inr (by rw [← same v hv]; exact e)))⟩
  ·have h1 := hst v hv h
   have hp := step_par g h1
   obtain ⟨h0, h1, h2, h3, h4⟩ := (stepOk_iff E by' _ v).1 h1
   rw [← same _ hp] at h3 h4
   rw [← same _ hv] at h4
   exact (stepOk_iff E by' d v).2 ⟨h0, h1, h2, h3, h4⟩
  ·have h1 : v ≠ s ∧ d v ≠ inf := ⟨fun e => hb ((hT v hv).2.1 (Or.inl e)), fun e => hb ((hT v hv).2.1 (Or.inr (by rw [← same v hv]; exact e)))⟩
   exact chainOk_iter N v (hch v hv h1)
end
end Go.Proofs.YtklibcncmbofpaaGreat
namespace Go.Proofs.YtklibcncmbofpaaGreat
def edG (E : List En) (i : Nat) : En := E.getD i ⟨0, 0, 0⟩
theorem edG_mem {E : List En} {i : Nat} (h : i < E.length) : edG E i ∈ E := by
 unfold edG; rw [List.getD_eq_getElem?_getD, List.getElem?_eq_getElem h]; exact List.getElem_mem _
structure DJ (E : List En) (s N m : Nat) (d : Nat → Nat) (b : Nat → Int) (S : List Nat) (W : Nat → Prop) (R : Nat → Prop) : Prop where
 rx : Rx E s N m d
 nd : S.Nodup
 sN : ∀ v, v ∈ S → v < N
 wN : ∀ v, W v → v < N ∧ v ∉ S
 rc : ∀ v, v < N → (d v ≠ inf ↔ v ∈ S ∨ W v)
 mono : ∀ u v, u ∈ S → W v → d u ≤ d v
 top : ∀ u x S', S = x :: S' → u ∈ S → d u ≤ d x
 rel : ∀ i, i < E.length → R i → (edG E i).f ∈ S → d (edG E i).t ≤ d (edG E i).f + (edG E i).w
 bs : b s = -1
 bn : ∀ v, v < N → d v = inf → b v = -1
 be : ∀ v, v < N → v ≠ s → d v ≠ inf → ∃ i : Nat, b v = i ∧ i < E.length ∧ (edG E i).t = v ∧ d (edG E i).f + (edG E i).w = d v ∧ (v ∉ S → (edG E i).f ∈ S) ∧ ∀ l1 l2, S = l1 ++ v :: l2 → (edG E i).f ∈ l2
section
variable {E : List En} {s N m : Nat} {d : Nat → Nat} {b : Nat → Int} {S : List Nat} {W R : Nat → Prop}
theorem dj_init (hs : s < N) : DJ E s N m (d0 s) (fun _ => -1) [] (fun v => v = s) (fun _ => True) := by
 have e : ∀ v, d0 s v ≠ inf ↔ v = s := fun v => by
  unfold d0
  by_cases h : v = s
  ·rw [if_pos h]; simp [h, inf]
  ·rw [if_neg h]; simp [h]
 refine ⟨d0_rx hs (by decide), by simp, by simp, fun v hv => ⟨by rw [hv]; exact hs, by simp⟩, fun v hv => by rw [e]; simp, by simp, by simp, by simp, rfl, fun _ _ _ => rfl, fun v hv hne hd => absurd ((e v).1 hd) hne⟩
theorem dj_take (h : DJ E s N m d b S W (fun _ => True)) {v : Nat} (hv : W v) (hmin : ∀ u, W u → d v ≤ d u) : DJ E s N m d b (v :: S) (fun u => W u ∧ u ≠ v) (fun i => (edG E i).f ≠ v) := by
 obtain ⟨hvN, hvS⟩ := h.wN v hv
 refine ⟨h.rx, List.nodup_cons.2 ⟨hvS, h.nd⟩, fun u hu => ?_, fun u hu => ⟨(h.wN u hu.1).1, fun hm => ?_⟩, fun u hu => ?_, fun u x hu hx => ?_, fun u x S' hS hu => ?_, fun i hi hR hf => ?_, h.bs, h.bn, fun u hu hne hd => ?_⟩
 ·rcases List.mem_cons.1 hu with rfl | hu
  ·exact hvN
  ·exact h.sN u hu
 ·rcases List.mem_cons.1 hm with e | e
  ·exact hu.2 e
  ·exact (h.wN u hu.1).2 e
 ·rw [h.rc u hu, List.mem_cons]
  constructor
  ·rintro (h1 | h1)
   ·exact Or.inl (Or.inr h1)
   ·by_cases e : u = v
    ·exact Or.inl (Or.inl e)
    ·exact Or.inr ⟨h1, e⟩
  ·rintro ((h1 | h1) | h1)
   ·rw [h1]; exact Or.inr hv
   ·exact Or.inl h1
   ·exact Or.inr h1.1
 ·rcases List.mem_cons.1 hu with rfl | hu
  ·exact hmin x hx.1
  ·exact h.mono u x hu hx.1
 ·cases hS
  rcases List.mem_cons.1 hu with rfl | hu
  ·exact Nat.le_refl _
  ·exact h.mono u v hu hv
 ·rcases List.mem_cons.1 hf with e | e
  ·exact absurd e hR
  ·exact h.rel i hi trivial e
 ·obtain ⟨i, h1, h2, h3, h4, h5, h6⟩ := h.be u hu hne hd
  refine ⟨i, h1, h2, h3, h4, fun hn => List.mem_cons.2 (Or.inr (h5 (fun hm => hn (List.mem_cons.2 (Or.inr hm))))), fun l1 l2 hS => ?_⟩
  cases l1 with
  | nil =>
   simp only [List.nil_append, List.cons.injEq] at hS
   rw [← hS.2]
   exact h5 (by rw [← hS.1]; exact hvS)
  | cons y l1 =>
   simp only [List.cons_append, List.cons.injEq] at hS
   exact h6 l1 l2 hS.2
theorem dj_keep {v : Nat} (h : DJ E s N m d b (v :: S) W R) {i : Nat} (hf : (edG E i).f = v) (hn : ¬ d v + (edG E i).w < d (edG E i).t) : DJ E s N m d b (v :: S) W (fun j => R j ∨ j = i) := by
 refine ⟨h.rx, h.nd, h.sN, h.wN, h.rc, h.mono, h.top, fun j hj hR hm => ?_, h.bs, h.bn, h.be⟩
 rcases hR with hR | rfl
 ·exact h.rel j hj hR hm
 ·rw [hf]; omega
theorem dj_set (g : GOk E s N m) {v : Nat} (h : DJ E s N m d b (v :: S) W R) {i : Nat} (hi : i < E.length) (hf : (edG E i).f = v) (hn : d v + (edG E i).w < d (edG E i).t) :
  DJ E s N m (setN d (edG E i).t (d v + (edG E i).w)) (fun u => if u = (edG E i).t then (i : Int) else b u) (v :: S) (fun u => W u ∨ u = (edG E i).t) (fun j => R j ∨ j = i) := by
 have hmem := edG_mem hi
 obtain ⟨hfN, htN, hwm⟩ := g.e _ hmem
 have hvN : v < N := by rw [← hf]; exact hfN
 have hvd : d v ≠ inf := (h.rc v hvN).2 (Or.inl (by simp))
 have hle := h.rx.le (edG E i).t
 have hrel : rel1 d (edG E i) = setN d (edG E i).t (d v + (edG E i).w) := by unfold rel1; rw [hf, if_pos ⟨hvd, hn⟩]
 have hrx := rel1_rx h.rx g.nm g.pos hmem hfN htN hwm
 rw [hrel] at hrx
 have htS : (edG E i).t ∉ v :: S := fun hm => by
  have := h.top _ v S rfl hm
  omega
 have hts : (edG E i).t ≠ s := fun e => by rw [e, h.rx.src] at hn; omega
 have hv0 : ∀ u, u ∈ v :: S → setN d (edG E i).t (d v + (edG E i).w) u = d u := fun u hu => by unfold setN; rw [if_neg (fun e => htS (by rw [← e]; exact hu))]
 have hv1 : ∀ u, setN d (edG E i).t (d v + (edG E i).w) u ≤ d u := fun u => by
  unfold setN
  split
  ·rename_i e; rw [e]; omega
  ·exact Nat.le_refl _
 refine ⟨hrx, h.nd, h.sN, fun u hu => ?_, fun u hu => ?_, fun u x hu hx => ?_, fun u x S' hS hu => ?_, fun j hj hR hm => ?_, ?_, fun u hu hd => ?_, fun u hu hne hd => ?_⟩
 ·rcases hu with hu | rfl
  ·exact h.wN u hu
  ·exact ⟨htN, htS⟩
 ·by_cases e : u = (edG E i).t
  ·have : setN d (edG E i).t (d v + (edG E i).w) u = d v + (edG E i).w := by unfold setN; rw [if_pos e]
   rw [this]
   constructor
   ·intro _; exact Or.inr (Or.inr e)
   ·intro _; omega
  ·have : setN d (edG E i).t (d v + (edG E i).w) u = d u := by unfold setN; rw [if_neg e]
   rw [this, h.rc u hu]
   constructor
   ·rintro (h1 | h1)
    ·exact Or.inl h1
    ·exact Or.inr (Or.inl h1)
   ·rintro (h1 | h1 | h1)
    ·exact Or.inl h1
    ·exact Or.inr h1
    ·exact absurd h1 e
 ·rw [hv0 u hu]
  rcases hx with hx | rfl
  ·by_cases e : x = (edG E i).t
   ·unfold setN; rw [if_pos e]
    have := h.top u v S rfl hu; omega
   ·unfold setN; rw [if_neg e]; exact h.mono u x hu hx
  ·unfold setN; rw [if_pos rfl]
   have := h.top u v S rfl hu; omega
 ·rw [hv0 u hu, hv0 x (by rw [hS]; simp)]
  exact h.top u x S' hS hu
 ·rcases hR with hR | rfl
  ·rw [hv0 _ hm]
   exact Nat.le_trans (hv1 _) (h.rel j hj hR hm)
  ·rw [hv0 _ hm, hf]
   unfold setN; rw [if_pos rfl]; exact Nat.le_refl _
 ·show (if s = (edG E i).t then (i : Int) else b s) = -1
  rw [if_neg (fun e => hts e.symm)]; exact h.bs
 ·have e : u ≠ (edG E i).t := fun e => by
   unfold setN at hd; rw [if_pos e] at hd; omega
  show (if u = (edG E i).t then (i : Int) else b u) = -1
  rw [if_neg e]
  unfold setN at hd
  rw [if_neg e] at hd
  exact h.bn u hu hd
 ·by_cases e : u = (edG E i).t
  ·refine ⟨i, by show (if u = (edG E i).t then (i : Int) else b u) = i; rw [if_pos e], hi, e.symm, ?_, fun _ => by rw [hf]; simp, fun l1 l2 hS => absurd (by rw [hS, e]; simp) htS⟩
   rw [hf, hv0 v (by simp)]
   unfold setN; rw [if_pos e]
  ·have hdu : setN d (edG E i).t (d v + (edG E i).w) u = d u := by unfold setN; rw [if_neg e]
   rw [hdu] at hd ⊢
   obtain ⟨j, h1, h2, h3, h4, h5, h6⟩ := h.be u hu hne hd
   have hjS : (edG E j).f ∈ v :: S := by
    by_cases hm : u ∈ v :: S
    ·obtain ⟨l1, l2, hl⟩ := List.append_of_mem hm
     rw [hl]
     have := h6 l1 l2 hl
     simp [this]
    ·exact h5 hm
   refine ⟨j, by show (if u = (edG E i).t then (i : Int) else b u) = j; rw [if_neg e]; exact h1, h2, h3, ?_, h5, h6⟩
   rw [hv0 _ hjS]; exact h4
theorem dj_round {v : Nat} (h : DJ E s N m d b (v :: S) W R) (hR : ∀ i, i < E.length → R i) : DJ E s N m d b (v :: S) W (fun _ => True) :=
 ⟨h.rx, h.nd, h.sN, h.wN, h.rc, h.mono, h.top, fun i hi _ hm => h.rel i hi (hR i hi) hm, h.bs, h.bn, h.be⟩
theorem dj_end (hs : s < N) (g : GOk E s N m) (h : DJ E s N m d b S W (fun _ => True)) (hW : ∀ v, ¬ W v) : ProvP E N s d b := by
 have hrc : ∀ v, v < N → (d v ≠ inf ↔ v ∈ S) := fun v hv => by
  rw [h.rc v hv]
  exact ⟨fun e => e.elim id (fun e => (hW v e).elim), Or.inl⟩
 have hbe : ∀ v, v < N → v ≠ s → d v ≠ inf → ∃ i : Nat, b v = i ∧ i < E.length ∧ (edG E i).t = v ∧ d (edG E i).f + (edG E i).w = d v ∧ (edG E i).f ∈ S ∧ ∀ l1 l2, S = l1 ++ v :: l2 → (edG E i).f ∈ l2 := fun v hv hne hd => by
  obtain ⟨i, h1, h2, h3, h4, _, h6⟩ := h.be v hv hne hd
  refine ⟨i, h1, h2, h3, h4, ?_, h6⟩
  obtain ⟨l1, l2, hl⟩ := List.append_of_mem ((hrc v hv).1 hd)
  have := h6 l1 l2 hl
  rw [hl]; simp [this]
 have hed : ∀ i : Nat, edN E (i : Int) = edG E i := fun i => by unfold edN edG; rw [show ((i : Nat) : Int).toNat = i by omega]
 have hbn : ∀ v, v < N → b v ≠ -1 → v ≠ s ∧ d v ≠ inf := fun v hv hb => ⟨fun e => hb (by rw [e]; exact h.bs), fun e => hb (h.bn v hv e)⟩
 have hpar : ∀ v i, b v = ((i : Nat) : Int) → parN E b v = (edG E i).f := fun v i hb => by rw [parN_of (by omega), hb, hed]
 refine ⟨h.rx.src, h.bs, fun e he hd => ?_, fun v hv => ⟨⟨fun ⟨h1, h2⟩ => ?_, hbn v hv⟩, fun ⟨h1, h2⟩ => ?_⟩, ?_⟩
 ·obtain ⟨i, hi, rfl⟩ := List.mem_iff_getElem.1 he
  have hg : edG E i = E[i] := by unfold edG; rw [List.getD_eq_getElem?_getD, List.getElem?_eq_getElem hi]; rfl
  have := h.rel i hi trivial (by rw [hg]; exact (hrc _ (g.e _ he).1).1 hd)
  rwa [hg] at this
 ·obtain ⟨i, hb, _⟩ := hbe v hv h1 h2
  rw [hb]; omega
 ·obtain ⟨i, hb, hi, ht, hsum, hfS, _⟩ := hbe v hv h1 h2
  rw [stepOk_iff, hpar v i hb, hb, hed]
  exact ⟨by omega, by omega, ht, (hrc _ (h.sN _ hfS)).2 hfS, hsum⟩
 ·-- the way back, by the places in S
  have key : ∀ (n : Nat) (l1 l2 : List Nat) (v : Nat), l2.length ≤ n → S = l1 ++ v :: l2 → ∃ k, iterP E b k v = s := by
   intro n
   induction n with
   | zero =>
    intro l1 l2 v hl hS
    by_cases e : v = s
    ·exact ⟨0, e⟩
    ·have hvS : v ∈ S := by rw [hS]; simp
     obtain ⟨i, hb, hi, ht, hsum, hfS, h6⟩ := hbe v (h.sN v hvS) e ((hrc v (h.sN v hvS)).2 hvS)
     have := h6 l1 l2 hS
     have hl0 : l2 = [] := List.eq_nil_of_length_eq_zero (by omega)
     rw [hl0] at this; cases this
   | succ n ih =>
    intro l1 l2 v hl hS
    by_cases e : v = s
    ·exact ⟨0, e⟩
    ·have hvS : v ∈ S := by rw [hS]; simp
     obtain ⟨i, hb, hi, ht, hsum, hfS, h6⟩ := hbe v (h.sN v hvS) e ((hrc v (h.sN v hvS)).2 hvS)
     obtain ⟨m1, m2, hm⟩ := List.append_of_mem (h6 l1 l2 hS)
     have hlen : m2.length ≤ n := by rw [hm] at hl; simp at hl; omega
     obtain ⟨k, hk⟩ := ih (l1 ++ v :: m1) m2 (edG E i).f hlen (by rw [hS, hm]; simp)
     exact ⟨k + 1, by show iterP E b k (parN E b v) = s; rw [hpar v i hb]; exact hk⟩
  intro v hv hb
  obtain ⟨h1, h2⟩ := hbn v hv hb
  obtain ⟨l1, l2, hl⟩ := List.append_of_mem ((hrc v hv).1 h2)
  exact key l2.length l1 l2 v (Nat.le_refl _) hl
end
end Go.Proofs.YtklibcncmbofpaaGreat
