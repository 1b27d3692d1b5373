/-
  Lemmas for PathWays: Base, PrP, PrP2. Conditions: those of each lemma.
-/
import Derived.WalkKit
import Derived.WalkSpells
import Derived.WalkLawsBesides
import Derived.BigQuiet
import Derived.Deep.RegionHeld3
import Derived.ProofKit
import Derived.OpenShut
import Derived.Lib.Hide
set_option linter.unusedVariables false
set_option linter.unusedSimpArgs false
namespace Go.Proofs.YtklibcncmbofpaaGreat
open Go.RowKit
theorem ret_int {k : IntKind} {a b : Int} (h : a = b) : Ending.returned (.int k a) = .returned (.int k b) := by rw [h]
theorem ret_bool {a b : Bool} (h : a = b) : Ending.returned (.bool a) = .returned (.bool b) := by rw [h]
structure Upd (S : List Nat) (w w' : World) : Prop where
 os : w'.os = w.os
 tape : w'.tape = w.tape
 output : w'.output = w.output
 size : w.heap.size ≤ w'.heap.size
 block : ∀ k, k < w.heap.size → k ∉ S → w'.heap[k]? = w.heap[k]?
theorem Upd.refl (S : List Nat) (w : World) : Upd S w w := ⟨rfl, rfl, rfl, Nat.le_refl _, fun _ _ _ => rfl⟩
theorem Upd.joined {S T : List Nat} {a b c : World} (h : Upd S a b) (k : Upd T b c) (hT : ∀ x, x ∈ T → x ∈ S ∨ a.heap.size ≤ x) : Upd S a c :=
  ⟨k.os.trans h.os, k.tape.trans h.tape, k.output.trans h.output, Nat.le_trans h.size k.size,
   fun i hi hs => (k.block i (Nat.lt_of_lt_of_le hi h.size) (fun hm => by rcases hT i hm with h1 | h1; exact hs h1; omega)).trans (h.block i hi hs)⟩
theorem Upd.trans {S : List Nat} {a b c : World} (h : Upd S a b) (k : Upd S b c) : Upd S a c := h.joined k (fun _ hx => Or.inl hx)
theorem Upd.then {S : List Nat} {a b c : World} (h : Upd S a b) (k : Upd [] b c) : Upd S a c := h.joined k (fun _ hx => by cases hx)
theorem Upd.mono {S T : List Nat} {a b : World} (h : Upd S a b) (hs : ∀ x, x ∈ S → x ∈ T) : Upd T a b :=
 ⟨h.os, h.tape, h.output, h.size, fun k hk hn => h.block k hk (fun hm => hn (hs k hm))⟩
theorem Upd.drew {S : List Nat} {a w : World} (h : Upd S a w) : Upd S a w.drew := ⟨h.os, h.tape, h.output, h.size, h.block⟩
theorem Upd.drewN {S : List Nat} {a w : World} (h : Upd S a w) (n : Nat) : Upd S a (w.drewN n) := ⟨h.os, h.tape, h.output, h.size, h.block⟩
theorem Upd.alloc {S : List Nat} {a w : World} (h : Upd S a w) (o : Obj) : Upd S a (w.alloc o) :=
 h.joined (T := []) ⟨rfl, rfl, rfl, by simp, fun k hk _ => Below.heap_alloc _ _ _ hk⟩ (fun _ hx => by cases hx)
theorem Upd.setCell {S : List Nat} {a w : World} (h : Upd S a w) {p : Addr} (hp : p.block ∈ S ∨ a.heap.size ≤ p.block) (u : Value) : Upd S a (w.setCell p u) :=
 h.joined (T := [p.block]) ⟨rfl, rfl, rfl, by simp [World.setCell], fun k hk hn => Below.heap_setCell _ _ _ _ (by simpa using hn)⟩ (fun x hx => by simp at hx; rw [hx]; exact hp)
theorem Upd.grown {S : List Nat} {a w w' : World} {row : Option Nat} (h : Upd S a w) (hg : w.grownBy w' row) (hr : ∀ k, row = some k → k ∈ S ∨ a.heap.size ≤ k) : Upd S a w' :=
 h.joined (T := row.toList) ⟨hg.os, hg.tape, hg.output, hg.size, fun k hk hn => hg.block k hk (fun e => hn (by rw [← e]; simp))⟩ (fun x hx => hr x (by simpa using hx))
theorem Upd.cell {S : List Nat} {w w' : World} (h : Upd S w w') {p : Addr} (hp : p.block < w.heap.size) (hn : p.block ∉ S) : w'.cell? p = w.cell? p := World.cell?_of_block (w := w) (h.block p.block hp hn)
theorem Upd.frozen {S : List Nat} {w w' : World} (h : Upd S w w') {p : Addr} (hp : p.block < w.heap.size) (hn : p.block ∉ S) : w'.frozen? p = w.frozen? p := World.frozen?_of_block (w := w) (h.block p.block hp hn)
theorem Upd.below {w w' : World} (h : Upd [] w w') : Below w.heap.size w w' := ⟨h.os, h.tape, h.output, h.size, fun k hk => h.block k hk (by simp)⟩
theorem Upd.was {w w' : World} (h : Upd [] w w') {p : Addr} {v : Value} (hv : w.cell? p = some v) : w'.cell? p = some v := by
 rw [h.cell (World.block_lt_of_cell? w p hv) (by simp)]; exact hv
theorem Upd.kept {S : List Nat} {w w' : World} (h : Upd S w w') {p : Addr} {v : Value} (hv : w.cell? p = some v) (hn : p.block ∉ S) : w'.cell? p = some v := by
 rw [h.cell (World.block_lt_of_cell? w p hv) hn]; exact hv
theorem Upd.keptF {S : List Nat} {w w' : World} (h : Upd S w w') {p : Addr} {v : Value} (hv : w.cell? p = some v) (hn : p.block ∉ S) (hf : w.frozen? p = false) : w'.frozen? p = false := by
 rw [h.frozen (World.block_lt_of_cell? w p hv) hn]; exact hf
end Go.Proofs.YtklibcncmbofpaaGreat
namespace Go.Proofs.YtklibcncmbofpaaGreat
structure En where
 f : Nat
 t : Nat
 w : Nat
def inf : Nat := 9223372036854775807
def setN (d : Nat → Nat) (x v : Nat) : Nat → Nat := fun y => if y = x then v else d y
def rel1 (d : Nat → Nat) (e : En) : Nat → Nat := if d e.f ≠ inf ∧ d e.f + e.w < d e.t then setN d e.t (d e.f + e.w) else d
def pass (E : List En) (d : Nat → Nat) : Nat → Nat := E.foldl rel1 d
def d0 (s : Nat) : Nat → Nat := fun v => if v = s then 0 else inf
def passes (E : List En) (s : Nat) : Nat → (Nat → Nat)
 | 0 => d0 s
 | k + 1 => pass E (passes E s k)
def cntF (d : Nat → Nat) (n : Nat) : Nat := ((List.range n).filter (fun v => decide (d v ≠ inf))).length
theorem cntF_succ (d : Nat → Nat) (n : Nat) : cntF d (n + 1) = cntF d n + if d n ≠ inf then 1 else 0 := by
 unfold cntF
 rw [List.range_succ, List.filter_append, List.length_append]
 by_cases h : d n = inf
 ·rw [List.filter_cons_of_neg (by simpa using h), if_neg (by simpa using h)]; simp
 ·rw [List.filter_cons_of_pos (by simpa using h), if_pos h]; simp
theorem cntF_le (d : Nat → Nat) (n : Nat) : cntF d n ≤ n := by
 induction n with
 | zero => simp [cntF]
 | succ n ih => rw [cntF_succ]; split <;> omega
theorem cntF_eq {d d' : Nat → Nat} {n : Nat} (h : ∀ v, v < n → (d v = inf ↔ d' v = inf)) : cntF d n = cntF d' n := by
 induction n with
 | zero => rfl
 | succ n ih =>
  rw [cntF_succ, cntF_succ, ih (fun v hv => h v (by omega))]
  have := h n (by omega)
  by_cases e : d n = inf
  ·rw [if_neg (by simpa using e), if_neg (by simpa using this.1 e)]
  ·rw [if_pos e, if_pos (fun e2 => e (this.2 e2))]
theorem cntF_set {d : Nat → Nat} {n x v : Nat} (hx : x < n) (h1 : d x = inf) (h2 : v ≠ inf) : cntF (setN d x v) n = cntF d n + 1 := by
 induction n with
 | zero => omega
 | succ n ih =>
  rw [cntF_succ, cntF_succ]
  by_cases e : x = n
  ·subst e
   have : cntF (setN d x v) x = cntF d x := cntF_eq (fun y hy => by unfold setN; rw [if_neg (by omega)])
   rw [this, if_pos (by unfold setN; rw [if_pos rfl]; exact h2), if_neg (by simpa using h1)]
  ·rw [ih (by omega)]
   have : setN d x v n = d n := by unfold setN; rw [if_neg (by omega)]
   rw [this]
   split <;> omega
inductive WayN (E : List En) (s : Nat) : Nat → Nat → Prop
 | here : WayN E s s 0
 | on {u x : Nat} (e : En) : e ∈ E → WayN E s u x → e.f = u → WayN E s e.t (x + e.w)
structure Rx (E : List En) (s N m : Nat) (d : Nat → Nat) : Prop where
 src : d s = 0
 le : ∀ v, d v ≤ inf
 bd : ∀ v, v < N → d v ≠ inf → d v + m ≤ cntF d N * m
 way : ∀ v, d v ≠ inf → WayN E s v (d v)
section
variable {E : List En} {s N m : Nat} {d : Nat → Nat}
theorem Rx.sum (h : Rx E s N m d) (hm : N * m ≤ inf) {e : En} (hf : e.f < N) (hw : e.w ≤ m) (hd : d e.f ≠ inf) : d e.f + e.w ≤ inf := by
 have h1 := h.bd e.f hf hd
 have h2 : cntF d N * m ≤ N * m := Nat.mul_le_mul_right m (cntF_le _ _)
 omega
theorem d0_rx (hs : s < N) (hm : 0 < inf) : Rx E s N m (d0 s) := by
 have h1 : cntF (d0 s) N = 1 := by
  have e : d0 s = setN (fun _ => inf) s 0 := rfl
  rw [e, cntF_set hs rfl (by unfold inf; omega)]
  have : ∀ n, cntF (fun _ => inf) n = 0 := fun n => by
   induction n with
   | zero => rfl
   | succ n ih => rw [cntF_succ, ih]; simp
  rw [this]
 refine ⟨by simp [d0], fun v => ?_, fun v hv hd => ?_, fun v hd => ?_⟩
 ·unfold d0; split <;> omega
 ·have : v = s := by
   by_cases e : v = s
   ·exact e
   ·exact absurd (by unfold d0; rw [if_neg e]) hd
  subst this
  rw [h1]; simp [d0]
 ·have : v = s := by
   by_cases e : v = s
   ·exact e
   ·exact absurd (by unfold d0; rw [if_neg e]) hd
  subst this
  have : d0 v v = 0 := by simp [d0]
  rw [this]; exact .here
theorem rel1_le (d : Nat → Nat) (e : En) (v : Nat) : rel1 d e v ≤ d v := by
 unfold rel1
 split
 ·rename_i h
  unfold setN
  split
  ·rename_i e2; subst e2; omega
  ·exact Nat.le_refl _
 ·exact Nat.le_refl _
theorem rel1_rx (h : Rx E s N m d) (hm : N * m ≤ inf) (hm0 : 0 < m) {e : En} (he : e ∈ E) (hf : e.f < N) (ht : e.t < N) (hw : e.w ≤ m) : Rx E s N m (rel1 d e) := by
 have hle := rel1_le d e
 unfold rel1 at hle ⊢
 split
 ·rename_i hc
  rw [if_pos hc] at hle
  have hlt : d e.f + e.w < inf := by have := h.le e.t; omega
  have hcn : cntF d N ≤ cntF (setN d e.t (d e.f + e.w)) N := by
   by_cases hi : d e.t = inf
   ·rw [cntF_set ht hi (by omega)]; omega
   ·rw [cntF_eq (d := setN d e.t (d e.f + e.w)) (d' := d) (fun v hv => by
     unfold setN
     split
     ·rename_i ev; subst ev; constructor
      ·intro; omega
      ·intro h2; exact absurd h2 hi
     ·exact Iff.rfl)]
    exact Nat.le_refl _
  refine ⟨?_, fun v => ?_, fun v hv hd => ?_, fun v hd => ?_⟩
  ·have := hle s; rw [h.src] at this; omega
  ·have := hle v; have := h.le v; omega
  ·by_cases ev : v = e.t
   ·have e1 : setN d e.t (d e.f + e.w) v = d e.f + e.w := by unfold setN; rw [if_pos ev]
    rw [e1]
    by_cases hi : d e.t = inf
    ·rw [cntF_set ht hi (by omega), Nat.succ_mul]
     have := h.bd e.f hf hc.1
     omega
    ·have h1 := h.bd e.t ht hi
     have h2 := Nat.mul_le_mul_right m hcn
     omega
   ·have e1 : setN d e.t (d e.f + e.w) v = d v := by unfold setN; rw [if_neg ev]
    rw [e1] at hd ⊢
    have h1 := h.bd v hv hd
    have h2 := Nat.mul_le_mul_right m hcn
    omega
  ·by_cases ev : v = e.t
   ·have e1 : setN d e.t (d e.f + e.w) v = d e.f + e.w := by unfold setN; rw [if_pos ev]
    rw [e1, ev]
    exact .on e he (h.way _ hc.1) rfl
   ·have e1 : setN d e.t (d e.f + e.w) v = d v := by unfold setN; rw [if_neg ev]
    rw [e1] at hd ⊢
    exact h.way v hd
 ·exact h
end
end Go.Proofs.YtklibcncmbofpaaGreat
namespace Go.Proofs.YtklibcncmbofpaaGreat
structure GOk (E : List En) (s N m : Nat) : Prop where
 src : s < N
 pos : 0 < m
 nm : N * m ≤ inf
 e : ∀ e, e ∈ E → e.f < N ∧ e.t < N ∧ e.w ≤ m
def Feas (E : List En) (d : Nat → Nat) : Prop := ∀ e, e ∈ E → d e.f ≠ inf → d e.t ≤ d e.f + e.w
def sumN (d : Nat → Nat) (n : Nat) : Nat := ((List.range n).map d).sum
theorem sumN_succ (d : Nat → Nat) (n : Nat) : sumN d (n + 1) = sumN d n + d n := by
 unfold sumN; rw [List.range_succ, List.map_append, List.sum_append]; simp
theorem sumN_le {d d' : Nat → Nat} (h : ∀ v, d' v ≤ d v) (n : Nat) : sumN d' n ≤ sumN d n := by
 induction n with
 | zero => exact Nat.le_refl _
 | succ n ih => rw [sumN_succ, sumN_succ]; have := h n; omega
theorem sumN_lt {d d' : Nat → Nat} (h : ∀ v, d' v ≤ d v) {n x : Nat} (hx : x < n) (hl : d' x < d x) : sumN d' n < sumN d n := by
 induction n with
 | zero => omega
 | succ n ih =>
  rw [sumN_succ, sumN_succ]
  by_cases e : x = n
  ·subst e; have := sumN_le h x; omega
  ·have := ih (by omega); have := h n; omega
section
variable {E : List En} {s N m : Nat} {d L : Nat → Nat}
theorem fold_le (l : List En) (d : Nat → Nat) (v : Nat) : l.foldl rel1 d v ≤ d v := by
 induction l generalizing d with
 | nil => exact Nat.le_refl _
 | cons e l ih => exact Nat.le_trans (ih _) (rel1_le d e v)
theorem fold_rx (g : GOk E s N m) (l : List En) (hl : ∀ e, e ∈ l → e ∈ E) (h : Rx E s N m d) : Rx E s N m (l.foldl rel1 d) := by
 induction l generalizing d with
 | nil => exact h
 | cons e l ih =>
  have he := hl e (by simp)
  obtain ⟨a, b, c⟩ := g.e e he
  exact ih (fun x hx => hl x (by simp [hx])) (rel1_rx h g.nm g.pos he a b c)
theorem passes_rx (g : GOk E s N m) (k : Nat) : Rx E s N m (passes E s k) := by
 induction k with
 | zero => exact d0_rx g.src (by unfold inf; omega)
 | succ k ih => exact fold_rx g E (fun _ h => h) ih
theorem passes_le (E : List En) (s k v : Nat) : passes E s (k + 1) v ≤ passes E s k v := fold_le E _ v
theorem rel1_ne {d : Nat → Nat} {e : En} (h : rel1 d e ≠ d) : rel1 d e e.t < d e.t := by
 unfold rel1 at h ⊢
 split
 ·rename_i hc; unfold setN; rw [if_pos rfl]; exact hc.2
 ·rename_i hc; rw [if_neg hc] at h; exact absurd rfl h
theorem fold_fix (l : List En) (hl : ∀ e, e ∈ l → e.t < N) (d : Nat → Nat) (h : ¬ sumN (l.foldl rel1 d) N < sumN d N) : ∀ e, e ∈ l → rel1 d e = d := by
 induction l generalizing d with
 | nil => intro e he; cases he
 | cons a l ih =>
  simp only [List.foldl_cons] at h
  have h1 := sumN_le (fold_le l (rel1 d a)) N
  have ha : rel1 d a = d := Classical.byContradiction fun hn => by
   have := sumN_lt (rel1_le d a) (hl a (by simp)) (rel1_ne hn)
   omega
  rw [ha] at h
  intro e he
  rcases List.mem_cons.1 he with rfl | he
  ·exact ha
  ·exact ih (fun x hx => hl x (by simp [hx])) d h e he
theorem fix_ex (g : GOk E s N m) : ∃ K, ∀ e, e ∈ E → rel1 (passes E s K) e = passes E s K := by
 have key : ∀ b k, sumN (passes E s k) N ≤ b → ∃ K, ∀ e, e ∈ E → rel1 (passes E s K) e = passes E s K := by
  intro b
  induction b with
  | zero =>
   intro k hk
   exact ⟨k, fold_fix E (fun e he => (g.e e he).2.1) _ (by omega)⟩
  | succ b ih =>
   intro k hk
   by_cases h : sumN (E.foldl rel1 (passes E s k)) N < sumN (passes E s k) N
   ·exact ih (k + 1) (by show sumN (E.foldl rel1 (passes E s k)) N ≤ b; omega)
   ·exact ⟨k, fold_fix E (fun e he => (g.e e he).2.1) _ h⟩
 exact key _ 0 (Nat.le_refl _)
theorem fix_feas {d : Nat → Nat} (h : ∀ e, e ∈ E → rel1 d e = d) : Feas E d := by
 intro e he hf
 have h1 := h e he
 apply Nat.le_of_not_lt
 intro hlt
 have h2 : rel1 d e e.t = d e.f + e.w := by unfold rel1; rw [if_pos ⟨hf, hlt⟩]; unfold setN; rw [if_pos rfl]
 rw [h1] at h2
 omega
theorem below1 (hF : Feas E L) (hi : ∀ v, d v ≤ inf) {e : En} (he : e ∈ E) (h : ∀ v, L v ≤ d v) (v : Nat) : L v ≤ rel1 d e v := by
 unfold rel1
 split
 ·rename_i hc
  unfold setN
  split
  ·rename_i ev
   have h1 := h e.f
   have h3 := hi e.f
   have h2 := hF e he (by omega)
   rw [ev]; omega
  ·exact h v
 ·exact h v
theorem belowF (hF : Feas E L) (l : List En) (hl : ∀ e, e ∈ l → e ∈ E) (hi : ∀ v, d v ≤ inf) (h : ∀ v, L v ≤ d v) : ∀ v, L v ≤ l.foldl rel1 d v := by
 induction l generalizing d with
 | nil => exact h
 | cons e l ih => exact ih (fun x hx => hl x (by simp [hx])) (fun v => Nat.le_trans (rel1_le d e v) (hi v)) (below1 hF hi (hl e (by simp)) h)
theorem below_passes (g : GOk E s N m) (hF : Feas E L) (h0 : L s = 0) (hi : ∀ v, L v ≤ inf) (k : Nat) : ∀ v, L v ≤ passes E s k v := by
 induction k with
 | zero => intro v; show L v ≤ d0 s v; unfold d0; split; (rename_i e; subst e; omega); exact hi v
 | succ k ih => exact belowF hF E (fun _ h => h) (passes_rx g k).le ih
theorem edge_in (hF : Feas E L) (U : Nat → Prop) (l : List En) (hl : ∀ e, e ∈ l → e ∈ E) (hi : ∀ v, d v ≤ inf) (h : ∀ v, L v ≤ d v) (hU : ∀ v, U v → L v < d v) (hx : ∃ v, U v ∧ l.foldl rel1 d v = L v) :
  ∃ e, e ∈ E ∧ ¬ U e.f ∧ U e.t ∧ L e.f + e.w = L e.t ∧ L e.f ≠ inf := by
 induction l generalizing d with
 | nil => obtain ⟨v, h1, h2⟩ := hx; have := hU v h1; simp only [List.foldl_nil] at h2; omega
 | cons e l ih =>
  have he := hl e (by simp)
  by_cases hu : ∀ v, U v → L v < rel1 d e v
  ·exact ih (fun x hx => hl x (by simp [hx])) (fun v => Nat.le_trans (rel1_le d e v) (hi v)) (below1 hF hi he h) hu hx
  ·obtain ⟨v, hv⟩ := Classical.not_forall.1 hu
   obtain ⟨h1, h2⟩ := Classical.not_imp.1 hv
   have h3 := below1 hF hi he h v
   have h4 := hU v h1
   have h5 : rel1 d e v = L v := by omega
   have hc : (d e.f ≠ inf ∧ d e.f + e.w < d e.t) ∧ v = e.t := by
    unfold rel1 at h5
    split at h5
    ·rename_i hc
     refine ⟨hc, Classical.byContradiction fun hn => ?_⟩
     unfold setN at h5
     rw [if_neg hn] at h5
     omega
    ·omega
   obtain ⟨hc, rfl⟩ := hc
   have h6 : rel1 d e e.t = d e.f + e.w := by unfold rel1; rw [if_pos hc]; unfold setN; rw [if_pos rfl]
   have h7 := h e.f
   have h8 := hi e.f
   have h9 := hF e he (by omega)
   have h10 : L e.f = d e.f := by omega
   exact ⟨e, he, fun hn => by have := hU _ hn; omega, h1, by omega, by omega⟩
theorem edge_passes (g : GOk E s N m) (hF : Feas E L) (h0 : L s = 0) (hi : ∀ v, L v ≤ inf) (U : Nat → Prop) (k j : Nat) (hU : ∀ v, U v → L v < passes E s k v) (hx : ∃ v, U v ∧ passes E s (k + j) v = L v) :
  ∃ e, e ∈ E ∧ ¬ U e.f ∧ U e.t ∧ L e.f + e.w = L e.t ∧ L e.f ≠ inf := by
 induction j with
 | zero => obtain ⟨v, h1, h2⟩ := hx; have := hU v h1; simp only [Nat.add_zero] at h2; omega
 | succ j ih =>
  by_cases hj : ∃ v, U v ∧ passes E s (k + j) v = L v
  ·exact ih hj
  ·have hb := below_passes g hF h0 hi (k + j)
   exact edge_in hF U E (fun _ h => h) (passes_rx g (k + j)).le hb (fun v hv => by
    have h1 := hb v
    have h2 : passes E s (k + j) v ≠ L v := fun h => hj ⟨v, hv, h⟩
    omega) hx
theorem edge_sets (hF : Feas E L) (hi : ∀ v, d v ≤ inf) (h : ∀ v, L v ≤ d v) {e : En} (he : e ∈ E) (h1 : d e.f = L e.f) (h2 : L e.f + e.w = L e.t) (h3 : L e.f ≠ inf) : pass E d e.t = L e.t := by
 obtain ⟨l1, l2, hE⟩ := List.append_of_mem he
 have hall := belowF hF E (fun _ h => h) hi h e.t
 have hl1 : ∀ x, x ∈ l1 → x ∈ E := fun x hx => by rw [hE]; simp [hx]
 have ha := belowF hF l1 hl1 hi h e.f
 have hb := fold_le l1 d e.f
 have hup : pass E d e.t ≤ L e.t := by
  unfold pass
  conv => lhs; rw [hE]
  rw [List.foldl_append, List.foldl_cons]
  refine Nat.le_trans (fold_le l2 _ _) ?_
  generalize l1.foldl rel1 d = d1 at *
  have hd : d1 e.f = L e.f := by omega
  unfold rel1
  split
  ·unfold setN; rw [if_pos rfl, hd]; omega
  ·rename_i hc
   have : ¬ (d1 e.f + e.w < d1 e.t) := fun hlt => hc ⟨by rw [hd]; exact h3, hlt⟩
   omega
 unfold pass at hup ⊢
 omega
def cntS (P : Nat → Prop) [DecidablePred P] (n : Nat) : Nat := ((List.range n).filter (fun v => decide (P v))).length
theorem cntS_succ (P : Nat → Prop) [DecidablePred P] (n : Nat) : cntS P (n + 1) = cntS P n + if P n then 1 else 0 := by
 unfold cntS
 rw [List.range_succ, List.filter_append, List.length_append]
 by_cases h : P n
 ·rw [List.filter_cons_of_pos (by simpa using h), if_pos h]; simp
 ·rw [List.filter_cons_of_neg (by simpa using h), if_neg h]; simp
theorem cntS_le (P : Nat → Prop) [DecidablePred P] (n : Nat) : cntS P n ≤ n := by
 induction n with
 | zero => simp [cntS]
 | succ n ih => rw [cntS_succ]; split <;> omega
theorem cntS_mono {P Q : Nat → Prop} [DecidablePred P] [DecidablePred Q] (h : ∀ v, P v → Q v) (n : Nat) : cntS P n ≤ cntS Q n := by
 induction n with
 | zero => exact Nat.le_refl _
 | succ n ih =>
  rw [cntS_succ, cntS_succ]
  by_cases e : P n
  ·rw [if_pos e, if_pos (h n e)]; omega
  ·rw [if_neg e]; omega
theorem cntS_lt {P Q : Nat → Prop} [DecidablePred P] [DecidablePred Q] (h : ∀ v, P v → Q v) {n x : Nat} (hx : x < n) (h1 : ¬ P x) (h2 : Q x) : cntS P n < cntS Q n := by
 induction n with
 | zero => omega
 | succ n ih =>
  rw [cntS_succ, cntS_succ]
  by_cases e : x = n
  ·subst e
   have := cntS_mono h x
   rw [if_neg h1, if_pos h2]; omega
  ·have := ih (by omega)
   by_cases e2 : P n
   ·rw [if_pos e2, if_pos (h n e2)]; omega
   ·rw [if_neg e2]; omega
theorem cntS_pos {P : Nat → Prop} [DecidablePred P] {n x : Nat} (hx : x < n) (h : P x) : 0 < cntS P n := by
 induction n with
 | zero => omega
 | succ n ih =>
  rw [cntS_succ]
  by_cases e : x = n
  ·subst e; rw [if_pos h]; omega
  ·have := ih (by omega); omega
theorem bf_enough (g : GOk E s N m) : Feas E (passes E s N) := by
 obtain ⟨K, hK⟩ := fix_ex g
 have hF := fix_feas hK
 have hr := passes_rx g K
 have hb := fun k => below_passes g hF hr.src hr.le k
 have key : ∀ k, (∀ v, v < N → passes E s k v = passes E s K v) ∨ k < cntS (fun v => passes E s k v = passes E s K v) N := by
  intro k
  induction k with
  | zero => exact Or.inr (cntS_pos g.src (by rw [hr.src]; show d0 s s = 0; simp [d0]))
  | succ k ih =>
   by_cases hall : ∀ v, v < N → passes E s k v = passes E s K v
   ·left
    intro v hv
    have h1 := passes_le E s k v
    have h2 := hb (k + 1) v
    rw [hall v hv] at h1
    omega
   ·have ih := ih.resolve_left hall
    right
    obtain ⟨v, hv⟩ := Classical.not_forall.1 hall
    obtain ⟨hv1, hv2⟩ := Classical.not_imp.1 hv
    have hkK : k ≤ K := Classical.byContradiction fun hn => by
     have hmono : ∀ j, passes E s (K + j) v ≤ passes E s K v := fun j => by
      induction j with
      | zero => exact Nat.le_refl _
      | succ j ih2 => exact Nat.le_trans (passes_le E s (K + j) v) ih2
     have h1 := hmono (k - K)
     rw [show K + (k - K) = k by omega] at h1
     have h2 := hb k v
     omega
    obtain ⟨e, he, h1, h2, h3, h4⟩ := edge_passes g hF hr.src hr.le (fun v => v < N ∧ passes E s k v ≠ passes E s K v) k (K - k) (fun v hv => by
     have := hb k v
     have := hv.2
     omega) ⟨v, ⟨hv1, hv2⟩, by rw [show k + (K - k) = K by omega]⟩
    have hef : passes E s k e.f = passes E s K e.f := Classical.byContradiction fun hn => h1 ⟨(g.e e he).1, hn⟩
    have hset := edge_sets hF (passes_rx g k).le (hb k) he hef h3 h4
    have := cntS_lt (P := fun v => passes E s k v = passes E s K v) (Q := fun v => passes E s (k + 1) v = passes E s K v) (fun v hv => by
     have h1 := passes_le E s k v
     have h2 := hb (k + 1) v
     rw [hv] at h1
     omega) h2.1 h2.2 hset
    omega
 have hN : ∀ v, v < N → passes E s N v = passes E s K v := by
  rcases key N with h | h
  ·exact h
  ·have := cntS_le (fun v => passes E s N v = passes E s K v) N
   omega
 intro e he hf
 obtain ⟨a, b, _⟩ := g.e e he
 rw [hN _ a] at hf ⊢
 rw [hN _ b]
 exact hF e he hf
theorem feas_way (hF : Feas E L) (h0 : L s = 0) (hi : ∀ v, L v ≤ inf) {v x : Nat} (h : WayN E s v x) (hx : x < inf) : L v ≤ x := by
 induction h with
 | here => omega
 | on e he _ hf ih =>
  subst hf
  have h1 := ih (by omega)
  have h2 := hF e he (by omega)
  omega
end
end Go.Proofs.YtklibcncmbofpaaGreat
