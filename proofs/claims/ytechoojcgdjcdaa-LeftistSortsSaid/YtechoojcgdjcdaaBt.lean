/-
  Binary trees, and how a memory of links holds them. No program in sight. Conditions: none.
-/
import Derived.Test.YtechoojcgdjcdaaNs
import Derived.Test.YtechoojcgdjcdaaSpine2
set_option linter.unusedVariables false
set_option linter.unusedSimpArgs false
namespace Go.Proofs.Ytechoojcgdjcdaa

inductive BT where
  | nil : BT
  | node : Nat → BT → BT → BT
def BT.root : BT → Int | .nil => -1 | .node x _ _ => x
def BT.nodes : BT → List Nat | .nil => [] | .node x l r => x :: (l.nodes ++ r.nodes)
def BT.size : BT → Nat | .nil => 0 | .node _ l r => l.size + r.size + 1
theorem BT.size_nodes : ∀ t : BT, t.nodes.length = t.size
  | .nil => rfl
  | .node x l r => by simp [BT.nodes, BT.size, BT.size_nodes l, BT.size_nodes r]
/-- The links hold this tree, below p. -/
def IsT (S : TS) : Int → Int → BT → Prop
  | _, z, .nil => z = -1
  | p, z, .node x l r => z = x ∧ S.u x = p ∧ IsT S x (S.l x) l ∧ IsT S x (S.r x) r
theorem IsT.root {S : TS} : ∀ {t : BT} {p z : Int}, IsT S p z t → z = t.root
  | .nil, _, _, h => h
  | .node _ _ _, _, _, h => h.1
/-- Two memories have the same links of a thing. -/
def TS.at (S S' : TS) (x : Nat) : Prop := S'.l x = S.l x ∧ S'.r x = S.r x ∧ S'.u x = S.u x
theorem IsT.frame {S S' : TS} : ∀ {t : BT} {p z : Int}, IsT S p z t → (∀ x, x ∈ t.nodes → S.at S' x) → IsT S' p z t
  | .nil, _, _, h, _ => h
  | .node x l r, p, z, h, hs => by
    have hx := hs x (by simp [BT.nodes])
    refine ⟨h.1, by rw [hx.2.2]; exact h.2.1, ?_, ?_⟩
    · rw [hx.1]; exact IsT.frame h.2.2.1 (fun y hy => hs y (by simp [BT.nodes, hy]))
    · rw [hx.2.1]; exact IsT.frame h.2.2.2 (fun y hy => hs y (by simp [BT.nodes, hy]))
/-- .. but what is above its root. -/
theorem IsT.hung {S S' : TS} {t : BT} {p p' z : Int} (h : IsT S p z t) (hn : t.nodes.Nodup) (hs : ∀ x, x ∈ t.nodes → S'.l x = S.l x ∧ S'.r x = S.r x ∧ (x ≠ t.root.toNat → S'.u x = S.u x)) (hr : t ≠ .nil → S'.u t.root.toNat = p') : IsT S' p' z t := by
  cases t with
  | nil => exact h
  | node x l r =>
    have hx := hs x (by simp [BT.nodes])
    simp only [BT.nodes, List.nodup_cons, List.mem_append, not_or] at hn
    refine ⟨h.1, ?_, ?_, ?_⟩
    · have := hr (by simp); simpa [BT.root] using this
    · rw [hx.1]
      refine h.2.2.1.frame (fun y hy => ?_)
      have hy' := hs y (by simp [BT.nodes, hy])
      exact ⟨hy'.1, hy'.2.1, hy'.2.2 (fun e => by simp [BT.root] at e; rw [e] at hy; exact hn.1.1 hy)⟩
    · rw [hx.2.1]
      refine h.2.2.2.frame (fun y hy => ?_)
      have hy' := hs y (by simp [BT.nodes, hy])
      exact ⟨hy'.1, hy'.2.1, hy'.2.2 (fun e => by simp [BT.root] at e; rw [e] at hy; exact hn.1.2 hy)⟩
theorem IsT.lt {S : TS} {t : BT} {x : Nat} (h : x ∈ t.nodes) : t ≠ .nil := fun e => by subst e; cases h
theorem root_mem {t : BT} (h : t ≠ .nil) : t.root.toNat ∈ t.nodes ∧ t.root = (t.root.toNat : Int) := by
  cases t with
  | nil => exact absurd rfl h
  | node x l r => simp [BT.root, BT.nodes]
theorem root_nil {t : BT} : t.root = -1 ↔ t = .nil := by
  cases t with
  | nil => simp [BT.root]
  | node x l r => simp [BT.root]

/-! ### ranks; what a merge gives -/
def BT.rank : BT → Nat | .nil => 0 | .node _ _ r => r.rank + 1
def settleT (x : Nat) (l r : BT) : BT := if l.rank < r.rank then .node x r l else .node x l r
def RkOk (rk : Nat → Nat) : BT → Prop
  | .nil => True
  | .node x l r => rk x = r.rank + 1 ∧ RkOk rk l ∧ RkOk rk r
theorem RkOk.frame {rk rk' : Nat → Nat} : ∀ {t : BT}, RkOk rk t → (∀ x, x ∈ t.nodes → rk' x = rk x) → RkOk rk' t
  | .nil, _, _ => trivial
  | .node x l r, h, hs => ⟨by rw [hs x (by simp [BT.nodes])]; exact h.1, h.2.1.frame (fun y hy => hs y (by simp [BT.nodes, hy])), h.2.2.frame (fun y hy => hs y (by simp [BT.nodes, hy]))⟩
theorem RkOk.root {rk : Nat → Nat} {t : BT} (h : RkOk rk t) (ht : t ≠ .nil) : rk t.root.toNat = t.rank := by
  cases t with
  | nil => exact absurd rfl ht
  | node x l r => simpa [BT.root, BT.rank] using h.1
/-- Left-leaning: the rank of the left is no less. -/
def Lean : BT → Prop
  | .nil => True
  | .node _ l r => r.rank ≤ l.rank ∧ Lean l ∧ Lean r
theorem settle_lean {x : Nat} {l r : BT} (hl : Lean l) (hr : Lean r) : Lean (settleT x l r) := by
  unfold settleT; split
  · exact ⟨by omega, hr, hl⟩
  · exact ⟨by omega, hl, hr⟩
theorem rank_size : ∀ {t : BT}, Lean t → 2 ^ t.rank ≤ t.size + 1
  | .nil, _ => by simp [BT.rank, BT.size]
  | .node x l r, h => by
    have h1 := rank_size h.2.1
    have h2 := rank_size h.2.2
    have h3 : 2 ^ r.rank ≤ 2 ^ l.rank := Nat.pow_le_pow_right (by omega) h.1
    simp only [BT.rank, BT.size, Nat.pow_succ]
    omega
/-- Each is ahead of what is below it. -/
def Heap (A : NS) : BT → Prop
  | .nil => True
  | .node x l r => (∀ y, y ∈ l.nodes → lt3 A x y) ∧ (∀ y, y ∈ r.nodes → lt3 A x y) ∧ Heap A l ∧ Heap A r
theorem settle_nodes (x : Nat) (l r : BT) : (settleT x l r).nodes.Perm (x :: (l.nodes ++ r.nodes)) := by
  unfold settleT; split
  · simp only [BT.nodes]; exact List.Perm.cons x List.perm_append_comm
  · exact List.Perm.refl _
theorem settle_heap {A : NS} {x : Nat} {l r : BT} (h1 : ∀ y, y ∈ l.nodes → lt3 A x y) (h2 : ∀ y, y ∈ r.nodes → lt3 A x y) (hl : Heap A l) (hr : Heap A r) : Heap A (settleT x l r) := by
  unfold settleT; split
  · exact ⟨h2, h1, hr, hl⟩
  · exact ⟨h1, h2, hl, hr⟩
theorem settle_root (x : Nat) (l r : BT) : (settleT x l r).root = x := by unfold settleT; split <;> rfl
/-- What a merge gives, and how often it asks: along both ways to the right; 'up' is what is done to each on the way back. -/
def mergeT (up : Nat → BT → BT → BT) (A : NS) : BT → BT → BT × Nat
  | .nil, t => (t, 0)
  | .node x l r, .nil => (.node x l r, 0)
  | .node x l r, .node y l' r' =>
    if lt3 A y x then (up y l' (mergeT up A r' (.node x l r)).1, (mergeT up A r' (.node x l r)).2 + 1)
    else (up x l (mergeT up A r (.node y l' r')).1, (mergeT up A r (.node y l' r')).2 + 1)
termination_by a b => a.size + b.size
decreasing_by
  all_goals simp only [BT.size]
  all_goals omega
theorem mergeT_nil (up : Nat → BT → BT → BT) (A : NS) (t : BT) : mergeT up A .nil t = (t, 0) := by rw [mergeT]
theorem mergeT_nil2 (up : Nat → BT → BT → BT) (A : NS) (t : BT) : mergeT up A t .nil = (t, 0) := by cases t <;> rw [mergeT]
theorem mergeT_node (up : Nat → BT → BT → BT) (A : NS) (x y : Nat) (l r l' r' : BT) : mergeT up A (.node x l r) (.node y l' r') =
    if lt3 A y x then (up y l' (mergeT up A r' (.node x l r)).1, (mergeT up A r' (.node x l r)).2 + 1)
    else (up x l (mergeT up A r (.node y l' r')).1, (mergeT up A r (.node y l' r')).2 + 1) := by rw [mergeT]
/-- What holds of 'up': it is that thing with these children. -/
structure UpOk (up : Nat → BT → BT → BT) : Prop where
  nodes : ∀ x l r, (up x l r).nodes.Perm (x :: (l.nodes ++ r.nodes))
  heap : ∀ A x l r, (∀ y, y ∈ l.nodes → lt3 A x y) → (∀ y, y ∈ r.nodes → lt3 A x y) → Heap A l → Heap A r → Heap A (up x l r)
  root : ∀ x l r, (up x l r).root = x
theorem settle_ok : UpOk settleT := ⟨settle_nodes, fun _ _ _ _ => settle_heap, settle_root⟩
theorem merge_ok {up : Nat → BT → BT → BT} (U : UpOk up) (A : NS) (k : Nat) : ∀ (a b : BT), a.size + b.size ≤ k →
    (mergeT up A a b).1.nodes.Perm (a.nodes ++ b.nodes) ∧ (Heap A a → Heap A b → (a.nodes ++ b.nodes).Nodup → Heap A (mergeT up A a b).1) := by
  induction k with
  | zero =>
    intro a b hk
    cases a with
    | nil => rw [mergeT_nil]; exact ⟨by simp [BT.nodes], fun _ h _ => h⟩
    | node x l r => simp only [BT.size] at hk; omega
  | succ k ih =>
    intro a b hk
    cases a with
    | nil => rw [mergeT_nil]; exact ⟨by simp [BT.nodes], fun _ h _ => h⟩
    | node x l r =>
      cases b with
      | nil => rw [mergeT_nil2]; exact ⟨by simp [BT.nodes], fun h _ _ => h⟩
      | node y l' r' =>
        rw [mergeT_node]
        simp only [BT.size] at hk
        by_cases h : lt3 A y x
        · rw [if_pos h]
          obtain ⟨i1, i2⟩ := ih r' (.node x l r) (by simp only [BT.size]; omega)
          have i3 := U.nodes y l' (mergeT up A r' (.node x l r)).1
          have i4 : (y :: (l'.nodes ++ (mergeT up A r' (.node x l r)).1.nodes)).Perm ((BT.node x l r).nodes ++ (BT.node y l' r').nodes) := by
            refine List.Perm.trans (List.Perm.cons y (List.Perm.append_left _ i1)) ?_
            rw [← List.append_assoc]
            show (y :: (l'.nodes ++ r'.nodes ++ (BT.node x l r).nodes)).Perm ((BT.node x l r).nodes ++ (y :: (l'.nodes ++ r'.nodes)))
            exact (List.perm_append_comm (l₁ := y :: (l'.nodes ++ r'.nodes)))
          refine ⟨i3.trans i4, fun ha hb hn => ?_⟩
          have hn2 : (r'.nodes ++ (BT.node x l r).nodes).Nodup := by
            rw [List.nodup_append] at hn ⊢
            simp only [BT.nodes, List.nodup_cons, List.nodup_append] at hn
            refine ⟨hn.2.1.2.2.1, by simp only [BT.nodes, List.nodup_cons, List.nodup_append]; exact hn.1, fun p hp q hq e => hn.2.2 q hq p (by simp [hp]) e.symm⟩
          refine U.heap A y l' _ hb.1 (fun z hz => ?_) hb.2.2.1 (i2 hb.2.2.2 ha hn2)
          rcases List.mem_append.1 (i1.mem_iff.1 hz) with hz | hz
          · exact hb.2.1 z hz
          · simp only [BT.nodes, List.mem_cons, List.mem_append] at hz
            rcases hz with rfl | hz | hz
            · exact h
            · exact lt3_trans h (ha.1 z hz)
            · exact lt3_trans h (ha.2.1 z hz)
        · rw [if_neg h]
          obtain ⟨i1, i2⟩ := ih r (.node y l' r') (by simp only [BT.size]; omega)
          have i3 := U.nodes x l (mergeT up A r (.node y l' r')).1
          have i4 : (x :: (l.nodes ++ (mergeT up A r (.node y l' r')).1.nodes)).Perm ((BT.node x l r).nodes ++ (BT.node y l' r').nodes) := by
            refine List.Perm.trans (List.Perm.cons x (List.Perm.append_left _ i1)) ?_
            rw [← List.append_assoc]
            exact List.Perm.refl _
          refine ⟨i3.trans i4, fun ha hb hn => ?_⟩
          have hn1 := hn
          rw [List.nodup_append] at hn
          have hxy : x ≠ y := hn.2.2 x (by simp [BT.nodes]) y (by simp [BT.nodes])
          have hlt : lt3 A x y := by
            rcases lt3_total (A := A) hxy with h' | h'
            · exact h'
            · exact absurd h' h
          have hn2 : (r.nodes ++ (BT.node y l' r').nodes).Nodup := by
            rw [List.nodup_append]
            simp only [BT.nodes, List.nodup_cons, List.nodup_append] at hn
            refine ⟨hn.1.2.2.1, by simp only [BT.nodes, List.nodup_cons, List.nodup_append]; exact hn.2.1, fun p hp q hq e => hn.2.2 p (by simp [hp]) q hq e⟩
          refine U.heap A x l _ ha.1 (fun z hz => ?_) ha.2.2.1 (i2 ha.2.2.2 hb hn2)
          rcases List.mem_append.1 (i1.mem_iff.1 hz) with hz | hz
          · exact ha.2.1 z hz
          · simp only [BT.nodes, List.mem_cons, List.mem_append] at hz
            rcases hz with rfl | hz | hz
            · exact hlt
            · exact lt3_trans hlt (hb.1 z hz)
            · exact lt3_trans hlt (hb.2.1 z hz)
/-- How often a merge asks: no more than both ways to the right are long. -/
theorem merge_count (A : NS) (up : Nat → BT → BT → BT) (k : Nat) : ∀ (a b : BT), a.size + b.size ≤ k → (mergeT up A a b).2 ≤ a.rank + b.rank := by
  induction k with
  | zero =>
    intro a b hk
    cases a with
    | nil => rw [mergeT_nil]; simp
    | node x l r => simp only [BT.size] at hk; omega
  | succ k ih =>
    intro a b hk
    cases a with
    | nil => rw [mergeT_nil]; simp
    | node x l r =>
      cases b with
      | nil => rw [mergeT_nil2]; simp
      | node y l' r' =>
        rw [mergeT_node]
        simp only [BT.size] at hk
        split
        · have := ih r' (.node x l r) (by simp only [BT.size]; omega)
          simp only [BT.rank] at this ⊢; omega
        · have := ih r (.node y l' r') (by simp only [BT.size]; omega)
          simp only [BT.rank] at this ⊢; omega
theorem merge_lean (A : NS) (k : Nat) : ∀ (a b : BT), a.size + b.size ≤ k → Lean a → Lean b → Lean (mergeT settleT A a b).1 := by
  induction k with
  | zero =>
    intro a b hk ha hb
    cases a with
    | nil => rw [mergeT_nil]; exact hb
    | node x l r => simp only [BT.size] at hk; omega
  | succ k ih =>
    intro a b hk ha hb
    cases a with
    | nil => rw [mergeT_nil]; exact hb
    | node x l r =>
      cases b with
      | nil => rw [mergeT_nil2]; exact ha
      | node y l' r' =>
        rw [mergeT_node]
        simp only [BT.size] at hk
        split
        · exact settle_lean hb.2.1 (ih r' (.node x l r) (by simp only [BT.size]; omega) hb.2.2 ha)
        · exact settle_lean ha.2.1 (ih r (.node y l' r') (by simp only [BT.size]; omega) ha.2.2 hb)
/-- Those that were met on the way down, each with its left; then back up. -/
def zipUp (up : Nat → BT → BT → BT) : List (Nat × BT) → BT → BT
  | [], m => m
  | (x, l) :: t, m => up x l (zipUp up t m)
theorem zipUp_snoc (up : Nat → BT → BT → BT) (W : List (Nat × BT)) (x : Nat) (l m : BT) : zipUp up (W ++ [(x, l)]) m = zipUp up W (up x l m) := by
  induction W with
  | nil => rfl
  | cons p t ih => obtain ⟨y, k⟩ := p; simp only [List.cons_append, zipUp, ih]
def wayN (W : List (Nat × BT)) : List Nat := W.flatMap fun p => p.1 :: p.2.nodes
end Go.Proofs.Ytechoojcgdjcdaa
