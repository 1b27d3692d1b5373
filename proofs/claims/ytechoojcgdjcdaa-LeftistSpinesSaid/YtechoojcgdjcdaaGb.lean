/-
  Binary trees, and how a memory of links holds them. No program in sight. Conditions: none.
-/
import Derived.Test.YtechoojcgdjcdaaGa
import Derived.Test.YtechoojcgdjcdaaGs
set_option linter.unusedVariables false
set_option linter.unusedSimpArgs false
namespace Go.Proofs.Ytechoojcgdjcdaa

inductive BT where
  | nil : BT
  | node : Nat → BT → BT → BT
def BT.root : BT → Int | .nil => -1 | .node x _ _ => x
def BT.nodes : BT → List Nat | .nil => [] | .node x l r => x :: (l.nodes ++ r.nodes)
def BT.size : BT → Nat | .nil => 0 | .node _ l r => l.size + r.size + 1
theorem BT.size_nodes : ∀ t : BT, t.nodes.length = t.size
  | .nil => rfl
  | .node x l r => by simp [BT.nodes, BT.size, BT.size_nodes l, BT.size_nodes r]
/-- The links hold this tree, below p. -/
def IsT (S : TS) : Int → Int → BT → Prop
  | _, z, .nil => z = -1
  | p, z, .node x l r => z = x ∧ S.u x = p ∧ IsT S x (S.l x) l ∧ IsT S x (S.r x) r
theorem IsT.root {S : TS} : ∀ {t : BT} {p z : Int}, IsT S p z t → z = t.root
  | .nil, _, _, h => h
  | .node _ _ _, _, _, h => h.1
/-- Two memories have the same links of a thing. -/
def TS.at (S S' : TS) (x : Nat) : Prop := S'.l x = S.l x ∧ S'.r x = S.r x ∧ S'.u x = S.u x
theorem IsT.frame {S S' : TS} : ∀ {t : BT} {p z : Int}, IsT S p z t → (∀ x, x ∈ t.nodes → S.at S' x) → IsT S' p z t
  | .nil, _, _, h, _ => h
  | .node x l r, p, z, h, hs => by
    have hx := hs x (by simp [BT.nodes])
    refine ⟨h.1, by rw [hx.2.2]; exact h.2.1, ?_, ?_⟩
    · rw [hx.1]; exact IsT.frame h.2.2.1 (fun y hy => hs y (by simp [BT.nodes, hy]))
    · rw [hx.2.1]; exact IsT.frame h.2.2.2 (fun y hy => hs y (by simp [BT.nodes, hy]))
/-- .. but what is above its root. -/
theorem IsT.hung {S S' : TS} {t : BT} {p p' z : Int} (h : IsT S p z t) (hn : t.nodes.Nodup) (hs : ∀ x, x ∈ t.nodes → S'.l x = S.l x ∧ S'.r x = S.r x ∧ (x ≠ t.root.toNat → S'.u x = S.u x)) (hr : t ≠ .nil → S'.u t.root.toNat = p') : IsT S' p' z t := by
  cases t with
  | nil => exact h
  | node x l r =>
    have hx := hs x (by simp [BT.nodes])
    simp only [BT.nodes, List.nodup_cons, List.mem_append, not_or] at hn
    refine ⟨h.1, ?_, ?_, ?_⟩
    · have := hr (by simp); simpa [BT.root] using this
    · rw [hx.1]
      refine h.2.2.1.frame (fun y hy => ?_)
      have hy' := hs y (by simp [BT.nodes, hy])
      exact ⟨hy'.1, hy'.2.1, hy'.2.2 (fun e => by simp [BT.root] at e; rw [e] at hy; exact hn.1.1 hy)⟩
    · rw [hx.2.1]
      refine h.2.2.2.frame (fun y hy => ?_)
      have hy' := hs y (by simp [BT.nodes, hy])
      exact ⟨hy'.1, hy'.2.1, hy'.2.2 (fun e => by simp [BT.root] at e; rw [e] at hy; exact hn.1.2 hy)⟩
theorem IsT.lt {S : TS} {t : BT} {x : Nat} (h : x ∈ t.nodes) : t ≠ .nil := fun e => by subst e; cases h
theorem root_mem {t : BT} (h : t ≠ .nil) : t.root.toNat ∈ t.nodes ∧ t.root = (t.root.toNat : Int) := by
  cases t with
  | nil => exact absurd rfl h
  | node x l r => simp [BT.root, BT.nodes]
theorem root_nil {t : BT} : t.root = -1 ↔ t = .nil := by
  cases t with
  | nil => simp [BT.root]
  | node x l r => simp [BT.root]

/-! ### ranks; what a merge gives -/
def BT.rank : BT → Nat | .nil => 0 | .node _ _ r => r.rank + 1
def settleT (x : Nat) (l r : BT) : BT := if l.rank < r.rank then .node x r l else .node x l r
def RkOk (rk : Nat → Nat) : BT → Prop
  | .nil => True
  | .node x l r => rk x = r.rank + 1 ∧ RkOk rk l ∧ RkOk rk r
theorem RkOk.frame {rk rk' : Nat → Nat} : ∀ {t : BT}, RkOk rk t → (∀ x, x ∈ t.nodes → rk' x = rk x) → RkOk rk' t
  | .nil, _, _ => trivial
  | .node x l r, h, hs => ⟨by rw [hs x (by simp [BT.nodes])]; exact h.1, h.2.1.frame (fun y hy => hs y (by simp [BT.nodes, hy])), h.2.2.frame (fun y hy => hs y (by simp [BT.nodes, hy]))⟩
theorem RkOk.root {rk : Nat → Nat} {t : BT} (h : RkOk rk t) (ht : t ≠ .nil) : rk t.root.toNat = t.rank := by
  cases t with
  | nil => exact absurd rfl ht
  | node x l r => simpa [BT.root, BT.rank] using h.1
/-- Left-leaning: the rank of the left is no less. -/
def Lean : BT → Prop
  | .nil => True
  | .node _ l r => r.rank ≤ l.rank ∧ Lean l ∧ Lean r
theorem settle_lean {x : Nat} {l r : BT} (hl : Lean l) (hr : Lean r) : Lean (settleT x l r) := by
  unfold settleT; split
  · exact ⟨by omega, hr, hl⟩
  · exact ⟨by omega, hl, hr⟩
theorem rank_size : ∀ {t : BT}, Lean t → 2 ^ t.rank ≤ t.size + 1
  | .nil, _ => by simp [BT.rank, BT.size]
  | .node x l r, h => by
    have h1 := rank_size h.2.1
    have h2 := rank_size h.2.2
    have h3 : 2 ^ r.rank ≤ 2 ^ l.rank := Nat.pow_le_pow_right (by omega) h.1
    simp only [BT.rank, BT.size, Nat.pow_succ]
    omega
/-- Each is ahead of what is below it. -/
def Heap (A : NS) : BT → Prop
  | .nil => True
  | .node x l r => (∀ y, y ∈ l.nodes → lt3 A x y) ∧ (∀ y, y ∈ r.nodes → lt3 A x y) ∧ Heap A l ∧ Heap A r
theorem settle_nodes (x : Nat) (l r : BT) : (settleT x l r).nodes.Perm (x :: (l.nodes ++ r.nodes)) := by
  unfold settleT; split
  · simp only [BT.nodes]; exact List.Perm.cons x List.perm_append_comm
  · exact List.Perm.refl _
theorem settle_heap {A : NS} {x : Nat} {l r : BT} (h1 : ∀ y, y ∈ l.nodes → lt3 A x y) (h2 : ∀ y, y ∈ r.nodes → lt3 A x y) (hl : Heap A l) (hr : Heap A r) : Heap A (settleT x l r) := by
  unfold settleT; split
  · exact ⟨h2, h1, hr, hl⟩
  · exact ⟨h1, h2, hl, hr⟩
theorem settle_root (x : Nat) (l r : BT) : (settleT x l r).root = x := by unfold settleT; split <;> rfl
/-- What a merge gives, and how often it asks: along both ways to the right; 'up' is what is done to each on the way back. -/
def mergeT (up : Nat → BT → BT → BT) (A : NS) : BT → BT → BT × Nat
  | .nil, t => (t, 0)
  | .node x l r, .nil => (.node x l r, 0)
  | .node x l r, .node y l' r' =>
    if lt3 A y x then (up y l' (mergeT up A r' (.node x l r)).1, (mergeT up A r' (.node x l r)).2 + 1)
    else (up x l (mergeT up A r (.node y l' r')).1, (mergeT up A r (.node y l' r')).2 + 1)
termination_by a b => a.size + b.size
decreasing_by
  all_goals simp only [BT.size]
  all_goals omega
theorem mergeT_nil (up : Nat → BT → BT → BT) (A : NS) (t : BT) : mergeT up A .nil t = (t, 0) := by rw [mergeT]
theorem mergeT_nil2 (up : Nat → BT → BT → BT) (A : NS) (t : BT) : mergeT up A t .nil = (t, 0) := by cases t <;> rw [mergeT]
theorem mergeT_node (up : Nat → BT → BT → BT) (A : NS) (x y : Nat) (l r l' r' : BT) : mergeT up A (.node x l r) (.node y l' r') =
    if lt3 A y x then (up y l' (mergeT up A r' (.node x l r)).1, (mergeT up A r' (.node x l r)).2 + 1)
    else (up x l (mergeT up A r (.node y l' r')).1, (mergeT up A r (.node y l' r')).2 + 1) := by rw [mergeT]
/-- What holds of 'up': it is that thing with these children. -/
structure UpOk (up : Nat → BT → BT → BT) : Prop where
  nodes : ∀ x l r, (up x l r).nodes.Perm (x :: (l.nodes ++ r.nodes))
  heap : ∀ A x l r, (∀ y, y ∈ l.nodes → lt3 A x y) → (∀ y, y ∈ r.nodes → lt3 A x y) → Heap A l → Heap A r → Heap A (up x l r)
  root : ∀ x l r, (up x l r).root = x
theorem settle_ok : UpOk settleT := ⟨settle_nodes, fun _ _ _ _ => settle_heap, settle_root⟩
theorem merge_ok {up : Nat → BT → BT → BT} (U : UpOk up) (A : NS) (k : Nat) : ∀ (a b : BT), a.size + b.size ≤ k →
    (mergeT up A a b).1.nodes.Perm (a.nodes ++ b.nodes) ∧ (Heap A a → Heap A b → (a.nodes ++ b.nodes).Nodup → Heap A (mergeT up A a b).1) := by
  induction k with
  | zero =>
    intro a b hk
    cases a with
    | nil => rw [mergeT_nil]; exact ⟨by simp [BT.nodes], fun _ h _ => h⟩
    | node x l r => simp only [BT.size] at hk; omega
  | succ k ih =>
    intro a b hk
    cases a with
    | nil => rw [mergeT_nil]; exact ⟨by simp [BT.nodes], fun _ h _ => h⟩
    | node x l r =>
      cases b with
      | nil => rw [mergeT_nil2]; exact ⟨by simp [BT.nodes], fun h _ _ => h⟩
      | node y l' r' =>
        rw [mergeT_node]
        simp only [BT.size] at hk
        by_cases h : lt3 A y x
        · rw [if_pos h]
          obtain ⟨i1, i2⟩ := ih r' (.node x l r) (by simp only [BT.size]; omega)
          have i3 := U.nodes y l' (mergeT up A r' (.node x l r)).1
          have i4 : (y :: (l'.nodes ++ (mergeT up A r' (.node x l r)).1.nodes)).Perm ((BT.node x l r).nodes ++ (BT.node y l' r').nodes) := by
            refine List.Perm.trans (List.Perm.cons y (List.Perm.append_left _ i1)) ?_
            rw [← List.append_assoc]
            show (y :: (l'.nodes ++ r'.nodes ++ (BT.node x l r).nodes)).Perm ((BT.node x l r).nodes ++ (y :: (l'.nodes ++ r'.nodes)))
            exact (List.perm_append_comm (l₁ := y :: (l'.nodes ++ r'.nodes)))
          refine ⟨i3.trans i4, fun ha hb hn => ?_⟩
          have hn2 : (r'.nodes ++ (BT.node x l r).nodes).Nodup := by
            rw [List.nodup_append] at hn ⊢
            simp only [BT.nodes, List.nodup_cons, List.nodup_append] at hn
            refine ⟨hn.2.1.2.2.1, by simp only [BT.nodes, List.nodup_cons, List.nodup_append]; exact hn.1, fun p hp q hq e => hn.2.2 q hq p (by simp [hp]) e.symm⟩
          refine U.heap A y l' _ hb.1 (fun z hz => ?_) hb.2.2.1 (i2 hb.2.2.2 ha hn2)
          rcases List.mem_append.1 (i1.mem_iff.1 hz) with hz | hz
          · exact hb.2.1 z hz
          · simp only [BT.nodes, List.mem_cons, List.mem_append] at hz
            rcases hz with rfl | hz | hz
            · exact h
            · exact lt3_trans h (ha.1 z hz)
            · exact lt3_trans h (ha.2.1 z hz)
        · rw [if_neg h]
          obtain ⟨i1, i2⟩ := ih r (.node y l' r') (by simp only [BT.size]; omega)
          have i3 := U.nodes x l (mergeT up A r (.node y l' r')).1
          have i4 : (x :: (l.nodes ++ (mergeT up A r (.node y l' r')).1.nodes)).Perm ((BT.node x l r).nodes ++ (BT.node y l' r').nodes) := by
            refine List.Perm.trans (List.Perm.cons x (List.Perm.append_left _ i1)) ?_
            rw [← List.append_assoc]
            exact List.Perm.refl _
          refine ⟨i3.trans i4, fun ha hb hn => ?_⟩
          have hn1 := hn
          rw [List.nodup_append] at hn
          have hxy : x ≠ y := hn.2.2 x (by simp [BT.nodes]) y (by simp [BT.nodes])
          have hlt : lt3 A x y := by
            rcases lt3_total (A := A) hxy with h' | h'
            · exact h'
            · exact absurd h' h
          have hn2 : (r.nodes ++ (BT.node y l' r').nodes).Nodup := by
            rw [List.nodup_append]
            simp only [BT.nodes, List.nodup_cons, List.nodup_append] at hn
            refine ⟨hn.1.2.2.1, by simp only [BT.nodes, List.nodup_cons, List.nodup_append]; exact hn.2.1, fun p hp q hq e => hn.2.2 p (by simp [hp]) q hq e⟩
          refine U.heap A x l _ ha.1 (fun z hz => ?_) ha.2.2.1 (i2 ha.2.2.2 hb hn2)
          rcases List.mem_append.1 (i1.mem_iff.1 hz) with hz | hz
          · exact ha.2.1 z hz
          · simp only [BT.nodes, List.mem_cons, List.mem_append] at hz
            rcases hz with rfl | hz | hz
            · exact hlt
            · exact lt3_trans hlt (hb.1 z hz)
            · exact lt3_trans hlt (hb.2.1 z hz)
/-- How often a merge asks: no more than both ways to the right are long. -/
theorem merge_count (A : NS) (up : Nat → BT → BT → BT) (k : Nat) : ∀ (a b : BT), a.size + b.size ≤ k → (mergeT up A a b).2 ≤ a.rank + b.rank := by
  induction k with
  | zero =>
    intro a b hk
    cases a with
    | nil => rw [mergeT_nil]; simp
    | node x l r => simp only [BT.size] at hk; omega
  | succ k ih =>
    intro a b hk
    cases a with
    | nil => rw [mergeT_nil]; simp
    | node x l r =>
      cases b with
      | nil => rw [mergeT_nil2]; simp
      | node y l' r' =>
        rw [mergeT_node]
        simp only [BT.size] at hk
        split
        · have := ih r' (.node x l r) (by simp only [BT.size]; omega)
          simp only [BT.rank] at this ⊢; omega
        · have := ih r (.node y l' r') (by simp only [BT.size]; omega)
          simp only [BT.rank] at this ⊢; omega
theorem merge_lean (A : NS) (k : Nat) : ∀ (a b : BT), a.size + b.size ≤ k → Lean a → Lean b → Lean (mergeT settleT A a b).1 := by
  induction k with
  | zero =>
    intro a b hk ha hb
    cases a with
    | nil => rw [mergeT_nil]; exact hb
    | node x l r => simp only [BT.size] at hk; omega
  | succ k ih =>
    intro a b hk ha hb
    cases a with
    | nil => rw [mergeT_nil]; exact hb
    | node x l r =>
      cases b with
      | nil => rw [mergeT_nil2]; exact ha
      | node y l' r' =>
        rw [mergeT_node]
        simp only [BT.size] at hk
        split
        · exact settle_lean hb.2.1 (ih r' (.node x l r) (by simp only [BT.size]; omega) hb.2.2 ha)
        · exact settle_lean ha.2.1 (ih r (.node y l' r') (by simp only [BT.size]; omega) ha.2.2 hb)
/-- Those that were met on the way down, each with its left; then back up. -/
def zipUp (up : Nat → BT → BT → BT) : List (Nat × BT) → BT → BT
  | [], m => m
  | (x, l) :: t, m => up x l (zipUp up t m)
theorem zipUp_snoc (up : Nat → BT → BT → BT) (W : List (Nat × BT)) (x : Nat) (l m : BT) : zipUp up (W ++ [(x, l)]) m = zipUp up W (up x l m) := by
  induction W with
  | nil => rfl
  | cons p t ih => obtain ⟨y, k⟩ := p; simp only [List.cons_append, zipUp, ih]
def wayN (W : List (Nat × BT)) : List Nat := W.flatMap fun p => p.1 :: p.2.nodes
end Go.Proofs.Ytechoojcgdjcdaa

set_option linter.unusedVariables false
set_option linter.unusedSimpArgs false
namespace Go.Proofs.Ytechoojcgdjcdaa

abbrev Fr := Nat × Bool × BT
def plug1 (f : Fr) (t : BT) : BT := if f.2.1 then .node f.1 f.2.2 t else .node f.1 t f.2.2
def plug : List Fr → BT → BT
  | [], t => t
  | f :: P, t => plug P (plug1 f t)
def upP : List Fr → Int | [] => -1 | f :: _ => f.1
def ctxN : List Fr → List Nat | [] => [] | f :: P => f.1 :: (f.2.2.nodes ++ ctxN P)
/-- The links hold all but the hole. -/
def IsP (S : TS) : List Fr → Int → Prop
  | [], _ => True
  | f :: P, z => S.kid f.2.1 f.1 = z ∧ IsT S f.1 (S.kid (!f.2.1) f.1) f.2.2 ∧ S.u f.1 = upP P ∧ IsP S P f.1
theorem plug1_root (f : Fr) (t : BT) : (plug1 f t).root = f.1 := by unfold plug1; split <;> rfl
theorem plug1_ne (f : Fr) (t : BT) : plug1 f t ≠ .nil := by unfold plug1; split <;> simp
theorem plug1_nodes (f : Fr) (t : BT) : (plug1 f t).nodes.Perm (f.1 :: (t.nodes ++ f.2.2.nodes)) := by
  unfold plug1; split
  · simp only [BT.nodes]; exact List.Perm.cons _ List.perm_append_comm
  · exact List.Perm.refl _
theorem plug_nodes : ∀ (P : List Fr) (t : BT), (plug P t).nodes.Perm (t.nodes ++ ctxN P)
  | [], t => by simp [plug, ctxN]
  | f :: P, t => by
    refine (plug_nodes P (plug1 f t)).trans ?_
    refine ((plug1_nodes f t).append_right (ctxN P)).trans ?_
    simp only [ctxN, List.cons_append, List.append_assoc]
    exact (List.perm_middle (a := f.1) (l₁ := t.nodes) (l₂ := f.2.2.nodes ++ ctxN P)).symm
theorem plug_ne : ∀ (P : List Fr) (t : BT), t ≠ .nil → plug P t ≠ .nil
  | [], t, h => h
  | f :: P, t, h => plug_ne P _ (plug1_ne f t)
theorem plug_root2 : ∀ (P : List Fr) (t t' : BT), t.root = t'.root → (plug P t).root = (plug P t').root
  | [], t, t', h => h
  | f :: P, t, t', h => plug_root2 P _ _ (by rw [plug1_root, plug1_root])
theorem plug_rootc (f : Fr) (P : List Fr) (t t' : BT) : (plug (f :: P) t).root = (plug (f :: P) t').root := plug_root2 P _ _ (by rw [plug1_root, plug1_root])
theorem plug_append : ∀ (P Q : List Fr) (t : BT), plug (P ++ Q) t = plug Q (plug P t)
  | [], _, _ => rfl
  | f :: P, Q, t => plug_append P Q (plug1 f t)
/-- Each thing of a tree is the root of what fills a hole. -/
theorem find_node : ∀ {t : BT} {x : Nat}, x ∈ t.nodes → ∃ P l r, t = plug P (.node x l r)
  | .nil, _, h => by cases h
  | .node y a b, x, h => by
    simp only [BT.nodes, List.mem_cons, List.mem_append] at h
    rcases h with rfl | h | h
    · exact ⟨[], a, b, rfl⟩
    · obtain ⟨P, l, r, e⟩ := find_node h
      exact ⟨P ++ [(y, false, b)], l, r, by rw [plug_append, ← e]; rfl⟩
    · obtain ⟨P, l, r, e⟩ := find_node h
      exact ⟨P ++ [(y, true, a)], l, r, by rw [plug_append, ← e]; rfl⟩
theorem isT_plug1 {S : TS} {p : Int} (f : Fr) (t : BT) : IsT S p f.1 (plug1 f t) ↔ IsT S f.1 t.root t ∧ S.kid f.2.1 f.1 = t.root ∧ IsT S f.1 (S.kid (!f.2.1) f.1) f.2.2 ∧ S.u f.1 = p := by
  obtain ⟨x, s, o⟩ := f
  cases s
  · simp only [plug1, Bool.false_eq_true, if_false, IsT, TS.kid, Bool.not_false, if_true]
    constructor
    · rintro ⟨_, h2, h3, h4⟩
      have e := h3.root
      exact ⟨by rw [← e]; exact h3, e, h4, h2⟩
    · rintro ⟨h1, h2, h3, h4⟩
      exact ⟨trivial, h4, by rw [h2]; exact h1, h3⟩
  · simp only [plug1, if_true, IsT, TS.kid, Bool.not_true, Bool.false_eq_true, if_false]
    constructor
    · rintro ⟨_, h2, h3, h4⟩
      have e := h4.root
      exact ⟨by rw [← e]; exact h4, e, h3, h2⟩
    · rintro ⟨h1, h2, h3, h4⟩
      exact ⟨trivial, h4, h3, by rw [h2]; exact h1⟩
theorem isT_plug {S : TS} : ∀ (P : List Fr) (t : BT), IsT S (-1) (plug P t).root (plug P t) ↔ IsT S (upP P) t.root t ∧ IsP S P t.root
  | [], t => by simp [plug, upP, IsP]
  | f :: P, t => by
    have h := isT_plug (S := S) P (plug1 f t)
    rw [plug1_root] at h
    show IsT S (-1) (plug P (plug1 f t)).root (plug P (plug1 f t)) ↔ _
    rw [h, isT_plug1]
    simp only [upP, IsP]
    constructor
    · rintro ⟨⟨h1, h2, h3, h4⟩, h5⟩
      exact ⟨h1, h2, h3, h4, h5⟩
    · rintro ⟨h1, h2, h3, h4, h5⟩
      exact ⟨⟨h1, h2, h3, h4⟩, h5⟩
theorem IsP.frame {S S' : TS} : ∀ {P : List Fr} {z : Int}, IsP S P z → (∀ y, y ∈ ctxN P → S.at S' y) → IsP S' P z
  | [], _, _, _ => trivial
  | f :: P, z, h, hs => by
    obtain ⟨h1, h2, h3, h4⟩ := h
    have hf := hs f.1 (by simp [ctxN])
    have hk : ∀ s, S'.kid s f.1 = S.kid s f.1 := fun s => by unfold TS.kid; rw [hf.1, hf.2.1]
    exact ⟨by rw [hk]; exact h1, by rw [hk]; exact h2.frame (fun y hy => hs y (by simp [ctxN, hy])), by rw [hf.2.2]; exact h3, h4.frame (fun y hy => hs y (by simp [ctxN, hy]))⟩
/-- Another thing in the hole. -/
theorem IsP.other {S S' : TS} {f : Fr} {P : List Fr} {z z' : Int} (h : IsP S (f :: P) z) (hn : (ctxN (f :: P)).Nodup) (h1 : S'.kid f.2.1 f.1 = z') (h2 : S'.kid (!f.2.1) f.1 = S.kid (!f.2.1) f.1) (h3 : S'.u f.1 = S.u f.1)
    (hs : ∀ y, y ≠ f.1 → y ∈ ctxN (f :: P) → S.at S' y) : IsP S' (f :: P) z' := by
  obtain ⟨_, g2, g3, g4⟩ := h
  simp only [ctxN, List.nodup_cons, List.mem_append, not_or] at hn
  exact ⟨h1, by rw [h2]; exact g2.frame (fun y hy => hs y (fun e => hn.1.1 (by rw [← e]; exact hy)) (by simp [ctxN, hy])), by rw [h3]; exact g3, g4.frame (fun y hy => hs y (fun e => hn.1.2 (by rw [← e]; exact hy)) (by simp [ctxN, hy]))⟩
theorem cutS_at {S : TS} {i j : Nat} {y : Nat} (h1 : y ≠ i) (h2 : y ≠ j) : S.at (cutS S i j) y := by
  unfold cutS TS.setKid TS.setUp TS.at
  refine ⟨?_, ?_, ?_⟩
  · cases decide (S.r i = (j : Int)) <;> simp [h1]
  · cases decide (S.r i = (j : Int)) <;> simp [h1]
  · cases decide (S.r i = (j : Int)) <;> simp [h2]
theorem kid_u {S : TS} {i : Nat} {s : Bool} {v : Int} : ∀ y, (S.setKid i s v).u y = S.u y := fun y => by unfold TS.setKid; cases s <;> rfl
/-- What fills the hole comes off. -/
theorem cut_plug {S : TS} {f : Fr} {P : List Fr} {t : BT} (h : IsT S (-1) (plug (f :: P) t).root (plug (f :: P) t)) (ht : t ≠ .nil) (hn : (plug (f :: P) t).nodes.Nodup) :
    IsT (cutS S f.1 t.root.toNat) (-1) t.root t ∧ IsT (cutS S f.1 t.root.toNat) (-1) (plug (f :: P) .nil).root (plug (f :: P) .nil) ∧ ∀ y, y ≠ f.1 → y ≠ t.root.toNat → S.at (cutS S f.1 t.root.toNat) y := by
  obtain ⟨h1, h2⟩ := (isT_plug _ _).1 h
  have hnp := (plug_nodes (f :: P) t).nodup_iff.1 hn
  rw [List.nodup_append] at hnp
  obtain ⟨n1, n2, n3⟩ := hnp
  obtain ⟨rm, rc⟩ := root_mem ht
  generalize hx : t.root.toNat = x at *
  have hfx : f.1 ≠ x := fun e => n3 x rm f.1 (by simp [ctxN]) e.symm
  have hat : ∀ y, y ≠ f.1 → y ≠ x → S.at (cutS S f.1 x) y := fun y h1 h2 => cutS_at h1 h2
  have hk : S.kid f.2.1 f.1 = x := by rw [h2.1, rc]
  have hside : decide (S.r f.1 = (x : Int)) = f.2.1 := by
    cases hs : f.2.1 with
    | true => rw [hs] at hk; exact decide_eq_true (by simpa [TS.kid] using hk)
    | false =>
      refine decide_eq_false (fun e => ?_)
      have h3 := h2.2.1
      rw [hs] at h3
      have h4 := h3.root
      have h5 : f.2.2.root = (x : Int) := by rw [← h4]; simpa [TS.kid] using e
      have h6 : f.2.2 ≠ .nil := fun e => by rw [e] at h5; simp [BT.root] at h5
      have h7 := (root_mem h6).1
      rw [h5, Int.toNat_natCast] at h7
      exact n3 x rm x (by simp [ctxN, h7]) rfl
  have hkid : ∀ s, (cutS S f.1 x).kid s f.1 = if s = f.2.1 then -1 else S.kid s f.1 := fun s => by
    unfold cutS
    rw [hside]
    unfold TS.setKid TS.setUp TS.kid
    cases s <;> cases f.2.1 <;> simp
  have hu : ∀ y, (cutS S f.1 x).u y = if y = x then -1 else S.u y := fun y => by
    unfold cutS TS.setUp
    simp only [kid_u]
  refine ⟨h1.hung n1 (fun y hy => ?_) (fun _ => ?_), (isT_plug _ _).2 ⟨rfl, h2.other n2 ?_ ?_ ?_ (fun y g1 g2 => hat y g1 (fun e => n3 x rm y g2 e.symm))⟩, hat⟩
  · have hyf : y ≠ f.1 := fun e => n3 y hy f.1 (by simp [ctxN]) e
    refine ⟨?_, ?_, fun hr => ?_⟩
    · unfold cutS TS.setKid TS.setUp; cases decide (S.r f.1 = (x : Int)) <;> simp [hyf]
    · unfold cutS TS.setKid TS.setUp; cases decide (S.r f.1 = (x : Int)) <;> simp [hyf]
    · rw [hu, if_neg (by rw [hx] at hr; exact hr)]
  · rw [hu, hx, if_pos rfl]
  · rw [hkid, if_pos rfl]; rfl
  · rw [hkid, if_neg (by cases f.2.1 <;> simp)]
  · rw [hu, if_neg hfx]
theorem hang_plug {S : TS} {f : Fr} {P : List Fr} {m : BT} (h : IsT S (-1) (plug (f :: P) .nil).root (plug (f :: P) .nil)) (hM : IsT S (-1) m.root m) (hm : m ≠ .nil) (hn : (m.nodes ++ ctxN (f :: P)).Nodup) :
    IsT (hangS S f.1 m.root f.2.1) (-1) (plug (f :: P) m).root (plug (f :: P) m) ∧ ∀ y, y ≠ f.1 → y ≠ m.root.toNat → S.at (hangS S f.1 m.root f.2.1) y := by
  obtain ⟨_, h2⟩ := (isT_plug _ _).1 h
  rw [List.nodup_append] at hn
  obtain ⟨n1, n2, n3⟩ := hn
  obtain ⟨rm, rc⟩ := root_mem hm
  have hfx : f.1 ≠ m.root.toNat := fun e => n3 _ rm f.1 (by simp [ctxN]) e.symm
  have hkid : ∀ s, (hangS S f.1 m.root f.2.1).kid s f.1 = if s = f.2.1 then m.root else S.kid s f.1 := fun s => by
    unfold hangS TS.setKid TS.setUp TS.kid
    cases s <;> cases f.2.1 <;> simp
  have hu : ∀ y, (hangS S f.1 m.root f.2.1).u y = if y = m.root.toNat then (f.1 : Int) else S.u y := fun y => by
    unfold hangS TS.setUp
    simp only [kid_u]
  have hl : ∀ y, y ≠ f.1 → (hangS S f.1 m.root f.2.1).l y = S.l y ∧ (hangS S f.1 m.root f.2.1).r y = S.r y := fun y hy => by
    unfold hangS TS.setKid TS.setUp; cases f.2.1 <;> simp [hy]
  have hat : ∀ y, y ≠ f.1 → y ≠ m.root.toNat → S.at (hangS S f.1 m.root f.2.1) y := fun y g1 g2 => ⟨(hl y g1).1, (hl y g1).2, by rw [hu, if_neg g2]⟩
  refine ⟨(isT_plug _ _).2 ⟨hM.hung n1 (fun y hy => ?_) (fun _ => by rw [hu, if_pos rfl]; rfl), h2.other n2 ?_ ?_ ?_ (fun y g1 g2 => hat y g1 (fun e => n3 _ rm y g2 e.symm))⟩, hat⟩
  · have hyf : y ≠ f.1 := fun e => n3 y hy f.1 (by simp [ctxN]) e
    exact ⟨(hl y hyf).1, (hl y hyf).2, fun hr => by rw [hu, if_neg hr]⟩
  · rw [hkid, if_pos rfl]
  · rw [hkid, if_neg (by cases f.2.1 <;> simp)]
  · rw [hu, if_neg hfx]
/-! ### heaps, ranks -/
theorem heap_plug1 {A : NS} {f : Fr} {t : BT} : Heap A (plug1 f t) ↔ (∀ y, y ∈ t.nodes → lt3 A f.1 y) ∧ (∀ y, y ∈ f.2.2.nodes → lt3 A f.1 y) ∧ Heap A t ∧ Heap A f.2.2 := by
  unfold plug1
  split
  · simp only [Heap]; constructor
    · rintro ⟨a, b, c, d⟩; exact ⟨b, a, d, c⟩
    · rintro ⟨a, b, c, d⟩; exact ⟨b, a, d, c⟩
  · simp only [Heap]
theorem heap_sub {A : NS} : ∀ {P : List Fr} {t : BT}, Heap A (plug P t) → Heap A t
  | [], _, h => h
  | f :: P, t, h => (heap_plug1.1 (heap_sub (P := P) h)).2.2.1
theorem heap_plug {A : NS} : ∀ {P : List Fr} {t t' : BT}, Heap A (plug P t) → Heap A t' → (∀ y, y ∈ t'.nodes → y ∈ t.nodes) → Heap A (plug P t')
  | [], _, _, _, h, _ => h
  | f :: P, t, t', h, h', hs => by
    have h1 := heap_plug1.1 (heap_sub (P := P) h)
    refine heap_plug (P := P) h (heap_plug1.2 ⟨fun y hy => h1.1 y (hs y hy), h1.2.1, h', h1.2.2.2⟩) (fun y hy => ?_)
    have hy' := (plug1_nodes f t').mem_iff.1 hy
    refine (plug1_nodes f t).mem_iff.2 ?_
    simp only [List.mem_cons, List.mem_append] at hy' ⊢
    rcases hy' with h | h | h
    · exact Or.inl h
    · exact Or.inr (Or.inl (hs y h))
    · exact Or.inr (Or.inr h)
def upRank (f : Fr) (n : Nat) : Nat := (if f.2.1 then n else f.2.2.rank) + 1
theorem plug1_rank (f : Fr) (t : BT) : (plug1 f t).rank = upRank f t.rank := by unfold plug1 upRank; split <;> rfl
def RkP (rk : Nat → Nat) : List Fr → Nat → Prop
  | [], _ => True
  | f :: P, n => RkOk rk f.2.2 ∧ rk f.1 = upRank f n ∧ RkP rk P (upRank f n)
theorem rk_plug1 {rk : Nat → Nat} {f : Fr} {t : BT} : RkOk rk (plug1 f t) ↔ RkOk rk t ∧ RkOk rk f.2.2 ∧ rk f.1 = upRank f t.rank := by
  unfold plug1 upRank
  split
  · simp only [RkOk]; constructor
    · rintro ⟨a, b, c⟩; exact ⟨c, b, a⟩
    · rintro ⟨a, b, c⟩; exact ⟨c, b, a⟩
  · simp only [RkOk]; constructor
    · rintro ⟨a, b, c⟩; exact ⟨b, c, a⟩
    · rintro ⟨a, b, c⟩; exact ⟨c, a, b⟩
theorem rk_plug {rk : Nat → Nat} : ∀ (P : List Fr) (t : BT), RkOk rk (plug P t) ↔ RkOk rk t ∧ RkP rk P t.rank
  | [], t => by simp [plug, RkP]
  | f :: P, t => by
    show RkOk rk (plug P (plug1 f t)) ↔ _
    rw [rk_plug P, rk_plug1, plug1_rank]
    simp only [RkP]
    constructor
    · rintro ⟨⟨a, b, c⟩, d⟩; exact ⟨a, b, c, d⟩
    · rintro ⟨a, b, c, d⟩; exact ⟨⟨a, b, c⟩, d⟩
theorem RkP.frame {rk rk' : Nat → Nat} : ∀ {P : List Fr} {n : Nat}, RkP rk P n → (∀ y, y ∈ ctxN P → rk' y = rk y) → RkP rk' P n
  | [], _, _, _ => trivial
  | f :: P, n, h, hs => ⟨h.1.frame (fun y hy => hs y (by simp [ctxN, hy])), by rw [hs f.1 (by simp [ctxN])]; exact h.2.1, h.2.2.frame (fun y hy => hs y (by simp [ctxN, hy]))⟩
def LeanP : List Fr → Nat → Prop
  | [], _ => True
  | f :: P, n => Lean f.2.2 ∧ (if f.2.1 then n ≤ f.2.2.rank else f.2.2.rank ≤ n) ∧ LeanP P (upRank f n)
theorem lean_plug1 {f : Fr} {t : BT} : Lean (plug1 f t) ↔ Lean t ∧ Lean f.2.2 ∧ (if f.2.1 then t.rank ≤ f.2.2.rank else f.2.2.rank ≤ t.rank) := by
  unfold plug1
  split
  · simp only [Lean]; constructor
    · rintro ⟨a, b, c⟩; exact ⟨c, b, a⟩
    · rintro ⟨a, b, c⟩; exact ⟨c, b, a⟩
  · simp only [Lean]; constructor
    · rintro ⟨a, b, c⟩; exact ⟨b, c, a⟩
    · rintro ⟨a, b, c⟩; exact ⟨c, a, b⟩
theorem lean_plug : ∀ (P : List Fr) (t : BT), Lean (plug P t) ↔ Lean t ∧ LeanP P t.rank
  | [], t => by simp [plug, LeanP]
  | f :: P, t => by
    show Lean (plug P (plug1 f t)) ↔ _
    rw [lean_plug P, lean_plug1, plug1_rank]
    simp only [LeanP]
    constructor
    · rintro ⟨⟨a, b, c⟩, d⟩; exact ⟨a, b, c, d⟩
    · rintro ⟨a, b, c, d⟩; exact ⟨⟨a, b, c⟩, d⟩
/-- From a thing on upwards all are settled, until a rank is what it was. -/
def mendT : List Fr → Nat → Nat → BT → BT → BT
  | [], _, x, l, r => settleT x l r
  | f :: P, was, x, l, r =>
    if (settleT x l r).rank = was then plug (f :: P) (settleT x l r)
    else if f.2.1 then mendT P (upRank f was) f.1 f.2.2 (settleT x l r) else mendT P (upRank f was) f.1 (settleT x l r) f.2.2
theorem mend_nodes : ∀ (P : List Fr) (was x : Nat) (l r : BT), (mendT P was x l r).nodes.Perm (plug P (.node x l r)).nodes
  | [], was, x, l, r => settle_nodes x l r
  | f :: P, was, x, l, r => by
    have h0 : (plug1 f (settleT x l r)).nodes.Perm (plug1 f (.node x l r)).nodes :=
      (plug1_nodes f _).trans ((List.Perm.cons _ ((settle_nodes x l r).append_right _)).trans (plug1_nodes f (.node x l r)).symm)
    have h1 : (plug P (plug1 f (settleT x l r))).nodes.Perm (plug P (plug1 f (.node x l r))).nodes :=
      (plug_nodes P _).trans ((h0.append_right _).trans (plug_nodes P _).symm)
    unfold mendT
    split
    · exact h1
    · split
      · rename_i hs
        have e : plug1 f (settleT x l r) = .node f.1 f.2.2 (settleT x l r) := by unfold plug1; rw [if_pos hs]
        rw [e] at h1
        exact (mend_nodes P _ _ _ _).trans h1
      · rename_i hs
        have e : plug1 f (settleT x l r) = .node f.1 (settleT x l r) f.2.2 := by unfold plug1; rw [if_neg hs]
        rw [e] at h1
        exact (mend_nodes P _ _ _ _).trans h1
theorem mend_root : ∀ (P : List Fr) (was x : Nat) (l r : BT), (mendT P was x l r).root = (plug P (.node x l r)).root
  | [], was, x, l, r => settle_root x l r
  | f :: P, was, x, l, r => by
    have h1 := plug_rootc f P (settleT x l r) (.node x l r)
    unfold mendT
    split
    · exact h1
    · split
      · rename_i hs
        have e : plug1 f (settleT x l r) = .node f.1 f.2.2 (settleT x l r) := by unfold plug1; rw [if_pos hs]
        unfold plug at h1
        rw [e] at h1
        exact (mend_root P _ _ _ _).trans h1
      · rename_i hs
        have e : plug1 f (settleT x l r) = .node f.1 (settleT x l r) f.2.2 := by unfold plug1; rw [if_neg hs]
        unfold plug at h1
        rw [e] at h1
        exact (mend_root P _ _ _ _).trans h1
theorem mend_heap {A : NS} : ∀ (P : List Fr) (was x : Nat) (l r : BT), Heap A (plug P (.node x l r)) → Heap A (mendT P was x l r)
  | [], was, x, l, r, h => settle_heap h.1 h.2.1 h.2.2.1 h.2.2.2
  | f :: P, was, x, l, r, h => by
    have h0 := heap_sub h
    have h1 : Heap A (plug (f :: P) (settleT x l r)) := heap_plug h (settle_heap h0.1 h0.2.1 h0.2.2.1 h0.2.2.2) (fun y hy => (settle_nodes x l r).mem_iff.1 hy)
    unfold mendT
    split
    · exact h1
    · split
      · rename_i hs
        have e : plug1 f (settleT x l r) = .node f.1 f.2.2 (settleT x l r) := by unfold plug1; rw [if_pos hs]
        unfold plug at h1
        rw [e] at h1
        exact mend_heap P _ _ _ _ h1
      · rename_i hs
        have e : plug1 f (settleT x l r) = .node f.1 (settleT x l r) f.2.2 := by unfold plug1; rw [if_neg hs]
        unfold plug at h1
        rw [e] at h1
        exact mend_heap P _ _ _ _ h1
theorem mend_lean : ∀ (P : List Fr) (was x : Nat) (l r : BT), Lean l → Lean r → LeanP P was → Lean (mendT P was x l r)
  | [], was, x, l, r, hl, hr, _ => settle_lean hl hr
  | f :: P, was, x, l, r, hl, hr, h => by
    unfold mendT
    split
    · rename_i e
      exact (lean_plug _ _).2 ⟨settle_lean hl hr, by rw [e]; exact h⟩
    · split
      · exact mend_lean P _ _ _ _ h.1 (settle_lean hl hr) h.2.2
      · exact mend_lean P _ _ _ _ (settle_lean hl hr) h.1 h.2.2
end Go.Proofs.Ytechoojcgdjcdaa

set_option linter.unusedVariables false
set_option linter.unusedSimpArgs false
namespace Go.Proofs.Ytechoojcgdjcdaa

theorem lt3_same {A A' : NS} {a b : Nat} (ha : A'.c a = A.c a) (hb : A'.c b = A.c b) : lt3 A' a b ↔ lt3 A a b := by unfold lt3; rw [ha, hb]
theorem Heap.frame {A A' : NS} : ∀ {t : BT}, Heap A t → (∀ x, x ∈ t.nodes → A'.c x = A.c x) → Heap A' t
  | .nil, _, _ => trivial
  | .node x l r, h, hs => by
    have hx := hs x (by simp [BT.nodes])
    refine ⟨fun y hy => (lt3_same hx (hs y (by simp [BT.nodes, hy]))).2 (h.1 y hy), fun y hy => (lt3_same hx (hs y (by simp [BT.nodes, hy]))).2 (h.2.1 y hy), h.2.2.1.frame (fun y hy => hs y (by simp [BT.nodes, hy])), h.2.2.2.frame (fun y hy => hs y (by simp [BT.nodes, hy]))⟩
structure TrI (A : NS) (S : TS) (tops : List Int) (tr : Nat → BT) : Prop where
  top : ∀ h, h < A.hs.length → tops.getD h 0 = (tr h).root
  isT : ∀ h, IsT S (-1) (tr h).root (tr h)
  mem : ∀ h x, x ∈ (tr h).nodes ↔ 0 < h ∧ x < A.cs.length ∧ (A.c x).i = h
  nd : ∀ h, (tr h).nodes.Nodup
  heap : ∀ h, Heap A (tr h)
  free : ∀ x, x < A.cs.length → (A.c x).i = 0 → S.l x = -1 ∧ S.r x = -1 ∧ S.u x = -1
theorem TrI.next {A A' : NS} {S S' : TS} {tops tops' : List Int} {tr tr' : Nat → BT} (h : TrI A S tops tr) (hc : A'.cs.length = A.cs.length) (keep : Nat → Prop)
    (k1 : ∀ g, keep g → tr' g = tr g ∧ ∀ x, x ∈ (tr g).nodes → S.at S' x ∧ A'.c x = A.c x)
    (k2 : ∀ g, keep g → ∀ x, x < A.cs.length → 0 < g → ((A'.c x).i = g ↔ (A.c x).i = g))
    (n1 : ∀ g, ¬ keep g → IsT S' (-1) (tr' g).root (tr' g) ∧ (tr' g).nodes.Nodup ∧ Heap A' (tr' g) ∧ ∀ x, x ∈ (tr' g).nodes ↔ 0 < g ∧ x < A.cs.length ∧ (A'.c x).i = g)
    (tp : ∀ g, g < A'.hs.length → tops'.getD g 0 = (tr' g).root)
    (fr : ∀ x, x < A.cs.length → (A'.c x).i = 0 → S'.l x = -1 ∧ S'.r x = -1 ∧ S'.u x = -1) : TrI A' S' tops' tr' := by
  refine ⟨tp, fun g => ?_, fun g x => ?_, fun g => ?_, fun g => ?_, fun x hx => fr x (by omega)⟩
  · by_cases hk : keep g
    · obtain ⟨e, hs⟩ := k1 g hk
      rw [e]; exact (h.isT g).frame (fun y hy => (hs y hy).1)
    · exact (n1 g hk).1
  · rw [hc]
    by_cases hk : keep g
    · rw [(k1 g hk).1, h.mem g x]
      constructor
      · rintro ⟨a, b, c⟩; exact ⟨a, b, (k2 g hk x b a).2 c⟩
      · rintro ⟨a, b, c⟩; exact ⟨a, b, (k2 g hk x b a).1 c⟩
    · exact (n1 g hk).2.2.2 x
  · by_cases hk : keep g
    · rw [(k1 g hk).1]; exact h.nd g
    · exact (n1 g hk).2.1
  · by_cases hk : keep g
    · obtain ⟨e, hs⟩ := k1 g hk
      rw [e]; exact (h.heap g).frame (fun y hy => (hs y hy).2)
    · exact (n1 g hk).2.2.1
def single (x : Nat) : BT := .node x .nil .nil
theorem single_isT {S : TS} {x : Nat} (h : S.l x = -1 ∧ S.r x = -1 ∧ S.u x = -1) : IsT S (-1) (single x).root (single x) := ⟨rfl, h.2.2, h.1, h.2.1⟩
theorem TrI.out {A : NS} {S : TS} {tops : List Int} {tr : Nat → BT} (h : TrI A S tops tr) {x g : Nat} (hx : (A.c x).i = 0) : x ∉ (tr g).nodes := fun hm => by
  have := (h.mem g x).1 hm
  omega
/-- A new one's tree, with what it is merged into. -/
theorem TrI.put {A : NS} {S S' : TS} {tops : List Int} {tr : Nat → BT} (h : TrI A S tops tr) (ok : A.Ok) (hn : tops.length = A.hs.length) {g x : Nat} {k s : Int} (hB : putB A g x = true) {t' : BT}
    (hT : IsT S' (-1) t'.root t') (hp : t'.nodes.Perm ((tr g).nodes ++ [x])) (hH : Heap (putN A g x k s) t') (hs : ∀ y, y ∉ (tr g).nodes ++ [x] → S.at S' y) :
    TrI (putN A g x k s) S' (tops.set g t'.root) (fun q => if q = g then t' else tr q) := by
  obtain ⟨b1, b2, b3⟩ := (putB_iff _ _ _).1 hB
  have b4 := (hasN_iff _ _).1 b1
  have hx : x < A.cs.length := by have := (slotN_iff _ _).1 b2; omega
  have h0 : (A.c x).i = 0 := by
    have := (ok.nat x hx).1
    have h3 : ¬ (0 < (A.c x).i) := fun h' => by rw [(inN_nat A x).2 ⟨hx, h'⟩] at b3; cases b3
    omega
  have hc : ∀ y, (putN A g x k s).c y = if y = x then ⟨g, k, s⟩ else A.c y := fun y => by
    unfold putN; rw [if_pos hB, Int.toNat_natCast, c_with]
    by_cases e : y = x
    · rw [if_pos ⟨e, hx⟩, if_pos e]
    · rw [if_neg (fun h => e h.1), if_neg e]
  have hl : (putN A g x k s).cs.length = A.cs.length := by unfold putN; rw [if_pos hB, len_with]
  have hh : (putN A g x k s).hs = A.hs := by unfold putN; rw [if_pos hB]; rfl
  have hgn : g < A.hs.length := by omega
  refine h.next hl (fun q => q ≠ g) (fun q hq => ⟨if_neg hq, fun y hy => ?_⟩) (fun q hq y hy hq0 => ?_) (fun q hq => ?_) (fun q hq => ?_) (fun y hy hy0 => ?_)
  · have hyx : y ≠ x := fun e => h.out (g := q) h0 (by rw [← e]; exact hy)
    have hyg : y ∉ (tr g).nodes := fun hm => by
      have a1 := (h.mem g y).1 hm
      have a2 := (h.mem q y).1 hy
      omega
    exact ⟨hs y (by simp [hyx, hyg]), by rw [hc, if_neg hyx]⟩
  · rw [hc]
    by_cases e : y = x
    · rw [if_pos e, e]; simp only; omega
    · rw [if_neg e]
  · have hq' : q = g := Classical.not_not.1 hq
    subst hq'
    rw [if_pos rfl]
    refine ⟨hT, hp.nodup_iff.2 ?_, hH, fun y => ?_⟩
    · rw [List.nodup_append]
      refine ⟨h.nd q, by simp, fun a ha b hb e => ?_⟩
      simp only [List.mem_singleton] at hb
      exact h.out (g := q) h0 (by rw [← hb, ← e]; exact ha)
    · rw [hp.mem_iff, List.mem_append, List.mem_singleton, h.mem q y, hc]
      by_cases e : y = x
      · rw [if_pos e]
        simp only [e, or_true, true_iff]
        exact ⟨by omega, hx, trivial⟩
      · rw [if_neg e]
        simp only [e, or_false]
  · rw [hh] at hq
    by_cases e : q = g
    · rw [if_pos e, e, List.getD_eq_getElem?_getD, List.getElem?_set, if_pos rfl, if_pos (by omega)]; rfl
    · rw [if_neg e, List.getD_eq_getElem?_getD, List.getElem?_set, if_neg (fun h => e h.symm), ← List.getD_eq_getElem?_getD]; exact h.top q hq
  · rw [hc] at hy0
    by_cases e : y = x
    · rw [if_pos e] at hy0; simp only at hy0; omega
    · rw [if_neg e] at hy0
      have hyn : y ∉ (tr g).nodes ++ [x] := by
        simp only [List.mem_append, List.mem_singleton, e, or_false]
        exact h.out hy0
      have a1 := h.free y hy hy0
      have a2 := hs y hyn
      exact ⟨a2.1.trans a1.1, a2.2.1.trans a1.2.1, a2.2.2.trans a1.2.2⟩
end Go.Proofs.Ytechoojcgdjcdaa

set_option linter.unusedVariables false
set_option linter.unusedSimpArgs false
namespace Go.Proofs.Ytechoojcgdjcdaa
open Go Go.RowKit

theorem lt3_lower {A A' : NS} {x y : Nat} (h : lt3 A x y) (hy : A'.c y = A.c y) (hx : (A'.c x).k < (A.c x).k ∨ (A'.c x).k = (A.c x).k ∧ (A'.c x).s ≤ (A.c x).s) : lt3 A' x y := by
  unfold lt3 at *; rw [hy]; omega
theorem lowB_le {A : NS} {x k s : Int} (h : lowB A x k s = true) : k < (A.c x.toNat).k ∨ k = (A.c x.toNat).k ∧ s ≤ (A.c x.toNat).s := by
  unfold lowB lessE at h
  simp only [Bool.and_eq_true, Bool.not_eq_true'] at h
  have h2 := h.2
  split at h2
  · simp at h2; omega
  · simp at h2; omega
theorem low_c {A : NS} {x : Nat} {k s : Int} (hB : lowB A x k s = true) (hx : x < A.cs.length) (y : Nat) : (lowN A x k s).c y = if y = x then ⟨(A.c x).i, k, s⟩ else A.c y := by
  unfold lowN; rw [if_pos hB, Int.toNat_natCast, c_with]
  by_cases e : y = x
  · rw [if_pos ⟨e, hx⟩, if_pos e]
  · rw [if_neg (fun h => e h.1), if_neg e]
theorem low_i {A : NS} {x : Nat} {k s : Int} (hB : lowB A x k s = true) (hx : x < A.cs.length) (y : Nat) : ((lowN A x k s).c y).i = (A.c y).i := by
  rw [low_c hB hx]; split
  · rename_i e; rw [e]
  · rfl
theorem low_len (A : NS) (x k s : Int) : (lowN A x k s).cs.length = A.cs.length := by unfold lowN; split; exact len_with _ _ _; rfl
theorem low_hs (A : NS) (x k s : Int) : (lowN A x k s).hs = A.hs := by unfold lowN; split <;> rfl
theorem low_heap {A : NS} {x : Nat} {k s : Int} (hB : lowB A x k s = true) (hx : x < A.cs.length) {l r : BT} (h : Heap A (.node x l r)) (hn : (BT.node x l r).nodes.Nodup) : Heap (lowN A x k s) (.node x l r) := by
  simp only [BT.nodes, List.nodup_cons, List.mem_append, not_or] at hn
  have hle := lowB_le hB
  rw [Int.toNat_natCast] at hle
  have hc := low_c hB hx
  have hy : ∀ y, y ≠ x → (lowN A x k s).c y = A.c y := fun y e => by rw [hc, if_neg e]
  have hxx : (lowN A x k s).c x = ⟨(A.c x).i, k, s⟩ := by rw [hc, if_pos rfl]
  refine ⟨fun y m => lt3_lower (h.1 y m) (hy y (fun e => hn.1.1 (by rw [← e]; exact m))) ?_, fun y m => lt3_lower (h.2.1 y m) (hy y (fun e => hn.1.2 (by rw [← e]; exact m))) ?_, h.2.2.1.frame (fun y m => hy y (fun e => hn.1.1 (by rw [← e]; exact m))), h.2.2.2.frame (fun y m => hy y (fun e => hn.1.2 (by rw [← e]; exact m)))⟩
  · rw [hxx]; exact hle
  · rw [hxx]; exact hle
/-- What is told of a nest's other heaps, when one heap's tree is another one of the same things. -/
theorem TrI.low {A : NS} {S S' : TS} {tops tops' : List Int} {tr : Nat → BT} (h : TrI A S tops tr) {g x : Nat} {k s : Int} (hB : lowB A x k s = true) (hx : x ∈ (tr g).nodes) {t' : BT}
    (hT : IsT S' (-1) t'.root t') (hp : t'.nodes.Perm (tr g).nodes) (hH : Heap (lowN A x k s) t') (hs : ∀ y, y ∉ (tr g).nodes → S.at S' y)
    (htp : ∀ q, q < A.hs.length → tops'.getD q 0 = if q = g then t'.root else tops.getD q 0) :
    TrI (lowN A x k s) S' tops' (fun q => if q = g then t' else tr q) := by
  have hm := (h.mem g x).1 hx
  have hc := low_c hB hm.2.1
  have hi := low_i hB hm.2.1
  refine h.next (low_len _ _ _ _) (fun q => q ≠ g) (fun q hq => ⟨if_neg hq, fun y hy => ?_⟩) (fun q hq y hy hq0 => ?_) (fun q hq => ?_) (fun q hq => ?_) (fun y hy hy0 => ?_)
  · have hyg : y ∉ (tr g).nodes := fun hm => by
      have a1 := (h.mem g y).1 hm
      have a2 := (h.mem q y).1 hy
      omega
    exact ⟨hs y hyg, by rw [hc, if_neg (fun e => hyg (by rw [e]; exact hx))]⟩
  · rw [hi]
  · have hq' : q = g := Classical.not_not.1 hq
    subst hq'
    rw [if_pos rfl]
    refine ⟨hT, hp.nodup_iff.2 (h.nd q), hH, fun y => ?_⟩
    rw [hp.mem_iff, h.mem q y, hi]
  · rw [low_hs] at hq
    rw [htp q hq]
    by_cases e : q = g
    · rw [if_pos e, if_pos e]
    · rw [if_neg e, if_neg e]; exact h.top q hq
  · rw [hi] at hy0
    have a1 := h.free y hy hy0
    have a2 := hs y (h.out hy0)
    exact ⟨a2.1.trans a1.1, a2.2.1.trans a1.2.1, a2.2.2.trans a1.2.2⟩
theorem drop_c {A : NS} {x : Nat} (hB : inN A x = true) (y : Nat) : (dropN A x).c y = if y = x then Cl.z else A.c y := by
  have hx := ((inN_nat A x).1 hB).1
  unfold dropN; rw [if_pos hB, Int.toNat_natCast, c_with]
  by_cases e : y = x
  · rw [if_pos ⟨e, hx⟩, if_pos e]
  · rw [if_neg (fun h => e h.1), if_neg e]
theorem drop_len (A : NS) (x : Int) : (dropN A x).cs.length = A.cs.length := by unfold dropN; split; exact len_with _ _ _; rfl
theorem drop_hs (A : NS) (x : Int) : (dropN A x).hs = A.hs := by unfold dropN; split <;> rfl
theorem TrI.del {A : NS} {S S' : TS} {tops tops' : List Int} {tr : Nat → BT} (h : TrI A S tops tr) {g x : Nat} (hx : x ∈ (tr g).nodes) {t' : BT}
    (hT : IsT S' (-1) t'.root t') (hp : (x :: t'.nodes).Perm (tr g).nodes) (hH : Heap A t') (hs : ∀ y, y ∉ (tr g).nodes → S.at S' y) (hf : S'.l x = -1 ∧ S'.r x = -1 ∧ S'.u x = -1)
    (htp : ∀ q, q < A.hs.length → tops'.getD q 0 = if q = g then t'.root else tops.getD q 0) :
    TrI (dropN A x) S' tops' (fun q => if q = g then t' else tr q) := by
  have hm := (h.mem g x).1 hx
  have hin : inN A (x : Int) = true := (inN_nat A x).2 ⟨hm.2.1, by omega⟩
  have hc := drop_c hin
  have hnd : (x :: t'.nodes).Nodup := hp.nodup_iff.2 (h.nd g)
  have hxt : x ∉ t'.nodes := (List.nodup_cons.1 hnd).1
  refine h.next (drop_len _ _) (fun q => q ≠ g) (fun q hq => ⟨if_neg hq, fun y hy => ?_⟩) (fun q hq y hy hq0 => ?_) (fun q hq => ?_) (fun q hq => ?_) (fun y hy hy0 => ?_)
  · have hyg : y ∉ (tr g).nodes := fun hm => by
      have a1 := (h.mem g y).1 hm
      have a2 := (h.mem q y).1 hy
      omega
    exact ⟨hs y hyg, by rw [hc, if_neg (fun e => hyg (by rw [e]; exact hx))]⟩
  · rw [hc]
    by_cases e : y = x
    · rw [if_pos e, e]
      show (0 : Int) = (q : Int) ↔ _
      omega
    · rw [if_neg e]
  · have hq' : q = g := Classical.not_not.1 hq
    subst hq'
    rw [if_pos rfl]
    refine ⟨hT, (List.nodup_cons.1 hnd).2, hH.frame (fun y hy => by rw [hc, if_neg (fun e => hxt (by rw [← e]; exact hy))]), fun y => ?_⟩
    have e1 := hp.mem_iff (a := y)
    rw [List.mem_cons, h.mem q y] at e1
    rw [hc]
    by_cases e : y = x
    · rw [if_pos e, e]
      refine ⟨fun hh => absurd hh hxt, fun hh => ?_⟩
      have : (0 : Int) = (q : Int) := hh.2.2
      omega
    · rw [if_neg e, ← e1]; simp [e]
  · rw [drop_hs] at hq
    rw [htp q hq]
    by_cases e : q = g
    · rw [if_pos e, if_pos e]
    · rw [if_neg e, if_neg e]; exact h.top q hq
  · rw [hc] at hy0
    by_cases e : y = x
    · rw [e]; exact hf
    · rw [if_neg e] at hy0
      have a1 := h.free y hy hy0
      have a2 := hs y (h.out hy0)
      exact ⟨a2.1.trans a1.1, a2.2.1.trans a1.2.1, a2.2.2.trans a1.2.2⟩
theorem join_c {A : NS} {a b : Int} (hj : joinB A a b = true) (x : Nat) : (joinN A a b).c x = ⟨if (A.c x).i = b ∧ x < A.cs.length then a else (A.c x).i, (A.c x).k, (A.c x).s⟩ := by
  rw [joinN_c hj]; split <;> rfl
theorem join_lt3 {A : NS} {a b : Int} (hj : joinB A a b = true) (x y : Nat) : lt3 (joinN A a b) x y ↔ lt3 A x y := by
  unfold lt3; rw [join_c hj, join_c hj]
theorem join_heap {A : NS} {a b : Int} (hj : joinB A a b = true) : ∀ {t : BT}, Heap A t → Heap (joinN A a b) t
  | .nil, _ => trivial
  | .node x l r, h => ⟨fun y hy => (join_lt3 hj x y).2 (h.1 y hy), fun y hy => (join_lt3 hj x y).2 (h.2.1 y hy), join_heap hj h.2.2.1, join_heap hj h.2.2.2⟩
theorem TrI.join {A : NS} {S S' : TS} {tops tops' : List Int} {tr : Nat → BT} (h : TrI A S tops tr) {a b : Nat} (hj : joinB A a b = true) {t' : BT}
    (hT : IsT S' (-1) t'.root t') (hp : t'.nodes.Perm ((tr a).nodes ++ (tr b).nodes)) (hH : Heap (joinN A a b) t') (hs : ∀ y, y ∉ (tr a).nodes ++ (tr b).nodes → S.at S' y)
    (htp : ∀ q, q < A.hs.length → tops'.getD q 0 = if q = a then t'.root else if q = b then -1 else tops.getD q 0) :
    TrI (joinN A a b) S' tops' (fun q => if q = a then t' else if q = b then .nil else tr q) := by
  obtain ⟨j1, j2, j3⟩ := (joinB_iff _ _ _).1 hj
  have a1 := (hasN_iff _ _).1 j1
  have a2 := (hasN_iff _ _).1 j2
  have hc : ∀ y, ((joinN A a b).c y).i = if (A.c y).i = b ∧ y < A.cs.length then (a : Int) else (A.c y).i := fun y => by rw [join_c hj]
  have hne : a ≠ b := fun e => j3 (by rw [e])
  have hlen : (joinN A a b).hs.length = A.hs.length := by unfold joinN; rw [if_pos hj]; simp
  refine h.next (joinN_len _ _ _) (fun q => q ≠ a ∧ q ≠ b) (fun q hq => ⟨by rw [if_neg hq.1, if_neg hq.2], fun y hy => ?_⟩) (fun q hq y hy hq0 => ?_) (fun q hq => ?_) (fun q hq => ?_) (fun y hy hy0 => ?_)
  · have c0 := (h.mem q y).1 hy
    have hya : y ∉ (tr a).nodes := fun hm => by
      have a1 := (h.mem a y).1 hm
      omega
    have hyb : y ∉ (tr b).nodes := fun hm => by
      have a1 := (h.mem b y).1 hm
      omega
    refine ⟨hs y (by simp [hya, hyb]), ?_⟩
    rw [join_c hj, if_neg (by omega)]
  · rw [hc]; split <;> omega
  · by_cases e : q = a
    · rw [if_pos e]
      refine ⟨hT, hp.nodup_iff.2 ?_, hH, fun y => ?_⟩
      · rw [List.nodup_append]
        refine ⟨h.nd a, h.nd b, fun x hx y hy e2 => ?_⟩
        have b1 := (h.mem a x).1 hx
        have b2 := (h.mem b y).1 hy
        rw [e2] at b1
        omega
      · rw [hp.mem_iff, List.mem_append, h.mem a y, h.mem b y, hc]; subst e; split <;> omega
    · have e2 : q = b := by omega
      rw [if_neg e, if_pos e2]
      refine ⟨rfl, by simp [BT.nodes], trivial, fun y => ?_⟩
      rw [hc]
      simp only [BT.nodes, List.not_mem_nil, false_iff]
      split <;> omega
  · rw [hlen] at hq
    rw [htp q hq]
    by_cases e : q = a
    · rw [if_pos e, if_pos e]
    · rw [if_neg e, if_neg e]
      by_cases e2 : q = b
      · rw [if_pos e2, if_pos e2]; rfl
      · rw [if_neg e2, if_neg e2]; exact h.top q hq
  · have hy1 : (A.c y).i = 0 := by rw [hc] at hy0; split at hy0 <;> omega
    have a1 := h.free y hy hy1
    have a2 := hs y (by simp [h.out (g := a) hy1, h.out (g := b) hy1])
    exact ⟨a2.1.trans a1.1, a2.2.1.trans a1.2.1, a2.2.2.trans a1.2.2⟩
instance : Nonempty (List Fr × BT × BT) := ⟨([], .nil, .nil)⟩
/-- Where a thing is in its tree. -/
noncomputable def pathOf (t : BT) (x : Nat) : List Fr × BT × BT := Classical.epsilon fun q : List Fr × BT × BT => t = plug q.1 (.node x q.2.1 q.2.2)
theorem pathOf_eq {t : BT} {x : Nat} (h : x ∈ t.nodes) : t = plug (pathOf t x).1 (.node x (pathOf t x).2.1 (pathOf t x).2.2) := by
  obtain ⟨P, l, r, e⟩ := find_node h
  unfold pathOf
  exact Classical.epsilon_spec (p := fun q : List Fr × BT × BT => t = plug q.1 (.node x q.2.1 q.2.2)) ⟨(P, l, r), e⟩
end Go.Proofs.Ytechoojcgdjcdaa

set_option linter.unusedVariables false
set_option linter.unusedSimpArgs false
namespace Go.Proofs.Ytechoojcgdjcdaa
open Go Go.RowKit

theorem plug_ctx_mem {P : List Fr} {t : BT} {y : Nat} : y ∈ (plug P t).nodes ↔ y ∈ t.nodes ∨ y ∈ ctxN P := by
  rw [(plug_nodes P t).mem_iff, List.mem_append]
def cutV (f : Fr) (t : BT) : Int := if t.root = -1 then 0 else (f.1 : Int)
section
variable {w : World} {bt ba n : Nat} {S : TS}
theorem tcut_any (h : TreesAt w bt ba n S) {f : Fr} {P : List Fr} {t : BT} (hT : IsT S (-1) (plug (f :: P) t).root (plug (f :: P) t)) (hn : (plug (f :: P) t).nodes.Nodup) (hlt : ∀ y, y ∈ (plug (f :: P) t).nodes → y < n) :
    Calls Try.prog 88 #[.pointer (some ⟨bt, 0, none⟩), .int .i64 t.root] w fun e w' => e = .returned (.tuple #[.int .i64 (cutV f t), .bool (tb t.root)]) ∧ Upd [ba] w w' ∧
      ∃ S', TreesAt w' bt ba n S' ∧ IsT S' (-1) t.root t ∧ IsT S' (-1) (plug (f :: P) .nil).root (plug (f :: P) .nil) ∧ ∀ y, y ∉ (plug (f :: P) t).nodes → S.at S' y := by
  by_cases ht : t = .nil
  · subst ht
    refine (cut_no bt ba n S (-1) w h (by unfold upOf; simp)).mono ?_
    rintro e w' ⟨rfl, rfl⟩
    exact ⟨by simp [cutV, BT.root, tb], Upd.refl _ _, S, h, rfl, hT, fun y _ => ⟨rfl, rfl, rfl⟩⟩
  · obtain ⟨c1, c2, c3⟩ := cut_plug hT ht hn
    obtain ⟨m1, m2⟩ := root_mem ht
    have hp := (isT_plug _ _).1 hT
    have hu : S.u t.root.toNat = (f.1 : Int) := by
      cases t with
      | nil => exact absurd rfl ht
      | node y a b => exact hp.1.2.1
    have hf : f.1 < n := hlt _ (plug_ctx_mem.2 (Or.inr (by simp [ctxN])))
    have hr : t.root.toNat < n := hlt _ (plug_ctx_mem.2 (Or.inl m1))
    have hne : t.root ≠ -1 := by omega
    have k := cut_yes bt ba n S f.1 t.root.toNat w h hf hr hu
    rw [← m2] at k
    refine k.mono ?_
    rintro e w' ⟨rfl, h', hu'⟩
    refine ⟨by unfold cutV tb; rw [if_neg hne]; simp [hne], hu', _, h', c1, c2, fun y hy => c3 y (fun e => hy ?_) (fun e => hy ?_)⟩
    · rw [e]; exact plug_ctx_mem.2 (Or.inr (by simp [ctxN]))
    · rw [e]; exact plug_ctx_mem.2 (Or.inl m1)
theorem thang_any (h : TreesAt w bt ba n S) {f : Fr} {P : List Fr} {m : BT} (hT : IsT S (-1) (plug (f :: P) .nil).root (plug (f :: P) .nil)) (hM : IsT S (-1) m.root m) (hm : m ≠ .nil) (hn : (m.nodes ++ ctxN (f :: P)).Nodup) (hlt : ∀ y, y ∈ m.nodes ++ ctxN (f :: P) → y < n) :
    Calls Try.prog 89 #[.pointer (some ⟨bt, 0, none⟩), .int .i64 (f.1 : Int), .int .i64 m.root, .bool f.2.1] w fun e w' => e = .returned (.bool true) ∧ Upd [ba] w w' ∧
      ∃ S', TreesAt w' bt ba n S' ∧ IsT S' (-1) (plug (f :: P) m).root (plug (f :: P) m) ∧ ∀ y, y ∉ m.nodes ++ ctxN (f :: P) → S.at S' y := by
  obtain ⟨c1, c2⟩ := hang_plug hT hM hm hn
  obtain ⟨m1, m2⟩ := root_mem hm
  have hp := (isT_plug _ _).1 hT
  have hk : S.kid f.2.1 f.1 = -1 := hp.2.1
  have hu : S.u m.root.toNat = -1 := by
    cases m with
    | nil => exact absurd rfl hm
    | node y a b => exact hM.2.1
  have hf : f.1 < n := hlt _ (by simp [ctxN])
  have hr : m.root.toNat < n := hlt _ (by simp [m1])
  have hne : f.1 ≠ m.root.toNat := fun e => by
    rw [List.nodup_append] at hn
    exact hn.2.2 _ m1 f.1 (by simp [ctxN]) e.symm
  have k := hang_yes bt ba n S f.1 m.root.toNat f.2.1 w h hf hr hne hu hk
  rw [← m2] at k
  refine k.mono ?_
  rintro e w' ⟨rfl, h', hu'⟩
  refine ⟨rfl, hu', _, h', c1, fun y hy => c2 y (fun e => hy ?_) (fun e => hy ?_)⟩
  · rw [e]; simp [ctxN]
  · rw [e]; simp [m1]
theorem tup_any (h : TreesAt w bt ba n S) {P : List Fr} {x : Nat} {l r : BT} (hT : IsT S (-1) (plug P (.node x l r)).root (plug P (.node x l r))) (hx : x < n) :
    Calls Try.prog 103 #[.pointer (some ⟨bt, 0, none⟩), .int .i64 (x : Int)] w fun e w' => e = .returned (.tuple #[.int .i64 (tv (upP P)), .bool (tb (upP P))]) ∧ ∃ k, w' = w.drewN k := by
  have k := up_any bt ba n S (x : Int) w h
  have e : upOf n S (x : Int) = upP P := by
    unfold upOf; rw [if_pos (by omega), Int.toNat_natCast]
    exact ((isT_plug _ _).1 hT).1.2.1
  rw [e] at k
  exact k
theorem tleft_any (h : TreesAt w bt ba n S) {p : Int} {x : Nat} {l r : BT} (hT : IsT S p x (.node x l r)) (hx : x < n) :
    Calls Try.prog 102 #[.pointer (some ⟨bt, 0, none⟩), .int .i64 (x : Int)] w fun e w' => e = .returned (.tuple #[.int .i64 (tv l.root), .bool (tb l.root)]) ∧ ∃ k, w' = w.drewN k := by
  have e : kidOf n S (x : Int) false = l.root := by
    unfold kidOf TS.kid; rw [if_pos (by omega)]; simp only [Int.toNat_natCast]
    exact hT.2.2.1.root
  have k := left_any bt ba n S (x : Int) w h
  rw [e] at k
  exact k
theorem tright_any (h : TreesAt w bt ba n S) {p : Int} {x : Nat} {l r : BT} (hT : IsT S p x (.node x l r)) (hx : x < n) :
    Calls Try.prog 87 #[.pointer (some ⟨bt, 0, none⟩), .int .i64 (x : Int)] w fun e w' => e = .returned (.tuple #[.int .i64 (tv r.root), .bool (tb r.root)]) ∧ ∃ k, w' = w.drewN k := by
  have e : kidOf n S (x : Int) true = r.root := by
    unfold kidOf TS.kid; rw [if_pos (by omega)]; simp only [if_true, Int.toNat_natCast]
    exact hT.2.2.2.root
  have k := right_any bt ba n S (x : Int) w h
  rw [e] at k
  exact k
/-- On which side of that above it a thing hangs. -/
theorem tside_any (h : TreesAt w bt ba n S) {f : Fr} {P : List Fr} {x : Nat} {l r : BT} (hT : IsT S (-1) (plug (f :: P) (.node x l r)).root (plug (f :: P) (.node x l r))) (hn : (plug (f :: P) (.node x l r)).nodes.Nodup) (hf : f.1 < n) :
    ∃ z : Int, (z == (x : Int)) = f.2.1 ∧ Calls Try.prog 87 #[.pointer (some ⟨bt, 0, none⟩), .int .i64 (f.1 : Int)] w fun e w' => e = .returned (.tuple #[.int .i64 (tv z), .bool (tb z)]) ∧ ∃ k, w' = w.drewN k := by
  refine ⟨S.r f.1, ?_, ?_⟩
  · have hp := (isT_plug _ _).1 hT
    obtain ⟨q1, q2, _, _⟩ := hp.2
    unfold TS.kid at q1 q2
    cases hs : f.2.1
    · rw [hs] at q1 q2
      simp only [Bool.not_false, if_true] at q2
      have e2 := q2.root
      have hx : x ∉ f.2.2.nodes := fun hm => by
        have h1 := (plug_nodes (f :: P) (.node x l r)).nodup_iff.1 hn
        rw [List.nodup_append] at h1
        exact h1.2.2 x (by simp [BT.nodes]) x (by simp [ctxN, hm]) rfl
      have : S.r f.1 ≠ (x : Int) := fun e => by
        rw [e2] at e
        by_cases hnil : f.2.2 = .nil
        · rw [hnil] at e; have e : (-1 : Int) = x := e; omega
        · have := (root_mem hnil).1
          rw [e] at this
          exact hx this
      simpa using this
    · rw [hs] at q1
      simp only [if_true] at q1
      rw [q1]; simp [BT.root]
  · have k := right_any bt ba n S (f.1 : Int) w h
    have e : kidOf n S (f.1 : Int) true = S.r f.1 := by unfold kidOf TS.kid; rw [if_pos (by omega)]; simp
    rw [e] at k
    exact k
end
end Go.Proofs.Ytechoojcgdjcdaa
