/-
  Cutting and hanging, told of trees; what holds while two trees are merged. No program in sight. Conditions: those of each lemma.
-/
import Derived.Test.YtechoojcgdjcdaaLf2
set_option linter.unusedVariables false
set_option linter.unusedSimpArgs false
namespace Go.Proofs.Ytechoojcgdjcdaa
open Go Go.RowKit

theorem BT.root_cast {t : BT} (h : t ≠ .nil) : t.root = (t.root.toNat : Int) := (root_mem h).2
/-- The right child comes off. -/
def cutR (S : TS) (x : Nat) (r : BT) : TS := match r with | .nil => S | .node y _ _ => cutS S x y
theorem cutR_tree {S : TS} {p : Int} {x : Nat} {l r : BT} (h : IsT S p x (.node x l r)) (hn : (BT.node x l r).nodes.Nodup) :
    IsT (cutR S x r) p x (.node x l .nil) ∧ IsT (cutR S x r) (-1) r.root r ∧ ∀ y, y ≠ x → y ∉ r.nodes → S.at (cutR S x r) y := by
  obtain ⟨_, hu, hl, hr⟩ := h
  simp only [BT.nodes, List.nodup_cons, List.mem_append, not_or, List.nodup_append] at hn
  cases r with
  | nil => exact ⟨⟨rfl, hu, hl, hr⟩, rfl, fun y _ _ => ⟨rfl, rfl, rfl⟩⟩
  | node y a b =>
    have hxy : x ≠ y := fun e => hn.1.2 (by rw [e]; simp [BT.nodes])
    have hry : S.r x = y := hr.1
    have e : cutR S x (.node y a b) = cutS S x y := rfl
    rw [e]
    have hl' : ∀ z, (cutS S x y).l z = S.l z := fun z => by unfold cutS TS.setKid TS.setUp; rw [decide_eq_true hry]; rfl
    have hr' : ∀ z, (cutS S x y).r z = if z = x then -1 else S.r z := fun z => by unfold cutS TS.setKid TS.setUp; rw [decide_eq_true hry]; rfl
    have hu' : ∀ z, (cutS S x y).u z = if z = y then -1 else S.u z := fun z => by unfold cutS TS.setKid TS.setUp; rw [decide_eq_true hry]; rfl
    refine ⟨⟨rfl, by rw [hu', if_neg hxy]; exact hu, ?_, by rw [hr', if_pos rfl]; rfl⟩, ?_, fun z h1 h2 => ⟨hl' z, by rw [hr', if_neg h1], by rw [hu', if_neg (fun e => h2 (by rw [e]; simp [BT.nodes]))]⟩⟩
    · rw [hl']
      refine hl.frame (fun z hz => ⟨hl' z, by rw [hr', if_neg (fun e => hn.1.1 (by rw [← e]; exact hz))], by rw [hu', if_neg (fun e => hn.2.2.2 z hz y (by simp [BT.nodes]) e)]⟩)
    · have h0 : IsT S x ((BT.node y a b).root) (.node y a b) := by rw [← hr.root]; exact hr
      refine h0.hung (p' := -1) hn.2.2.1 (fun z hz => ⟨hl' z, by rw [hr', if_neg (fun e => hn.1.2 (by rw [← e]; exact hz))], fun hzr => by rw [hu', if_neg (fun e => hzr (by rw [e]; simp [BT.root]))]⟩) (fun _ => by rw [hu']; simp [BT.root])
/-- A tree comes below, to the right. -/
theorem hang_tree {S : TS} {p : Int} {x : Nat} {l m : BT} (h : IsT S p x (.node x l .nil)) (hm : IsT S (-1) m.root m) (hne : m ≠ .nil) (hn : (BT.node x l m).nodes.Nodup) :
    IsT (hangS S x m.root true) p x (.node x l m) ∧ ∀ y, y ≠ x → y ∉ m.nodes → S.at (hangS S x m.root true) y := by
  obtain ⟨_, hu, hl, _⟩ := h
  simp only [BT.nodes, List.nodup_cons, List.mem_append, not_or, List.nodup_append] at hn
  obtain ⟨r1, r2⟩ := root_mem hne
  have hl' : ∀ z, (hangS S x m.root true).l z = S.l z := fun z => by unfold hangS TS.setKid TS.setUp; rfl
  have hr' : ∀ z, (hangS S x m.root true).r z = if z = x then m.root else S.r z := fun z => by unfold hangS TS.setKid TS.setUp; simp
  have hu' : ∀ z, (hangS S x m.root true).u z = if z = m.root.toNat then (x : Int) else S.u z := fun z => by unfold hangS TS.setKid TS.setUp; simp
  have hxm : x ≠ m.root.toNat := fun e => hn.1.2 (by rw [e]; exact r1)
  refine ⟨⟨rfl, by rw [hu', if_neg hxm]; exact hu, ?_, ?_⟩, fun z h1 h2 => ⟨hl' z, by rw [hr', if_neg h1], by rw [hu', if_neg (fun e => h2 (by rw [e]; exact r1))]⟩⟩
  · rw [hl']
    exact hl.frame (fun z hz => ⟨hl' z, by rw [hr', if_neg (fun e => hn.1.1 (by rw [← e]; exact hz))], by rw [hu', if_neg (fun e => hn.2.2.2 z hz _ r1 e)]⟩)
  · rw [hr', if_pos rfl]
    exact hm.hung (p' := (x : Int)) hn.2.2.1 (fun z hz => ⟨hl' z, by rw [hr', if_neg (fun e => hn.1.2 (by rw [← e]; exact hz))], fun hzr => by rw [hu', if_neg hzr]⟩) (fun _ => by rw [hu', if_pos rfl])
/-- On the way down. -/
structure Down (up : Nat → BT → BT → BT) (A : NS) (S0 : TS) (ta tb : BT) (S : TS) (W : List (Nat × BT)) (a b : BT) : Prop where
  isA : IsT S (-1) a.root a
  isB : IsT S (-1) b.root b
  way : ∀ p, p ∈ W → IsT S (-1) (p.1 : Int) (.node p.1 p.2 .nil)
  far : ∀ y, y ∉ ta.nodes ++ tb.nodes → S0.at S y
  perm : (wayN W ++ (a.nodes ++ b.nodes)).Perm (ta.nodes ++ tb.nodes)
  res : mergeT up A ta tb = (zipUp up W (mergeT up A a b).1, W.length + (mergeT up A a b).2)
theorem Down.start (up : Nat → BT → BT → BT) (A : NS) {S0 : TS} {ta tb : BT} (ha : IsT S0 (-1) ta.root ta) (hb : IsT S0 (-1) tb.root tb) : Down up A S0 ta tb S0 [] ta tb :=
  ⟨ha, hb, fun p hp => (by cases hp), fun y _ => ⟨rfl, rfl, rfl⟩, by simp [wayN], by simp [zipUp]⟩
theorem wayN_snoc (W : List (Nat × BT)) (x : Nat) (l : BT) : wayN (W ++ [(x, l)]) = wayN W ++ (x :: l.nodes) := by unfold wayN; simp
theorem way_mem {W : List (Nat × BT)} {p : Nat × BT} (hp : p ∈ W) : p.1 ∈ wayN W ∧ ∀ y, y ∈ p.2.nodes → y ∈ wayN W := by
  unfold wayN
  exact ⟨List.mem_flatMap.2 ⟨p, hp, by simp⟩, fun y hy => List.mem_flatMap.2 ⟨p, hp, by simp [hy]⟩⟩
/-- One is taken: its right is what is left of it. -/
theorem Down.take {up : Nat → BT → BT → BT} {A : NS} {S0 S : TS} {ta tb b l r : BT} {x : Nat} {W : List (Nat × BT)} (hX : (ta.nodes ++ tb.nodes).Nodup)
    (h1 : IsT S (-1) (x : Int) (.node x l r)) (h2 : IsT S (-1) b.root b) (h3 : ∀ p, p ∈ W → IsT S (-1) (p.1 : Int) (.node p.1 p.2 .nil)) (h4 : ∀ y, y ∉ ta.nodes ++ tb.nodes → S0.at S y)
    (h5 : (wayN W ++ ((BT.node x l r).nodes ++ b.nodes)).Perm (ta.nodes ++ tb.nodes)) (h6 : mergeT up A ta tb = (zipUp up W (up x l (mergeT up A r b).1), W.length + ((mergeT up A r b).2 + 1))) :
    Down up A S0 ta tb (cutR S x r) (W ++ [(x, l)]) r b := by
  have hnd := h5.nodup_iff.2 hX
  rw [List.nodup_append] at hnd
  obtain ⟨n1, n2, n3⟩ := hnd
  rw [List.nodup_append] at n2
  obtain ⟨n4, n5, n6⟩ := n2
  obtain ⟨c1, c2, c3⟩ := cutR_tree h1 n4
  have hout : ∀ y, y ∉ ta.nodes ++ tb.nodes → y ≠ x ∧ y ∉ r.nodes := fun y hy =>
    ⟨fun e => hy (h5.mem_iff.1 (by rw [e]; simp [BT.nodes])), fun hm => hy (h5.mem_iff.1 (by simp [BT.nodes, hm]))⟩
  refine ⟨c2, h2.frame (fun y hy => c3 y (fun e => n6 x (by simp [BT.nodes]) y hy e.symm) (fun hm => n6 y (by simp [BT.nodes, hm]) y hy rfl)), fun p hp => ?_, fun y hy => ?_, ?_, ?_⟩
  · rcases List.mem_append.1 hp with hp | hp
    · have hw := way_mem hp
      refine (h3 p hp).frame (fun y hy => ?_)
      have hyw : y ∈ wayN W := by
        simp only [BT.nodes, List.append_nil, List.mem_cons] at hy
        rcases hy with rfl | hy
        · exact hw.1
        · exact hw.2 y hy
      exact c3 y (fun e => n3 y hyw x (by simp [BT.nodes]) e) (fun hm => n3 y hyw y (by simp [BT.nodes, hm]) rfl)
    · simp only [List.mem_singleton] at hp
      subst hp
      exact c1
  · obtain ⟨k1, k2⟩ := hout y hy
    have a1 := h4 y hy
    have a2 := c3 y k1 k2
    exact ⟨a2.1.trans a1.1, a2.2.1.trans a1.2.1, a2.2.2.trans a1.2.2⟩
  · rw [wayN_snoc]
    refine List.Perm.trans ?_ h5
    simp only [BT.nodes, List.append_assoc, List.cons_append]
    exact List.Perm.refl _
  · rw [h6, zipUp_snoc]
    simp only [List.length_append, List.length_cons, List.length_nil]
    exact Prod.ext rfl (by simp only; omega)
theorem Down.takeA {up : Nat → BT → BT → BT} {A : NS} {S0 S : TS} {ta tb l r l' r' : BT} {x y : Nat} {W : List (Nat × BT)} (h : Down up A S0 ta tb S W (.node x l r) (.node y l' r')) (hX : (ta.nodes ++ tb.nodes).Nodup) (hlt : ¬ lt3 A y x) :
    Down up A S0 ta tb (cutR S x r) (W ++ [(x, l)]) r (.node y l' r') := by
  refine Down.take hX h.isA h.isB h.way h.far h.perm ?_
  rw [h.res, mergeT_node, if_neg hlt]
theorem Down.takeB {up : Nat → BT → BT → BT} {A : NS} {S0 S : TS} {ta tb l r l' r' : BT} {x y : Nat} {W : List (Nat × BT)} (h : Down up A S0 ta tb S W (.node x l r) (.node y l' r')) (hX : (ta.nodes ++ tb.nodes).Nodup) (hlt : lt3 A y x) :
    Down up A S0 ta tb (cutR S y r') (W ++ [(y, l')]) r' (.node x l r) := by
  refine Down.take hX h.isB h.isA h.way h.far ?_ ?_
  · refine List.Perm.trans ?_ h.perm
    exact List.Perm.append_left _ List.perm_append_comm
  · rw [h.res, mergeT_node, if_pos hlt]
/-- On the way up: what is still to be hung, and what there is. -/
structure Upw (up : Nat → BT → BT → BT) (S0 : TS) (X : List Nat) (t : BT) (S : TS) (W : List (Nat × BT)) (m : BT) : Prop where
  isM : IsT S (-1) m.root m
  way : ∀ p, p ∈ W → IsT S (-1) (p.1 : Int) (.node p.1 p.2 .nil)
  far : ∀ y, y ∉ X → S0.at S y
  perm : (wayN W ++ m.nodes).Perm X
  res : t = zipUp up W m
theorem Down.turn {up : Nat → BT → BT → BT} {A : NS} {S0 S : TS} {ta tb a b : BT} {W : List (Nat × BT)} (h : Down up A S0 ta tb S W a b) (he : a = .nil ∨ b = .nil) :
    ∃ m, m.root = (if a.root = -1 then b.root else a.root) ∧ Upw up S0 (ta.nodes ++ tb.nodes) (mergeT up A ta tb).1 S W m ∧ (mergeT up A ta tb).2 = W.length ∧ (m = a ∨ m = b) := by
  rcases he with rfl | rfl
  · refine ⟨b, by simp [BT.root], ⟨h.isB, h.way, h.far, by simpa [BT.nodes] using h.perm, by rw [h.res, mergeT_nil]⟩, by rw [h.res, mergeT_nil]; simp, Or.inr rfl⟩
  · refine ⟨a, ?_, ⟨h.isA, h.way, h.far, by simpa [BT.nodes] using h.perm, by rw [h.res, mergeT_nil2]⟩, by rw [h.res, mergeT_nil2]; simp, Or.inl rfl⟩
    split
    · rename_i e; rw [e]; rfl
    · rfl
end Go.Proofs.Ytechoojcgdjcdaa
