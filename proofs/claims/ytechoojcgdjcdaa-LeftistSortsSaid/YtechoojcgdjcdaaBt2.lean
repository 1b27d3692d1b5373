/-
  Binary trees: a tree with a hole, and what fills it; settling on the way up. No program in sight. Conditions: those of each lemma.
-/
import Derived.Test.YtechoojcgdjcdaaBt
set_option linter.unusedVariables false
set_option linter.unusedSimpArgs false
namespace Go.Proofs.Ytechoojcgdjcdaa

abbrev Fr := Nat × Bool × BT
def plug1 (f : Fr) (t : BT) : BT := if f.2.1 then .node f.1 f.2.2 t else .node f.1 t f.2.2
def plug : List Fr → BT → BT
  | [], t => t
  | f :: P, t => plug P (plug1 f t)
def upP : List Fr → Int | [] => -1 | f :: _ => f.1
def ctxN : List Fr → List Nat | [] => [] | f :: P => f.1 :: (f.2.2.nodes ++ ctxN P)
/-- The links hold all but the hole. -/
def IsP (S : TS) : List Fr → Int → Prop
  | [], _ => True
  | f :: P, z => S.kid f.2.1 f.1 = z ∧ IsT S f.1 (S.kid (!f.2.1) f.1) f.2.2 ∧ S.u f.1 = upP P ∧ IsP S P f.1
theorem plug1_root (f : Fr) (t : BT) : (plug1 f t).root = f.1 := by unfold plug1; split <;> rfl
theorem plug1_ne (f : Fr) (t : BT) : plug1 f t ≠ .nil := by unfold plug1; split <;> simp
theorem plug1_nodes (f : Fr) (t : BT) : (plug1 f t).nodes.Perm (f.1 :: (t.nodes ++ f.2.2.nodes)) := by
  unfold plug1; split
  · simp only [BT.nodes]; exact List.Perm.cons _ List.perm_append_comm
  · exact List.Perm.refl _
theorem plug_nodes : ∀ (P : List Fr) (t : BT), (plug P t).nodes.Perm (t.nodes ++ ctxN P)
  | [], t => by simp [plug, ctxN]
  | f :: P, t => by
    refine (plug_nodes P (plug1 f t)).trans ?_
    refine ((plug1_nodes f t).append_right (ctxN P)).trans ?_
    simp only [ctxN, List.cons_append, List.append_assoc]
    exact (List.perm_middle (a := f.1) (l₁ := t.nodes) (l₂ := f.2.2.nodes ++ ctxN P)).symm
theorem plug_ne : ∀ (P : List Fr) (t : BT), t ≠ .nil → plug P t ≠ .nil
  | [], t, h => h
  | f :: P, t, h => plug_ne P _ (plug1_ne f t)
theorem plug_root2 : ∀ (P : List Fr) (t t' : BT), t.root = t'.root → (plug P t).root = (plug P t').root
  | [], t, t', h => h
  | f :: P, t, t', h => plug_root2 P _ _ (by rw [plug1_root, plug1_root])
theorem plug_rootc (f : Fr) (P : List Fr) (t t' : BT) : (plug (f :: P) t).root = (plug (f :: P) t').root := plug_root2 P _ _ (by rw [plug1_root, plug1_root])
theorem plug_append : ∀ (P Q : List Fr) (t : BT), plug (P ++ Q) t = plug Q (plug P t)
  | [], _, _ => rfl
  | f :: P, Q, t => plug_append P Q (plug1 f t)
/-- Each thing of a tree is the root of what fills a hole. -/
theorem find_node : ∀ {t : BT} {x : Nat}, x ∈ t.nodes → ∃ P l r, t = plug P (.node x l r)
  | .nil, _, h => by cases h
  | .node y a b, x, h => by
    simp only [BT.nodes, List.mem_cons, List.mem_append] at h
    rcases h with rfl | h | h
    · exact ⟨[], a, b, rfl⟩
    · obtain ⟨P, l, r, e⟩ := find_node h
      exact ⟨P ++ [(y, false, b)], l, r, by rw [plug_append, ← e]; rfl⟩
    · obtain ⟨P, l, r, e⟩ := find_node h
      exact ⟨P ++ [(y, true, a)], l, r, by rw [plug_append, ← e]; rfl⟩
theorem isT_plug1 {S : TS} {p : Int} (f : Fr) (t : BT) : IsT S p f.1 (plug1 f t) ↔ IsT S f.1 t.root t ∧ S.kid f.2.1 f.1 = t.root ∧ IsT S f.1 (S.kid (!f.2.1) f.1) f.2.2 ∧ S.u f.1 = p := by
  obtain ⟨x, s, o⟩ := f
  cases s
  · simp only [plug1, Bool.false_eq_true, if_false, IsT, TS.kid, Bool.not_false, if_true]
    constructor
    · rintro ⟨_, h2, h3, h4⟩
      have e := h3.root
      exact ⟨by rw [← e]; exact h3, e, h4, h2⟩
    · rintro ⟨h1, h2, h3, h4⟩
      exact ⟨trivial, h4, by rw [h2]; exact h1, h3⟩
  · simp only [plug1, if_true, IsT, TS.kid, Bool.not_true, Bool.false_eq_true, if_false]
    constructor
    · rintro ⟨_, h2, h3, h4⟩
      have e := h4.root
      exact ⟨by rw [← e]; exact h4, e, h3, h2⟩
    · rintro ⟨h1, h2, h3, h4⟩
      exact ⟨trivial, h4, h3, by rw [h2]; exact h1⟩
theorem isT_plug {S : TS} : ∀ (P : List Fr) (t : BT), IsT S (-1) (plug P t).root (plug P t) ↔ IsT S (upP P) t.root t ∧ IsP S P t.root
  | [], t => by simp [plug, upP, IsP]
  | f :: P, t => by
    have h := isT_plug (S := S) P (plug1 f t)
    rw [plug1_root] at h
    show IsT S (-1) (plug P (plug1 f t)).root (plug P (plug1 f t)) ↔ _
    rw [h, isT_plug1]
    simp only [upP, IsP]
    constructor
    · rintro ⟨⟨h1, h2, h3, h4⟩, h5⟩
      exact ⟨h1, h2, h3, h4, h5⟩
    · rintro ⟨h1, h2, h3, h4, h5⟩
      exact ⟨⟨h1, h2, h3, h4⟩, h5⟩
theorem IsP.frame {S S' : TS} : ∀ {P : List Fr} {z : Int}, IsP S P z → (∀ y, y ∈ ctxN P → S.at S' y) → IsP S' P z
  | [], _, _, _ => trivial
  | f :: P, z, h, hs => by
    obtain ⟨h1, h2, h3, h4⟩ := h
    have hf := hs f.1 (by simp [ctxN])
    have hk : ∀ s, S'.kid s f.1 = S.kid s f.1 := fun s => by unfold TS.kid; rw [hf.1, hf.2.1]
    exact ⟨by rw [hk]; exact h1, by rw [hk]; exact h2.frame (fun y hy => hs y (by simp [ctxN, hy])), by rw [hf.2.2]; exact h3, h4.frame (fun y hy => hs y (by simp [ctxN, hy]))⟩
/-- Another thing in the hole. -/
theorem IsP.other {S S' : TS} {f : Fr} {P : List Fr} {z z' : Int} (h : IsP S (f :: P) z) (hn : (ctxN (f :: P)).Nodup) (h1 : S'.kid f.2.1 f.1 = z') (h2 : S'.kid (!f.2.1) f.1 = S.kid (!f.2.1) f.1) (h3 : S'.u f.1 = S.u f.1)
    (hs : ∀ y, y ≠ f.1 → y ∈ ctxN (f :: P) → S.at S' y) : IsP S' (f :: P) z' := by
  obtain ⟨_, g2, g3, g4⟩ := h
  simp only [ctxN, List.nodup_cons, List.mem_append, not_or] at hn
  exact ⟨h1, by rw [h2]; exact g2.frame (fun y hy => hs y (fun e => hn.1.1 (by rw [← e]; exact hy)) (by simp [ctxN, hy])), by rw [h3]; exact g3, g4.frame (fun y hy => hs y (fun e => hn.1.2 (by rw [← e]; exact hy)) (by simp [ctxN, hy]))⟩
theorem cutS_at {S : TS} {i j : Nat} {y : Nat} (h1 : y ≠ i) (h2 : y ≠ j) : S.at (cutS S i j) y := by
  unfold cutS TS.setKid TS.setUp TS.at
  refine ⟨?_, ?_, ?_⟩
  · cases decide (S.r i = (j : Int)) <;> simp [h1]
  · cases decide (S.r i = (j : Int)) <;> simp [h1]
  · cases decide (S.r i = (j : Int)) <;> simp [h2]
theorem kid_u {S : TS} {i : Nat} {s : Bool} {v : Int} : ∀ y, (S.setKid i s v).u y = S.u y := fun y => by unfold TS.setKid; cases s <;> rfl
/-- What fills the hole comes off. -/
theorem cut_plug {S : TS} {f : Fr} {P : List Fr} {t : BT} (h : IsT S (-1) (plug (f :: P) t).root (plug (f :: P) t)) (ht : t ≠ .nil) (hn : (plug (f :: P) t).nodes.Nodup) :
    IsT (cutS S f.1 t.root.toNat) (-1) t.root t ∧ IsT (cutS S f.1 t.root.toNat) (-1) (plug (f :: P) .nil).root (plug (f :: P) .nil) ∧ ∀ y, y ≠ f.1 → y ≠ t.root.toNat → S.at (cutS S f.1 t.root.toNat) y := by
  obtain ⟨h1, h2⟩ := (isT_plug _ _).1 h
  have hnp := (plug_nodes (f :: P) t).nodup_iff.1 hn
  rw [List.nodup_append] at hnp
  obtain ⟨n1, n2, n3⟩ := hnp
  obtain ⟨rm, rc⟩ := root_mem ht
  generalize hx : t.root.toNat = x at *
  have hfx : f.1 ≠ x := fun e => n3 x rm f.1 (by simp [ctxN]) e.symm
  have hat : ∀ y, y ≠ f.1 → y ≠ x → S.at (cutS S f.1 x) y := fun y h1 h2 => cutS_at h1 h2
  have hk : S.kid f.2.1 f.1 = x := by rw [h2.1, rc]
  have hside : decide (S.r f.1 = (x : Int)) = f.2.1 := by
    cases hs : f.2.1 with
    | true => rw [hs] at hk; exact decide_eq_true (by simpa [TS.kid] using hk)
    | false =>
      refine decide_eq_false (fun e => ?_)
      have h3 := h2.2.1
      rw [hs] at h3
      have h4 := h3.root
      have h5 : f.2.2.root = (x : Int) := by rw [← h4]; simpa [TS.kid] using e
      have h6 : f.2.2 ≠ .nil := fun e => by rw [e] at h5; simp [BT.root] at h5
      have h7 := (root_mem h6).1
      rw [h5, Int.toNat_natCast] at h7
      exact n3 x rm x (by simp [ctxN, h7]) rfl
  have hkid : ∀ s, (cutS S f.1 x).kid s f.1 = if s = f.2.1 then -1 else S.kid s f.1 := fun s => by
    unfold cutS
    rw [hside]
    unfold TS.setKid TS.setUp TS.kid
    cases s <;> cases f.2.1 <;> simp
  have hu : ∀ y, (cutS S f.1 x).u y = if y = x then -1 else S.u y := fun y => by
    unfold cutS TS.setUp
    simp only [kid_u]
  refine ⟨h1.hung n1 (fun y hy => ?_) (fun _ => ?_), (isT_plug _ _).2 ⟨rfl, h2.other n2 ?_ ?_ ?_ (fun y g1 g2 => hat y g1 (fun e => n3 x rm y g2 e.symm))⟩, hat⟩
  · have hyf : y ≠ f.1 := fun e => n3 y hy f.1 (by simp [ctxN]) e
    refine ⟨?_, ?_, fun hr => ?_⟩
    · unfold cutS TS.setKid TS.setUp; cases decide (S.r f.1 = (x : Int)) <;> simp [hyf]
    · unfold cutS TS.setKid TS.setUp; cases decide (S.r f.1 = (x : Int)) <;> simp [hyf]
    · rw [hu, if_neg (by rw [hx] at hr; exact hr)]
  · rw [hu, hx, if_pos rfl]
  · rw [hkid, if_pos rfl]; rfl
  · rw [hkid, if_neg (by cases f.2.1 <;> simp)]
  · rw [hu, if_neg hfx]
theorem hang_plug {S : TS} {f : Fr} {P : List Fr} {m : BT} (h : IsT S (-1) (plug (f :: P) .nil).root (plug (f :: P) .nil)) (hM : IsT S (-1) m.root m) (hm : m ≠ .nil) (hn : (m.nodes ++ ctxN (f :: P)).Nodup) :
    IsT (hangS S f.1 m.root f.2.1) (-1) (plug (f :: P) m).root (plug (f :: P) m) ∧ ∀ y, y ≠ f.1 → y ≠ m.root.toNat → S.at (hangS S f.1 m.root f.2.1) y := by
  obtain ⟨_, h2⟩ := (isT_plug _ _).1 h
  rw [List.nodup_append] at hn
  obtain ⟨n1, n2, n3⟩ := hn
  obtain ⟨rm, rc⟩ := root_mem hm
  have hfx : f.1 ≠ m.root.toNat := fun e => n3 _ rm f.1 (by simp [ctxN]) e.symm
  have hkid : ∀ s, (hangS S f.1 m.root f.2.1).kid s f.1 = if s = f.2.1 then m.root else S.kid s f.1 := fun s => by
    unfold hangS TS.setKid TS.setUp TS.kid
    cases s <;> cases f.2.1 <;> simp
  have hu : ∀ y, (hangS S f.1 m.root f.2.1).u y = if y = m.root.toNat then (f.1 : Int) else S.u y := fun y => by
    unfold hangS TS.setUp
    simp only [kid_u]
  have hl : ∀ y, y ≠ f.1 → (hangS S f.1 m.root f.2.1).l y = S.l y ∧ (hangS S f.1 m.root f.2.1).r y = S.r y := fun y hy => by
    unfold hangS TS.setKid TS.setUp; cases f.2.1 <;> simp [hy]
  have hat : ∀ y, y ≠ f.1 → y ≠ m.root.toNat → S.at (hangS S f.1 m.root f.2.1) y := fun y g1 g2 => ⟨(hl y g1).1, (hl y g1).2, by rw [hu, if_neg g2]⟩
  refine ⟨(isT_plug _ _).2 ⟨hM.hung n1 (fun y hy => ?_) (fun _ => by rw [hu, if_pos rfl]; rfl), h2.other n2 ?_ ?_ ?_ (fun y g1 g2 => hat y g1 (fun e => n3 _ rm y g2 e.symm))⟩, hat⟩
  · have hyf : y ≠ f.1 := fun e => n3 y hy f.1 (by simp [ctxN]) e
    exact ⟨(hl y hyf).1, (hl y hyf).2, fun hr => by rw [hu, if_neg hr]⟩
  · rw [hkid, if_pos rfl]
  · rw [hkid, if_neg (by cases f.2.1 <;> simp)]
  · rw [hu, if_neg hfx]
/-! ### heaps, ranks -/
theorem heap_plug1 {A : NS} {f : Fr} {t : BT} : Heap A (plug1 f t) ↔ (∀ y, y ∈ t.nodes → lt3 A f.1 y) ∧ (∀ y, y ∈ f.2.2.nodes → lt3 A f.1 y) ∧ Heap A t ∧ Heap A f.2.2 := by
  unfold plug1
  split
  · simp only [Heap]; constructor
    · rintro ⟨a, b, c, d⟩; exact ⟨b, a, d, c⟩
    · rintro ⟨a, b, c, d⟩; exact ⟨b, a, d, c⟩
  · simp only [Heap]
theorem heap_sub {A : NS} : ∀ {P : List Fr} {t : BT}, Heap A (plug P t) → Heap A t
  | [], _, h => h
  | f :: P, t, h => (heap_plug1.1 (heap_sub (P := P) h)).2.2.1
theorem heap_plug {A : NS} : ∀ {P : List Fr} {t t' : BT}, Heap A (plug P t) → Heap A t' → (∀ y, y ∈ t'.nodes → y ∈ t.nodes) → Heap A (plug P t')
  | [], _, _, _, h, _ => h
  | f :: P, t, t', h, h', hs => by
    have h1 := heap_plug1.1 (heap_sub (P := P) h)
    refine heap_plug (P := P) h (heap_plug1.2 ⟨fun y hy => h1.1 y (hs y hy), h1.2.1, h', h1.2.2.2⟩) (fun y hy => ?_)
    have hy' := (plug1_nodes f t').mem_iff.1 hy
    refine (plug1_nodes f t).mem_iff.2 ?_
    simp only [List.mem_cons, List.mem_append] at hy' ⊢
    rcases hy' with h | h | h
    · exact Or.inl h
    · exact Or.inr (Or.inl (hs y h))
    · exact Or.inr (Or.inr h)
def upRank (f : Fr) (n : Nat) : Nat := (if f.2.1 then n else f.2.2.rank) + 1
theorem plug1_rank (f : Fr) (t : BT) : (plug1 f t).rank = upRank f t.rank := by unfold plug1 upRank; split <;> rfl
def RkP (rk : Nat → Nat) : List Fr → Nat → Prop
  | [], _ => True
  | f :: P, n => RkOk rk f.2.2 ∧ rk f.1 = upRank f n ∧ RkP rk P (upRank f n)
theorem rk_plug1 {rk : Nat → Nat} {f : Fr} {t : BT} : RkOk rk (plug1 f t) ↔ RkOk rk t ∧ RkOk rk f.2.2 ∧ rk f.1 = upRank f t.rank := by
  unfold plug1 upRank
  split
  · simp only [RkOk]; constructor
    · rintro ⟨a, b, c⟩; exact ⟨c, b, a⟩
    · rintro ⟨a, b, c⟩; exact ⟨c, b, a⟩
  · simp only [RkOk]; constructor
    · rintro ⟨a, b, c⟩; exact ⟨b, c, a⟩
    · rintro ⟨a, b, c⟩; exact ⟨c, a, b⟩
theorem rk_plug {rk : Nat → Nat} : ∀ (P : List Fr) (t : BT), RkOk rk (plug P t) ↔ RkOk rk t ∧ RkP rk P t.rank
  | [], t => by simp [plug, RkP]
  | f :: P, t => by
    show RkOk rk (plug P (plug1 f t)) ↔ _
    rw [rk_plug P, rk_plug1, plug1_rank]
    simp only [RkP]
    constructor
    · rintro ⟨⟨a, b, c⟩, d⟩; exact ⟨a, b, c, d⟩
    · rintro ⟨a, b, c, d⟩; exact ⟨⟨a, b, c⟩, d⟩
theorem RkP.frame {rk rk' : Nat → Nat} : ∀ {P : List Fr} {n : Nat}, RkP rk P n → (∀ y, y ∈ ctxN P → rk' y = rk y) → RkP rk' P n
  | [], _, _, _ => trivial
  | f :: P, n, h, hs => ⟨h.1.frame (fun y hy => hs y (by simp [ctxN, hy])), by rw [hs f.1 (by simp [ctxN])]; exact h.2.1, h.2.2.frame (fun y hy => hs y (by simp [ctxN, hy]))⟩
def LeanP : List Fr → Nat → Prop
  | [], _ => True
  | f :: P, n => Lean f.2.2 ∧ (if f.2.1 then n ≤ f.2.2.rank else f.2.2.rank ≤ n) ∧ LeanP P (upRank f n)
theorem lean_plug1 {f : Fr} {t : BT} : Lean (plug1 f t) ↔ Lean t ∧ Lean f.2.2 ∧ (if f.2.1 then t.rank ≤ f.2.2.rank else f.2.2.rank ≤ t.rank) := by
  unfold plug1
  split
  · simp only [Lean]; constructor
    · rintro ⟨a, b, c⟩; exact ⟨c, b, a⟩
    · rintro ⟨a, b, c⟩; exact ⟨c, b, a⟩
  · simp only [Lean]; constructor
    · rintro ⟨a, b, c⟩; exact ⟨b, c, a⟩
    · rintro ⟨a, b, c⟩; exact ⟨c, a, b⟩
theorem lean_plug : ∀ (P : List Fr) (t : BT), Lean (plug P t) ↔ Lean t ∧ LeanP P t.rank
  | [], t => by simp [plug, LeanP]
  | f :: P, t => by
    show Lean (plug P (plug1 f t)) ↔ _
    rw [lean_plug P, lean_plug1, plug1_rank]
    simp only [LeanP]
    constructor
    · rintro ⟨⟨a, b, c⟩, d⟩; exact ⟨a, b, c, d⟩
    · rintro ⟨a, b, c, d⟩; exact ⟨⟨a, b, c⟩, d⟩
/-- From a thing on upwards all are settled, until a rank is what it was. -/
def mendT : List Fr → Nat → Nat → BT → BT → BT
  | [], _, x, l, r => settleT x l r
  | f :: P, was, x, l, r =>
    if (settleT x l r).rank = was then plug (f :: P) (settleT x l r)
    else if f.2.1 then mendT P (upRank f was) f.1 f.2.2 (settleT x l r) else mendT P (upRank f was) f.1 (settleT x l r) f.2.2
theorem mend_nodes : ∀ (P : List Fr) (was x : Nat) (l r : BT), (mendT P was x l r).nodes.Perm (plug P (.node x l r)).nodes
  | [], was, x, l, r => settle_nodes x l r
  | f :: P, was, x, l, r => by
    have h0 : (plug1 f (settleT x l r)).nodes.Perm (plug1 f (.node x l r)).nodes :=
      (plug1_nodes f _).trans ((List.Perm.cons _ ((settle_nodes x l r).append_right _)).trans (plug1_nodes f (.node x l r)).symm)
    have h1 : (plug P (plug1 f (settleT x l r))).nodes.Perm (plug P (plug1 f (.node x l r))).nodes :=
      (plug_nodes P _).trans ((h0.append_right _).trans (plug_nodes P _).symm)
    unfold mendT
    split
    · exact h1
    · split
      · rename_i hs
        have e : plug1 f (settleT x l r) = .node f.1 f.2.2 (settleT x l r) := by unfold plug1; rw [if_pos hs]
        rw [e] at h1
        exact (mend_nodes P _ _ _ _).trans h1
      · rename_i hs
        have e : plug1 f (settleT x l r) = .node f.1 (settleT x l r) f.2.2 := by unfold plug1; rw [if_neg hs]
        rw [e] at h1
        exact (mend_nodes P _ _ _ _).trans h1
theorem mend_root : ∀ (P : List Fr) (was x : Nat) (l r : BT), (mendT P was x l r).root = (plug P (.node x l r)).root
  | [], was, x, l, r => settle_root x l r
  | f :: P, was, x, l, r => by
    have h1 := plug_rootc f P (settleT x l r) (.node x l r)
    unfold mendT
    split
    · exact h1
    · split
      · rename_i hs
        have e : plug1 f (settleT x l r) = .node f.1 f.2.2 (settleT x l r) := by unfold plug1; rw [if_pos hs]
        unfold plug at h1
        rw [e] at h1
        exact (mend_root P _ _ _ _).trans h1
      · rename_i hs
        have e : plug1 f (settleT x l r) = .node f.1 (settleT x l r) f.2.2 := by unfold plug1; rw [if_neg hs]
        unfold plug at h1
        rw [e] at h1
        exact (mend_root P _ _ _ _).trans h1
theorem mend_heap {A : NS} : ∀ (P : List Fr) (was x : Nat) (l r : BT), Heap A (plug P (.node x l r)) → Heap A (mendT P was x l r)
  | [], was, x, l, r, h => settle_heap h.1 h.2.1 h.2.2.1 h.2.2.2
  | f :: P, was, x, l, r, h => by
    have h0 := heap_sub h
    have h1 : Heap A (plug (f :: P) (settleT x l r)) := heap_plug h (settle_heap h0.1 h0.2.1 h0.2.2.1 h0.2.2.2) (fun y hy => (settle_nodes x l r).mem_iff.1 hy)
    unfold mendT
    split
    · exact h1
    · split
      · rename_i hs
        have e : plug1 f (settleT x l r) = .node f.1 f.2.2 (settleT x l r) := by unfold plug1; rw [if_pos hs]
        unfold plug at h1
        rw [e] at h1
        exact mend_heap P _ _ _ _ h1
      · rename_i hs
        have e : plug1 f (settleT x l r) = .node f.1 (settleT x l r) f.2.2 := by unfold plug1; rw [if_neg hs]
        unfold plug at h1
        rw [e] at h1
        exact mend_heap P _ _ _ _ h1
theorem mend_lean : ∀ (P : List Fr) (was x : Nat) (l r : BT), Lean l → Lean r → LeanP P was → Lean (mendT P was x l r)
  | [], was, x, l, r, hl, hr, _ => settle_lean hl hr
  | f :: P, was, x, l, r, hl, hr, h => by
    unfold mendT
    split
    · rename_i e
      exact (lean_plug _ _).2 ⟨settle_lean hl hr, by rw [e]; exact h⟩
    · split
      · exact mend_lean P _ _ _ _ h.1 (settle_lean hl hr) h.2.2
      · exact mend_lean P _ _ _ _ (settle_lean hl hr) h.1 h.2.2
end Go.Proofs.Ytechoojcgdjcdaa
