/-
  A nest of heaps as trees: what comes out, what is lowered, what is joined (plain). Conditions: those of each lemma.
-/
import Derived.Test.YtechoojcgdjcdaaBt3
set_option linter.unusedVariables false
set_option linter.unusedSimpArgs false
namespace Go.Proofs.Ytechoojcgdjcdaa
open Go Go.RowKit

theorem lt3_lower {A A' : NS} {x y : Nat} (h : lt3 A x y) (hy : A'.c y = A.c y) (hx : (A'.c x).k < (A.c x).k ∨ (A'.c x).k = (A.c x).k ∧ (A'.c x).s ≤ (A.c x).s) : lt3 A' x y := by
  unfold lt3 at *; rw [hy]; omega
theorem lowB_le {A : NS} {x k s : Int} (h : lowB A x k s = true) : k < (A.c x.toNat).k ∨ k = (A.c x.toNat).k ∧ s ≤ (A.c x.toNat).s := by
  unfold lowB lessE at h
  simp only [Bool.and_eq_true, Bool.not_eq_true'] at h
  have h2 := h.2
  split at h2
  · simp at h2; omega
  · simp at h2; omega
theorem low_c {A : NS} {x : Nat} {k s : Int} (hB : lowB A x k s = true) (hx : x < A.cs.length) (y : Nat) : (lowN A x k s).c y = if y = x then ⟨(A.c x).i, k, s⟩ else A.c y := by
  unfold lowN; rw [if_pos hB, Int.toNat_natCast, c_with]
  by_cases e : y = x
  · rw [if_pos ⟨e, hx⟩, if_pos e]
  · rw [if_neg (fun h => e h.1), if_neg e]
theorem low_i {A : NS} {x : Nat} {k s : Int} (hB : lowB A x k s = true) (hx : x < A.cs.length) (y : Nat) : ((lowN A x k s).c y).i = (A.c y).i := by
  rw [low_c hB hx]; split
  · rename_i e; rw [e]
  · rfl
theorem low_len (A : NS) (x k s : Int) : (lowN A x k s).cs.length = A.cs.length := by unfold lowN; split; exact len_with _ _ _; rfl
theorem low_hs (A : NS) (x k s : Int) : (lowN A x k s).hs = A.hs := by unfold lowN; split <;> rfl
theorem low_heap {A : NS} {x : Nat} {k s : Int} (hB : lowB A x k s = true) (hx : x < A.cs.length) {l r : BT} (h : Heap A (.node x l r)) (hn : (BT.node x l r).nodes.Nodup) : Heap (lowN A x k s) (.node x l r) := by
  simp only [BT.nodes, List.nodup_cons, List.mem_append, not_or] at hn
  have hle := lowB_le hB
  rw [Int.toNat_natCast] at hle
  have hc := low_c hB hx
  have hy : ∀ y, y ≠ x → (lowN A x k s).c y = A.c y := fun y e => by rw [hc, if_neg e]
  have hxx : (lowN A x k s).c x = ⟨(A.c x).i, k, s⟩ := by rw [hc, if_pos rfl]
  refine ⟨fun y m => lt3_lower (h.1 y m) (hy y (fun e => hn.1.1 (by rw [← e]; exact m))) ?_, fun y m => lt3_lower (h.2.1 y m) (hy y (fun e => hn.1.2 (by rw [← e]; exact m))) ?_, h.2.2.1.frame (fun y m => hy y (fun e => hn.1.1 (by rw [← e]; exact m))), h.2.2.2.frame (fun y m => hy y (fun e => hn.1.2 (by rw [← e]; exact m)))⟩
  · rw [hxx]; exact hle
  · rw [hxx]; exact hle
/-- What is told of a nest's other heaps, when one heap's tree is another one of the same things. -/
theorem TrI.low {A : NS} {S S' : TS} {tops tops' : List Int} {tr : Nat → BT} (h : TrI A S tops tr) {g x : Nat} {k s : Int} (hB : lowB A x k s = true) (hx : x ∈ (tr g).nodes) {t' : BT}
    (hT : IsT S' (-1) t'.root t') (hp : t'.nodes.Perm (tr g).nodes) (hH : Heap (lowN A x k s) t') (hs : ∀ y, y ∉ (tr g).nodes → S.at S' y)
    (htp : ∀ q, q < A.hs.length → tops'.getD q 0 = if q = g then t'.root else tops.getD q 0) :
    TrI (lowN A x k s) S' tops' (fun q => if q = g then t' else tr q) := by
  have hm := (h.mem g x).1 hx
  have hc := low_c hB hm.2.1
  have hi := low_i hB hm.2.1
  refine h.next (low_len _ _ _ _) (fun q => q ≠ g) (fun q hq => ⟨if_neg hq, fun y hy => ?_⟩) (fun q hq y hy hq0 => ?_) (fun q hq => ?_) (fun q hq => ?_) (fun y hy hy0 => ?_)
  · have hyg : y ∉ (tr g).nodes := fun hm => by
      have a1 := (h.mem g y).1 hm
      have a2 := (h.mem q y).1 hy
      omega
    exact ⟨hs y hyg, by rw [hc, if_neg (fun e => hyg (by rw [e]; exact hx))]⟩
  · rw [hi]
  · have hq' : q = g := Classical.not_not.1 hq
    subst hq'
    rw [if_pos rfl]
    refine ⟨hT, hp.nodup_iff.2 (h.nd q), hH, fun y => ?_⟩
    rw [hp.mem_iff, h.mem q y, hi]
  · rw [low_hs] at hq
    rw [htp q hq]
    by_cases e : q = g
    · rw [if_pos e, if_pos e]
    · rw [if_neg e, if_neg e]; exact h.top q hq
  · rw [hi] at hy0
    have a1 := h.free y hy hy0
    have a2 := hs y (h.out hy0)
    exact ⟨a2.1.trans a1.1, a2.2.1.trans a1.2.1, a2.2.2.trans a1.2.2⟩
theorem drop_c {A : NS} {x : Nat} (hB : inN A x = true) (y : Nat) : (dropN A x).c y = if y = x then Cl.z else A.c y := by
  have hx := ((inN_nat A x).1 hB).1
  unfold dropN; rw [if_pos hB, Int.toNat_natCast, c_with]
  by_cases e : y = x
  · rw [if_pos ⟨e, hx⟩, if_pos e]
  · rw [if_neg (fun h => e h.1), if_neg e]
theorem drop_len (A : NS) (x : Int) : (dropN A x).cs.length = A.cs.length := by unfold dropN; split; exact len_with _ _ _; rfl
theorem drop_hs (A : NS) (x : Int) : (dropN A x).hs = A.hs := by unfold dropN; split <;> rfl
theorem TrI.del {A : NS} {S S' : TS} {tops tops' : List Int} {tr : Nat → BT} (h : TrI A S tops tr) {g x : Nat} (hx : x ∈ (tr g).nodes) {t' : BT}
    (hT : IsT S' (-1) t'.root t') (hp : (x :: t'.nodes).Perm (tr g).nodes) (hH : Heap A t') (hs : ∀ y, y ∉ (tr g).nodes → S.at S' y) (hf : S'.l x = -1 ∧ S'.r x = -1 ∧ S'.u x = -1)
    (htp : ∀ q, q < A.hs.length → tops'.getD q 0 = if q = g then t'.root else tops.getD q 0) :
    TrI (dropN A x) S' tops' (fun q => if q = g then t' else tr q) := by
  have hm := (h.mem g x).1 hx
  have hin : inN A (x : Int) = true := (inN_nat A x).2 ⟨hm.2.1, by omega⟩
  have hc := drop_c hin
  have hnd : (x :: t'.nodes).Nodup := hp.nodup_iff.2 (h.nd g)
  have hxt : x ∉ t'.nodes := (List.nodup_cons.1 hnd).1
  refine h.next (drop_len _ _) (fun q => q ≠ g) (fun q hq => ⟨if_neg hq, fun y hy => ?_⟩) (fun q hq y hy hq0 => ?_) (fun q hq => ?_) (fun q hq => ?_) (fun y hy hy0 => ?_)
  · have hyg : y ∉ (tr g).nodes := fun hm => by
      have a1 := (h.mem g y).1 hm
      have a2 := (h.mem q y).1 hy
      omega
    exact ⟨hs y hyg, by rw [hc, if_neg (fun e => hyg (by rw [e]; exact hx))]⟩
  · rw [hc]
    by_cases e : y = x
    · rw [if_pos e, e]
      show (0 : Int) = (q : Int) ↔ _
      omega
    · rw [if_neg e]
  · have hq' : q = g := Classical.not_not.1 hq
    subst hq'
    rw [if_pos rfl]
    refine ⟨hT, (List.nodup_cons.1 hnd).2, hH.frame (fun y hy => by rw [hc, if_neg (fun e => hxt (by rw [← e]; exact hy))]), fun y => ?_⟩
    have e1 := hp.mem_iff (a := y)
    rw [List.mem_cons, h.mem q y] at e1
    rw [hc]
    by_cases e : y = x
    · rw [if_pos e, e]
      refine ⟨fun hh => absurd hh hxt, fun hh => ?_⟩
      have : (0 : Int) = (q : Int) := hh.2.2
      omega
    · rw [if_neg e, ← e1]; simp [e]
  · rw [drop_hs] at hq
    rw [htp q hq]
    by_cases e : q = g
    · rw [if_pos e, if_pos e]
    · rw [if_neg e, if_neg e]; exact h.top q hq
  · rw [hc] at hy0
    by_cases e : y = x
    · rw [e]; exact hf
    · rw [if_neg e] at hy0
      have a1 := h.free y hy hy0
      have a2 := hs y (h.out hy0)
      exact ⟨a2.1.trans a1.1, a2.2.1.trans a1.2.1, a2.2.2.trans a1.2.2⟩
theorem join_c {A : NS} {a b : Int} (hj : joinB A a b = true) (x : Nat) : (joinN A a b).c x = ⟨if (A.c x).i = b ∧ x < A.cs.length then a else (A.c x).i, (A.c x).k, (A.c x).s⟩ := by
  rw [joinN_c hj]; split <;> rfl
theorem join_lt3 {A : NS} {a b : Int} (hj : joinB A a b = true) (x y : Nat) : lt3 (joinN A a b) x y ↔ lt3 A x y := by
  unfold lt3; rw [join_c hj, join_c hj]
theorem join_heap {A : NS} {a b : Int} (hj : joinB A a b = true) : ∀ {t : BT}, Heap A t → Heap (joinN A a b) t
  | .nil, _ => trivial
  | .node x l r, h => ⟨fun y hy => (join_lt3 hj x y).2 (h.1 y hy), fun y hy => (join_lt3 hj x y).2 (h.2.1 y hy), join_heap hj h.2.2.1, join_heap hj h.2.2.2⟩
theorem TrI.join {A : NS} {S S' : TS} {tops tops' : List Int} {tr : Nat → BT} (h : TrI A S tops tr) {a b : Nat} (hj : joinB A a b = true) {t' : BT}
    (hT : IsT S' (-1) t'.root t') (hp : t'.nodes.Perm ((tr a).nodes ++ (tr b).nodes)) (hH : Heap (joinN A a b) t') (hs : ∀ y, y ∉ (tr a).nodes ++ (tr b).nodes → S.at S' y)
    (htp : ∀ q, q < A.hs.length → tops'.getD q 0 = if q = a then t'.root else if q = b then -1 else tops.getD q 0) :
    TrI (joinN A a b) S' tops' (fun q => if q = a then t' else if q = b then .nil else tr q) := by
  obtain ⟨j1, j2, j3⟩ := (joinB_iff _ _ _).1 hj
  have a1 := (hasN_iff _ _).1 j1
  have a2 := (hasN_iff _ _).1 j2
  have hc : ∀ y, ((joinN A a b).c y).i = if (A.c y).i = b ∧ y < A.cs.length then (a : Int) else (A.c y).i := fun y => by rw [join_c hj]
  have hne : a ≠ b := fun e => j3 (by rw [e])
  have hlen : (joinN A a b).hs.length = A.hs.length := by unfold joinN; rw [if_pos hj]; simp
  refine h.next (joinN_len _ _ _) (fun q => q ≠ a ∧ q ≠ b) (fun q hq => ⟨by rw [if_neg hq.1, if_neg hq.2], fun y hy => ?_⟩) (fun q hq y hy hq0 => ?_) (fun q hq => ?_) (fun q hq => ?_) (fun y hy hy0 => ?_)
  · have c0 := (h.mem q y).1 hy
    have hya : y ∉ (tr a).nodes := fun hm => by
      have a1 := (h.mem a y).1 hm
      omega
    have hyb : y ∉ (tr b).nodes := fun hm => by
      have a1 := (h.mem b y).1 hm
      omega
    refine ⟨hs y (by simp [hya, hyb]), ?_⟩
    rw [join_c hj, if_neg (by omega)]
  · rw [hc]; split <;> omega
  · by_cases e : q = a
    · rw [if_pos e]
      refine ⟨hT, hp.nodup_iff.2 ?_, hH, fun y => ?_⟩
      · rw [List.nodup_append]
        refine ⟨h.nd a, h.nd b, fun x hx y hy e2 => ?_⟩
        have b1 := (h.mem a x).1 hx
        have b2 := (h.mem b y).1 hy
        rw [e2] at b1
        omega
      · rw [hp.mem_iff, List.mem_append, h.mem a y, h.mem b y, hc]; subst e; split <;> omega
    · have e2 : q = b := by omega
      rw [if_neg e, if_pos e2]
      refine ⟨rfl, by simp [BT.nodes], trivial, fun y => ?_⟩
      rw [hc]
      simp only [BT.nodes, List.not_mem_nil, false_iff]
      split <;> omega
  · rw [hlen] at hq
    rw [htp q hq]
    by_cases e : q = a
    · rw [if_pos e, if_pos e]
    · rw [if_neg e, if_neg e]
      by_cases e2 : q = b
      · rw [if_pos e2, if_pos e2]; rfl
      · rw [if_neg e2, if_neg e2]; exact h.top q hq
  · have hy1 : (A.c y).i = 0 := by rw [hc] at hy0; split at hy0 <;> omega
    have a1 := h.free y hy hy1
    have a2 := hs y (by simp [h.out (g := a) hy1, h.out (g := b) hy1])
    exact ⟨a2.1.trans a1.1, a2.2.1.trans a1.2.1, a2.2.2.trans a1.2.2⟩
instance : Nonempty (List Fr × BT × BT) := ⟨([], .nil, .nil)⟩
/-- Where a thing is in its tree. -/
noncomputable def pathOf (t : BT) (x : Nat) : List Fr × BT × BT := Classical.epsilon fun q : List Fr × BT × BT => t = plug q.1 (.node x q.2.1 q.2.2)
theorem pathOf_eq {t : BT} {x : Nat} (h : x ∈ t.nodes) : t = plug (pathOf t x).1 (.node x (pathOf t x).2.1 (pathOf t x).2.2) := by
  obtain ⟨P, l, r, e⟩ := find_node h
  unfold pathOf
  exact Classical.epsilon_spec (p := fun q : List Fr × BT × BT => t = plug q.1 (.node x q.2.1 q.2.2)) ⟨(P, l, r), e⟩
end Go.Proofs.Ytechoojcgdjcdaa
