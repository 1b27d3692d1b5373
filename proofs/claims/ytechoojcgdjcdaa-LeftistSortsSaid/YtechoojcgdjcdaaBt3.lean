/-
  A nest of heaps, each a binary tree: what the trees, the links and the cells have to do with one another. No program in sight. Conditions: those of each lemma.
-/
import Derived.Test.YtechoojcgdjcdaaBt2
set_option linter.unusedVariables false
set_option linter.unusedSimpArgs false
namespace Go.Proofs.Ytechoojcgdjcdaa

theorem lt3_same {A A' : NS} {a b : Nat} (ha : A'.c a = A.c a) (hb : A'.c b = A.c b) : lt3 A' a b ↔ lt3 A a b := by unfold lt3; rw [ha, hb]
theorem Heap.frame {A A' : NS} : ∀ {t : BT}, Heap A t → (∀ x, x ∈ t.nodes → A'.c x = A.c x) → Heap A' t
  | .nil, _, _ => trivial
  | .node x l r, h, hs => by
    have hx := hs x (by simp [BT.nodes])
    refine ⟨fun y hy => (lt3_same hx (hs y (by simp [BT.nodes, hy]))).2 (h.1 y hy), fun y hy => (lt3_same hx (hs y (by simp [BT.nodes, hy]))).2 (h.2.1 y hy), h.2.2.1.frame (fun y hy => hs y (by simp [BT.nodes, hy])), h.2.2.2.frame (fun y hy => hs y (by simp [BT.nodes, hy]))⟩
structure TrI (A : NS) (S : TS) (tops : List Int) (tr : Nat → BT) : Prop where
  top : ∀ h, h < A.hs.length → tops.getD h 0 = (tr h).root
  isT : ∀ h, IsT S (-1) (tr h).root (tr h)
  mem : ∀ h x, x ∈ (tr h).nodes ↔ 0 < h ∧ x < A.cs.length ∧ (A.c x).i = h
  nd : ∀ h, (tr h).nodes.Nodup
  heap : ∀ h, Heap A (tr h)
  free : ∀ x, x < A.cs.length → (A.c x).i = 0 → S.l x = -1 ∧ S.r x = -1 ∧ S.u x = -1
theorem TrI.next {A A' : NS} {S S' : TS} {tops tops' : List Int} {tr tr' : Nat → BT} (h : TrI A S tops tr) (hc : A'.cs.length = A.cs.length) (keep : Nat → Prop)
    (k1 : ∀ g, keep g → tr' g = tr g ∧ ∀ x, x ∈ (tr g).nodes → S.at S' x ∧ A'.c x = A.c x)
    (k2 : ∀ g, keep g → ∀ x, x < A.cs.length → 0 < g → ((A'.c x).i = g ↔ (A.c x).i = g))
    (n1 : ∀ g, ¬ keep g → IsT S' (-1) (tr' g).root (tr' g) ∧ (tr' g).nodes.Nodup ∧ Heap A' (tr' g) ∧ ∀ x, x ∈ (tr' g).nodes ↔ 0 < g ∧ x < A.cs.length ∧ (A'.c x).i = g)
    (tp : ∀ g, g < A'.hs.length → tops'.getD g 0 = (tr' g).root)
    (fr : ∀ x, x < A.cs.length → (A'.c x).i = 0 → S'.l x = -1 ∧ S'.r x = -1 ∧ S'.u x = -1) : TrI A' S' tops' tr' := by
  refine ⟨tp, fun g => ?_, fun g x => ?_, fun g => ?_, fun g => ?_, fun x hx => fr x (by omega)⟩
  · by_cases hk : keep g
    · obtain ⟨e, hs⟩ := k1 g hk
      rw [e]; exact (h.isT g).frame (fun y hy => (hs y hy).1)
    · exact (n1 g hk).1
  · rw [hc]
    by_cases hk : keep g
    · rw [(k1 g hk).1, h.mem g x]
      constructor
      · rintro ⟨a, b, c⟩; exact ⟨a, b, (k2 g hk x b a).2 c⟩
      · rintro ⟨a, b, c⟩; exact ⟨a, b, (k2 g hk x b a).1 c⟩
    · exact (n1 g hk).2.2.2 x
  · by_cases hk : keep g
    · rw [(k1 g hk).1]; exact h.nd g
    · exact (n1 g hk).2.1
  · by_cases hk : keep g
    · obtain ⟨e, hs⟩ := k1 g hk
      rw [e]; exact (h.heap g).frame (fun y hy => (hs y hy).2)
    · exact (n1 g hk).2.2.1
def single (x : Nat) : BT := .node x .nil .nil
theorem single_isT {S : TS} {x : Nat} (h : S.l x = -1 ∧ S.r x = -1 ∧ S.u x = -1) : IsT S (-1) (single x).root (single x) := ⟨rfl, h.2.2, h.1, h.2.1⟩
theorem TrI.out {A : NS} {S : TS} {tops : List Int} {tr : Nat → BT} (h : TrI A S tops tr) {x g : Nat} (hx : (A.c x).i = 0) : x ∉ (tr g).nodes := fun hm => by
  have := (h.mem g x).1 hm
  omega
/-- A new one's tree, with what it is merged into. -/
theorem TrI.put {A : NS} {S S' : TS} {tops : List Int} {tr : Nat → BT} (h : TrI A S tops tr) (ok : A.Ok) (hn : tops.length = A.hs.length) {g x : Nat} {k s : Int} (hB : putB A g x = true) {t' : BT}
    (hT : IsT S' (-1) t'.root t') (hp : t'.nodes.Perm ((tr g).nodes ++ [x])) (hH : Heap (putN A g x k s) t') (hs : ∀ y, y ∉ (tr g).nodes ++ [x] → S.at S' y) :
    TrI (putN A g x k s) S' (tops.set g t'.root) (fun q => if q = g then t' else tr q) := by
  obtain ⟨b1, b2, b3⟩ := (putB_iff _ _ _).1 hB
  have b4 := (hasN_iff _ _).1 b1
  have hx : x < A.cs.length := by have := (slotN_iff _ _).1 b2; omega
  have h0 : (A.c x).i = 0 := by
    have := (ok.nat x hx).1
    have h3 : ¬ (0 < (A.c x).i) := fun h' => by rw [(inN_nat A x).2 ⟨hx, h'⟩] at b3; cases b3
    omega
  have hc : ∀ y, (putN A g x k s).c y = if y = x then ⟨g, k, s⟩ else A.c y := fun y => by
    unfold putN; rw [if_pos hB, Int.toNat_natCast, c_with]
    by_cases e : y = x
    · rw [if_pos ⟨e, hx⟩, if_pos e]
    · rw [if_neg (fun h => e h.1), if_neg e]
  have hl : (putN A g x k s).cs.length = A.cs.length := by unfold putN; rw [if_pos hB, len_with]
  have hh : (putN A g x k s).hs = A.hs := by unfold putN; rw [if_pos hB]; rfl
  have hgn : g < A.hs.length := by omega
  refine h.next hl (fun q => q ≠ g) (fun q hq => ⟨if_neg hq, fun y hy => ?_⟩) (fun q hq y hy hq0 => ?_) (fun q hq => ?_) (fun q hq => ?_) (fun y hy hy0 => ?_)
  · have hyx : y ≠ x := fun e => h.out (g := q) h0 (by rw [← e]; exact hy)
    have hyg : y ∉ (tr g).nodes := fun hm => by
      have a1 := (h.mem g y).1 hm
      have a2 := (h.mem q y).1 hy
      omega
    exact ⟨hs y (by simp [hyx, hyg]), by rw [hc, if_neg hyx]⟩
  · rw [hc]
    by_cases e : y = x
    · rw [if_pos e, e]; simp only; omega
    · rw [if_neg e]
  · have hq' : q = g := Classical.not_not.1 hq
    subst hq'
    rw [if_pos rfl]
    refine ⟨hT, hp.nodup_iff.2 ?_, hH, fun y => ?_⟩
    · rw [List.nodup_append]
      refine ⟨h.nd q, by simp, fun a ha b hb e => ?_⟩
      simp only [List.mem_singleton] at hb
      exact h.out (g := q) h0 (by rw [← hb, ← e]; exact ha)
    · rw [hp.mem_iff, List.mem_append, List.mem_singleton, h.mem q y, hc]
      by_cases e : y = x
      · rw [if_pos e]
        simp only [e, or_true, true_iff]
        exact ⟨by omega, hx, trivial⟩
      · rw [if_neg e]
        simp only [e, or_false]
  · rw [hh] at hq
    by_cases e : q = g
    · rw [if_pos e, e, List.getD_eq_getElem?_getD, List.getElem?_set, if_pos rfl, if_pos (by omega)]; rfl
    · rw [if_neg e, List.getD_eq_getElem?_getD, List.getElem?_set, if_neg (fun h => e h.symm), ← List.getD_eq_getElem?_getD]; exact h.top q hq
  · rw [hc] at hy0
    by_cases e : y = x
    · rw [if_pos e] at hy0; simp only at hy0; omega
    · rw [if_neg e] at hy0
      have hyn : y ∉ (tr g).nodes ++ [x] := by
        simp only [List.mem_append, List.mem_singleton, e, or_false]
        exact h.out hy0
      have a1 := h.free y hy hy0
      have a2 := hs y hyn
      exact ⟨a2.1.trans a1.1, a2.2.1.trans a1.2.1, a2.2.2.trans a1.2.2⟩
end Go.Proofs.Ytechoojcgdjcdaa
