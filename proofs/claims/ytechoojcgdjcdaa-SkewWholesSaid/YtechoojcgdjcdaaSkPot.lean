/-
  Skew heaps: what calls cost together (plain): a potential, how many things are heavy to the right. Conditions: those of each lemma.
-/
import Derived.Test.YtechoojcgdjcdaaGsm
import Derived.Test.YtechoojcgdjcdaaLfCost
set_option linter.unusedVariables false
set_option linter.unusedSimpArgs false
namespace Go.Proofs.Ytechoojcgdjcdaa
open Go Go.RowKit

/-- Is it heavy to the right? -/
def hv (l r : BT) : Nat := if l.size < r.size then 1 else 0
def phi : BT → Nat
  | .nil => 0
  | .node _ l r => phi l + phi r + hv l r
/-- How many things of the way to the right are not heavy. -/
def lite : BT → Nat
  | .nil => 0
  | .node _ l r => lite r + (1 - hv l r)
theorem hv_le (l r : BT) : hv l r ≤ 1 := by unfold hv; split <;> omega
theorem lite_size : ∀ t : BT, 2 ^ lite t ≤ t.size + 1
  | .nil => by simp [lite, BT.size]
  | .node x l r => by
    have ih := lite_size r
    simp only [lite, BT.size]
    unfold hv
    split
    · simp only [Nat.sub_self, Nat.add_zero]; omega
    · rename_i h
      have : 2 ^ (lite r + (1 - 0)) = 2 ^ lite r * 2 := by rw [show lite r + (1 - 0) = lite r + 1 from rfl, Nat.pow_succ]
      rw [this]; omega
theorem merge_size (A : NS) (a b : BT) : (mergeT upS A a b).1.size = a.size + b.size := by
  have h := (merge_ok upS_ok A _ a b (Nat.le_refl _)).1.length_eq
  rw [BT.size_nodes, List.length_append, BT.size_nodes, BT.size_nodes] at h
  exact h
theorem upS_node (x : Nat) (l m : BT) : upS x l m = .node x m l := rfl
theorem merge_pot (A : NS) : ∀ (n : Nat) (a b : BT), a.size + b.size ≤ n → (mergeT upS A a b).2 + phi (mergeT upS A a b).1 ≤ phi a + phi b + 2 * (lite a + lite b)
  | n, .nil, t, h => by rw [mergeT_nil]; simp [phi, lite]
  | n, .node x l r, .nil, h => by rw [mergeT_nil2]; simp [phi, lite]
  | 0, .node x l r, .node y l' r', h => by simp [BT.size] at h
  | n + 1, .node x l r, .node y l' r', h => by
    simp only [BT.size] at h
    rw [mergeT_node]
    split
    · have ih := merge_pot A n r' (.node x l r) (by simp only [BT.size]; omega)
      have hs := merge_size A r' (.node x l r)
      simp only [upS_node, phi, lite] at ih ⊢
      have h1 := hv_le l' r'
      have h2 := hv_le (mergeT upS A r' (.node x l r)).1 l'
      have h3 : hv l' r' = 1 → hv (mergeT upS A r' (.node x l r)).1 l' = 0 := fun e => by
        unfold hv at e ⊢
        rw [hs]
        split at e
        · rw [if_neg (by omega)]
        · omega
      omega
    · have ih := merge_pot A n r (.node y l' r') (by simp only [BT.size]; omega)
      have hs := merge_size A r (.node y l' r')
      simp only [upS_node, phi, lite] at ih ⊢
      have h1 := hv_le l r
      have h2 := hv_le (mergeT upS A r (.node y l' r')).1 l
      have h3 : hv l r = 1 → hv (mergeT upS A r (.node y l' r')).1 l = 0 := fun e => by
        unfold hv at e ⊢
        rw [hs]
        split at e
        · rw [if_neg (by omega)]
        · omega
      omega
/-- The potential of what lies round a hole, with a tree of this size in the hole. -/
def phiC : List Fr → Nat → Nat
  | [], _ => 0
  | f :: P, s => phi f.2.2 + (if f.2.1 then (if f.2.2.size < s then 1 else 0) else (if s < f.2.2.size then 1 else 0)) + phiC P (f.2.2.size + s + 1)
theorem phi_plug : ∀ (P : List Fr) (t : BT), phi (plug P t) = phi t + phiC P t.size
  | [], t => by simp [plug, phiC]
  | f :: P, t => by
    show phi (plug P (plug1 f t)) = _
    rw [phi_plug P (plug1 f t)]
    have hs : (plug1 f t).size = f.2.2.size + t.size + 1 := by unfold plug1; split <;> simp [BT.size] <;> omega
    rw [hs]
    simp only [phiC]
    unfold plug1
    by_cases hd : f.2.1 = true
    · rw [if_pos hd, if_pos hd]
      simp only [phi]; unfold hv; split <;> omega
    · rw [if_neg hd, if_neg hd]
      simp only [phi]; unfold hv; split <;> omega
/-- A smaller one in the hole: few things more become heavy to the right. -/
theorem phiC_less : ∀ (P : List Fr) (s s' : Nat), s' ≤ s → ∃ k, phiC P s' ≤ phiC P s + k ∧ 2 ^ k * (s' + 1) ≤ s' + (ctxN P).length + 1
  | [], s, s', h => ⟨0, by simp [phiC], by simp [ctxN]⟩
  | f :: P, s, s', h => by
    obtain ⟨k, h1, h2⟩ := phiC_less P (f.2.2.size + s + 1) (f.2.2.size + s' + 1) (by omega)
    have hl : (ctxN (f :: P)).length = 1 + f.2.2.size + (ctxN P).length := by simp [ctxN, BT.size_nodes]; omega
    rw [hl]
    simp only [phiC]
    have hp : 0 < 2 ^ k := Nat.pow_pos (by omega)
    by_cases hd : f.2.1 = true
    · rw [if_pos hd, if_pos hd]
      refine ⟨k, ?_, ?_⟩
      · split <;> split <;> omega
      · have : 2 ^ k * (s' + 1) ≤ 2 ^ k * (f.2.2.size + s' + 1 + 1) := Nat.mul_le_mul_left _ (by omega)
        omega
    · rw [if_neg hd, if_neg hd]
      by_cases hc : s' < f.2.2.size
      · refine ⟨k + 1, ?_, ?_⟩
        · rw [if_pos hc]; split <;> omega
        · have e : 2 ^ (k + 1) * (s' + 1) = 2 ^ k * (2 * (s' + 1)) := by rw [Nat.pow_succ, Nat.mul_assoc]
          have : 2 ^ k * (2 * (s' + 1)) ≤ 2 ^ k * (f.2.2.size + s' + 1 + 1) := Nat.mul_le_mul_left _ (by omega)
          omega
      · refine ⟨k, ?_, ?_⟩
        · rw [if_neg hc]; split <;> omega
        · have : 2 ^ k * (s' + 1) ≤ 2 ^ k * (f.2.2.size + s' + 1 + 1) := Nat.mul_le_mul_left _ (by omega)
          omega
end Go.Proofs.Ytechoojcgdjcdaa
