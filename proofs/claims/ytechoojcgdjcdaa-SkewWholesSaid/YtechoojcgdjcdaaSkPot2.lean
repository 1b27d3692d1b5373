/-
  Skew heaps: a call's cost and what it adds to the potential are few (plain). Conditions: those of each lemma.
-/
import Derived.Test.YtechoojcgdjcdaaSkPot
set_option linter.unusedVariables false
set_option linter.unusedSimpArgs false
namespace Go.Proofs.Ytechoojcgdjcdaa
open Go Go.RowKit

theorem pow_bits {k n : Nat} (h : 2 ^ k ≤ n + 1) {m : Int} (hs : (n : Int) + 1 ≤ m) (hm : m ≤ 4611686018427387904) : (k : Int) + 1 ≤ bitsOf m := by
  refine bits_pow k m ?_ hm
  have h2 : ((2 ^ k : Nat) : Int) ≤ ((n + 1 : Nat) : Int) := by exact_mod_cast h
  have h3 : ((2 ^ k : Nat) : Int) = (2 : Int) ^ k := by push_cast; rfl
  omega
theorem mer_amort (A : NS) (a b : BT) {m : Int} (h1 : (a.size : Int) + 1 ≤ m) (h2 : (b.size : Int) + 1 ≤ m) (hm : m ≤ 4611686018427387904) :
    ((mergeT upS A a b).2 : Int) + phi (mergeT upS A a b).1 ≤ phi a + phi b + 4 * bitsOf m := by
  have h := merge_pot A _ a b (Nat.le_refl _)
  have l1 := pow_bits (lite_size a) h1 hm
  have l2 := pow_bits (lite_size b) h2 hm
  omega
theorem hole_amort (P : List Fr) (s s' : Nat) (h : s' ≤ s) {m : Int} (h1 : ((s' + (ctxN P).length : Nat) : Int) + 1 ≤ m) (hm : m ≤ 4611686018427387904) : (phiC P s' : Int) ≤ phiC P s + bitsOf m := by
  obtain ⟨k, k1, k2⟩ := phiC_less P s s' h
  have hp : 2 ^ k ≤ s' + (ctxN P).length + 1 := by
    have : 2 ^ k * 1 ≤ 2 ^ k * (s' + 1) := Nat.mul_le_mul_left _ (by omega)
    omega
  have := pow_bits hp h1 hm
  omega
theorem sdel_amort {A : NS} {t : BT} {x : Nat} (hx : x ∈ t.nodes) {m : Int} (h1 : (t.size : Int) + 1 ≤ m) (hm : m ≤ 4611686018427387904) : (sdelT A t x).1.size ≤ t.size ∧ ((sdelT A t x).2 : Int) + phi (sdelT A t x).1 ≤ phi t + 5 * bitsOf m := by
  have e := pathOf_eq hx
  unfold sdelT
  generalize (pathOf t x).1 = P at *
  generalize (pathOf t x).2.1 = l at *
  generalize (pathOf t x).2.2 = r at *
  have es : t.size = l.size + r.size + 1 + (ctxN P).length := by rw [e, plug_size]; rfl
  have ep : phi t = phi l + phi r + hv l r + phiC P (l.size + r.size + 1) := by rw [e, phi_plug]; rfl
  have ms := merge_size A l r
  have c1 := mer_amort A l r (m := m) (by omega) (by omega) hm
  have c2 := hole_amort P (l.size + r.size + 1) (l.size + r.size) (by omega) (m := m) (by omega) hm
  refine ⟨?_, ?_⟩
  · show (plug P _).size ≤ _
    rw [plug_size, ms]; omega
  · show _ + (phi (plug P _) : Int) ≤ _
    rw [phi_plug, ms, ep]
    push_cast
    omega
theorem slow_amort {A : NS} {t : BT} {x : Nat} (hx : x ∈ t.nodes) {m : Int} (h1 : (t.size : Int) + 1 ≤ m) (hm : m ≤ 4611686018427387904) : (slowT A t x).1.size ≤ t.size ∧ ((slowT A t x).2 : Int) + phi (slowT A t x).1 ≤ phi t + 5 * bitsOf m := by
  have e := pathOf_eq hx
  have hb := (bitsOf_bd m).1
  unfold slowT
  generalize (pathOf t x).1 = P at *
  generalize (pathOf t x).2.1 = l at *
  generalize (pathOf t x).2.2 = r at *
  cases P with
  | nil => exact ⟨Nat.le_refl _, by simp only []; omega⟩
  | cons f P =>
    simp only []
    have es : t.size = l.size + r.size + 1 + (ctxN (f :: P)).length := by rw [e, plug_size]; rfl
    have ep : phi t = phi (.node x l r) + phiC (f :: P) (l.size + r.size + 1) := by rw [e, phi_plug]; rfl
    have es2 : (plug (f :: P) .nil).size = (ctxN (f :: P)).length := by rw [plug_size]; simp [BT.size]
    have ep2 : phi (plug (f :: P) .nil) = phiC (f :: P) 0 := by rw [phi_plug]; simp [phi, BT.size]
    have en : (BT.node x l r).size = l.size + r.size + 1 := rfl
    have ms := merge_size A (plug (f :: P) .nil) (.node x l r)
    have c1 := mer_amort A (plug (f :: P) .nil) (.node x l r) (m := m) (by omega) (by omega) hm
    have c2 := hole_amort (f :: P) (l.size + r.size + 1) 0 (by omega) (m := m) (by omega) hm
    exact ⟨by omega, by omega⟩
def sumN : Nat → (Nat → Nat) → Nat
  | 0, _ => 0
  | n + 1, f => sumN n f + f n
theorem sumN_same : ∀ (n : Nat) (f g : Nat → Nat), (∀ x, x < n → f x = g x) → sumN n f = sumN n g
  | 0, _, _, _ => rfl
  | n + 1, f, g, h => by
    unfold sumN
    rw [sumN_same n f g (fun x hx => h x (by omega)), h n (by omega)]
theorem sumN_set : ∀ (n : Nat) (f : Nat → Nat) (q v : Nat), q < n → sumN n (fun x => if x = q then v else f x) + f q = sumN n f + v
  | 0, _, _, _, h => by omega
  | n + 1, f, q, v, h => by
    unfold sumN
    by_cases e : n = q
    · subst e
      dsimp only
      rw [if_pos rfl, sumN_same n (fun x => if x = n then v else f x) f (fun x hx => if_neg (by omega))]
      omega
    · have := sumN_set n f q v (by omega)
      dsimp only
      rw [if_neg e]
      omega
theorem sumN_le : ∀ (n : Nat) (f : Nat → Nat) (q : Nat), q < n → f q ≤ sumN n f
  | 0, _, _, h => by omega
  | n + 1, f, q, h => by
    unfold sumN
    by_cases e : n = q
    · subst e; omega
    · have := sumN_le n f q (by omega); omega
theorem sumN_le2 : ∀ (n : Nat) (f : Nat → Nat) (q p : Nat), q < n → p < n → q ≠ p → f q + f p ≤ sumN n f
  | 0, _, _, _, h, _, _ => by omega
  | n + 1, f, q, p, h, h2, hne => by
    unfold sumN
    by_cases e : n = q
    · subst e; have := sumN_le n f p (by omega); omega
    · by_cases e2 : n = p
      · subst e2; have := sumN_le n f q (by omega); omega
      · have := sumN_le2 n f q p (by omega) (by omega) hne; omega
theorem sumN_zero : ∀ n : Nat, sumN n (fun _ => 0) = 0
  | 0 => rfl
  | n + 1 => by unfold sumN; rw [sumN_zero n]; rfl
def phiS (N : Nat) (tr : Nat → BT) : Nat := sumN N fun q => phi (tr q)
def sizS (N : Nat) (tr : Nat → BT) : Nat := sumN N fun q => (tr q).size
theorem phiS_set (N : Nat) (tr : Nat → BT) (q : Nat) (t : BT) (h : q < N) : phiS N (setT tr q t) + phi (tr q) = phiS N tr + phi t := by
  unfold phiS
  rw [← sumN_set N (fun q => phi (tr q)) q (phi t) h]
  congr 1
  refine sumN_same _ _ _ (fun x _ => ?_)
  unfold setT
  by_cases e : x = q
  · rw [if_pos e, if_pos e]
  · rw [if_neg e, if_neg e]
theorem sizS_set (N : Nat) (tr : Nat → BT) (q : Nat) (t : BT) (h : q < N) : sizS N (setT tr q t) + (tr q).size = sizS N tr + t.size := by
  unfold sizS
  rw [← sumN_set N (fun q => (tr q).size) q t.size h]
  congr 1
  refine sumN_same _ _ _ (fun x _ => ?_)
  unfold setT
  by_cases e : x = q
  · rw [if_pos e, if_pos e]
  · rw [if_neg e, if_neg e]
end Go.Proofs.Ytechoojcgdjcdaa
