/-
  Skew heaps: each call of a nest, its cost and what it adds to the potential (plain). Conditions: those of each lemma.
-/
import Derived.Test.YtechoojcgdjcdaaSkPot2
set_option linter.unusedVariables false
set_option linter.unusedSimpArgs false
namespace Go.Proofs.Ytechoojcgdjcdaa
open Go Go.RowKit

theorem set_amort {N : Nat} {tr : Nat → BT} {q : Nat} {t : BT} {c : Nat} {m z : Int} (hq : q < N) (hs : t.size ≤ (tr q).size + 1) (hp : (c : Int) + phi t ≤ phi (tr q) + z) (hz : z ≤ 16 * (2 + bitsOf m)) :
    sizS N (setT tr q t) ≤ sizS N tr + 1 ∧ (c : Int) + phiS N (setT tr q t) ≤ phiS N tr + 16 * (2 + bitsOf m) := by
  have h1 := phiS_set N tr q t hq
  have h2 := sizS_set N tr q t hq
  omega
theorem sk_amort {w : World} {p : Nat} {F : List Nat} {A : NS} {st : Nat} {g : Nat → BT} (h : nestSk.at_ w p F A st g) (a : AC) (N : Nat) (hN : A.hs.length ≤ N) {m : Int} (hz : (sizS N g : Int) + 1 ≤ m) (hm : m ≤ 4611686018427387904) :
    sizS N (stepT sOps A a g).1 ≤ sizS N g + 1 ∧ ((stepT sOps A a g).2 : Int) + phiS N (stepT sOps A a g).1 ≤ phiS N g + 16 * (2 + bitsOf m) := by
  have ok := nestSk.ok h
  obtain ⟨B, F1, rfl, rfl, S, hM, hI⟩ := h
  have hb := (bitsOf_bd m).1
  have tl : ∀ q, q < N → ((g q).size : Int) + 1 ≤ m := fun q hq => by
    have : (g q).size ≤ sizS N g := sumN_le N (fun q => (g q).size) q hq
    omega
  have hin : ∀ y : Nat, inN A (y : Int) = true → ∃ q : Nat, (A.c y).i = q ∧ y ∈ (g q).nodes ∧ q < N := fun y hy => by
    have h1 := (inN_nat A y).1 hy
    have h2 := (hasN_iff _ _).1 (inN_has ok hy)
    rw [Int.toNat_natCast] at h2
    exact ⟨(A.c y).i.toNat, by omega, (hI.mem _ y).2 ⟨by omega, h1.1, by omega⟩, by omega⟩
  have idle : sizS N g ≤ sizS N g + 1 ∧ (((0 : Nat) : Int)) + phiS N g ≤ phiS N g + 16 * (2 + bitsOf m) := ⟨by omega, by omega⟩
  unfold stepT
  split
  · split
    · rename_i hB
      obtain ⟨q, y, e1, e2⟩ := put_nat hB
      have hq : q < N := by
        have b4 := (hasN_iff _ _).1 ((putB_iff _ _ _).1 hB).1
        omega
      rw [e1, Int.toNat_natCast]
      have ms := merge_size (putN A q a.x a.k a.s) (g q) (single a.x.toNat)
      have mp := merge_pot (putN A q a.x a.k a.s) _ (g q) (single a.x.toNat) (Nat.le_refl _)
      have l1 := pow_bits (lite_size (g q)) (tl q hq) hm
      have s1 : (single a.x.toNat).size = 1 := rfl
      have s2 : phi (single a.x.toNat) = 0 := rfl
      have s3 : lite (single a.x.toNat) = 1 := rfl
      show sizS N (setT g q (mergeT upS _ _ _).1) ≤ _ ∧ ((mergeT upS _ _ _).2 : Int) + phiS N (setT g q (mergeT upS _ _ _).1) ≤ _
      exact set_amort (z := 2 * bitsOf m) hq (by omega) (by omega) (by omega)
    · exact idle
  · split
    · split
      · rename_i y hm'
        obtain ⟨h0, h1, h2, h3⟩ := minN_in hm'
        obtain ⟨q, hq, hmem, hqN⟩ := hin y h3
        have e1 : a.h = q := by rw [← h2, hq]
        rw [e1, Int.toNat_natCast]
        obtain ⟨d1, d2⟩ := sdel_amort (A := A) hmem (tl q hqN) hm
        exact set_amort (t := (sdelT A (g q) y).1) (c := (sdelT A (g q) y).2) (z := 5 * bitsOf m) hqN (by omega) d2 (by omega)
      · exact idle
    · split
      · split
        · rename_i hB
          have hi := low_in hB
          obtain ⟨y, e2⟩ := in_nat hi
          rw [e2] at hi
          obtain ⟨q, hq, hmem, hqN⟩ := hin y hi
          rw [e2, Int.toNat_natCast, hq, Int.toNat_natCast]
          obtain ⟨d1, d2⟩ := slow_amort (A := lowN A y a.k a.s) hmem (tl q hqN) hm
          exact set_amort (t := (slowT (lowN A y a.k a.s) (g q) y).1) (c := (slowT (lowN A y a.k a.s) (g q) y).2) (z := 5 * bitsOf m) hqN (by omega) d2 (by omega)
        · exact idle
      · split
        · split
          · rename_i hi
            obtain ⟨y, e2⟩ := in_nat hi
            rw [e2] at hi
            obtain ⟨q, hq, hmem, hqN⟩ := hin y hi
            rw [e2, Int.toNat_natCast, hq, Int.toNat_natCast]
            obtain ⟨d1, d2⟩ := sdel_amort (A := A) hmem (tl q hqN) hm
            exact set_amort (t := (sdelT A (g q) y).1) (c := (sdelT A (g q) y).2) (z := 5 * bitsOf m) hqN (by omega) d2 (by omega)
          · exact idle
        · split
          · split
            · rename_i hB
              obtain ⟨q, y, e1, e2⟩ := join_nat hB
              obtain ⟨j1, j2, j3⟩ := (joinB_iff _ _ _).1 hB
              have a1 := (hasN_iff _ _).1 j1
              have a2 := (hasN_iff _ _).1 j2
              have hne : q ≠ y := fun e => j3 (by rw [e1, e2, e])
              have hqN : q < N := by omega
              have hyN : y < N := by omega
              rw [e1, e2, Int.toNat_natCast, Int.toNat_natCast]
              have ms := merge_size (joinN A q y) (g q) (g y)
              have mp := mer_amort (joinN A q y) (g q) (g y) (tl q hqN) (tl y hyN) hm
              have h1 := phiS_set N g y .nil hyN
              have h2 := sizS_set N g y .nil hyN
              have h3 := phiS_set N (setT g y .nil) q (mergeT upS (joinN A q y) (g q) (g y)).1 hqN
              have h4 := sizS_set N (setT g y .nil) q (mergeT upS (joinN A q y) (g q) (g y)).1 hqN
              have e3 : setT g y .nil q = g q := by unfold setT; rw [if_neg hne]
              rw [e3] at h3 h4
              have n1 : phi .nil = 0 := rfl
              have n2 : BT.size .nil = 0 := rfl
              show sizS N (setT (setT g y .nil) q (mergeT upS _ _ _).1) ≤ _ ∧ ((mergeT upS _ _ _).2 : Int) + phiS N (setT (setT g y .nil) q (mergeT upS _ _ _).1) ≤ _
              exact ⟨by omega, by omega⟩
            · exact idle
          · exact idle
end Go.Proofs.Ytechoojcgdjcdaa
