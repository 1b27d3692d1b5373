/-
  Skew heaps: calls, however many, together take few steps (plain). Conditions: those of each lemma.
-/
import Derived.Test.YtechoojcgdjcdaaSkPot3
import Derived.Test.YtechoojcgdjcdaaWholes
set_option linter.unusedVariables false
set_option linter.unusedSimpArgs false
namespace Go.Proofs.Ytechoojcgdjcdaa
open Go Go.RowKit

theorem bits_step : ∀ i : Nat, i < 1001 → bitsOf (i : Int) ≤ bitsOf ((i : Int) + 1) := by decide +kernel
def skInv (i : Nat) (A : NS) (st : Nat) (g : Nat → BT) : Prop := (st : Int) + phiS 65537 g ≤ 16 * (i : Int) * (2 + bitsOf (i : Int)) ∧ sizS 65537 g ≤ i ∧ i ≤ 1000
theorem phiS_nil (N : Nat) : phiS N (fun _ => .nil) = 0 := sumN_zero N
theorem sizS_nil (N : Nat) : sizS N (fun _ => .nil) = 0 := sumN_zero N
theorem sk_inv0 (n : Nat) : skInv 0 (NS.new n) 0 (fun _ => .nil) := by
  unfold skInv
  rw [phiS_nil, sizS_nil]
  exact ⟨by simp, by omega, by omega⟩
theorem sk_cost (W : World) (p : Nat) (F : List Nat) (A : NS) (st : Nat) (g : nestSk.G) (a : AC) (i : Nat) (h : nestSk.at_ W p F A st g) (ha : a.Ok) (hi : i < 1000) (hv : skInv i A st g) : skInv (i + 1) (doN A a) (satS st (nestSk.cost A a g)) (nestSk.next A a g) := by
  have ok := nestSk.ok h
  obtain ⟨v1, v2, v3⟩ := hv
  have hN : A.hs.length ≤ 65537 := ok.h1
  generalize hnn : 65537 = N at *
  have hm := sk_amort h a N hN (m := (i : Int) + 1) (by omega) (by omega)
  have hs : satS st (nestSk.cost A a g) ≤ st + nestSk.cost A a g := by unfold satS; omega
  have hc : nestSk.cost A a g = (stepT sOps A a g).2 := rfl
  have hx : nestSk.next A a g = (stepT sOps A a g).1 := rfl
  have hb := bits_step i (by omega)
  have hb0 := (bitsOf_bd (i : Int)).1
  unfold skInv
  rw [hnn, hx]
  have e1 : (((i + 1 : Nat)) : Int) = (i : Int) + 1 := by omega
  rw [e1]
  have h1 : 16 * (i : Int) * (2 + bitsOf (i : Int)) ≤ 16 * (i : Int) * (2 + bitsOf ((i : Int) + 1)) := Int.mul_le_mul_of_nonneg_left (by omega) (by omega)
  have h2 : 16 * ((i : Int) + 1) * (2 + bitsOf ((i : Int) + 1)) = 16 * (i : Int) * (2 + bitsOf ((i : Int) + 1)) + 16 * (2 + bitsOf ((i : Int) + 1)) := by rw [show 16 * ((i : Int) + 1) = 16 * (i : Int) + 16 by omega, Int.add_mul]
  refine ⟨?_, by omega, by omega⟩
  rw [h2]
  generalize 16 * (i : Int) * (2 + bitsOf (i : Int)) = z1 at *
  generalize 16 * (i : Int) * (2 + bitsOf ((i : Int) + 1)) = z2 at *
  omega
theorem sk_le (i : Nat) (A : NS) (st : Nat) (g : nestSk.G) (hv : skInv i A st g) : (st : Int) ≤ whole 7 0 (i : Int) := by
  obtain ⟨v1, v2, v3⟩ := hv
  rw [whole_y (by decide) (by decide)]
  have hn : near (i : Int) = i := by unfold near; rw [if_neg (by omega), if_neg (by omega)]
  rw [hn]
  generalize phiS 65537 g = z at *
  omega
theorem config11 (w : World) : Calls Try.prog 38 #[] w fun e w' => e = .returned (.agg #[.int .i64 7, .int .i64 0]) ∧ Upd [] w w' := by
  go_enter Try.func38, Try.ntmps38
  go_wp2
  exact bodyPost_ret (v := .agg #[.int .i64 7, .int .i64 0]) (by simp [results, Try.results38, go_sem]) rfl ⟨rfl, by (repeat (first | assumption | exact Upd.refl _ _ | refine Upd.alloc ?_ _ | refine Upd.drew ?_ | refine Upd.drewN ?_ _ | refine Upd.setCell ?_ ?_ _ | focus (left; simp; done) | focus (right; simp; done) | focus (right; simp; omega)))⟩
end Go.Proofs.Ytechoojcgdjcdaa
