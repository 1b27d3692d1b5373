/-
  Leftist heaps: Nest.Spine: the way to the right of any heap. Conditions: those of each lemma.
-/
import Derived.Test.YtechoojcgdjcdaaLfSp
import Derived.Test.YtechoojcgdjcdaaLfCost
set_option linter.unusedVariables false
set_option linter.unusedSimpArgs false
namespace Go.Proofs.Ytechoojcgdjcdaa
open Go Go.RowKit

section
variable {w : World} {B : LB} {F : List Nat} {gt ct : Nat} {A : NS} {st : Nat} {tr : Nat → BT}
theorem tr_none {S : TS} {tops : List Int} (ok : A.Ok) (h : TrI A S tops tr) {q : Nat} (hq : hasN A q = false) : tr q = .nil := by
  cases e : tr q with
  | nil => rfl
  | node y a b =>
    exfalso
    have := (h.mem q y).1 (by rw [e]; simp [BT.nodes])
    have h3 := inN_has ok ((inN_nat A y).2 ⟨this.2.1, by omega⟩)
    have e9 : (A.c y).i = (q : Int) := by omega
    rw [Int.toNat_natCast, e9, hq] at h3
    cases h3
set_option maxHeartbeats 2000000 in
theorem lspine_any (h : LfAt w B F gt ct A st tr) (q : Int) :
    Calls Try.prog 26 #[.pointer (some ⟨B.n0, 0, none⟩), .int .i64 q] w fun e w' => ∃ b v, e = .returned v ∧ w.heap.size ≤ b ∧ w'.ownsRow b 3 1 v (rsp (if hasN A q then tr q.toNat else .nil)).length (wayZ (rsp (if hasN A q then tr q.toNat else .nil))) ∧ Upd [] w w' := by
  obtain ⟨S, rk, tops, hM, hI, hL, hR⟩ := h
  have kh := chas_any hM.cells q
  have h0 := hM.h0
  cases hq : hasN A q with
  | false =>
    rw [hq] at kh
    simp only [Bool.false_eq_true, if_false]
    clear hM hI hL hR
    go_enter Try.func26, Try.ntmps26
    go_wp2_with (first | (go_at_call 19; (with_reducible refine (kh).mono ?_); rintro e w9 ⟨rfl, hw9⟩; rw [hw9]; clear hw9 w9) | fail)
    go_ret
    exact ⟨_, _, rfl, Nat.le_refl _, World.ownsRow_nil _ _ _ _, Upd.refl _ _⟩
  | true =>
    rw [hq] at kh
    simp only [if_true]
    have a1 := (hasN_iff _ _).1 hq
    obtain ⟨g, rfl⟩ : ∃ g : Nat, q = g := ⟨q.toNat, by omega⟩
    rw [Int.toNat_natCast]
    have hga : g < tops.length := by rw [hM.topn]; omega
    have hta := hI.top g (by omega)
    have d4 := hM.topI.cell g hga
    rw [hta] at d4
    have h3 := hM.h3
    have h1 := hM.h1
    have hA := hM.cells.ok.c1
    have hnd := nodup_natlen (hI.nd g) (fun y hy => ((hI.mem g y).1 hy).2.1)
    rw [BT.size_nodes] at hnd
    have ks := fun W (hW : Upd [] w W) => tspine_any (hM.trees.upd hW (by simp) (by simp)) (hI.isT g) (fun y hy => ((hI.mem g y).1 hy).2.1) (by omega)
    have hib1 : (0 : Int) ≤ (g : Int) := by omega
    have hib2 : (g : Int) < (tops.length : Int) := by omega
    clear hM hI hL hR hta a1 hq
    go_enter Try.func26, Try.ntmps26
    go_wp2_with (first
      | (go_at_call 19; (with_reducible refine (kh).mono ?_); rintro e w9 ⟨rfl, hw9⟩; rw [hw9]; clear hw9 w9)
      | fail)
    have r1 : ∀ W, Upd [] w W → W.cell? ⟨B.n0, 1, none⟩ = some (.pointer (some ⟨B.bt, 0, none⟩)) := fun W hW => hW.was h1
    have r3 : ∀ W, Upd [] w W → W.cell? ⟨B.n0, 3, none⟩ = some (.slice (some ⟨gt, 0, none⟩) tops.length ct) := fun W hW => hW.was h3
    have r4 : ∀ W, Upd [] w W → W.cell? ⟨gt, g, none⟩ = some (.int .i64 (tr g).root) := fun W hW => hW.was d4
    go_region_held3 (Upd [] w) (repeat (first | assumption | exact Upd.refl _ _ | refine Upd.drew ?_ | refine Upd.alloc ?_ _ | (apply Upd.trans; rotate_left; assumption)))
      ((go_at_call 53; (with_reducible refine (ks _ (by (repeat (first | assumption | exact Upd.refl _ _ | refine Upd.drew ?_ | refine Upd.alloc ?_ _ | (apply Upd.trans; rotate_left; assumption))))).mono ?_); rintro e w1 ⟨v, rfl, ho, hu⟩; (have hu2 : Upd [] w w1 := by (repeat (first | assumption | exact Upd.refl _ _ | refine Upd.drew ?_ | refine Upd.alloc ?_ _ | (apply Upd.trans; rotate_left; assumption))))))
    go_wp2
    go_ret
    exact ⟨_, v, rfl, by first | exact Nat.le_refl _ | (simp; done) | (simp; omega), ho, by (repeat (first | assumption | exact Upd.refl _ _ | refine Upd.drew ?_ | refine Upd.alloc ?_ _ | (apply Upd.trans; rotate_left; assumption)))⟩
end
end Go.Proofs.Ytechoojcgdjcdaa
