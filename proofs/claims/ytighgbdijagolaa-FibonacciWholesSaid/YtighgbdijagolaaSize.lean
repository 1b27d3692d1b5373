/-
  How many things are in the heaps of what is done. Conditions: those of each lemma.
-/
import Derived.Test.YtighgbdijagolaaNestB
set_option linter.unusedVariables false
set_option linter.unusedSimpArgs false
namespace Go.Proofs.Ytighgbdijagolaa
open Go Go.RowKit
def sizeX (A : NS) (a : AC) : Int := if a.kind = 6 then (lenN A a.h : Int) else (lenN A (if (a.kind = 4 ∨ a.kind = 5) ∧ inN A a.x = true then (A.c a.x.toNat).i else a.h) : Int)
def sizeY (A : NS) (a : AC) : Int := if a.kind = 6 then (lenN A a.x : Int) else 0
theorem size_bd {A : NS} (ok : A.Ok) (a : AC) : 0 ≤ sizeX A a ∧ sizeX A a ≤ 65536 ∧ 0 ≤ sizeY A a ∧ sizeY A a ≤ 65536 := by
  unfold sizeX sizeY
  have h1 := fun h => lenN_le ok h
  split
  · have := h1 a.h; have := h1 a.x; omega
  · have := h1 (if (a.kind = 4 ∨ a.kind = 5) ∧ inN A a.x = true then (A.c a.x.toNat).i else a.h); omega
set_option maxHeartbeats 4000000 in
set_option maxRecDepth 10000 in
theorem size_any {w : World} {R : List Nat} {gh oh ch gc oc cc : Nat} {A : NS} (hr : RefM w R gh oh ch gc oc cc A) (ok : A.Ok) (a : AC) :
    Calls Try.prog 79 #[.agg #[.slice (some ⟨gh, oh, none⟩) A.hs.length ch, .slice (some ⟨gc, oc, none⟩) A.cs.length cc], .agg #[.int .i64 a.kind, .int .i64 a.h, .int .i64 a.x, .int .i64 a.k, .int .u64 a.s]] w fun e w' => e = .returned (.tuple #[.int .i64 (sizeX A a), .int .i64 (sizeY A a)]) ∧ Upd [] w w' := by
  obtain ⟨kd, h, x, k, s⟩ := a
  unfold sizeX sizeY
  dsimp only
  have kl := fun q W (hW : Upd [] w W) => rlenN_any (⟨gh, oh, ch, gc, oc, cc, rfl, hr.upd0 hW⟩ : RefAt W R (refV gh oh ch gc oc cc A) A) ok q
  have ki := fun W (hW : Upd [] w W) => rinN_any (⟨gh, oh, ch, gc, oc, cc, rfl, hr.upd0 hW⟩ : RefAt W R (refV gh oh ch gc oc cc A) A) ok x
  unfold refV at kl ki
  have huc : Upd [] w ((w.alloc (.cells #[Value.slice (some ⟨gh, oh, none⟩) A.hs.length ch, Value.slice (some ⟨gc, oc, none⟩) A.cs.length cc] 53)).alloc (.cells #[Value.int .i64 kd, .int .i64 h, .int .i64 x, .int .i64 k, .int .u64 s] 59)) := by (repeat (first | assumption | exact Upd.refl _ _ | refine Upd.alloc ?_ _ | refine Upd.drew ?_ | refine Upd.drewN ?_ _ | refine Upd.setCell ?_ ?_ _ | focus (left; simp; done) | focus (right; simp; done) | focus (right; simp; omega)))
  by_cases h6 : kd = 6
  · subst h6
    rw [if_pos rfl, if_pos rfl]
    have b4 : ((6 : Int) == 4) = false := by decide
    have b5 : ((6 : Int) == 5) = false := by decide
    go_enter Try.func79, Try.ntmps79
    go_wp2
    have r0 : ∀ W, Upd [] ((w.alloc (.cells #[Value.slice (some ⟨gh, oh, none⟩) A.hs.length ch, Value.slice (some ⟨gc, oc, none⟩) A.cs.length cc] 53)).alloc (.cells #[Value.int .i64 6, .int .i64 h, .int .i64 x, .int .i64 k, .int .u64 s] 59)) W → W.cell? ⟨w.heap.size, 0, none⟩ = some (.slice (some ⟨gh, oh, none⟩) A.hs.length ch) := fun W hW => hW.was (by go_simp)
    have r1 : ∀ W, Upd [] ((w.alloc (.cells #[Value.slice (some ⟨gh, oh, none⟩) A.hs.length ch, Value.slice (some ⟨gc, oc, none⟩) A.cs.length cc] 53)).alloc (.cells #[Value.int .i64 6, .int .i64 h, .int .i64 x, .int .i64 k, .int .u64 s] 59)) W → W.cell? ⟨w.heap.size, 1, none⟩ = some (.slice (some ⟨gc, oc, none⟩) A.cs.length cc) := fun W hW => hW.was (by go_simp)
    have r2 : ∀ W, Upd [] ((w.alloc (.cells #[Value.slice (some ⟨gh, oh, none⟩) A.hs.length ch, Value.slice (some ⟨gc, oc, none⟩) A.cs.length cc] 53)).alloc (.cells #[Value.int .i64 6, .int .i64 h, .int .i64 x, .int .i64 k, .int .u64 s] 59)) W → W.cell? ⟨w.heap.size + 1, 1, none⟩ = some (.int .i64 h) := fun W hW => hW.was (by go_simp)
    have r3 : ∀ W, Upd [] ((w.alloc (.cells #[Value.slice (some ⟨gh, oh, none⟩) A.hs.length ch, Value.slice (some ⟨gc, oc, none⟩) A.cs.length cc] 53)).alloc (.cells #[Value.int .i64 6, .int .i64 h, .int .i64 x, .int .i64 k, .int .u64 s] 59)) W → W.cell? ⟨w.heap.size + 1, 2, none⟩ = some (.int .i64 x) := fun W hW => hW.was (by go_simp)
    go_region_held3 (Upd [] ((w.alloc (.cells #[Value.slice (some ⟨gh, oh, none⟩) A.hs.length ch, Value.slice (some ⟨gc, oc, none⟩) A.cs.length cc] 53)).alloc (.cells #[Value.int .i64 6, .int .i64 h, .int .i64 x, .int .i64 k, .int .u64 s] 59))) (repeat (first | assumption | exact Upd.refl _ _ | refine Upd.drew ?_ | refine Upd.alloc ?_ _ | (apply Upd.trans; rotate_left; assumption)))
      (((go_at_call 29; (with_reducible refine (kl _ _ (huc.trans (by (repeat (first | assumption | exact Upd.refl _ _ | refine Upd.drew ?_ | refine Upd.alloc ?_ _ | (apply Upd.trans; rotate_left; assumption)))))).mono ?_)); rintro e w4 ⟨rfl, hu4⟩; (have hv4 : Upd [] ((w.alloc (.cells #[Value.slice (some ⟨gh, oh, none⟩) A.hs.length ch, Value.slice (some ⟨gc, oc, none⟩) A.cs.length cc] 53)).alloc (.cells #[Value.int .i64 6, .int .i64 h, .int .i64 x, .int .i64 k, .int .u64 s] 59)) w4 := by (repeat (first | assumption | exact Upd.refl _ _ | refine Upd.drew ?_ | refine Upd.alloc ?_ _ | (apply Upd.trans; rotate_left; assumption))))))
    go_wp2
    go_ret2
    exact ⟨rfl, huc.trans (by (repeat (first | assumption | exact Upd.refl _ _ | refine Upd.drew ?_ | refine Upd.alloc ?_ _ | (apply Upd.trans; rotate_left; assumption))))⟩
  · rw [if_neg h6, if_neg h6]
    have b6 : (kd == 6) = false := by simpa using h6
    by_cases h45 : kd = 4 ∨ kd = 5
    · cases hin : inN A x with
      | false =>
        rw [if_neg (by simp)]
        rw [hin] at ki
        clear huc
        have hbb : (kd == 4) = true ∨ ((kd == 4) = false ∧ (kd == 5) = true) := by
          rcases h45 with h | h
          · exact Or.inl (by simp [h])
          · exact Or.inr ⟨by simp; omega, by simp [h]⟩
        clear h45 h6
        rcases hbb with b4 | ⟨b4, b5⟩
        all_goals
          go_enter Try.func79, Try.ntmps79
          go_wp2_with (first
            | ((go_at_call 35; (with_reducible refine (ki _ (by (repeat (first | assumption | exact Upd.refl _ _ | refine Upd.alloc ?_ _ | refine Upd.drew ?_ | refine Upd.drewN ?_ _ | refine Upd.setCell ?_ ?_ _ | focus (left; simp; done) | focus (right; simp; done) | focus (right; simp; omega))))).mono ?_)); rintro e w3 ⟨rfl, hu3⟩; (have z0 : w3.cell? ⟨w.heap.size, 0, none⟩ = some (.slice (some ⟨gh, oh, none⟩) A.hs.length ch) := hu3.was (by go_simp)); (have z1 : w3.cell? ⟨w.heap.size, 1, none⟩ = some (.slice (some ⟨gc, oc, none⟩) A.cs.length cc) := hu3.was (by go_simp)); (have z2 : w3.cell? ⟨w.heap.size + 1, 0, none⟩ = some (.int .i64 kd) := hu3.was (by go_simp)); (have hv3 : Upd [] w w3 := Upd.trans (by (repeat (first | assumption | exact Upd.refl _ _ | refine Upd.alloc ?_ _ | refine Upd.drew ?_ | refine Upd.drewN ?_ _ | refine Upd.setCell ?_ ?_ _ | focus (left; simp; done) | focus (right; simp; done) | focus (right; simp; omega)))) hu3))
            | ((go_at_call 29; (with_reducible refine (kl _ _ hv3).mono ?_)); rintro e w4 ⟨rfl, hu4⟩)
            | fail)
          go_ret2
          exact ⟨rfl, hv3.trans hu4⟩
      | true =>
        rw [if_pos ⟨h45, rfl⟩]
        rw [hin] at ki
        obtain ⟨y, rfl⟩ := in_nat hin
        have hyn := ((inN_nat A y).1 hin).1
        have hn1 := ok.c1
        have hcc := hr.ccap
        have d0 := hr.c0 y hyn
        rw [Int.toNat_natCast]
        clear huc
        have hbb : (kd == 4) = true ∨ ((kd == 4) = false ∧ (kd == 5) = true) := by
          rcases h45 with h | h
          · exact Or.inl (by simp [h])
          · exact Or.inr ⟨by simp; omega, by simp [h]⟩
        clear h45 h6
        rcases hbb with b4 | ⟨b4, b5⟩
        all_goals
          go_enter Try.func79, Try.ntmps79
          go_wp2_with (first
            | ((go_at_call 35; (with_reducible refine (ki _ (by (repeat (first | assumption | exact Upd.refl _ _ | refine Upd.alloc ?_ _ | refine Upd.drew ?_ | refine Upd.drewN ?_ _ | refine Upd.setCell ?_ ?_ _ | focus (left; simp; done) | focus (right; simp; done) | focus (right; simp; omega))))).mono ?_)); rintro e w3 ⟨rfl, hu3⟩; (have z0 : w3.cell? ⟨w.heap.size, 0, none⟩ = some (.slice (some ⟨gh, oh, none⟩) A.hs.length ch) := hu3.was (by go_simp)); (have z1 : w3.cell? ⟨w.heap.size, 1, none⟩ = some (.slice (some ⟨gc, oc, none⟩) A.cs.length cc) := hu3.was (by go_simp)); (have z2 : w3.cell? ⟨w.heap.size + 1, 0, none⟩ = some (.int .i64 kd) := hu3.was (by go_simp)); (have z3 : w3.cell? ⟨w.heap.size + 1, 2, none⟩ = some (.int .i64 (y : Int)) := hu3.was (by go_simp)); (have hv3 : Upd [] w w3 := Upd.trans (by (repeat (first | assumption | exact Upd.refl _ _ | refine Upd.alloc ?_ _ | refine Upd.drew ?_ | refine Upd.drewN ?_ _ | refine Upd.setCell ?_ ?_ _ | focus (left; simp; done) | focus (right; simp; done) | focus (right; simp; omega)))) hu3); (have e0 := hv3.was d0))
            | ((go_at_call 29; (with_reducible refine (kl _ _ hv3).mono ?_)); rintro e w4 ⟨rfl, hu4⟩)
            | fail)
          go_ret2
          exact ⟨rfl, hv3.trans hu4⟩
    · rw [if_neg (fun h => h45 h.1)]
      have b4 : (kd == 4) = false := by simp; omega
      have b5 : (kd == 5) = false := by simp; omega
      go_enter Try.func79, Try.ntmps79
      go_wp2_with (first
        | ((go_at_call 29; (with_reducible refine (kl _ _ (by (repeat (first | assumption | exact Upd.refl _ _ | refine Upd.alloc ?_ _ | refine Upd.drew ?_ | refine Upd.drewN ?_ _ | refine Upd.setCell ?_ ?_ _ | focus (left; simp; done) | focus (right; simp; done) | focus (right; simp; omega))))).mono ?_)); rintro e w4 ⟨rfl, hu4⟩)
        | fail)
      go_ret2
      exact ⟨rfl, Upd.trans (by (repeat (first | assumption | exact Upd.refl _ _ | refine Upd.alloc ?_ _ | refine Upd.drew ?_ | refine Upd.drewN ?_ _ | refine Upd.setCell ?_ ?_ _ | focus (left; simp; done) | focus (right; simp; done) | focus (right; simp; omega)))) hu4⟩
end Go.Proofs.Ytighgbdijagolaa
