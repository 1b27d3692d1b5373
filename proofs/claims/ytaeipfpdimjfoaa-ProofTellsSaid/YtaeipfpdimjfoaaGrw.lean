/-
  The document's: can ways in a graph be weighed. Conditions: those of each lemma.
-/
import Derived.Test.YtaeipfpdimjfoaaGrg
import Derived.Lib.MinMax
set_option linter.unusedVariables false
set_option linter.unusedSimpArgs false
namespace Go.Proofs.Ytaeipfpdimjfoaa
open Go Go.RowKit

def wOk (N : Int) (e : Ed) : Bool := decide (0 ≤ e.w) && decide (e.w ≤ 9223372036854775807 / max N 1)
set_option maxHeartbeats 4000000 in
theorem rweigh_any (w : World) (N : Int) (va : Value) (E : List Ed) (hE : SlE w va E) :
    Calls Try.prog 16 #[.agg #[.int .i64 N, va]] w fun r w' => r = .returned (.bool (weighB N E)) ∧ Upd [] w w' := by
  have kr := fun W (hW : Upd [] w W) => rright_any W N va E (hE.upd hW)
  obtain ⟨a, cap, rfl, hcap⟩ := hE.shape
  have HE := Lib.hid hE
  have hl : E.length ≤ 9223372036854775807 := by obtain ⟨_, _, _, _, h, _⟩ := hE; exact h
  clear hE
  have u0 : Upd [] w (w.alloc (.cells #[.int .i64 N, .slice a E.length cap] 24)) := (Upd.refl _ _).alloc _
  cases hr : rightB N E with
  | false =>
    have hw : weighB N E = false := by unfold weighB; rw [hr]; rfl
    rw [hw]
    rw [hr] at kr
    clear hw hr
    generalize E.length = n at *
    go_enter Try.func16, Try.ntmps16
    go_wp2_with (first
      | ((go_at_call 24; (with_reducible refine (kr _ u0).mono ?_)); rintro e w1 ⟨rfl, hu1⟩)
      | fail)
    go_ret
    exact ⟨rfl, u0.trans hu1⟩
  | true =>
    have HW := Lib.hid (show weighB N E = E.all (wOk N) from by unfold weighB; rw [hr]; rfl)
    have HR := Lib.hid hr
    rw [hr] at kr
    clear hr
    generalize hn : E.length = n at *
    have HN := Lib.hid hn
    clear hn
    go_enter Try.func16, Try.ntmps16
    go_wp2_with (first
      | ((go_at_call 24; (with_reducible refine (kr _ u0).mono ?_)); rintro e w1 ⟨rfl, hu1⟩; (have q1 : w1.cell? ⟨w.heap.size, 1, none⟩ = some (.slice a n cap) := hu1.was (by simp)))
      | fail)
    clear q1
    go_loopw [4, 11] (fun _ i wr => ∃ k : Nat, k ≤ n ∧ i = .int .i64 (k : Int) ∧ (E.take k).all (wOk N) = true ∧ Upd [] (w.alloc (.cells #[.int .i64 N, .slice a n cap] 24)) wr) (fun _ i _ => n - (intOf i).toNat)
    case atStart => exact ⟨0, by omega, rfl, by simp, hu1⟩
    case round =>
      clear hu1 kr
      obtain ⟨k, hk, rfl, hall, hu⟩ := hrel
      rename World => wr
      have q0 : wr.cell? ⟨w.heap.size, 0, none⟩ = some (.int .i64 N) := hu.was (by simp)
      have q1 : wr.cell? ⟨w.heap.size, 1, none⟩ = some (.slice a n cap) := hu.was (by simp)
      have hsz : w.heap.size < wr.heap.size := by have := hu.size; simp at this; omega
      by_cases hkn : k < n
      · have hkE : k < E.length := by rw [HN.out]; exact hkn
        have hx : E[k]? = some (E.getD k default) := by simp [List.getD_eq_getElem?_getD, hkE]
        have hmem : E.getD k default ∈ E := List.mem_of_getElem? hx
        have hN1 : 1 ≤ N := by have := right_mem HR.out hmem; omega
        obtain ⟨g, off, rfl, hg, c0, c1, c2⟩ := (HE.out.upd (u0.trans hu)).at k hkE
        generalize E.getD k default = e at *
        have HT := Lib.hid (all_take (wOk N) E k _ hx hall)
        have HM := Lib.hid hmem
        have hwr : IntKind.i64.wrap ((k : Int) + 1) = (k : Int) + 1 := IntWalk.i64_in _ (by omega)
        obtain ⟨ef, et, ew⟩ := e
        dsimp only at c0 c1 c2
        clear hx hmem hall HE
        have hmx : max N 1 = N := by omega
        have hend : wOk N ⟨ef, et, ew⟩ = (decide (0 ≤ ew) && decide (ew ≤ 9223372036854775807 / N)) := by unfold wOk; rw [hmx]
        have HMX := Lib.hid (And.intro hmx hend)
        clear hmx hend
        by_cases b0 : ew < 0
        · have hf : Hid (weighB N E = false) := Lib.hid (by rw [HW.out, all_no (wOk N) E _ HM.out (by rw [HMX.out.2, decide_eq_false (by omega)]; rfl)])
          have b0b : decide (ew < 0) = true := by simpa using b0
          go_wp2
          go_quiet (fail)
          go_wp2
          go_ret
          exact ⟨by rw [hf.out]; rfl, by have := u0.trans hu; (repeat (first | assumption | exact Upd.refl _ _ | refine Upd.alloc ?_ _ | refine Upd.drew ?_ | refine Upd.drewN ?_ _ | refine Upd.setCell ?_ ?_ _ | focus (left; simp; done) | focus (right; simp; done) | focus (right; simp; omega)))⟩
        · have b0b : decide (ew < 0) = false := by simpa using b0
          have hmx2 : max N 1 = N := HMX.out.1
          by_cases b1 : 9223372036854775807 / N < ew
          · have hf : Hid (weighB N E = false) := Lib.hid (by rw [HW.out, all_no (wOk N) E _ HM.out (by rw [HMX.out.2, decide_eq_false (by omega : ¬ ew ≤ 9223372036854775807 / N)]; simp)])
            have b1b : decide (9223372036854775807 / N < ew) = true := by simpa using b1
            go_wp2
            go_quiet (fail)
            go_wp2
            go_ret
            exact ⟨by rw [hf.out]; rfl, by have := u0.trans hu; (repeat (first | assumption | exact Upd.refl _ _ | refine Upd.alloc ?_ _ | refine Upd.drew ?_ | refine Upd.drewN ?_ _ | refine Upd.setCell ?_ ?_ _ | focus (left; simp; done) | focus (right; simp; done) | focus (right; simp; omega)))⟩
          · have ht : Hid (wOk N ⟨ef, et, ew⟩ = true) := Lib.hid (by rw [HMX.out.2, decide_eq_true (by omega : 0 ≤ ew), decide_eq_true (by omega : ew ≤ 9223372036854775807 / N)]; rfl)
            have b1b : decide (9223372036854775807 / N < ew) = false := by simpa using b1
            go_wp2
            go_quiet (fail)
            go_wp2
            exact ⟨⟨k + 1, by omega, by go_num, by rw [HT.out, ht.out], by (repeat (first | assumption | exact Upd.refl _ _ | refine Upd.alloc ?_ _ | refine Upd.drew ?_ | refine Upd.drewN ?_ _ | refine Upd.setCell ?_ ?_ _ | focus (left; simp; done) | focus (right; simp; done) | focus (right; simp; omega)))⟩, by simp [intOf]; omega⟩
      · obtain rfl : k = n := by omega
        have hfin : E.all (wOk N) = true := by rw [← hall, ← HN.out, List.take_length]
        have HF := Lib.hid hfin
        clear hall hfin
        go_wp2
        go_ret
        exact ⟨ret_bool (by rw [HW.out, HF.out]), by have := u0.trans hu; (repeat (first | assumption | exact Upd.refl _ _ | refine Upd.alloc ?_ _ | refine Upd.drew ?_ | refine Upd.drewN ?_ _ | refine Upd.setCell ?_ ?_ _ | focus (left; simp; done) | focus (right; simp; done) | focus (right; simp; omega)))⟩
end Go.Proofs.Ytaeipfpdimjfoaa
