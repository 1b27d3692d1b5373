/-
  The document's: can a graph be, and can ways in it be weighed. Conditions: those of each lemma.
-/
import Derived.Test.YtaeipfpdimjfoaaGrf
set_option linter.unusedVariables false
set_option linter.unusedSimpArgs false
namespace Go.Proofs.Ytaeipfpdimjfoaa
open Go Go.RowKit

theorem all_take {α : Type} (P : α → Bool) (l : List α) (k : Nat) (x : α) (hx : l[k]? = some x) (h : (l.take k).all P = true) : (l.take (k + 1)).all P = P x := by
  rw [List.take_add_one, hx]; simp [h]
theorem all_no {α : Type} (P : α → Bool) (l : List α) (x : α) (hx : x ∈ l) (h : P x = false) : l.all P = false := by
  cases e : l.all P with
  | false => rfl
  | true => rw [List.all_eq_true.1 e x hx] at h; cases h
theorem right_mem {N : Int} {E : List Ed} (h : rightB N E = true) {e : Ed} (he : e ∈ E) : 0 ≤ e.f ∧ e.f < N ∧ 0 ≤ e.t ∧ e.t < N := by
  unfold rightB at h
  simp only [Bool.and_eq_true] at h
  have := List.all_eq_true.1 h.2 e he
  unfold endsB vertB at this
  simp only [Bool.and_eq_true, decide_eq_true_eq] at this
  omega
theorem right_bd {N : Int} {E : List Ed} (h : rightB N E = true) : 0 ≤ N ∧ N ≤ 4096 ∧ E.length ≤ 65536 := by
  unfold rightB at h
  simp only [Bool.and_eq_true, decide_eq_true_eq] at h
  omega
set_option maxHeartbeats 4000000 in
theorem rright_any (w : World) (N : Int) (va : Value) (E : List Ed) (hE : SlE w va E) :
    Calls Try.prog 24 #[.agg #[.int .i64 N, va]] w fun r w' => r = .returned (.bool (rightB N E)) ∧ Upd [] w w' := by
  obtain ⟨a, cap, rfl, hcap⟩ := hE.shape
  have HE := Lib.hid hE
  have hl : E.length ≤ 9223372036854775807 := by obtain ⟨_, _, _, _, h, _⟩ := hE; exact h
  clear hE
  have u0 : Upd [] w (w.alloc (.cells #[.int .i64 N, .slice a E.length cap] 24)) := (Upd.refl _ _).alloc _
  have HK := Lib.hid (show rightB N E = (decide (0 ≤ N) && decide (N ≤ 4096) && decide (E.length ≤ 65536) && E.all (endsB N)) from rfl)
  generalize hn : E.length = n at *
  have HN := Lib.hid hn
  clear hn
  go_enter Try.func24, Try.ntmps24
  go_wp2
  go_loopw [4, 8] (fun _ i wr => ∃ k : Nat, k ≤ n ∧ i = .int .i64 (k : Int) ∧ (E.take k).all (endsB N) = true ∧ Upd [] (w.alloc (.cells #[.int .i64 N, .slice a n cap] 24)) wr) (fun _ i _ => n - (intOf i).toNat)
  case atStart => exact ⟨0, by omega, rfl, by simp, Upd.refl _ _⟩
  case round =>
    obtain ⟨k, hk, rfl, hall, hu⟩ := hrel
    rename World => wr
    have q0 : wr.cell? ⟨w.heap.size, 0, none⟩ = some (.int .i64 N) := hu.was (by simp)
    have q1 : wr.cell? ⟨w.heap.size, 1, none⟩ = some (.slice a n cap) := hu.was (by simp)
    have hsz : w.heap.size < wr.heap.size := by have := hu.size; simp at this; omega
    by_cases hkn : k < n
    · have hkE : k < E.length := by rw [HN.out]; exact hkn
      have hx : E[k]? = some (E.getD k default) := by simp [List.getD_eq_getElem?_getD, hkE]
      have hmem : E.getD k default ∈ E := List.mem_of_getElem? hx
      obtain ⟨g, off, rfl, hg, c0, c1, c2⟩ := (HE.out.upd (u0.trans hu)).at k hkE
      generalize E.getD k default = e at *
      have HT := Lib.hid (all_take (endsB N) E k _ hx hall)
      have HM := Lib.hid hmem
      have hwr : IntKind.i64.wrap ((k : Int) + 1) = (k : Int) + 1 := IntWalk.i64_in _ (by omega)
      obtain ⟨ef, et, ew⟩ := e
      dsimp only at c0 c1 c2
      clear hx hmem hall HE
      have hend : endsB N ⟨ef, et, ew⟩ = (vertB N ef && vertB N et) := rfl
      by_cases b0 : ef < 0
      · have hf : Hid (rightB N E = false) := Lib.hid (by rw [HK.out, all_no (endsB N) E _ HM.out (by rw [hend]; unfold vertB; rw [decide_eq_false (by omega)]; rfl)]; simp)
        clear hend
        go_wp2
        go_ret
        exact ⟨by rw [hf.out]; rfl, by have := u0.trans hu; (repeat (first | assumption | exact Upd.refl _ _ | refine Upd.alloc ?_ _ | refine Upd.drew ?_ | refine Upd.drewN ?_ _ | refine Upd.setCell ?_ ?_ _ | focus (left; simp; done) | focus (right; simp; done) | focus (right; simp; omega)))⟩
      · by_cases b1 : ef ≥ N
        · have hf : Hid (rightB N E = false) := Lib.hid (by rw [HK.out, all_no (endsB N) E _ HM.out (by rw [hend]; unfold vertB; rw [decide_eq_false (by omega : ¬ ef < N)]; simp)]; simp)
          clear hend
          go_wp2
          go_ret
          exact ⟨by rw [hf.out]; rfl, by have := u0.trans hu; (repeat (first | assumption | exact Upd.refl _ _ | refine Upd.alloc ?_ _ | refine Upd.drew ?_ | refine Upd.drewN ?_ _ | refine Upd.setCell ?_ ?_ _ | focus (left; simp; done) | focus (right; simp; done) | focus (right; simp; omega)))⟩
        · by_cases b2 : et < 0
          · have hf : Hid (rightB N E = false) := Lib.hid (by rw [HK.out, all_no (endsB N) E _ HM.out (by rw [hend]; unfold vertB; rw [decide_eq_false (by omega : ¬ 0 ≤ et)]; simp)]; simp)
            clear hend
            go_wp2
            go_ret
            exact ⟨by rw [hf.out]; rfl, by have := u0.trans hu; (repeat (first | assumption | exact Upd.refl _ _ | refine Upd.alloc ?_ _ | refine Upd.drew ?_ | refine Upd.drewN ?_ _ | refine Upd.setCell ?_ ?_ _ | focus (left; simp; done) | focus (right; simp; done) | focus (right; simp; omega)))⟩
          · by_cases b3 : et ≥ N
            · have hf : Hid (rightB N E = false) := Lib.hid (by rw [HK.out, all_no (endsB N) E _ HM.out (by rw [hend]; unfold vertB; rw [decide_eq_false (by omega : ¬ et < N)]; simp)]; simp)
              clear hend
              go_wp2
              go_ret
              exact ⟨by rw [hf.out]; rfl, by have := u0.trans hu; (repeat (first | assumption | exact Upd.refl _ _ | refine Upd.alloc ?_ _ | refine Upd.drew ?_ | refine Upd.drewN ?_ _ | refine Upd.setCell ?_ ?_ _ | focus (left; simp; done) | focus (right; simp; done) | focus (right; simp; omega)))⟩
            · have ht : Hid (endsB N ⟨ef, et, ew⟩ = true) := Lib.hid (by rw [hend]; unfold vertB; simp; omega)
              clear hend
              go_wp2
              exact ⟨⟨k + 1, by omega, by go_num, by rw [HT.out, ht.out], by (repeat (first | assumption | exact Upd.refl _ _ | refine Upd.alloc ?_ _ | refine Upd.drew ?_ | refine Upd.drewN ?_ _ | refine Upd.setCell ?_ ?_ _ | focus (left; simp; done) | focus (right; simp; done) | focus (right; simp; omega)))⟩, by simp [intOf]; omega⟩
    · obtain rfl : k = n := by omega
      have hfin : E.all (endsB N) = true := by rw [← hall, ← HN.out, List.take_length]
      have hr : Hid (rightB N E = (decide (0 ≤ N) && decide (N ≤ 4096) && decide (k ≤ 65536))) := Lib.hid (by rw [HK.out, hfin, Bool.and_true])
      clear hall hfin
      by_cases b0 : N ≥ 0
      · by_cases b1 : N ≤ 4096
        · go_wp2
          go_ret
          exact ⟨ret_bool (by rw [hr.out]; first | (simp [b0, b1]; done) | (simp [b0, b1]; omega)), by have := u0.trans hu; (repeat (first | assumption | exact Upd.refl _ _ | refine Upd.alloc ?_ _ | refine Upd.drew ?_ | refine Upd.drewN ?_ _ | refine Upd.setCell ?_ ?_ _ | focus (left; simp; done) | focus (right; simp; done) | focus (right; simp; omega)))⟩
        · go_wp2
          go_ret
          exact ⟨ret_bool (by rw [hr.out]; first | (simp [b0, b1]; done) | (simp [b0, b1]; omega)), by have := u0.trans hu; (repeat (first | assumption | exact Upd.refl _ _ | refine Upd.alloc ?_ _ | refine Upd.drew ?_ | refine Upd.drewN ?_ _ | refine Upd.setCell ?_ ?_ _ | focus (left; simp; done) | focus (right; simp; done) | focus (right; simp; omega)))⟩
      · go_wp2
        go_ret
        exact ⟨ret_bool (by rw [hr.out, decide_eq_false (by omega : ¬ 0 ≤ N)]; first | rfl | (simp; done) | (simp; omega)), by have := u0.trans hu; (repeat (first | assumption | exact Upd.refl _ _ | refine Upd.alloc ?_ _ | refine Upd.drew ?_ | refine Upd.drewN ?_ _ | refine Upd.setCell ?_ ?_ _ | focus (left; simp; done) | focus (right; simp; done) | focus (right; simp; omega)))⟩
end Go.Proofs.Ytaeipfpdimjfoaa
