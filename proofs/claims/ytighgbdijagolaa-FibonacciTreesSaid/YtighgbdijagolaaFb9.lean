/-
  Fibonacci heaps: New. Conditions: those of each lemma.
-/
import Derived.Test.YtighgbdijagolaaFb8
set_option linter.unusedVariables false
set_option linter.unusedSimpArgs false
namespace Go.Proofs.Ytighgbdijagolaa
open Go Go.RowKit

theorem placeInfo : (Try.prog.info? 110).map (fun i => (i.zero, i.size, i.bytes)) = some (some (.agg #[.int .i64 0, .int .i64 0, .int .i64 0, .bool false]), 4, 32) := by kernel_rfl
theorem madeCells4 (n j : Nat) (hj : j < n * 4) : (madeCells #[Value.int .i64 0, .int .i64 0, .int .i64 0, .bool false] (n * 4)).toList.getD j undef = plC (fun _ => 0) (fun _ => 0) (fun _ => 0) (fun _ => false) j := by
  rw [List.getD_eq_getElem?_getD, List.getElem?_eq_getElem (by simp [size_madeCells]; omega)]
  simp only [Option.getD_some, madeCells, Array.getElem_toList, Array.getElem_map, Array.getElem_range]
  unfold plC
  rcases (by omega : j % 4 = 0 ∨ j % 4 = 1 ∨ j % 4 = 2 ∨ j % 4 = 3) with e | e | e | e <;> simp [e]
def upTo (k : Nat) (v : Int) : Nat → Int := fun i => if i < k then v else 0
theorem upTo_put (k : Nat) (v : Int) : putF (upTo k v) k v = upTo (k + 1) v := by
  funext i; unfold putF upTo
  by_cases e : i = k
  · rw [if_pos e, if_pos (by omega)]
  · rw [if_neg e]
    by_cases h : i < k
    · rw [if_pos h, if_pos (by omega)]
    · rw [if_neg h, if_neg (by omega)]
theorem fnew_no (n : Int) (w : World) (h : n < 0 ∨ 65536 < n) :
    Calls Try.prog 34 #[.int .i64 n] w fun e w' => e = .returned (.tuple #[.pointer none, .int .i64 31]) ∧ w' = w := by
  have k := cnew_no n w h
  go_enter Try.func34, Try.ntmps34
  go_wp2_with ((go_at_call 44; (with_reducible refine (k).mono ?_); rintro e w9 ⟨rfl, hw9⟩; rw [hw9]; clear hw9 w9))
  go_ret2
  exact ⟨rfl, rfl⟩
set_option maxHeartbeats 4000000 in
theorem fnew_yes (n : Nat) (w : World) (h : n ≤ 65536) : Calls Try.prog 34 #[.int .i64 (n : Int)] w fun e w' => ∃ p FF, e = .returned (.tuple #[.pointer (some ⟨p, 0, none⟩), .int .i64 0]) ∧ FbK w' p FF (NS.new n) 0 FG.none ∧ Upd [] w w' ∧ ∀ x, x ∈ FF → w.heap.size ≤ x := by
  have kc := cnew_yes n w h
  have kr := fun W => ringNew_yes n W h
  have hI := Lib.hid (fb_new n)
  go_enter Try.func34, Try.ntmps34
  go_wp2_with (first
    | ((go_at_call 44; (with_reducible refine (kc).mono ?_)); rintro e w1 ⟨c, F, rfl, hC, hu1, hF⟩; (have HC := Lib.hid (And.intro hC (And.intro hu1 hF))); clear hC hu1 hF)
    | ((go_at_call 63; (with_reducible refine (kr _).mono ?_)); rintro e w2 ⟨br, bn, bp, rfl, hR, hu2, hb1, hb2, hb3⟩; (have HR := Lib.hid (And.intro hR (And.intro hu2 (And.intro hb1 (And.intro hb2 hb3))))); clear hR hu2 hb1 hb2 hb3 kr)
    | (at_make; refine wpList_make_row rfl _ 76 rfl 110 (.agg #[.int .i64 0, .int .i64 0, .int .i64 0, .bool false]) 4 32 Try.underlying76 placeInfo n rfl (by omega) (by unfold maxLen; omega) ?_; intro w3 hr3 hu3))
  obtain ⟨W0, hW0⟩ : ∃ W0, W0 = (w3.alloc (.cells #[.int .i64 (-1)] 3)).alloc (.cells #[.pointer (some ⟨c, 0, none⟩), .pointer (some ⟨br, 0, none⟩), .slice (some ⟨w2.heap.size, 0, none⟩) n n, .slice (some ⟨w3.heap.size, 0, none⟩) 1 1] 78) := ⟨_, rfl⟩
  have hu0 : Upd [] w3 W0 := by rw [hW0]; (repeat (first | assumption | exact Upd.refl _ _ | refine Upd.alloc ?_ _ | refine Upd.drew ?_ | refine Upd.drewN ?_ _ | refine Upd.setCell ?_ ?_ _ | focus (left; simp; done) | focus (right; simp; done) | focus (right; simp; omega)))
  have hhead := rowAt_new (w3.alloc (.cells #[.int .i64 (-1)] 3)) [.pointer (some ⟨c, 0, none⟩), .pointer (some ⟨br, 0, none⟩), .slice (some ⟨w2.heap.size, 0, none⟩) n n, .slice (some ⟨w3.heap.size, 0, none⟩) 1 1] 78
  rw [World.size_alloc] at hhead
  have hz1 : IZ (w3.alloc (.cells #[.int .i64 (-1)] 3)) w3.heap.size 1 [-1] := IZ.lit w3 [-1] (by simp)
  have hz0 : IZ W0 w3.heap.size 1 [-1] := by rw [hW0]; exact hz1.upd ((Upd.refl [] _).alloc _) (by simp)
  have hhd : RowAt W0 (w3.heap.size + 1) 78 4 (fun j => [Value.pointer (some ⟨c, 0, none⟩), .pointer (some ⟨br, 0, none⟩), .slice (some ⟨w2.heap.size, 0, none⟩) n n, .slice (some ⟨w3.heap.size, 0, none⟩) 1 1].getD j undef) := by rw [hW0]; exact hhead
  have hzz : (Value.agg #[.int .i64 0, .int .i64 0, .int .i64 0, .bool false]).cells = #[.int .i64 0, .int .i64 0, .int .i64 0, .bool false] := rfl
  rw [hzz] at hr3
  have hr0 : RowAt W0 w2.heap.size 110 (n * 4) (plC (upTo 0 (-1)) (upTo 0 (-1)) (fun _ => 0) (fun _ => false)) := by
    refine ((hr3.upd hu0 (by simp)).ext (fun j hj => ?_))
    rw [madeCells4 n j hj]
    unfold upTo; simp
  have hl3 := hr3.lt
  have hs3 := hu3.size
  have H0 := Lib.hid (And.intro hu0 (And.intro hz0 (And.intro hhd (And.intro hr0 (And.intro hu3 hW0)))))
  have hne : w3.heap.size + 1 ≠ w2.heap.size := by omega
  clear hu0 hz0 hhd hr0 hz1 hhead hr3 hu3
  rw [← hW0]
  clear hW0
  go_loopw [34] (fun s34 wr => ∃ k : Nat, k ≤ n ∧ s34 = .int .i64 (k : Int) ∧ RowAt wr w2.heap.size 110 (n * 4) (plC (upTo k (-1)) (upTo k (-1)) (fun _ => 0) (fun _ => false)) ∧ Upd [w2.heap.size] W0 wr) (fun s34 _ => n - (intOf s34).toNat)
  case atStart => exact ⟨0, by omega, rfl, H0.out.2.2.2.1, Upd.refl _ _⟩
  case round =>
    obtain ⟨k, hk, rfl, hr, hu⟩ := hrel
    rename World => wr
    by_cases hkn : k < n
    · have hkI : (k : Int) < (n : Int) := by omega
      have hw1 : IntKind.i64.wrap ((k : Int) + 1) = (k : Int) + 1 := IntWalk.i64_in _ (by omega)
      have d2 : wr.cell? ⟨w3.heap.size + 1, 2, none⟩ = some (.slice (some ⟨w2.heap.size, 0, none⟩) n n) := hu.kept (H0.out.2.2.1.cellAt 2 (by omega) rfl) (by simpa using hne)
      have p0 := hr.cellAt (k * 4) (by omega) (plC0 _ _ _ _ k)
      have p1 := hr.cellAt (k * 4 + 1) (by omega) (plC1 _ _ _ _ k)
      have p2 := hr.cellAt (k * 4 + 2) (by omega) (plC2 _ _ _ _ k)
      have p3 := hr.cellAt (k * 4 + 3) (by omega) (plC3 _ _ _ _ k)
      have f0 := hr.free (k * 4)
      have f1 := hr.free (k * 4 + 1)
      have f2 := hr.free (k * 4 + 2)
      have f3 := hr.free (k * 4 + 3)
      have hlr := hr.lt
      have HR2 := Lib.hid (And.intro hr hu)
      clear hr hu
      go_wp2
      go_region_with (first
        | ((go_at_call 64; (with_reducible refine (ffresh_any _).mono ?_)); rintro e w5 ⟨rfl, hu5⟩; (have hv : Upd [] wr w5 := Upd.trans (by (repeat (first | assumption | exact Upd.refl _ _ | refine Upd.alloc ?_ _ | refine Upd.drew ?_ | refine Upd.drewN ?_ _ | refine Upd.setCell ?_ ?_ _ | focus (left; simp; done) | focus (right; simp; done) | focus (right; simp; omega)))) hu5); (have v0 := hv.was p0); (have v1 := hv.was p1); (have v2 := hv.was p2); (have v3 := hv.was p3); (have v4 := hv.was d2); (have z0 := hv.keptF p0 (by simp) f0); (have z1 := hv.keptF p1 (by simp) f1); (have z2 := hv.keptF p2 (by simp) f2); (have z3 := hv.keptF p3 (by simp) f3))
        | fail)
      all_goals
        go_wp2
        have hr := HR2.out.1.upd hv (by simp)
        have hu6 : Upd [w2.heap.size] W0 w5 := HR2.out.2.then hv
        refine ⟨⟨k + 1, by omega, by go_num, ?_, by (repeat (first | assumption | exact Upd.refl _ _ | refine Upd.drew ?_ | refine Upd.alloc ?_ _ | refine Upd.setCell ?_ ?_ _ | focus (left; simp; done) | focus (right; simp; done) | focus (right; simp; omega) | (apply Upd.trans; rotate_left; assumption)))⟩, by simp [intOf]; omega⟩
        have := row_set3 (row_set2 (row_set1 (row_set0 hr k (-1)) k (-1)) k 0) k false
        rw [upTo_put] at this
        refine this.ext (fun j _ => ?_)
        rw [show putF (fun _ => (0 : Int)) k 0 = (fun _ => 0) from by funext z; unfold putF; split <;> rfl, show putF (fun _ => false) k false = (fun _ => false) from by funext z; unfold putF; split <;> rfl]
    · obtain rfl : k = n := by omega
      have HR2 := Lib.hid (And.intro hr hu)
      clear hr hu
      go_wp2
      go_ret2
      obtain ⟨hr, hu⟩ := HR2.out
      obtain ⟨hu0, hz0, hhd, _, hu3, _⟩ := H0.out
      obtain ⟨hC, hu1, hF⟩ := HC.out
      obtain ⟨hR, hu2, hb1, hb2, hb3⟩ := HR.out
      have hcs : (NS.new k).cs.length = k := by simp [NS.new]
      have hhs : (NS.new k).hs.length = 1 := rfl
      have hCl := hC.lt
      have hRl := hR.lt
      have s1 := hu1.size
      have s2 := hu2.size
      have s3 := hu3.size
      have s0 := hu0.size
      have hFn : ∀ y, w1.heap.size ≤ y → y ∉ F := fun y hy hm => by have := hCl y hm; omega
      have hM : FbM wr ⟨w3.heap.size + 1, c, br, bn, bp, w2.heap.size⟩ F w3.heap.size 1 (NS.new k) 0 FG.none := by
        refine ⟨?_, ?_, ?_, ?_, ?_, ⟨hFn _ (by simp; omega), hFn _ hb1, hFn _ hb2, hFn _ hb3, hFn _ s2, hFn _ (by omega)⟩, ⟨by simp; omega, by simp; omega, by simp; omega, by simp; omega, by simp⟩, ⟨by simp; omega, by simp; omega, by simp; omega, by simp; omega, by simp; omega, by simp; omega, by simp; omega⟩⟩
        · rw [hcs, hhs]
          exact hhd.upd hu (by simpa using hne)
        · exact ((hC.upd0 ((hu2.trans hu3).trans hu0))).upd hu (fun y hy => by simp at hy; rw [hy]; exact hFn _ s2)
        · rw [hcs]
          exact (hR.upd0 (hu3.trans hu0)).upd hu (by simp; omega) (by simp; omega) (by simp; omega)
        · rw [hcs]
          refine hr.ext (fun j hj => ?_)
          unfold plCell
          obtain ⟨a, e⟩ := four j
          have ha : a < k := by omega
          rcases e with rfl | rfl | rfl | rfl
          · rw [plC0, plC0]; unfold upTo; rw [if_pos ha]; rfl
          · rw [plC1, plC1]; unfold upTo; rw [if_pos ha]; rfl
          · rw [plC2, plC2]; rfl
          · rw [plC3, plC3]; rfl
        · exact hz0.upd hu (by simp; omega)
      refine ⟨_, _, rfl, ⟨⟨⟨w3.heap.size + 1, c, br, bn, bp, w2.heap.size⟩, F, w3.heap.size, 1, rfl, rfl, hM⟩, hI.out⟩, (((hu1.trans hu2).trans hu3).trans hu0).joined hu (fun y hy => by simp at hy; rw [hy]; right; omega), fun y hy => ?_⟩
      simp only [FB.blk, List.mem_cons] at hy
      rcases hy with e | e | e | e | e | e | e
      · omega
      · omega
      · omega
      · omega
      · omega
      · omega
      · exact hF y e
end Go.Proofs.Ytighgbdijagolaa
