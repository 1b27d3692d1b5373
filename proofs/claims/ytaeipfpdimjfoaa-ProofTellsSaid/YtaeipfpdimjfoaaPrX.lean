/-
  The law: of any tree, whether it is right: its walk. Conditions: arguments that came in.
-/
import Derived.Test.YtaeipfpdimjfoaaPrZ
set_option linter.unusedVariables false
set_option linter.unusedSimpArgs false
namespace Go.Proofs.Ytaeipfpdimjfoaa
open Go Go.RowKit

set_option maxHeartbeats 4000000 in
theorem ptells_any (w : World) (v vt : Value) (N src : Int) (E : List Ed) (va vd vb : Value) (D B : List Int) (hG : GraphIn w v N E va) (hT : TreeIn w vt vd vb D B) :
    Calls Try.prog 3 #[v, .int .i64 src, vt] w fun r w' => r = .returned (.bool true) ∧ Upd [] w w' := by
  obtain ⟨rfl, hE, hwb⟩ := hG
  obtain ⟨rfl, hD, hB, hb⟩ := hT
  have hwb2 : ∀ e, e ∈ E → e.w ≤ 9223372036854775807 := fun e he => (hwb e he).2
  obtain ⟨pb, hpb⟩ : ∃ pb : Bool, pb = true ↔ ProvesA N E src D B := by
    by_cases h : ProvesA N E src D B
    · exact ⟨true, fun _ => h, fun _ => rfl⟩
    · exact ⟨false, fun e => (by cases e), fun e => absurd e h⟩
  have hpp : (pb == pb) = true := by simp
  have fD := fun W (hW : Upd [] w W) => hD.fresh hW (F' := []) (fun g hg => Or.inl hg)
  have fB := fun W (hW : Upd [] w W) => hB.fresh hW (F' := []) (fun g hg => Or.inl hg)
  have k6 := fun W (hW : Upd [] w W) => (proves_any W N va vd vb E D B src (hE.upd hW) hwb2 (fD W hW) (fB W hW) hb).mono fun r w' h => tells_bool h hpb
  have k7 := fun W (hW : Upd [] w W) => (rproves_any W N va vd vb E D B src (hE.upd hW) (fD W hW) (fB W hW)).mono fun r w' h => tells_bool h hpb
  have k9 := fun W (hW : Upd [] w W) => tight_any W N va vd E D (hE.upd hW) hwb2 (fD W hW) hb
  have k10 := fun W (hW : Upd [] w W) => rtight_any W N va vd E D (hE.upd hW) (fD W hW) hb
  generalize tightR N E D = tl at *
  have k8 := fun W v1 v2 (h1 : SlI W [] v1 tl) (h2 : SlI W [] v2 tl) => same_yes W [] [] v1 v2 tl h1 h2
  obtain ⟨a, cap, rfl, hcap⟩ := hE.shape
  obtain ⟨ad, capd, rfl, _, _, _⟩ := hD
  obtain ⟨ab, capb, rfl, _, _, _⟩ := hB
  have u0 : Upd [] w ((w.alloc (.cells #[.int .i64 N, .slice a E.length cap] 24)).alloc (.cells #[.slice ad D.length capd, .slice ab B.length capb] 28)) := ((Upd.refl _ _).alloc _).alloc _
  clear hE fD fB hwb hwb2 hb hpb
  generalize E.length = n at *
  generalize D.length = n2 at *
  generalize B.length = n3 at *
  cases hg : greatB N n with
  | true =>
    go_enter Try.func3, Try.ntmps3
    go_wp2_with (first | ((go_at_call 4; (with_reducible refine (palive_any _).mono ?_)); rintro e w1 ⟨rfl, hu1⟩; (have q0 : w1.cell? ⟨w.heap.size, 0, none⟩ = some (.int .i64 N) := hu1.was (by go_simp)); (have q1 : w1.cell? ⟨w.heap.size, 1, none⟩ = some (.slice a n cap) := hu1.was (by go_simp)); (have q2 : w1.cell? ⟨w.heap.size + 1, 0, none⟩ = some (.slice ad n2 capd) := hu1.was (by go_simp)); (have q3 : w1.cell? ⟨w.heap.size + 1, 1, none⟩ = some (.slice ab n3 capb) := hu1.was (by go_simp))) | ((go_at_call 5; (with_reducible refine (great_any _ _ _ _ _).mono ?_)); rw [hg]; rintro e w2 ⟨rfl, hu2⟩; (have q4 := hu2.was q0); (have q5 := hu2.was q1); (have q6 := hu2.was q2); (have q7 := hu2.was q3)) | fail)
    go_ret
    exact ⟨rfl, (u0.trans hu1).trans hu2⟩
  | false =>
    by_cases h2 : n2 > 60
    · go_enter Try.func3, Try.ntmps3
      go_wp2_with (first | ((go_at_call 4; (with_reducible refine (palive_any _).mono ?_)); rintro e w1 ⟨rfl, hu1⟩; (have q0 : w1.cell? ⟨w.heap.size, 0, none⟩ = some (.int .i64 N) := hu1.was (by go_simp)); (have q1 : w1.cell? ⟨w.heap.size, 1, none⟩ = some (.slice a n cap) := hu1.was (by go_simp)); (have q2 : w1.cell? ⟨w.heap.size + 1, 0, none⟩ = some (.slice ad n2 capd) := hu1.was (by go_simp)); (have q3 : w1.cell? ⟨w.heap.size + 1, 1, none⟩ = some (.slice ab n3 capb) := hu1.was (by go_simp))) | ((go_at_call 5; (with_reducible refine (great_any _ _ _ _ _).mono ?_)); rw [hg]; rintro e w2 ⟨rfl, hu2⟩; (have q4 := hu2.was q0); (have q5 := hu2.was q1); (have q6 := hu2.was q2); (have q7 := hu2.was q3)) | fail)
      go_ret
      exact ⟨rfl, (u0.trans hu1).trans hu2⟩
    · by_cases h3 : n3 > 60
      · go_enter Try.func3, Try.ntmps3
        go_wp2_with (first | ((go_at_call 4; (with_reducible refine (palive_any _).mono ?_)); rintro e w1 ⟨rfl, hu1⟩; (have q0 : w1.cell? ⟨w.heap.size, 0, none⟩ = some (.int .i64 N) := hu1.was (by go_simp)); (have q1 : w1.cell? ⟨w.heap.size, 1, none⟩ = some (.slice a n cap) := hu1.was (by go_simp)); (have q2 : w1.cell? ⟨w.heap.size + 1, 0, none⟩ = some (.slice ad n2 capd) := hu1.was (by go_simp)); (have q3 : w1.cell? ⟨w.heap.size + 1, 1, none⟩ = some (.slice ab n3 capb) := hu1.was (by go_simp))) | ((go_at_call 5; (with_reducible refine (great_any _ _ _ _ _).mono ?_)); rw [hg]; rintro e w2 ⟨rfl, hu2⟩; (have q4 := hu2.was q0); (have q5 := hu2.was q1); (have q6 := hu2.was q2); (have q7 := hu2.was q3)) | fail)
        go_ret
        exact ⟨rfl, (u0.trans hu1).trans hu2⟩
      · go_enter Try.func3, Try.ntmps3
        go_upto_region 5 with (first | ((go_at_call 4; (with_reducible refine (palive_any _).mono ?_)); rintro e w1 ⟨rfl, hu1⟩; (have q0 : w1.cell? ⟨w.heap.size, 0, none⟩ = some (.int .i64 N) := hu1.was (by go_simp)); (have q1 : w1.cell? ⟨w.heap.size, 1, none⟩ = some (.slice a n cap) := hu1.was (by go_simp)); (have q2 : w1.cell? ⟨w.heap.size + 1, 0, none⟩ = some (.slice ad n2 capd) := hu1.was (by go_simp)); (have q3 : w1.cell? ⟨w.heap.size + 1, 1, none⟩ = some (.slice ab n3 capb) := hu1.was (by go_simp))) | ((go_at_call 5; (with_reducible refine (great_any _ _ _ _ _).mono ?_)); rw [hg]; rintro e w2 ⟨rfl, hu2⟩; (have q4 := hu2.was q0); (have q5 := hu2.was q1); (have q6 := hu2.was q2); (have q7 := hu2.was q3)) | fail)
        have hu := (u0.trans hu1).trans hu2
        clear hu1 hu2 q0 q1 q2 q3 u0 hg
        have K6 := fun W (hW : Upd [] w2 W) => k6 W (hu.trans hW)
        have K7 := fun W (hW : Upd [] w2 W) => k7 W (hu.trans hW)
        have K9 := fun W (hW : Upd [] w2 W) => k9 W (hu.trans hW)
        have K10 := fun W (hW : Upd [] w2 W) => k10 W (hu.trans hW)
        have HU := Lib.hid hu
        have r0 : ∀ W, Upd [] w2 W → W.cell? ⟨w.heap.size, 0, none⟩ = some (.int .i64 N) := fun W h => h.was q4
        have r1 : ∀ W, Upd [] w2 W → W.cell? ⟨w.heap.size, 1, none⟩ = some (.slice a n cap) := fun W h => h.was q5
        have r2 : ∀ W, Upd [] w2 W → W.cell? ⟨w.heap.size + 1, 0, none⟩ = some (.slice ad n2 capd) := fun W h => h.was q6
        have r3 : ∀ W, Upd [] w2 W → W.cell? ⟨w.heap.size + 1, 1, none⟩ = some (.slice ab n3 capb) := fun W h => h.was q7
        clear k6 k7 k9 k10 hu q4 q5 q6 q7
        go_region_held3 (Upd [] w2) (repeat (first | assumption | exact Upd.refl _ _ | refine Upd.drew ?_ | refine Upd.alloc ?_ _ | refine Upd.setCell ?_ ?_ _ | focus (left; simp; done) | focus (right; simp; done) | focus (right; simp; omega) | (apply Upd.trans; rotate_left; assumption)))
          (first
            | ((go_at_call 6; (with_reducible refine (K6 _ (by (repeat (first | assumption | exact Upd.refl _ _ | refine Upd.drew ?_ | refine Upd.alloc ?_ _ | refine Upd.setCell ?_ ?_ _ | focus (left; simp; done) | focus (right; simp; done) | focus (right; simp; omega) | (apply Upd.trans; rotate_left; assumption))))).mono ?_)); rintro e w6 ⟨rfl, hu6⟩; (have hv6 : Upd [] w2 w6 := Upd.trans (by (repeat (first | assumption | exact Upd.refl _ _ | refine Upd.drew ?_ | refine Upd.alloc ?_ _ | refine Upd.setCell ?_ ?_ _ | focus (left; simp; done) | focus (right; simp; done) | focus (right; simp; omega) | (apply Upd.trans; rotate_left; assumption)))) hu6))
            | ((go_at_call 7; (with_reducible refine (K7 _ (by (repeat (first | assumption | exact Upd.refl _ _ | refine Upd.drew ?_ | refine Upd.alloc ?_ _ | refine Upd.setCell ?_ ?_ _ | focus (left; simp; done) | focus (right; simp; done) | focus (right; simp; omega) | (apply Upd.trans; rotate_left; assumption))))).mono ?_)); rintro e w7 ⟨rfl, hu7⟩; (have hv7 : Upd [] w2 w7 := Upd.trans (by (repeat (first | assumption | exact Upd.refl _ _ | refine Upd.drew ?_ | refine Upd.alloc ?_ _ | refine Upd.setCell ?_ ?_ _ | focus (left; simp; done) | focus (right; simp; done) | focus (right; simp; omega) | (apply Upd.trans; rotate_left; assumption)))) hu7))
            | ((go_at_call 9; (with_reducible refine (K9 _ (by (repeat (first | assumption | exact Upd.refl _ _ | refine Upd.drew ?_ | refine Upd.alloc ?_ _ | refine Upd.setCell ?_ ?_ _ | focus (left; simp; done) | focus (right; simp; done) | focus (right; simp; omega) | (apply Upd.trans; rotate_left; assumption))))).mono ?_)); rintro e w9 ⟨v9, rfl, hu9, hs9⟩; (have hv9 : Upd [] w2 w9 := Upd.trans (by (repeat (first | assumption | exact Upd.refl _ _ | refine Upd.drew ?_ | refine Upd.alloc ?_ _ | refine Upd.setCell ?_ ?_ _ | focus (left; simp; done) | focus (right; simp; done) | focus (right; simp; omega) | (apply Upd.trans; rotate_left; assumption)))) hu9); (have fs9 : ∀ W, Upd [] w9 W → SlI W [] v9 tl := fun W h => hs9.fresh h (fun g hg => Or.inl hg)))
            | ((go_at_call 10; (with_reducible refine (K10 _ (by (repeat (first | assumption | exact Upd.refl _ _ | refine Upd.drew ?_ | refine Upd.alloc ?_ _ | refine Upd.setCell ?_ ?_ _ | focus (left; simp; done) | focus (right; simp; done) | focus (right; simp; omega) | (apply Upd.trans; rotate_left; assumption))))).mono ?_)); rintro e w10 ⟨v10, rfl, hu10, hs10⟩; (have hv10 : Upd [] w2 w10 := Upd.trans (by (repeat (first | assumption | exact Upd.refl _ _ | refine Upd.drew ?_ | refine Upd.alloc ?_ _ | refine Upd.setCell ?_ ?_ _ | focus (left; simp; done) | focus (right; simp; done) | focus (right; simp; omega) | (apply Upd.trans; rotate_left; assumption)))) hu10); (have fs10 : ∀ W, Upd [] w10 W → SlI W [] v10 tl := fun W h => hs10.fresh h (fun g hg => Or.inl hg)))
            | ((go_at_call 8; (with_reducible refine (k8 _ _ _ (fs9 _ (by (repeat (first | assumption | exact Upd.refl _ _ | refine Upd.drew ?_ | refine Upd.alloc ?_ _ | refine Upd.setCell ?_ ?_ _ | focus (left; simp; done) | focus (right; simp; done) | focus (right; simp; omega) | (apply Upd.trans; rotate_left; assumption))))) (fs10 _ (by (repeat (first | assumption | exact Upd.refl _ _ | refine Upd.drew ?_ | refine Upd.alloc ?_ _ | refine Upd.setCell ?_ ?_ _ | focus (left; simp; done) | focus (right; simp; done) | focus (right; simp; omega) | (apply Upd.trans; rotate_left; assumption)))))).mono ?_)); rintro e w8 ⟨rfl, hk8⟩; (have hv8 : Upd [] w2 w8 := by obtain ⟨kk, rfl⟩ := hk8; exact Upd.drewN (by (repeat (first | assumption | exact Upd.refl _ _ | refine Upd.drew ?_ | refine Upd.alloc ?_ _ | refine Upd.setCell ?_ ?_ _ | focus (left; simp; done) | focus (right; simp; done) | focus (right; simp; omega) | (apply Upd.trans; rotate_left; assumption)))) _)))
        go_wp2
        go_ret
        exact ⟨rfl, HU.out.trans hv8⟩
end Go.Proofs.Ytaeipfpdimjfoaa
