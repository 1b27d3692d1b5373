/-
  The law FibonacciMelds: its walk. Conditions: those of each lemma.
-/
import Derived.Test.YtighgbdijagolaaFbAlive
import Derived.Test.YtighgbdijagolaaMeldsArg
set_option linter.unusedVariables false
set_option linter.unusedSimpArgs false
namespace Go.Proofs.Ytighgbdijagolaa
open Go Go.RowKit

set_option maxHeartbeats 4000000 in
theorem fbmelds_any (ks : List Int) (v vm : Value) (ll : Nat) (lf : Nat → Bool) (low gone : Int) (w : World) (h : IsInts .i64 w v ks) (hm : MeldsV w vm ll lf low gone) : Calls Try.prog 11 #[v, vm] w fun e w' => e = .returned (.bool true) ∧ Upd [] w w' := by
  have hl : ks.length ≤ maxLen := by obtain ⟨⟨a, cap, rfl, hl, _⟩, _⟩ := h; exact hl
  have hwf := fun n hn => i64_of_wf (h.2 n hn)
  have H := Lib.hid h
  obtain ⟨a, cap, hv⟩ : ∃ a cap, v = .slice a ks.length cap := by obtain ⟨⟨a, cap, rfl, _⟩, _⟩ := h; exact ⟨a, cap, rfl⟩
  subst hv
  obtain ⟨al, capl, rfl, m1, m2, m3, m4⟩ := hm
  have HT : Hid (∀ (W : World) (F : List Nat), Upd [] w W → (∀ x, x ∈ F → w.heap.size ≤ x) → Truths W F al ll lf) := fun W F hW hF hp => by
    obtain ⟨b, off, rfl, hb, hc⟩ := m4 hp
    exact ⟨b, off, rfl, fun hx => by have := hF b hx; omega, fun j hj => hW.was (hc j hj)⟩
  clear h m4
  unfold maxLen at hl
  by_cases hb : ks.length ≤ 200
  · have kn := fun W => fnewK_yes ks.length W (by omega)
    have hb1 : ¬ (ks.length : Int) > 200 := by omega
    go_enter Try.func11, Try.ntmps11
    go_wp2_with (first
      | ((go_at_call 33; (with_reducible refine (falive_any _).mono ?_)); rintro e w1 ⟨rfl, hu1⟩; (have hw1 : Upd [] w w1 := Upd.trans (by (repeat (first | assumption | exact Upd.refl _ _ | refine Upd.alloc ?_ _ | refine Upd.drew ?_ | refine Upd.drewN ?_ _ | refine Upd.setCell ?_ ?_ _ | focus (left; simp; done) | focus (right; simp; done) | focus (right; simp; omega)))) hu1); (have b0 : w1.cell? ⟨w.heap.size, 0, none⟩ = some (.slice al ll capl) := hu1.was (by go_simp)); (have b1 : w1.cell? ⟨w.heap.size, 1, none⟩ = some (.int .i64 low) := hu1.was (by go_simp)); (have b2 : w1.cell? ⟨w.heap.size, 2, none⟩ = some (.int .i64 gone) := hu1.was (by go_simp)))
      | ((go_at_call 34; (with_reducible refine (kn _).mono ?_)); rintro e w2 ⟨p, F, rfl, hK, hu2, hF⟩; (have c0 := hu2.was b0); (have c1 := hu2.was b1); (have c2 := hu2.was b2); (have ks2 := fun W (hW : Upd [] w2 W) => bigHalves_any (K := nestFb) ks al ll capl lf low gone (nestFb.upd hK hW (by simp)) (SlR.of_ints (H.out.upd hw1) (hu2.trans hW) hF) (HT.out W F (hw1.trans (hu2.trans hW)) (fun x hx => Nat.le_trans hw1.size (hF x hx))) hb hwf m2 m3 m1); rw [fb_ty] at ks2)
      | ((go_at_call 23; (with_reducible refine (ks2 _ (by (repeat (first | assumption | exact Upd.refl _ _ | refine Upd.alloc ?_ _ | refine Upd.drew ?_ | refine Upd.drewN ?_ _ | refine Upd.setCell ?_ ?_ _ | focus (left; simp; done) | focus (right; simp; done) | focus (right; simp; omega))))).mono ?_)); rintro e w3 ⟨rfl, F3, -, hu3, hF3⟩; (have hw3 : Upd [] w w3 := (hw1.trans hu2).joined hu3 (fun x hx => Or.inr (Nat.le_trans hw1.size (hF x hx)))))
      | fail)
    go_ret
    exact ⟨rfl, hw3⟩
  · have hb1 : (ks.length : Int) > 200 := by omega
    by_cases hc : ks.length ≤ 65536
    · have kn := fun W => fnewK_yes ks.length W hc
      go_enter Try.func11, Try.ntmps11
      go_wp2_with (first
        | ((go_at_call 33; (with_reducible refine (falive_any _).mono ?_)); rintro e w1 ⟨rfl, hu1⟩; (have hw1 : Upd [] w w1 := Upd.trans (by (repeat (first | assumption | exact Upd.refl _ _ | refine Upd.alloc ?_ _ | refine Upd.drew ?_ | refine Upd.drewN ?_ _ | refine Upd.setCell ?_ ?_ _ | focus (left; simp; done) | focus (right; simp; done) | focus (right; simp; omega)))) hu1); (have b0 : w1.cell? ⟨w.heap.size, 0, none⟩ = some (.slice al ll capl) := hu1.was (by go_simp)); (have b1 : w1.cell? ⟨w.heap.size, 1, none⟩ = some (.int .i64 low) := hu1.was (by go_simp)); (have b2 : w1.cell? ⟨w.heap.size, 2, none⟩ = some (.int .i64 gone) := hu1.was (by go_simp)))
        | ((go_at_call 34; (with_reducible refine (kn _).mono ?_)); rintro e w2 ⟨p, F, rfl, hK, hu2, hF⟩)
        | fail)
      go_ret
      exact ⟨by first | rfl | exact ret_bool (by simp; omega), hw1.trans hu2⟩
    · have kn := fun W => fnew_no (ks.length : Int) W (by omega)
      go_enter Try.func11, Try.ntmps11
      go_wp2_with (first
        | ((go_at_call 33; (with_reducible refine (falive_any _).mono ?_)); rintro e w1 ⟨rfl, hu1⟩; (have hw1 : Upd [] w w1 := Upd.trans (by (repeat (first | assumption | exact Upd.refl _ _ | refine Upd.alloc ?_ _ | refine Upd.drew ?_ | refine Upd.drewN ?_ _ | refine Upd.setCell ?_ ?_ _ | focus (left; simp; done) | focus (right; simp; done) | focus (right; simp; omega)))) hu1); (have b0 : w1.cell? ⟨w.heap.size, 0, none⟩ = some (.slice al ll capl) := hu1.was (by go_simp)); (have b1 : w1.cell? ⟨w.heap.size, 1, none⟩ = some (.int .i64 low) := hu1.was (by go_simp)); (have b2 : w1.cell? ⟨w.heap.size, 2, none⟩ = some (.int .i64 gone) := hu1.was (by go_simp)))
        | (go_at_call 34; (with_reducible refine ((kn _)).mono ?_); rintro e w9 ⟨rfl, hw9⟩; rw [hw9]; clear hw9 w9)
        | fail)
      go_ret
      exact ⟨by first | rfl | exact ret_bool (by simp; omega), hw1⟩
end Go.Proofs.Ytighgbdijagolaa
