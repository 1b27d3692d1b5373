/-
  The law FibonacciSorts: its walk. Conditions: those of each lemma.
-/
import Derived.Test.YtighgbdijagolaaFbAlive
import Derived.Test.YtighgbdijagolaaSorts
set_option linter.unusedVariables false
set_option linter.unusedSimpArgs false
namespace Go.Proofs.Ytighgbdijagolaa
open Go Go.RowKit

set_option maxHeartbeats 4000000 in
theorem fbsorts_any (ks : List Int) (v : Value) (w : World) (h : IsInts .i64 w v ks) : Calls Try.prog 10 #[v] w fun e w' => e = .returned (.bool true) ∧ Upd [] w w' := by
  have hl : ks.length ≤ maxLen := by obtain ⟨⟨a, cap, rfl, hl, _⟩, _⟩ := h; exact hl
  have hwf := fun n hn => i64_of_wf (h.2 n hn)
  have H := Lib.hid h
  obtain ⟨a, cap, hv⟩ : ∃ a cap, v = .slice a ks.length cap := by obtain ⟨⟨a, cap, rfl, _⟩, _⟩ := h; exact ⟨a, cap, rfl⟩
  subst hv
  clear h
  unfold maxLen at hl
  by_cases hb : ks.length ≤ 200
  · have kn := fun W => fnewK_yes ks.length W (by omega)
    have hb1 : ¬ (ks.length : Int) > 200 := by omega
    go_enter Try.func10, Try.ntmps10
    go_wp2_with (first
      | ((go_at_call 33; (with_reducible refine (falive_any _).mono ?_)); rintro e w1 ⟨rfl, hu1⟩)
      | ((go_at_call 34; (with_reducible refine (kn _).mono ?_)); rintro e w2 ⟨p, F, rfl, hK, hu2, hF⟩; (have ks2 := bigSorts_any (K := nestFb) ks hK (SlR.of_ints (H.out.upd hu1) hu2 hF) hb hwf); rw [fb_ty] at ks2)
      | ((go_at_call 22; (with_reducible refine (ks2).mono ?_)); rintro e w3 ⟨rfl, F3, -, hu3, hF3⟩)
      | fail)
    go_ret
    exact ⟨rfl, hu1.trans (hu2.joined hu3 (fun x hx => Or.inr (hF x hx)))⟩
  · have hb1 : (ks.length : Int) > 200 := by omega
    by_cases hc : ks.length ≤ 65536
    · have kn := fun W => fnewK_yes ks.length W hc
      go_enter Try.func10, Try.ntmps10
      go_wp2_with (first
        | ((go_at_call 33; (with_reducible refine (falive_any _).mono ?_)); rintro e w1 ⟨rfl, hu1⟩)
        | ((go_at_call 34; (with_reducible refine (kn _).mono ?_)); rintro e w2 ⟨p, F, rfl, hK, hu2, hF⟩)
        | fail)
      go_ret
      exact ⟨by first | rfl | exact ret_bool (by simp; omega), hu1.trans hu2⟩
    · have kn := fun W => fnew_no (ks.length : Int) W (by omega)
      go_enter Try.func10, Try.ntmps10
      go_wp2_with (first
        | ((go_at_call 33; (with_reducible refine (falive_any _).mono ?_)); rintro e w1 ⟨rfl, hu1⟩)
        | (go_at_call 34; (with_reducible refine ((kn _)).mono ?_); rintro e w9 ⟨rfl, hw9⟩; rw [hw9]; clear hw9 w9)
        | fail)
      go_ret
      exact ⟨by first | rfl | exact ret_bool (by simp; omega), hu1⟩
end Go.Proofs.Ytighgbdijagolaa
