/-
  The law LeftistSorts: its walk. Conditions: those of each lemma.
-/
import Derived.Test.YtechoojcgdjcdaaLf11
import Derived.Test.YtechoojcgdjcdaaLfK
import Derived.Test.YtechoojcgdjcdaaSorts
set_option linter.unusedVariables false
set_option linter.unusedSimpArgs false
namespace Go.Proofs.Ytechoojcgdjcdaa
open Go Go.RowKit

/-- A new nest of leftist heaps, as one of a kind. -/
theorem lnewK_yes (n : Nat) (w : World) (h : n ≤ 65536) : Calls Try.prog 16 #[.int .i64 (n : Int)] w fun e w' => ∃ p F, e = .returned (.tuple #[.pointer (some ⟨p, 0, none⟩), .int .i64 0]) ∧ nestLf.at_ w' p F (NS.new n) 0 (fun _ => BT.nil) ∧ Upd [] w w' ∧ ∀ x, x ∈ F → w.heap.size ≤ x := by
  refine (lnew_yes n w h).mono ?_
  rintro e w' ⟨B, F, gt, rfl, hL, hu, hb⟩
  exact ⟨_, _, rfl, ⟨B, F, gt, 1, rfl, rfl, hL⟩, hu, hb⟩
theorem lf_ty : nestLf.ty = 23 := rfl
theorem i64_of_wf {n : Int} (h : (Lit.int .i64 n).wf = true) : -9223372036854775808 ≤ n ∧ n ≤ 9223372036854775807 := by
  simp [Lit.wf, IntKind.min, IntKind.max, IntKind.signed, IntKind.bits] at h; omega
set_option maxHeartbeats 4000000 in
theorem lsorts_any (ks : List Int) (v : Value) (w : World) (h : IsInts .i64 w v ks) : Calls Try.prog 4 #[v] w fun e w' => e = .returned (.bool true) ∧ Upd [] w w' := by
  have hl : ks.length ≤ maxLen := by obtain ⟨⟨a, cap, rfl, hl, _⟩, _⟩ := h; exact hl
  have hwf := fun n hn => i64_of_wf (h.2 n hn)
  have H := Lib.hid h
  obtain ⟨a, cap, hv⟩ : ∃ a cap, v = .slice a ks.length cap := by obtain ⟨⟨a, cap, rfl, _⟩, _⟩ := h; exact ⟨a, cap, rfl⟩
  subst hv
  clear h
  unfold maxLen at hl
  by_cases hb : ks.length ≤ 200
  · have kn := fun W => lnewK_yes ks.length W (by omega)
    have hb1 : ¬ (ks.length : Int) > 200 := by omega
    go_enter Try.func4, Try.ntmps4
    go_wp2_with (first
      | ((go_at_call 15; (with_reducible refine (lalive_any _).mono ?_)); rintro e w1 ⟨rfl, hu1⟩)
      | ((go_at_call 16; (with_reducible refine (kn _).mono ?_)); rintro e w2 ⟨p, F, rfl, hK, hu2, hF⟩; (have ks2 := bigSorts_any (K := nestLf) ks hK (SlR.of_ints (H.out.upd hu1) hu2 hF) hb hwf); rw [lf_ty] at ks2)
      | ((go_at_call 21; (with_reducible refine (ks2).mono ?_)); rintro e w3 ⟨rfl, F3, -, hu3, hF3⟩)
      | fail)
    go_ret
    exact ⟨rfl, hu1.trans (hu2.joined hu3 (fun x hx => Or.inr (hF x hx)))⟩
  · have hb1 : (ks.length : Int) > 200 := by omega
    by_cases hc : ks.length ≤ 65536
    · have kn := fun W => lnewK_yes ks.length W hc
      go_enter Try.func4, Try.ntmps4
      go_wp2_with (first
        | ((go_at_call 15; (with_reducible refine (lalive_any _).mono ?_)); rintro e w1 ⟨rfl, hu1⟩)
        | ((go_at_call 16; (with_reducible refine (kn _).mono ?_)); rintro e w2 ⟨p, F, rfl, hK, hu2, hF⟩)
        | fail)
      go_ret
      exact ⟨by first | rfl | exact ret_bool (by simp; omega), hu1.trans hu2⟩
    · have kn := fun W => lnew_no (ks.length : Int) W (by omega)
      go_enter Try.func4, Try.ntmps4
      go_wp2_with (first
        | ((go_at_call 15; (with_reducible refine (lalive_any _).mono ?_)); rintro e w1 ⟨rfl, hu1⟩)
        | (go_at_call 16; (with_reducible refine ((kn _)).mono ?_); rintro e w9 ⟨rfl, hw9⟩; rw [hw9]; clear hw9 w9)
        | fail)
      go_ret
      exact ⟨by first | rfl | exact ret_bool (by simp; omega), hu1⟩
end Go.Proofs.Ytechoojcgdjcdaa
