/-
  A new nest of leftist heaps, as one of a kind. Conditions: those of each lemma.
-/
import Derived.Test.YtechoojcgdjcdaaGi
import Derived.Test.YtechoojcgdjcdaaLfK
set_option linter.unusedVariables false
set_option linter.unusedSimpArgs false
namespace Go.Proofs.Ytechoojcgdjcdaa
open Go Go.RowKit
theorem lnewK_yes (n : Nat) (w : World) (h : n ≤ 65536) : Calls Try.prog 16 #[.int .i64 (n : Int)] w fun e w' => ∃ p F, e = .returned (.tuple #[.pointer (some ⟨p, 0, none⟩), .int .i64 0]) ∧ nestLf.at_ w' p F (NS.new n) 0 (fun _ => BT.nil) ∧ Upd [] w w' ∧ ∀ x, x ∈ F → w.heap.size ≤ x := by
  refine (lnew_yes n w h).mono ?_
  rintro e w' ⟨B, F, gt, rfl, hL, hu, hb⟩
  exact ⟨_, _, rfl, ⟨B, F, gt, 1, rfl, rfl, hL⟩, hu, hb⟩
theorem lf_ty : nestLf.ty = 23 := rfl
end Go.Proofs.Ytechoojcgdjcdaa
