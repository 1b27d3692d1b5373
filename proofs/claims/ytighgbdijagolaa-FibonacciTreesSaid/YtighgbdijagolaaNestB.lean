/-
  What is asked of a nest, by numbers; methods by their functions. Conditions: those of each lemma.
-/
import Derived.Test.YtighgbdijagolaaNest
set_option linter.unusedVariables false
set_option linter.unusedSimpArgs false
namespace Go.Proofs.Ytighgbdijagolaa
open Go Go.RowKit

theorem put_nat {A : NS} {h x : Int} (hB : putB A h x = true) : ∃ g y : Nat, h = g ∧ x = y := by
  obtain ⟨b1, b2, b3⟩ := (putB_iff _ _ _).1 hB
  have b4 := (hasN_iff _ _).1 b1
  have b5 := (slotN_iff _ _).1 b2
  exact ⟨h.toNat, x.toNat, by omega, by omega⟩
theorem join_nat {A : NS} {a b : Int} (hB : joinB A a b = true) : ∃ g y : Nat, a = g ∧ b = y := by
  obtain ⟨j1, j2, j3⟩ := (joinB_iff _ _ _).1 hB
  have a1 := (hasN_iff _ _).1 j1
  have a2 := (hasN_iff _ _).1 j2
  exact ⟨a.toNat, b.toNat, by omega, by omega⟩
theorem in_nat {A : NS} {x : Int} (hB : inN A x = true) : ∃ y : Nat, x = y := ⟨x.toNat, by have := (inN_iff _ _).1 hB; omega⟩
theorem low_in {A : NS} {x k s : Int} (hB : lowB A x k s = true) : inN A x = true := by
  unfold lowB at hB; simp only [Bool.and_eq_true] at hB; exact hB.1
theorem mth_direct {ty : TypeId} {p : Nat} {name : String} {w : World} {mk : Value → Array Value} {Q : World → Ending → World → Prop} (f : FuncId) (he : Enters f) (hm : ∀ W, (method 282 ty (.pointer (some ⟨p, 0, none⟩)) name).run Try.prog W = .ok (f, .pointer (some ⟨p, 0, none⟩)) W)
    (hc : ∀ W, Upd [] w W → Calls Try.prog f (mk (.pointer (some ⟨p, 0, none⟩))) W (Q W)) : Mth ty p name w mk Q := ⟨f, _, he, fun W hW => ⟨hm W, hc W hW⟩⟩
theorem mth_via {ty : TypeId} {p c : Nat} {name : String} {w : World} {mk : Value → Array Value} {Q : World → Ending → World → Prop} (f : FuncId) (he : Enters f) (h0 : w.cell? ⟨p, 0, none⟩ = some (.pointer (some ⟨c, 0, none⟩)))
    (hm : ∀ W, W.cell? ⟨p, 0, none⟩ = some (.pointer (some ⟨c, 0, none⟩)) → (method 282 ty (.pointer (some ⟨p, 0, none⟩)) name).run Try.prog W = .ok (f, .pointer (some ⟨c, 0, none⟩)) W)
    (hc : ∀ W, Upd [] w W → Calls Try.prog f (mk (.pointer (some ⟨c, 0, none⟩))) W (Q W)) : Mth ty p name w mk Q := ⟨f, _, he, fun W hW => ⟨hm W (hW.was h0), hc W hW⟩⟩
end Go.Proofs.Ytighgbdijagolaa
