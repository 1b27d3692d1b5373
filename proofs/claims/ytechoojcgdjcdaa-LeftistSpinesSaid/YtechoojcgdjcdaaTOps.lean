/-
  Heaps as binary trees, by what merges, deletes and lowers: steps and trees behind whatever is done, plainly. And methods by their numbers. Conditions: those of each lemma.
-/
import Derived.Test.YtechoojcgdjcdaaNest
import Derived.Test.YtechoojcgdjcdaaGb
set_option linter.unusedVariables false
set_option linter.unusedSimpArgs false
namespace Go.Proofs.Ytechoojcgdjcdaa
open Go Go.RowKit

structure TOps where
  mrg : NS → BT → BT → BT × Nat
  del : NS → BT → Nat → BT × Nat
  low : NS → BT → Nat → BT × Nat
def setT (tr : Nat → BT) (h : Nat) (t : BT) : Nat → BT := fun q => if q = h then t else tr q
def stepT (O : TOps) (A : NS) (a : AC) (tr : Nat → BT) : (Nat → BT) × Nat :=
  if a.kind = 1 then (if putB A a.h a.x then (setT tr a.h.toNat (O.mrg (putN A a.h a.x a.k a.s) (tr a.h.toNat) (single a.x.toNat)).1, (O.mrg (putN A a.h a.x a.k a.s) (tr a.h.toNat) (single a.x.toNat)).2) else (tr, 0))
  else if a.kind = 3 then (match minN A a.h with | some m => (setT tr a.h.toNat (O.del A (tr a.h.toNat) m).1, (O.del A (tr a.h.toNat) m).2) | none => (tr, 0))
  else if a.kind = 4 then (if lowB A a.x a.k a.s then (setT tr (A.c a.x.toNat).i.toNat (O.low (lowN A a.x a.k a.s) (tr (A.c a.x.toNat).i.toNat) a.x.toNat).1, (O.low (lowN A a.x a.k a.s) (tr (A.c a.x.toNat).i.toNat) a.x.toNat).2) else (tr, 0))
  else if a.kind = 5 then (if inN A a.x then (setT tr (A.c a.x.toNat).i.toNat (O.del A (tr (A.c a.x.toNat).i.toNat) a.x.toNat).1, (O.del A (tr (A.c a.x.toNat).i.toNat) a.x.toNat).2) else (tr, 0))
  else if a.kind = 6 then (if joinB A a.h a.x then (setT (setT tr a.x.toNat .nil) a.h.toNat (O.mrg (joinN A a.h a.x) (tr a.h.toNat) (tr a.x.toNat)).1, (O.mrg (joinN A a.h a.x) (tr a.h.toNat) (tr a.x.toNat)).2) else (tr, 0))
  else (tr, 0)
theorem stepT_idle (O : TOps) (A : NS) (a : AC) (tr : Nat → BT) (h : a.kind ≠ 1 ∧ a.kind ≠ 3 ∧ a.kind ≠ 4 ∧ a.kind ≠ 5 ∧ a.kind ≠ 6) : stepT O A a tr = (tr, 0) := by
  unfold stepT; rw [if_neg h.1, if_neg h.2.1, if_neg h.2.2.1, if_neg h.2.2.2.1, if_neg h.2.2.2.2]
theorem put_nat {A : NS} {h x : Int} (hB : putB A h x = true) : ∃ g y : Nat, h = g ∧ x = y := by
  obtain ⟨b1, b2, b3⟩ := (putB_iff _ _ _).1 hB
  have b4 := (hasN_iff _ _).1 b1
  have b5 := (slotN_iff _ _).1 b2
  exact ⟨h.toNat, x.toNat, by omega, by omega⟩
theorem join_nat {A : NS} {a b : Int} (hB : joinB A a b = true) : ∃ g y : Nat, a = g ∧ b = y := by
  obtain ⟨j1, j2, j3⟩ := (joinB_iff _ _ _).1 hB
  have a1 := (hasN_iff _ _).1 j1
  have a2 := (hasN_iff _ _).1 j2
  exact ⟨a.toNat, b.toNat, by omega, by omega⟩
theorem in_nat {A : NS} {x : Int} (hB : inN A x = true) : ∃ y : Nat, x = y := ⟨x.toNat, by have := (inN_iff _ _).1 hB; omega⟩
theorem low_in {A : NS} {x k s : Int} (hB : lowB A x k s = true) : inN A x = true := by
  unfold lowB at hB; simp only [Bool.and_eq_true] at hB; exact hB.1
theorem mth_direct {ty : TypeId} {p : Nat} {name : String} {w : World} {mk : Value → Array Value} {Q : World → Ending → World → Prop} (f : FuncId) (he : Enters f) (hm : ∀ W, (method 261 ty (.pointer (some ⟨p, 0, none⟩)) name).run Try.prog W = .ok (f, .pointer (some ⟨p, 0, none⟩)) W)
    (hc : ∀ W, Upd [] w W → Calls Try.prog f (mk (.pointer (some ⟨p, 0, none⟩))) W (Q W)) : Mth ty p name w mk Q := ⟨f, _, he, fun W hW => ⟨hm W, hc W hW⟩⟩
theorem mth_via {ty : TypeId} {p c : Nat} {name : String} {w : World} {mk : Value → Array Value} {Q : World → Ending → World → Prop} (f : FuncId) (he : Enters f) (h0 : w.cell? ⟨p, 0, none⟩ = some (.pointer (some ⟨c, 0, none⟩)))
    (hm : ∀ W, W.cell? ⟨p, 0, none⟩ = some (.pointer (some ⟨c, 0, none⟩)) → (method 261 ty (.pointer (some ⟨p, 0, none⟩)) name).run Try.prog W = .ok (f, .pointer (some ⟨c, 0, none⟩)) W)
    (hc : ∀ W, Upd [] w W → Calls Try.prog f (mk (.pointer (some ⟨c, 0, none⟩))) W (Q W)) : Mth ty p name w mk Q := ⟨f, _, he, fun W hW => ⟨hm W (hW.was h0), hc W hW⟩⟩
end Go.Proofs.Ytechoojcgdjcdaa
