/-
  The law on whatever is linked, split and lifted: its walk. Conditions: arguments that came in.
-/
import Derived.Test.YtdgohhkgmfjhaaaFrRel
import Derived.Test.YtdgohhkgmfjhaaaCarryAlive
set_option linter.unusedVariables false
set_option linter.unusedSimpArgs false
namespace Go.Proofs.Ytdgohhkgmfjhaaa
open Go Go.RowKit

/-- The program's forest, and the document's beside it. -/
structure Two (w : World) (bt ba lo n : Nat) (S : CS) (v : Value) (Z : List (List Int)) : Prop where
  f : ForestAt w bt ba lo n S
  ok : FOk n S.f
  z : FrAt w (ba :: S.blk n) v Z
  r : RelZ n S.f Z
  t : bt < w.heap.size
theorem Two.old {w : World} {bt ba lo n : Nat} {S : CS} {v : Value} {Z : List (List Int)} (h : Two w bt ba lo n S v Z) : ∀ g, g ∈ ba :: S.blk n → g < w.heap.size := fun g hg => by
  rcases List.mem_cons.1 hg with rfl | hg
  · exact h.f.row.lt
  · exact (h.f.blk_lo hg).2
theorem Two.upd0 {w w' : World} {bt ba lo n : Nat} {S : CS} {v : Value} {Z : List (List Int)} (h : Two w bt ba lo n S v Z) (hu : Upd [] w w') : Two w' bt ba lo n S v Z :=
  ⟨h.f.upd0 hu, h.ok, h.z.upd hu (by simp), h.r, Nat.lt_of_lt_of_le h.t hu.size⟩

set_option maxHeartbeats 2000000 in
theorem csame_any (w : World) (bt ba lo n : Nat) (S : CS) (v : Value) (Z : List (List Int)) (x : Int) (h : Two w bt ba lo n S v Z) :
    Calls Try.prog 24 #[.pointer (some ⟨bt, 0, none⟩), v, .int .i64 x] w fun e w' => e = .returned (.bool true) ∧ Upd [] w w' := by
  have k1 := fun W (hW : Upd [] w W) => up_any bt ba lo n S x W (h.f.upd0 hW)
  have k2 := fun W (hW : Upd [] w W) => zup_any W _ v Z x (h.z.upd hW (by simp))
  have k3 := fun W (hW : Upd [] w W) => kids_any bt ba lo n S x W (h.f.upd0 hW)
  have k4 := fun W (hW : Upd [] w W) => zkids_any W _ v Z x (h.z.upd hW (by simp))
  have k5 := fun W (hW : Upd [] w W) => degree_any bt ba lo n S x W (h.f.upd0 hW)
  rw [rel_up h.r h.ok, ← upO_f] at k2
  have ek := rel_kids h.r x
  rw [ek] at k4
  have ed : degOf n S x = ((kidsOf n S x).length : Int) := by unfold degOf kidsOf; split <;> rfl
  rw [ed] at k5
  obtain ⟨a, cap, rfl, _⟩ := h.z.shape
  generalize upO n S x = o at *
  generalize kidsOf n S x = l at *
  generalize Z.length = m at *
  clear h ek ed
  have hr : Upd [] w w := Upd.refl _ _
  cases o
  all_goals
    simp only [ov, ob, Option.getD_none, Option.getD_some, Option.isSome_none, Option.isSome_some] at k1 k2
    go_enter Try.func24, Try.ntmps24
    go_wp2_with (first
      | (go_at_call 11; (with_reducible refine (k1 _ hr).mono ?_); rintro e w9 ⟨rfl, hw9⟩; rw [hw9]; clear hw9 w9)
      | (go_at_call 19; (with_reducible refine (k2 _ hr).mono ?_); rintro e w9 ⟨rfl, hw9⟩; rw [hw9]; clear hw9 w9)
      | ((go_at_call 13; (with_reducible refine (k3 _ hr).mono ?_)); rintro e w2 ⟨v2, rfl, hL2, hu2⟩; have s2 := SlI.of_lst (F := []) hL2 (by simp); obtain ⟨a2, c2, rfl, _⟩ := s2.shape')
      | ((go_at_call 49; (with_reducible refine (k4 _ hu2).mono ?_)); rintro e w3 ⟨a3, c3, rfl, s3, hw3⟩; rw [hw3]; clear hw3 w3)
      | ((go_at_call 25; (with_reducible refine (same_yes _ _ _ _ _ _ s2 s3).mono ?_)); rintro e w4 ⟨rfl, n4, rfl⟩; have hu4 := hu2.drewN n4)
      | (go_at_call 12; (with_reducible refine (k5 _ hu4).mono ?_); rintro e w9 ⟨rfl, hw9⟩; rw [hw9]; clear hw9 w9)
      | ((go_at_call 49; (with_reducible refine (k4 _ hu4).mono ?_)); rintro e w5 ⟨a5, c5, rfl, s5, hw5⟩; rw [hw5]; clear hw5 w5))
    go_ret
    exact ⟨rfl, hu4⟩
end Go.Proofs.Ytdgohhkgmfjhaaa
