/-
  The forests of package carry, what changes them: Link, Split, adopt. Conditions: those of each lemma.
-/
import Derived.Test.YtdgohhkgmfjhaaaCarry2
import Derived.Test.YtdgohhkgmfjhaaaAppend
import Derived.Deep.RegionHeldLaw
import Derived.Deep.RegionLaw
set_option linter.unusedVariables false
set_option linter.unusedSimpArgs false
namespace Go.Proofs.Ytdgohhkgmfjhaaa
open Go Go.RowKit

def CS.setV (S : CS) (x : Nat) (v : Value) (l : List Int) : CS := ⟨fun y => if y = x then v else S.v y, fun y => if y = x then l else S.k y, S.u⟩
def CS.setU (S : CS) (x : Nat) (p : Int) : CS := ⟨S.v, S.k, fun y => if y = x then p else S.u y⟩
theorem CS.setU_blk (S : CS) (x : Nat) (p : Int) (n : Nat) : (S.setU x p).blk n = S.blk n := rfl
theorem CS.setV_blk (S : CS) (x : Nat) (v : Value) (l : List Int) (n g : Nat) (h : g ∈ (S.setV x v l).blk n) : g ∈ S.blk n ∨ v.ownBlock = some g := by
  obtain ⟨y, hy, he⟩ := (CS.mem_blk _ n g).1 h
  unfold CS.setV at he
  simp only at he
  split at he
  · exact Or.inr he
  · exact Or.inl ((CS.mem_blk _ n g).2 ⟨y, hy, he⟩)

theorem ForestAt.setUp {w : World} {bt ba lo n : Nat} {S : CS} (h : ForestAt w bt ba lo n S) (x : Nat) (hx : x < n) (p : Int) : ForestAt (w.setCell ⟨ba, x * 2 + 1, none⟩ (.int .i64 p)) bt ba lo n (S.setU x p) := by
  have hu : Upd [ba] w (w.setCell ⟨ba, x * 2 + 1, none⟩ (.int .i64 p)) := (Upd.refl _ _).setCell (Or.inl (by simp)) _
  refine ⟨h.head.upd hu (by simp; exact h.ne), (h.row.set _ _).ext (fun j hj => ?_), fun y hy => owns_upd (h.own y hy) hu (fun k hk hm => ?_), h.sep, h.ne, h.lt1, h.lt2, Nat.le_trans h.low hu.size, h.le, h.len⟩
  · unfold nodeCell CS.setU
    simp only
    by_cases hj1 : j = x * 2 + 1
    · subst hj1; rw [if_pos rfl, if_neg (by omega), show (x * 2 + 1) / 2 = x by omega, if_pos rfl]
    · rw [if_neg hj1]
      by_cases h2 : j % 2 = 0
      · rw [if_pos h2, if_pos h2]
      · rw [if_neg h2, if_neg h2, if_neg (by omega)]
  · have := ((h.own y hy).lt k hk).1
    have := h.lt2
    simp at hm; omega
theorem ForestAt.setKids {w w1 : World} {bt ba lo n : Nat} {S : CS} (h : ForestAt w bt ba lo n S) (x : Nat) (hx : x < n) (v : Value) (l : List Int) {F : List Nat} (hu : Upd F w w1) (hF : ∀ g, g ∈ F → (S.v x).ownBlock = some g)
    (ho : w1.ownsRow lo 3 1 v l.length (intsZ l)) (hb : ∀ g, v.ownBlock = some g → (S.v x).ownBlock = some g ∨ w.heap.size ≤ g) (hl : l.length ≤ n) : ForestAt (w1.setCell ⟨ba, x * 2, none⟩ v) bt ba lo n (S.setV x v l) := by
  have hFx : ∀ g, g ∈ F → lo ≤ g ∧ g < w.heap.size := fun g hg => (h.own x hx).lt g (hF g hg)
  have hl1 := h.lt1
  have hl2 := h.lt2
  have hu2 : Upd [ba] w1 (w1.setCell ⟨ba, x * 2, none⟩ v) := (Upd.refl _ _).setCell (Or.inl (by simp)) _
  have hr := h.row.upd hu (fun hm => by have := hFx _ hm; omega)
  refine ⟨(h.head.upd hu (fun hm => by have := hFx _ hm; omega)).upd hu2 (by simp; exact h.ne), (hr.set _ _).ext (fun j hj => ?_), fun y hy => ?_, ?_, h.ne, h.lt1, h.lt2, Nat.le_trans (Nat.le_trans h.low hu.size) hu2.size, h.le, ?_⟩
  · unfold nodeCell CS.setV
    simp only
    by_cases hj1 : j = x * 2
    · subst hj1; rw [if_pos rfl, if_pos (by omega), show (x * 2) / 2 = x by omega, if_pos rfl]
    · rw [if_neg hj1]
      by_cases h2 : j % 2 = 0
      · rw [if_pos h2, if_pos h2, if_neg (by omega)]
      · rw [if_neg h2, if_neg h2]
  · unfold CS.setV
    simp only
    by_cases hyx : y = x
    · rw [if_pos hyx, if_pos hyx]
      exact owns_upd ho hu2 (fun k hk hm => by have := (ho.lt k hk).1; simp at hm; omega)
    · rw [if_neg hyx, if_neg hyx]
      have h1 := h.own y hy
      have h2 := owns_upd h1 hu (fun k hk hm => h.sep y x hy hx hyx k hk (hF k hm))
      exact owns_upd h2 hu2 (fun k hk hm => by have := (h1.lt k hk).1; simp at hm; omega)
  · intro y z hy hz hyz g hg
    unfold CS.setV at hg ⊢
    simp only at hg ⊢
    by_cases hyx : y = x
    · rw [if_pos hyx] at hg
      rw [if_neg (fun e => hyz (by rw [hyx, e]))]
      rcases hb g hg with h1 | h1
      · exact h.sep x z hx hz (by omega) g h1
      · intro h2
        have := ((h.own z hz).lt g h2).2
        omega
    · rw [if_neg hyx] at hg
      by_cases hzx : z = x
      · rw [if_pos hzx]
        intro h2
        rcases hb g h2 with h1 | h1
        · exact h.sep y x hy hx hyx g hg h1
        · have := ((h.own y hy).lt g hg).2
          omega
      · rw [if_neg hzx]; exact h.sep y z hy hz hyz g hg
  · intro y hy
    unfold CS.setV
    simp only
    by_cases hyx : y = x
    · rw [if_pos hyx]; exact hl
    · rw [if_neg hyx]; exact h.len y hy

end Go.Proofs.Ytdgohhkgmfjhaaa
