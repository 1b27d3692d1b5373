/-
  On which side keys are, which slot is lowered, and which is deleted: an argument of a law, opened. Conditions: those of each lemma.
-/
import Derived.Test.YtighgbdijagolaaHalves
import Derived.Test.YtighgbdijagolaaActs5
import Derived.Lib.SmallJoins
set_option linter.unusedVariables false
set_option linter.unusedSimpArgs false
namespace Go.Proofs.Ytighgbdijagolaa
open Go Go.RowKit

def MeldsV (w : World) (v : Value) (ll : Nat) (lf : Nat → Bool) (low gone : Int) : Prop :=
  ∃ al capl, v = .agg #[.slice al ll capl, .int .i64 low, .int .i64 gone] ∧ ll ≤ 9223372036854775807 ∧ (-9223372036854775808 ≤ low ∧ low ≤ 9223372036854775807) ∧ (-9223372036854775808 ≤ gone ∧ gone ≤ 9223372036854775807) ∧
    (0 < ll → ∃ b off, al = some ⟨b, off, none⟩ ∧ b < w.heap.size ∧ ∀ j, j < ll → w.cell? ⟨b, off + j, none⟩ = some (.bool (lf j)))
theorem MeldsV.upd {w w' : World} {v : Value} {ll : Nat} {lf : Nat → Bool} {low gone : Int} (h : MeldsV w v ll lf low gone) (hu : Upd [] w w') : MeldsV w' v ll lf low gone := by
  obtain ⟨al, capl, rfl, h1, h2, h3, h4⟩ := h
  exact ⟨al, capl, rfl, h1, h2, h3, fun hp => by
    obtain ⟨b, off, rfl, hb, hc⟩ := h4 hp
    exact ⟨b, off, rfl, Nat.lt_of_lt_of_le hb hu.size, fun j hj => hu.was (hc j hj)⟩⟩
def boolOf : Value → Bool | .bool b => b | _ => false
set_option maxRecDepth 100000 in
open Go.ChangeShapes Go.ChangeAt Go.WideShapes in
theorem melds_of_trod {H : Type} {enc : TypeId × Value → H} {W : World} {v : Value} {d : DataW H} {pl : List MemPlace} {base : Nat} {sp : Nat → Bool}
    (ho : Value.okWide Try.prog W .any base 47 v) (h : DataW.Trod enc Try.prog W 0 sp true 47 v d pl) : ∃ ll lf low gone, MeldsV W v ll lf low gone := by
  obtain ⟨v0, v1, v2, y0, y1, y2, n, rfl, _, _, f0, f1, f2⟩ := Go.Joins.open_agg3 Try.underlying47 (by kernel_rfl) (show Try.prog.cellsOf 47 = 3 by kernel_rfl) ho h
  obtain ⟨low, e1, _, w1⟩ := DataW.trod_int Try.underlying3 f1
  obtain ⟨gone, e2, _, w2⟩ := DataW.trod_int Try.underlying3 f2
  simp at e1 e2
  subst e1 e2
  rcases Go.Deep.open_slice1 Try.underlying45 (show Try.prog.cellsOf 4 = 1 by kernel_rfl) f0 with ⟨hcs, _⟩ | ⟨y, l, c, m, n', V, D, Pl, hcs, _, hl, hm, hmm, _, hx⟩
  · simp at hcs
    subst hcs
    exact ⟨0, fun _ => false, low, gone, none, 0, rfl, by omega, i64w w1, i64w w2, fun h => by omega⟩
  · simp at hcs
    subst hcs
    have hlm : l ≤ m := by rw [hmm]; split <;> omega
    refine ⟨l, fun j => boolOf (V j), low, gone, some y, c, rfl, by unfold maxLen at hm; omega, i64w w1, i64w w2, fun hp => ?_⟩
    have key : ∀ j, j < l → W.cell? (y.add j) = some (.bool (boolOf (V j))) := fun j hj => by
      obtain ⟨h1, h2⟩ := hx j (by omega)
      obtain ⟨r, e, _⟩ := DataW.trod_bool Try.underlying4 h2
      simp at e
      rw [h1, e]; rfl
    obtain ⟨b, off, spot⟩ := y
    have hspot : spot = none := by have := World.cell?_spot (key 0 hp); simpa [Addr.add] using this
    subst hspot
    refine ⟨b, off, rfl, ?_, fun j hj => ?_⟩
    · have := World.block_lt_of_cell? W _ (key 0 hp)
      simpa [Addr.add] using this
    · have := key j hj
      simpa only [Go.WideShapes.add_plain] using this
end Go.Proofs.Ytighgbdijagolaa
