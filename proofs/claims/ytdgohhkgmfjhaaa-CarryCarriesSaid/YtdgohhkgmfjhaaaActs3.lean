/-
  The acts that a law of layer 12 is given: a slice that came in, of values of three cells. Conditions: those of each lemma.
-/
import Derived.Test.YtdgohhkgmfjhaaaWords
import Derived.Deep.Slices
import Derived.Deep.Strs
set_option linter.unusedVariables false
set_option linter.unusedSimpArgs false
namespace Go.Proofs.Ytdgohhkgmfjhaaa
open Go Go.RowKit

/-- Acts, nil or not: entry i holds what the four functions say. -/
def Acts3 (w : World) (v : Value) (len : Nat) (kd p x : Nat → Int) : Prop :=
  ∃ a cap, v = .slice a len cap ∧ len ≤ maxLen ∧ (0 < len → ∃ b off, a = some ⟨b, off, none⟩ ∧ b < w.heap.size ∧ ∀ j, j < len →
    w.cell? ⟨b, off + j * 3, none⟩ = some (.int .i64 (kd j)) ∧ w.cell? ⟨b, off + j * 3 + 1, none⟩ = some (.int .i64 (p j)) ∧ w.cell? ⟨b, off + j * 3 + 2, none⟩ = some (.int .i64 (x j)))

set_option maxRecDepth 100000 in
open Go.ChangeShapes Go.ChangeAt Go.WideShapes in
theorem acts3_of_trod {H : Type} {enc : TypeId × Value → H} {W : World} {v : Value} {d : DataW H} {pl : List MemPlace} {base : Nat} {sp : Nat → Bool}
    (ho : Value.okWide Try.prog W .any base 49 v) (h : DataW.Trod enc Try.prog W 0 sp true 49 v d pl) : ∃ len kd p x, Acts3 W v len kd p x := by
  obtain ⟨a, len, cap, rfl⟩ := okWide_slice Try.underlying49 ho
  obtain ⟨fuel, hf⟩ := h
  rcases Go.Deep.open_slice Try.underlying49 hf with ⟨hcs, _⟩ | ⟨y, l, c, m, n, D, Pl, hcs, _, hl, hm, hmm, _, hx⟩
  · simp [Value.cells] at hcs
    obtain ⟨rfl, rfl, rfl⟩ := hcs
    exact ⟨0, fun _ => 0, fun _ => 0, fun _ => 0, none, 0, rfl, by simp, fun h => by simp at h⟩
  · simp [Value.cells] at hcs
    obtain ⟨rfl, rfl, rfl⟩ := hcs
    have hlm : len ≤ m := by rw [hmm]; split <;> omega
    have hc4 : Try.prog.cellsOf 83 = 3 := by kernel_rfl
    rw [hc4] at hx
    have key : ∀ i, ∃ q : (Int × Int × Int), i < len → W.cell? (y.add (i * 3)) = some (.int .i64 q.1) ∧ W.cell? (y.add (i * 3 + 1)) = some (.int .i64 q.2.1) ∧ W.cell? (y.add (i * 3 + 2)) = some (.int .i64 q.2.2) := fun i => by
      by_cases hi : i < len
      · obtain ⟨cs, h1, h2⟩ := hx i (by omega)
        obtain ⟨_, hlen, hcell⟩ := World.cells?_some h1
        obtain ⟨xs, n', _, _, _, hlx, hfld⟩ := DataW.trod_struct Try.underlying83 h2
        match cs, hlen with
        | [c0, c1, c2], _ =>
          have f0 := hfld 0 _ rfl
          have f1 := hfld 1 _ rfl
          have f2 := hfld 2 _ rfl
          match xs, hlx with
          | [x0, x1, x2], _ =>
            obtain ⟨k, e0, _, _⟩ := DataW.trod_int Try.underlying3 f0
            obtain ⟨p, e1, _, _⟩ := DataW.trod_int Try.underlying3 f1
            obtain ⟨x, e2, _, _⟩ := DataW.trod_int Try.underlying3 f2
            have g0 := hcell 0 (by omega)
            have g1 := hcell 1 (by omega)
            have g2 := hcell 2 (by omega)
            rw [Go.Deep.add_add] at g0 g1 g2
            have t1 : Try.prog.cellsOf 3 = 1 := by kernel_rfl
            simp [t1] at e0 e1 e2
            subst e0 e1 e2
            exact ⟨(k, p, x), fun _ => ⟨by simpa using g0, by simpa using g1, by simpa using g2⟩⟩
      · exact ⟨(0, 0, 0), fun h => absurd h hi⟩
    obtain ⟨q, hq⟩ := Classical.axiomOfChoice key
    refine ⟨len, fun i => (q i).1, fun i => (q i).2.1, fun i => (q i).2.2, some y, cap, rfl, by omega, fun hp => ?_⟩
    obtain ⟨b, off, spot⟩ := y
    have hspot : spot = none := by have := World.cell?_spot (hq 0 hp).1; simpa [Addr.add] using this
    subst hspot
    refine ⟨b, off, rfl, ?_, fun j hj => ?_⟩
    · have := World.block_lt_of_cell? W _ (hq 0 hp).1
      simpa [Addr.add] using this
    · have := hq j hj
      simpa only [Go.WideShapes.add_plain, Nat.add_assoc] using this

end Go.Proofs.Ytdgohhkgmfjhaaa
