/-
  The acts that a law of nests is given: a slice that came in, of values of five cells. Conditions: those of each lemma.
-/
import Derived.Test.YtighgbdijagolaaNest
import Derived.Deep.Slices
import Derived.Deep.Strs
set_option linter.unusedVariables false
set_option linter.unusedSimpArgs false
namespace Go.Proofs.Ytighgbdijagolaa
open Go Go.RowKit

/-- The five cells of something to be done. -/
def AcAt (w : World) (b o : Nat) (a : AC) : Prop :=
  w.cell? ⟨b, o, none⟩ = some (.int .i64 a.kind) ∧ w.cell? ⟨b, o + 1, none⟩ = some (.int .i64 a.h) ∧ w.cell? ⟨b, o + 2, none⟩ = some (.int .i64 a.x) ∧ w.cell? ⟨b, o + 3, none⟩ = some (.int .i64 a.k) ∧ w.cell? ⟨b, o + 4, none⟩ = some (.int .u64 a.s)
theorem AcAt.kept {w w' : World} {S : List Nat} {b o : Nat} {a : AC} (h : AcAt w b o a) (hu : Upd S w w') (hb : b ∉ S) : AcAt w' b o a :=
  ⟨hu.kept h.1 hb, hu.kept h.2.1 hb, hu.kept h.2.2.1 hb, hu.kept h.2.2.2.1 hb, hu.kept h.2.2.2.2 hb⟩
/-- Acts, nil or not: entry j is f j. -/
def ActsN (w : World) (v : Value) (len : Nat) (f : Nat → AC) : Prop :=
  ∃ a cap, v = .slice a len cap ∧ len ≤ maxLen ∧ (∀ j, j < len → (f j).Ok) ∧ (0 < len → ∃ b off, a = some ⟨b, off, none⟩ ∧ b < w.heap.size ∧ ∀ j, j < len → AcAt w b (off + j * 5) (f j))
theorem ActsN.upd {w w' : World} {v : Value} {len : Nat} {f : Nat → AC} (h : ActsN w v len f) (hu : Upd [] w w') : ActsN w' v len f := by
  obtain ⟨a, cap, rfl, h1, h2, h3⟩ := h
  refine ⟨a, cap, rfl, h1, h2, fun hp => ?_⟩
  obtain ⟨b, off, rfl, hb, hc⟩ := h3 hp
  exact ⟨b, off, rfl, Nat.lt_of_lt_of_le hb hu.size, fun j hj => (hc j hj).kept hu (by simp)⟩
theorem i64w {n : Int} (h : (Lit.int .i64 n).wf = true) : -9223372036854775808 ≤ n ∧ n ≤ 9223372036854775807 := by
  simp [Lit.wf, IntKind.min, IntKind.max, IntKind.signed, IntKind.bits] at h; omega
theorem u64w {n : Int} (h : (Lit.int .u64 n).wf = true) : 0 ≤ n ∧ n ≤ 18446744073709551615 := by
  simp [Lit.wf, IntKind.min, IntKind.max, IntKind.signed, IntKind.bits] at h; omega
set_option maxRecDepth 100000 in
open Go.ChangeShapes Go.ChangeAt Go.WideShapes in
theorem acts5_of_trod {H : Type} {enc : TypeId × Value → H} {W : World} {v : Value} {d : DataW H} {pl : List MemPlace} {base : Nat} {sp : Nat → Bool}
    (ho : Value.okWide Try.prog W .any base 50 v) (h : DataW.Trod enc Try.prog W 0 sp true 50 v d pl) : ∃ len f, ActsN W v len f := by
  obtain ⟨a, len, cap, rfl⟩ := okWide_slice Try.underlying50 ho
  obtain ⟨fuel, hf⟩ := h
  rcases Go.Deep.open_slice Try.underlying50 hf with ⟨hcs, _⟩ | ⟨y, l, c, m, n, D, Pl, hcs, _, hl, hm, hmm, _, hx⟩
  · simp [Value.cells] at hcs
    obtain ⟨rfl, rfl, rfl⟩ := hcs
    exact ⟨0, fun _ => ⟨0, 0, 0, 0, 0⟩, none, 0, rfl, by simp, fun j hj => by omega, fun h => by simp at h⟩
  · simp [Value.cells] at hcs
    obtain ⟨rfl, rfl, rfl⟩ := hcs
    have hlm : len ≤ m := by rw [hmm]; split <;> omega
    have hc5 : Try.prog.cellsOf 59 = 5 := by kernel_rfl
    rw [hc5] at hx
    have key : ∀ i, ∃ q : AC, i < len → q.Ok ∧ W.cell? (y.add (i * 5)) = some (.int .i64 q.kind) ∧ W.cell? (y.add (i * 5 + 1)) = some (.int .i64 q.h) ∧ W.cell? (y.add (i * 5 + 2)) = some (.int .i64 q.x) ∧ W.cell? (y.add (i * 5 + 3)) = some (.int .i64 q.k) ∧ W.cell? (y.add (i * 5 + 4)) = some (.int .u64 q.s) := fun i => by
      by_cases hi : i < len
      · obtain ⟨cs, h1, h2⟩ := hx i (by omega)
        obtain ⟨_, hlen, hcell⟩ := World.cells?_some h1
        obtain ⟨xs, n', _, _, _, hlx, hfld⟩ := DataW.trod_struct Try.underlying59 h2
        match cs, hlen with
        | [c0, c1, c2, c3, c4], _ =>
          have f0 := hfld 0 _ rfl
          have f1 := hfld 1 _ rfl
          have f2 := hfld 2 _ rfl
          have f3 := hfld 3 _ rfl
          match xs, hlx with
          | [x0, x1, x2, x3], _ =>
            obtain ⟨k, e0, _, _⟩ := DataW.trod_int Try.underlying3 f0
            obtain ⟨hh, e1, _, wh⟩ := DataW.trod_int Try.underlying3 f1
            obtain ⟨x, e2, _, wx⟩ := DataW.trod_int Try.underlying3 f2
            obtain ⟨ys, n2, _, _, _, hly, hfe⟩ := DataW.trod_struct Try.underlying57 f3
            have f4 := hfe 0 _ rfl
            have f5 := hfe 1 _ rfl
            match ys, hly with
            | [y0, y1], _ =>
              obtain ⟨kk, e3, _, wk⟩ := DataW.trod_int Try.underlying2 f4
              obtain ⟨s, e4, _, ws⟩ := DataW.trod_int Try.underlying55 f5
              have g0 := hcell 0 (by omega)
              have g1 := hcell 1 (by omega)
              have g2 := hcell 2 (by omega)
              have g3 := hcell 3 (by omega)
              have g4 := hcell 4 (by omega)
              rw [Go.Deep.add_add] at g0 g1 g2 g3 g4
              have t1 : Try.prog.cellsOf 3 = 1 := by kernel_rfl
              have t2 : Try.prog.cellsOf 2 = 1 := by kernel_rfl
              have t3 : Try.prog.cellsOf 55 = 1 := by kernel_rfl
              have t4 : Try.prog.cellsOf 57 = 2 := by kernel_rfl
              simp [t1, t2, t3, t4] at e0 e1 e2 e3 e4
              subst e0 e1 e2 e3 e4
              exact ⟨⟨k, hh, x, kk, s⟩, fun _ => ⟨⟨i64w wh, i64w wx, ⟨(i64w wk).1, (i64w wk).2, (u64w ws).1, (u64w ws).2⟩⟩, by simpa using g0, by simpa using g1, by simpa using g2, by simpa using g3, by simpa using g4⟩⟩
      · exact ⟨⟨0, 0, 0, 0, 0⟩, fun h => absurd h hi⟩
    obtain ⟨q, hq⟩ := Classical.axiomOfChoice key
    refine ⟨len, q, some y, cap, rfl, by omega, fun j hj => (hq j hj).1, fun hp => ?_⟩
    obtain ⟨b, off, spot⟩ := y
    have hspot : spot = none := by have := World.cell?_spot (hq 0 hp).2.1; simpa [Addr.add] using this
    subst hspot
    refine ⟨b, off, rfl, ?_, fun j hj => ?_⟩
    · have := World.block_lt_of_cell? W _ (hq 0 hp).2.1
      simpa [Addr.add] using this
    · have := (hq j hj).2
      unfold AcAt
      simpa only [Go.WideShapes.add_plain, Nat.add_assoc] using this
end Go.Proofs.Ytighgbdijagolaa
