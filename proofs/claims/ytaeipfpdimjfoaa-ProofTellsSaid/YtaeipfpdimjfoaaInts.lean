/-
  Slices of integers that the program made: wherever they lie; rows of its own that it writes. Conditions: those of each lemma.
-/
import Derived.Test.YtaeipfpdimjfoaaRow
import Derived.Test.YtaeipfpdimjfoaaAppend
import Derived.Test.YtaeipfpdimjfoaaProg
set_option linter.unusedVariables false
set_option linter.unusedSimpArgs false
namespace Go.Proofs.Ytaeipfpdimjfoaa
open Go Go.RowKit

theorem intInfo : (Try.prog.info? 3).map (fun i => (i.zero, i.size, i.bytes)) = some (some (.int .i64 0), 1, 8) := by kernel_rfl
def intsZ (l : List Int) : List Value := l.map (fun x => Value.int .i64 x)
theorem intsZ_append (a b : List Int) : intsZ (a ++ b) = intsZ a ++ intsZ b := by unfold intsZ; rw [List.map_append]
theorem intsZ_len (a : List Int) : (intsZ a).length = a.length := by unfold intsZ; simp
theorem intsZ_one (l : List Int) : ∀ u ∈ intsZ l, u.oneCell' = true := by
  intro u hu; unfold intsZ at hu; simp only [List.mem_map] at hu; obtain ⟨x, _, rfl⟩ := hu; rfl
theorem intsZ_get {l : List Int} {j : Nat} (hj : j < l.length) : (intsZ l)[j]? = some (.int .i64 (l.getD j 0)) := by unfold intsZ; simp [List.getD_eq_getElem?_getD, hj]

theorem cell_new {X : World} {us : List Value} {e : TypeId} {g : Nat} (hg : g = X.heap.size) (j : Nat) {u : Value} (hj : us[j]? = some u) : (X.alloc (.cells us.toArray e)).cell? ⟨g, j, none⟩ = some u := by
  subst hg; exact newCell0 X us e j u hj
theorem cell_newd {X : World} {us : List Value} {e : TypeId} {g : Nat} (hg : g = X.heap.size) (j : Nat) {u : Value} (hj : us[j]? = some u) : ((X.alloc (.cells us.toArray e)).drew).cell? ⟨g, j, none⟩ = some u := cell_new hg j hj
/-- A slice of integers that the program owns: the head of block g. -/
structure IZ (w : World) (g cap : Nat) (l : List Int) : Prop where
  own : w.ownsRow 0 3 1 (.slice (some ⟨g, 0, none⟩) l.length cap) l.length (intsZ l)
theorem IZ.lt {w : World} {g cap : Nat} {l : List Int} (h : IZ w g cap l) : g < w.heap.size := (h.own.lt g rfl).2
theorem IZ.cap {w : World} {g cap : Nat} {l : List Int} (h : IZ w g cap l) : l.length ≤ cap ∧ cap ≤ 9223372036854775807 := by
  rcases h.own.2 with ⟨h1, _⟩ | ⟨g', cap', cur, h1, _, _, h2, h3, _⟩
  · cases h1
  · cases h1; unfold maxLen at h3; exact ⟨h2, h3⟩
theorem IZ.cell {w : World} {g cap : Nat} {l : List Int} (h : IZ w g cap l) (j : Nat) (hj : j < l.length) : w.cell? ⟨g, j, none⟩ = some (.int .i64 (l.getD j 0)) := by
  rw [h.own.cellAt j (by omega)]
  exact intsZ_get hj
theorem IZ.free {w : World} {g cap : Nat} {l : List Int} (h : IZ w g cap l) (j : Nat) : w.frozen? ⟨g, j, none⟩ = false := h.own.frozenAt j
theorem IZ.upd {w w' : World} {S : List Nat} {g cap : Nat} {l : List Int} (h : IZ w g cap l) (hu : Upd S w w') (hn : g ∉ S) : IZ w' g cap l :=
  ⟨owns_upd h.own hu (fun k hk => by cases hk; exact hn)⟩
theorem IZ.drewN {w : World} {g cap : Nat} {l : List Int} (h : IZ w g cap l) (n : Nat) : IZ (w.drewN n) g cap l := h.upd ((Upd.refl [] w).drewN n) (by simp)
theorem IZ.set {w : World} {g cap : Nat} {l : List Int} (h : IZ w g cap l) (j : Nat) (x : Int) : IZ (w.setCell ⟨g, j, none⟩ (.int .i64 x)) g cap (l.set j x) := by
  rcases h.own.2 with ⟨h1, _⟩ | ⟨g', cap', cur, h1, hb, hg, hn, hc, hs, ht⟩
  · cases h1
  · cases h1
    refine ⟨⟨by rw [intsZ_len]; omega, Or.inr ⟨g, cap, cur.setIfInBounds j (.int .i64 x), by rw [List.length_set], by omega, ?_, by rw [List.length_set]; exact hn, hc, by simp; omega, ?_⟩⟩⟩
    · simp [World.setCell, Array.getElem?_modify, hg]
    · rw [List.length_set, Array.toList_setIfInBounds]
      by_cases hj : j < l.length
      · rw [List.take_set, ht]
        unfold intsZ
        rw [List.map_set]
      · rw [List.take_set_of_le (by omega), ht, List.set_eq_of_length_le (by omega)]
theorem IZ.lit (w : World) (l : List Int) (hl : l.length ≤ 1000000) : IZ (w.alloc (.cells (intsZ l).toArray 3)) w.heap.size l.length l :=
  ⟨own_lit w (intsZ l) 3 0 1 l.length (by rw [intsZ_len]; omega) (by omega) (by unfold maxLen; omega)⟩
/-- A row of its own: it is a slice whose block is known, or nil. -/
theorem IZ.of_own {w : World} {base : Nat} {v : Value} {l : List Int} (h : w.ownsRow base 3 1 v l.length (intsZ l)) (hl : 0 < l.length) : ∃ g cap, v = .slice (some ⟨g, 0, none⟩) l.length cap ∧ IZ w g cap l ∧ base ≤ g := by
  obtain ⟨g, cap, rfl, hb, _⟩ := own_shape h hl
  exact ⟨g, cap, rfl, ⟨owns_mono h (by omega)⟩, hb⟩
/-- A slice of integers, wherever it lies, in no block of F. -/
def SlI (w : World) (F : List Nat) (v : Value) (xs : List Int) : Prop :=
  ∃ a cap, v = .slice a xs.length cap ∧ xs.length ≤ cap ∧ cap ≤ 9223372036854775807 ∧ ∀ j u, xs[j]? = some u → ∃ g off, a = some ⟨g, off, none⟩ ∧ g < w.heap.size ∧ g ∉ F ∧ w.cell? ⟨g, off + j, none⟩ = some (.int .i64 u)
theorem SlI.fresh {w w' : World} {F F' : List Nat} {v : Value} {xs : List Int} (h : SlI w F v xs) (hu : Upd F w w') (hF : ∀ g, g ∈ F' → g ∈ F ∨ w.heap.size ≤ g) : SlI w' F' v xs := by
  obtain ⟨a, cap, rfl, h1, h2, h3⟩ := h
  refine ⟨a, cap, rfl, h1, h2, fun j u hj => ?_⟩
  obtain ⟨g, off, rfl, hg, hn, hc⟩ := h3 j u hj
  exact ⟨g, off, rfl, Nat.lt_of_lt_of_le hg hu.size, fun hm => by rcases hF g hm with h' | h'; exact hn h'; omega, by rw [hu.cell hg hn]; exact hc⟩
theorem SlI.of_own {w : World} {base : Nat} {v : Value} {xs : List Int} {F : List Nat} (h : w.ownsRow base 3 1 v xs.length (intsZ xs)) (hF : ∀ g, g ∈ F → g < base) : SlI w F v xs := by
  rcases h.2 with ⟨rfl, h0⟩ | ⟨g, cap, cur, rfl, hb, hg, hn, hc, _⟩
  · have : xs = [] := List.eq_nil_of_length_eq_zero h0
    subst this
    exact ⟨none, 0, rfl, by simp, by omega, fun j u hj => by simp at hj⟩
  · refine ⟨_, cap, rfl, hn, by unfold maxLen at hc; exact hc, fun j u hj => ⟨g, 0, rfl, (h.lt g rfl).2, fun hm => by have := hF g hm; omega, ?_⟩⟩
    have hjl := (List.getElem?_eq_some_iff.1 hj).1
    rw [Nat.zero_add, h.cellAt j (by omega), intsZ_get hjl]
    simp [List.getD_eq_getElem?_getD, hj]
end Go.Proofs.Ytaeipfpdimjfoaa
