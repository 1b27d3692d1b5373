/-
  Rows of integers of any type that a call made: they are written and read; a row of naturals. Conditions: those of each lemma.
-/
import Derived.Test.YtaeipfpdimjfoaaInts
import Derived.Test.YtaeipfpdimjfoaaPrL
set_option linter.unusedVariables false
set_option linter.unusedSimpArgs false
namespace Go.Proofs.Ytaeipfpdimjfoaa
open Go Go.RowKit

theorem lngInfo : (Try.prog.info? 2).map (fun i => (i.zero, i.size, i.bytes)) = some (some (.int .i64 0), 1, 8) := by kernel_rfl
/-- A slice of integers of type e that the program owns: the head of block g. -/
structure IE (e : TypeId) (w : World) (g cap : Nat) (l : List Int) : Prop where
  own : w.ownsRow 0 e 1 (.slice (some ⟨g, 0, none⟩) l.length cap) l.length (intsZ l)
theorem IE.lt {e : TypeId} {w : World} {g cap : Nat} {l : List Int} (h : IE e w g cap l) : g < w.heap.size := (h.own.lt g rfl).2
theorem IE.cap {e : TypeId} {w : World} {g cap : Nat} {l : List Int} (h : IE e w g cap l) : l.length ≤ cap ∧ cap ≤ 9223372036854775807 := by
  rcases h.own.2 with ⟨h1, _⟩ | ⟨g', cap', cur, h1, _, _, h2, h3, _⟩
  · cases h1
  · cases h1; unfold maxLen at h3; exact ⟨h2, h3⟩
theorem IE.cell {e : TypeId} {w : World} {g cap : Nat} {l : List Int} (h : IE e w g cap l) (j : Nat) (hj : j < l.length) : w.cell? ⟨g, j, none⟩ = some (.int .i64 (l.getD j 0)) := by
  rw [h.own.cellAt j (by omega)]
  exact intsZ_get hj
theorem IE.free {e : TypeId} {w : World} {g cap : Nat} {l : List Int} (h : IE e w g cap l) (j : Nat) : w.frozen? ⟨g, j, none⟩ = false := h.own.frozenAt j
theorem IE.upd {e : TypeId} {w w' : World} {S : List Nat} {g cap : Nat} {l : List Int} (h : IE e w g cap l) (hu : Upd S w w') (hn : g ∉ S) : IE e w' g cap l :=
  ⟨owns_upd h.own hu (fun k hk => by cases hk; exact hn)⟩
theorem IE.drew {e : TypeId} {w : World} {g cap : Nat} {l : List Int} (h : IE e w g cap l) : IE e w.drew g cap l := h.upd ((Upd.refl [] w).drew) (by simp)
theorem IE.set {e : TypeId} {w : World} {g cap : Nat} {l : List Int} (h : IE e w g cap l) (j : Nat) (x : Int) : IE e (w.setCell ⟨g, j, none⟩ (.int .i64 x)) g cap (l.set j x) := by
  rcases h.own.2 with ⟨h1, _⟩ | ⟨g', cap', cur, h1, hb, hg, hn, hc, hs, ht⟩
  · cases h1
  · cases h1
    refine ⟨⟨by rw [intsZ_len]; omega, Or.inr ⟨g, cap, cur.setIfInBounds j (.int .i64 x), by rw [List.length_set], by omega, ?_, by rw [List.length_set]; exact hn, hc, by simp; omega, ?_⟩⟩⟩
    · simp [World.setCell, Array.getElem?_modify, hg]
    · rw [List.length_set, Array.toList_setIfInBounds]
      by_cases hj : j < l.length
      · rw [List.take_set, ht]
        unfold intsZ
        rw [List.map_set]
      · rw [List.take_set_of_le (by omega), ht, List.set_eq_of_length_le (by omega)]
theorem IE.based {e : TypeId} {w : World} {g cap base n : Nat} {l : List Int} (h : IE e w g cap l) (hb : base ≤ g) (hn : l.length = n) : w.ownsRow base e 1 (.slice (some ⟨g, 0, none⟩) n cap) n (intsZ l) := by
  subst hn
  refine ⟨h.own.1, ?_⟩
  rcases h.own.2 with hn | ⟨g', cap', cur, h1, hb', hg, rest⟩
  · exact Or.inl hn
  · cases h1
    exact Or.inr ⟨g, cap, cur, rfl, hb, hg, rest⟩
/-- A row of its own: it is a slice whose block is known, or nil. -/
theorem IE.of_own {e : TypeId} {w : World} {base n : Nat} {v : Value} {l : List Int} (h : w.ownsRow base e 1 v n (intsZ l)) (hl : 0 < n) : ∃ g cap, v = .slice (some ⟨g, 0, none⟩) n cap ∧ IE e w g cap l ∧ base ≤ g ∧ l.length = n := by
  obtain ⟨g, cap, rfl, hb, _⟩ := own_shape h hl
  have hl' : l.length = n := by have := h.1; rw [intsZ_len] at this; omega
  exact ⟨g, cap, rfl, ⟨by rw [hl']; exact owns_mono h (by omega)⟩, hb, hl'⟩
/-- Any row of integers that a call made can be read wherever it lies. -/
theorem SlI.of_row {e : TypeId} {w : World} {base n : Nat} {v : Value} {xs : List Int} {F : List Nat} (h : w.ownsRow base e 1 v n (intsZ xs)) (hF : ∀ g, g ∈ F → g < base) : SlI w F v xs := by
  have hl' : xs.length = n := by have := h.1; rw [intsZ_len] at this; omega
  subst hl'
  rcases h.2 with ⟨rfl, h0⟩ | ⟨g, cap, cur, rfl, hb, hg, hn, hc, _⟩
  · have : xs = [] := List.eq_nil_of_length_eq_zero h0
    subst this
    exact ⟨none, 0, rfl, by simp, by omega, fun j u hj => by simp at hj⟩
  · refine ⟨_, cap, rfl, hn, by unfold maxLen at hc; exact hc, fun j u hj => ⟨g, 0, rfl, (h.lt g rfl).2, fun hm => by have := hF g hm; omega, ?_⟩⟩
    have hjl := (List.getElem?_eq_some_iff.1 hj).1
    rw [Nat.zero_add, h.cellAt j (by omega), intsZ_get hjl]
    simp [List.getD_eq_getElem?_getD, hj]

/-- A row of naturals. -/
def rowN (n : Nat) (d : Nat → Nat) : List Int := (List.range n).map (fun v => ((d v : Nat) : Int))
theorem rowN_len (n : Nat) (d : Nat → Nat) : (rowN n d).length = n := by unfold rowN; simp
theorem rowN_succ (n : Nat) (d : Nat → Nat) : rowN (n + 1) d = rowN n d ++ [((d n : Nat) : Int)] := by
  unfold rowN; rw [List.range_succ, List.map_append]; rfl
theorem rowN_get {n : Nat} {d : Nat → Nat} {v : Nat} (hv : v < n) : (rowN n d).getD v 0 = ((d v : Nat) : Int) := by
  unfold rowN
  simp [List.getD_eq_getElem?_getD, hv]
theorem rowN_set {n : Nat} {d : Nat → Nat} {x v : Nat} : (rowN n d).set x ((v : Nat) : Int) = rowN n (setN d x v) := by
  apply List.ext_getElem?
  intro j
  unfold rowN setN
  rw [List.getElem?_set]
  by_cases h : x = j
  · subst h
    by_cases hx : x < n
    · simp [hx]
    · simp [hx]
  · simp [h]
    by_cases hj : j < n
    · simp [hj]
      rw [if_neg (fun e => h e.symm)]
    · simp [hj]
end Go.Proofs.Ytaeipfpdimjfoaa
