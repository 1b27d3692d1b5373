/-
  What comes out of a heap, one by one, is in order (plain). Conditions: those of each lemma.
-/
import Derived.Test.YtighgbdijagolaaGp
import Derived.Test.YtighgbdijagolaaGc
set_option linter.unusedVariables false
set_option linter.unusedSimpArgs false
namespace Go.Proofs.Ytighgbdijagolaa
open Go Go.RowKit

theorem ordS_c (A : NS) (h : Int) : ∀ k y, (ordS A h k).1.c y = A.c y ∨ (ordS A h k).1.c y = Cl.z
  | 0, y => Or.inl rfl
  | k + 1, y => by
    unfold ordS
    cases hm : minN (ordS A h k).1 h with
    | none => exact ordS_c A h k y
    | some m =>
      dsimp only
      have hin := (minN_in hm).2.2.2
      rw [drop_c hin]
      by_cases e : y = m
      · rw [if_pos e]; exact Or.inr rfl
      · rw [if_neg e]; exact ordS_c A h k y
theorem ordS_in {A : NS} {h : Int} {k m : Nat} (hm : minN (ordS A h k).1 h = some m) : 0 < h ∧ m < A.cs.length ∧ (A.c m).i = h ∧ (ordS A h k).1.c m = A.c m := by
  obtain ⟨a, b, c, d⟩ := minN_in hm
  have hl : (ordS A h k).1.cs.length = A.cs.length := by
    clear hm a b c d
    induction k with
    | zero => rfl
    | succ k ih =>
      unfold ordS
      split
      · exact ih
      · dsimp only; rw [drop_len]; exact ih
  rcases ordS_c A h k m with e | e
  · exact ⟨a, by omega, by rw [← e]; exact c, e⟩
  · rw [e] at c; have : (0 : Int) = h := c; omega
theorem ord_next {A : NS} {h : Int} {k m m' : Nat} (hm : minN (ordS A h k).1 h = some m) (hm' : minN (ordS A h (k + 1)).1 h = some m') : lt3 A m m' := by
  obtain ⟨a, b, c, d⟩ := ordS_in hm
  obtain ⟨a', b', c', d'⟩ := ordS_in hm'
  have hS : (ordS A h (k + 1)).1 = dropN (ordS A h k).1 m := by
    show (match minN (ordS A h k).1 h with | none => ordS A h k | some m => (dropN (ordS A h k).1 m, (ordS A h k).2 ++ [m])).1 = _
    rw [hm]
  have hin := (minN_in hm).2.2.2
  have hf := (minN_some a).1 hm
  have h2 := minN_in hm'
  have e2 : (dropN (ordS A h k).1 m).c m' = A.c m' := by rw [← hS]; exact d'
  rw [drop_c hin] at e2
  have hne : m' ≠ m := fun e => by
    rw [if_pos e] at e2
    have : (0 : Int) = (A.c m').i := congrArg Cl.i e2
    omega
  rw [if_neg hne] at e2
  have hl : m' < (ordS A h k).1.cs.length := by
    have := h2.2.1
    rw [hS, drop_len] at this; exact this
  rcases hf.2.2 m' hl (by rw [e2]; exact c') with e | e
  · exact absurd e hne
  · exact (lt3_same d e2).1 e
theorem ordS_lenN (A : NS) (h : Int) (k : Nat) (hk : k ≤ lenN A h) : lenN (ordS A h k).1 h + k = lenN A h := (ordS_len h k hk).2
/-- A nest of one heap with the first so many of some keys. -/
def sortN (ks : List Int) (sq : Int) (i : Nat) : NS := ⟨[false, true], (List.range ks.length).map fun j => if j < i then ⟨1, ks.getD j 0, sq⟩ else Cl.z⟩
theorem sortN_len (ks : List Int) (sq : Int) (i : Nat) : (sortN ks sq i).cs.length = ks.length := by simp [sortN]
theorem sortN_c (ks : List Int) (sq : Int) (i j : Nat) (hj : j < ks.length) : (sortN ks sq i).c j = if j < i then ⟨1, ks.getD j 0, sq⟩ else Cl.z := by
  unfold NS.c sortN
  simp [List.getD_eq_getElem?_getD, hj]
theorem sortN_zero (ks : List Int) (sq : Int) : makeN (NS.new ks.length) = sortN ks sq 0 := by
  unfold makeN
  rw [if_neg (by simp [NS.new])]
  unfold NS.new sortN
  congr 1
  refine List.ext_getElem? (fun j => ?_)
  by_cases hj : j < ks.length
  · simp [hj]
  · simp [hj]
theorem sortN_put (ks : List Int) (sq : Int) (i : Nat) (hi : i < ks.length) : putB (sortN ks sq i) 1 i = true ∧ putN (sortN ks sq i) 1 i (ks.getD i 0) sq = sortN ks sq (i + 1) := by
  have hB : putB (sortN ks sq i) 1 i = true := by
    rw [putB_iff]
    refine ⟨by simp [hasN, sortN], (slotN_iff _ _).2 (by rw [sortN_len]; omega), ?_⟩
    have : ¬ inN (sortN ks sq i) (i : Int) = true := fun h => by
      have h1 := ((inN_nat _ _).1 h).2
      rw [sortN_c _ _ _ _ hi, if_neg (by omega)] at h1
      exact absurd h1 (by simp [Cl.z])
    simpa using this
  refine ⟨hB, ?_⟩
  unfold putN
  rw [if_pos hB]
  unfold withN sortN
  congr 1
  refine List.ext_getElem? (fun j => ?_)
  simp only [Int.toNat_natCast, List.getElem?_set, List.length_map, List.length_range]
  by_cases e : i = j
  · subst e; simp [hi]
  · rw [if_neg e]
    by_cases hj : j < ks.length
    · simp only [List.getElem?_map, List.getElem?_range hj, Option.map_some]
      by_cases h1 : j < i
      · rw [if_pos h1, if_pos (by omega)]
      · rw [if_neg h1, if_neg (by omega)]
    · simp [hj]
theorem sortN_lenN (ks : List Int) (sq : Int) : ∀ i, i ≤ ks.length → lenN (sortN ks sq i) 1 = i
  | 0, _ => by
    rcases Nat.eq_zero_or_pos (lenN (sortN ks sq 0) 1) with h | h
    · exact h
    · obtain ⟨x, h1, h2, _⟩ := lenN_pos.1 h
      rw [sortN_len] at h1
      rw [sortN_c _ _ _ _ h1, if_neg (by omega)] at h2
      exact absurd h2 (by simp [Cl.z])
  | i + 1, hi => by
    have ih := sortN_lenN ks sq i (by omega)
    obtain ⟨p1, p2⟩ := sortN_put ks sq i (by omega)
    rw [← p2]
    unfold putN
    rw [if_pos p1, Int.toNat_natCast]
    have := lenN_with (sortN ks sq i) i ⟨1, ks.getD i 0, sq⟩ 1 (by rw [sortN_len]; omega)
    have e1 : (sortN ks sq i).c i = Cl.z := by rw [sortN_c ks sq i i (by omega), if_neg (by omega)]
    rw [e1, if_neg (by decide), if_pos ⟨rfl, by decide⟩] at this
    omega
theorem Goes.next {F : List Nat} {w w1 w2 : World} {P Q : List Nat → Prop} (h : Goes F w w1 P) (k : ∀ F1, P F1 → Goes F1 w1 w2 Q) : Goes F w w2 Q := by
  obtain ⟨F1, p1, u1, f1⟩ := h
  obtain ⟨F2, p2, u2, f2⟩ := k F1 p1
  refine ⟨F2, p2, u1.joined u2 f1, fun x hx => ?_⟩
  rcases f2 x hx with h | h
  · exact f1 x h
  · exact Or.inr (Nat.le_trans u1.size h)
theorem Goes.refl {F : List Nat} {w : World} {P : List Nat → Prop} (h : P F) : Goes F w w P := ⟨F, h, Upd.refl _ _, fun x hx => Or.inl hx⟩
theorem Goes.mono {F : List Nat} {w w' : World} {P Q : List Nat → Prop} (h : Goes F w w' P) (hP : ∀ F', P F' → Q F') : Goes F w w' Q := by
  obtain ⟨F1, p1, u1, f1⟩ := h
  exact ⟨F1, hP _ p1, u1, f1⟩
/-- A list of integers, read wherever it lies, in no block of F. -/
def SlR (w : World) (F : List Nat) (v : Value) (xs : List Int) : Prop :=
  ∃ a cap, v = .slice a xs.length cap ∧ ∀ j u, xs[j]? = some u → ∃ g off, a = some ⟨g, off, none⟩ ∧ g < w.heap.size ∧ g ∉ F ∧ w.cell? ⟨g, off + j, none⟩ = some (.int .i64 u)
theorem SlR.of_ints {w w' : World} {v : Value} {xs : List Int} (h : IsInts .i64 w v xs) (hu : Upd [] w w') {F : List Nat} (hF : ∀ x, x ∈ F → w.heap.size ≤ x) : SlR w' F v xs := by
  obtain ⟨⟨a, cap, rfl, _, h1⟩, _⟩ := h
  refine ⟨a, cap, rfl, fun j u hj => ?_⟩
  have hlt : j < xs.length := by
    rcases Nat.lt_or_ge j xs.length with h | h
    · exact h
    · rw [List.getElem?_eq_none h] at hj; cases hj
  obtain ⟨b, off, rfl, hb, hc⟩ := h1 (by omega)
  refine ⟨b, off, rfl, Nat.lt_of_lt_of_le hb hu.size, fun hm => by have := hF b hm; omega, ?_⟩
  have := hu.was (hc j (by omega))
  dsimp only at this
  rw [List.getD_eq_getElem?_getD, hj] at this
  simpa using this
theorem IsInts.upd {w w' : World} {v : Value} {xs : List Int} {k : IntKind} (h : IsInts k w v xs) (hu : Upd [] w w') : IsInts k w' v xs := ⟨h.1.upd hu, h.2⟩
theorem SlI.goes {F F' : List Nat} {w w' : World} {v : Value} {xs : List Int} (h : SlI w F v xs) (hu : Upd F w w') (hF : ∀ x, x ∈ F' → x ∈ F ∨ w.heap.size ≤ x) : SlI w' F' v xs := h.fresh hu hF
end Go.Proofs.Ytighgbdijagolaa
