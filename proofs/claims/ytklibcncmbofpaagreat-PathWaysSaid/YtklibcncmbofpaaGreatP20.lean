/-
  Lemmas for PathWays: PrI. Conditions: those of each lemma.
-/
import Derived.Lib.SmallJoins
import Derived.Deep.Slices
import Derived.Deep.Strs
import Derived.Lib.Mul64
import Derived.Laws.Bits64b
import Derived.Lib.Hide
import Derived.StillTailTactics
import Derived.Test.YtklibcncmbofpaaGreatProg
import Derived.WalkKit
import Derived.WalkSpells
import Derived.WalkLawsBesides
import Derived.BigQuiet
import Derived.Deep.RegionHeld3
import Derived.ProofKit
import Derived.OpenShut
import Derived.Maps.AppendAt
import Derived.Test.YtklibcncmbofpaaGreatP01
import Derived.Test.YtklibcncmbofpaaGreatP03
import Derived.Test.YtklibcncmbofpaaGreatP04
import Derived.Test.YtklibcncmbofpaaGreatP12
set_option linter.unusedVariables false
set_option linter.unusedSimpArgs false
namespace Go.Proofs.YtklibcncmbofpaaGreat
open Go Go.RowKit
set_option maxRecDepth 100000 in
open Go.ChangeShapes Go.ChangeAt Go.WideShapes in
theorem sli_of_cell {H : Type} {enc : TypeId × Value → H} {P : Program} {W : World} {T E : TypeId} {v : Value} {y : DataW H × List MemPlace} {m : Nat} {base : Nat} {sp : Nat → Bool}
  (hT : P.underlying T = some (.slice E)) (hE : P.underlying E = some (.int .i64)) (hc : P.cellsOf E = 1) (hf : DataW.trod enc P W base sp true m T [v] = some y) :
  ∃ zs, SlI W [] v zs ∧ ∀ n, n ∈ zs → -9223372036854775808 ≤ n ∧ n ≤ 9223372036854775807 := by
 rcases open_ints hT hE hc hf with ⟨hcs, _⟩ | ⟨x, l, c, zs, hcs, _, hl, hm, hz, _, hcell, hwz⟩
 ·simp at hcs
  subst hcs
  exact ⟨[], ⟨none, 0, rfl, by simp, by omega, fun j u h => by simp at h⟩, fun n hn => by cases hn⟩
 ·simp at hcs
  subst hcs
  have hlz : l ≤ zs.length := by rw [hz]; split <;> omega
  have ht : (zs.take l).length = l := by simp; omega
  refine ⟨zs.take l, ⟨some x, c, by rw [ht], by rw [ht]; omega, by unfold maxLen at hm; omega, fun j u hj => ?_⟩, fun n hn => ?_⟩
  ·have hjl : j < l := by have := (List.getElem?_eq_some_iff.1 hj).1; rwa [ht] at this
   obtain ⟨b, off, rfl, hcc⟩ := ints_at hcell (by omega)
   have hcj := hcc j (by omega)
   refine ⟨b, off, rfl, World.block_lt_of_cell? W _ hcj, by simp, ?_⟩
   rw [List.getElem?_take, if_pos hjl] at hj
   rw [hcj]
   have : zs.getD j 0 = u := by rw [List.getD_eq_getElem?_getD, hj]; rfl
   first | rw [this] | (rw [hj]; rfl) | (simp [hj])
  ·have hw := hwz n (List.mem_of_mem_take hn)
   simp [Lit.wf, IntKind.min, IntKind.max, IntKind.signed, IntKind.bits] at hw; omega
def GraphIn (w : World) (v : Value) (N : Int) (E : List Ed) (va : Value) : Prop := v = .agg #[.int .i64 N, va] ∧ SlE w va E ∧ ∀ e, e ∈ E → -9223372036854775808 ≤ e.w ∧ e.w ≤ 9223372036854775807
set_option maxRecDepth 100000 in
open Go.Joins in
theorem graph_of_trod {H : Type} {enc : TypeId × Value → H} {W : World} {v : Value} {d : DataW H} {p : List MemPlace} {base : Nat} {sp : Nat → Bool}
  (ho : Value.okWide Tryz.prog W .any base 57 v) (h : DataW.Trod enc Tryz.prog W 0 sp true 57 v d p) : ∃ N E va, GraphIn W v N E va := by
 obtain ⟨c0, c1, y0, y1, m, rfl, _, _, hy0, hy1⟩ := open_agg2 Tryz.underlying57 (by kernel_rfl) (show Tryz.prog.cellsOf 57 = 2 by kernel_rfl) ho h
 obtain ⟨N, e0, _, wa⟩ := DataW.trod_int Tryz.underlying3 hy0
 obtain ⟨E, hE, hb⟩ := sle_of_cell hy1
 simp at e0
 subst e0
 exact ⟨N, E, _, rfl, hE, hb⟩
def TreeIn (w : World) (v : Value) (vd vb : Value) (D B : List Int) : Prop := v = .agg #[vd, vb] ∧ SlI w [] vd D ∧ SlI w [] vb B ∧ ∀ x, x ∈ D → -9223372036854775808 ≤ x ∧ x ≤ 9223372036854775807
set_option maxRecDepth 100000 in
open Go.Joins in
theorem tree_of_trod {H : Type} {enc : TypeId × Value → H} {W : World} {v : Value} {d : DataW H} {p : List MemPlace} {base : Nat} {sp : Nat → Bool}
  (ho : Value.okWide Tryz.prog W .any base 60 v) (h : DataW.Trod enc Tryz.prog W 0 sp true 60 v d p) : ∃ vd vb D B, TreeIn W v vd vb D B := by
 obtain ⟨c0, c1, y0, y1, m, rfl, _, _, hy0, hy1⟩ := open_agg2 Tryz.underlying60 (by kernel_rfl) (show Tryz.prog.cellsOf 60 = 2 by kernel_rfl) ho h
 obtain ⟨D, hD, hb⟩ := sli_of_cell Tryz.underlying24 Tryz.underlying2 (by kernel_rfl) hy0
 obtain ⟨B, hB, _⟩ := sli_of_cell Tryz.underlying26 Tryz.underlying3 (by kernel_rfl) hy1
 exact ⟨c0, c1, D, B, rfl, hD, hB, hb⟩
end Go.Proofs.YtklibcncmbofpaaGreat
