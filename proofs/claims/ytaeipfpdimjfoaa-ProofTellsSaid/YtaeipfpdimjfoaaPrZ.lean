/-
  The chapter's example, and the law: of any tree, whether it is right. Conditions: arguments that came in.
-/
import Derived.Test.YtaeipfpdimjfoaaPrY
import Derived.Test.YtaeipfpdimjfoaaPrG
import Derived.Deep.RegionHeld3
import Derived.Lib.SmallJoins
set_option linter.unusedVariables false
set_option linter.unusedSimpArgs false
namespace Go.Proofs.Ytaeipfpdimjfoaa
open Go Go.RowKit

set_option maxRecDepth 100000 in
open Go.ChangeShapes Go.ChangeAt Go.WideShapes in
theorem sli_of_cell {H : Type} {enc : TypeId × Value → H} {P : Program} {W : World} {T E : TypeId} {v : Value} {y : DataW H × List MemPlace} {m : Nat} {base : Nat} {sp : Nat → Bool}
    (hT : P.underlying T = some (.slice E)) (hE : P.underlying E = some (.int .i64)) (hc : P.cellsOf E = 1) (hf : DataW.trod enc P W base sp true m T [v] = some y) :
    ∃ zs, SlI W [] v zs ∧ ∀ n, n ∈ zs → -9223372036854775808 ≤ n ∧ n ≤ 9223372036854775807 := by
  rcases open_ints hT hE hc hf with ⟨hcs, _⟩ | ⟨x, l, c, zs, hcs, _, hl, hm, hz, _, hcell, hwz⟩
  · simp at hcs
    subst hcs
    exact ⟨[], ⟨none, 0, rfl, by simp, by omega, fun j u h => by simp at h⟩, fun n hn => by cases hn⟩
  · simp at hcs
    subst hcs
    have hlz : l ≤ zs.length := by rw [hz]; split <;> omega
    have ht : (zs.take l).length = l := by simp; omega
    refine ⟨zs.take l, ⟨some x, c, by rw [ht], by rw [ht]; omega, by unfold maxLen at hm; omega, fun j u hj => ?_⟩, fun n hn => ?_⟩
    · have hjl : j < l := by have := (List.getElem?_eq_some_iff.1 hj).1; rwa [ht] at this
      obtain ⟨b, off, rfl, hcc⟩ := ints_at hcell (by omega)
      have hcj := hcc j (by omega)
      refine ⟨b, off, rfl, World.block_lt_of_cell? W _ hcj, by simp, ?_⟩
      rw [List.getElem?_take, if_pos hjl] at hj
      rw [hcj]
      have : zs.getD j 0 = u := by rw [List.getD_eq_getElem?_getD, hj]; rfl
      first | rw [this] | (rw [hj]; rfl) | (simp [hj])
    · have hw := hwz n (List.mem_of_mem_take hn)
      simp [Lit.wf, IntKind.min, IntKind.max, IntKind.signed, IntKind.bits] at hw; omega
/-- A graph that came in. -/
def GraphIn (w : World) (v : Value) (N : Int) (E : List Ed) (va : Value) : Prop := v = .agg #[.int .i64 N, va] ∧ SlE w va E ∧ ∀ e, e ∈ E → -9223372036854775808 ≤ e.w ∧ e.w ≤ 9223372036854775807
set_option maxRecDepth 100000 in
open Go.Joins in
theorem graph_of_trod {H : Type} {enc : TypeId × Value → H} {W : World} {v : Value} {d : DataW H} {p : List MemPlace} {base : Nat} {sp : Nat → Bool}
    (ho : Value.okWide Try.prog W .any base 24 v) (h : DataW.Trod enc Try.prog W 0 sp true 24 v d p) : ∃ N E va, GraphIn W v N E va := by
  obtain ⟨c0, c1, y0, y1, m, rfl, _, _, hy0, hy1⟩ := open_agg2 Try.underlying24 (by kernel_rfl) (show Try.prog.cellsOf 24 = 2 by kernel_rfl) ho h
  obtain ⟨N, e0, _, wa⟩ := DataW.trod_int Try.underlying3 hy0
  obtain ⟨E, hE, hb⟩ := sle_of_cell hy1
  simp at e0
  subst e0
  exact ⟨N, E, _, rfl, hE, hb⟩
/-- A tree that came in. -/
def TreeIn (w : World) (v : Value) (vd vb : Value) (D B : List Int) : Prop := v = .agg #[vd, vb] ∧ SlI w [] vd D ∧ SlI w [] vb B ∧ ∀ x, x ∈ D → -9223372036854775808 ≤ x ∧ x ≤ 9223372036854775807
set_option maxRecDepth 100000 in
open Go.Joins in
theorem tree_of_trod {H : Type} {enc : TypeId × Value → H} {W : World} {v : Value} {d : DataW H} {p : List MemPlace} {base : Nat} {sp : Nat → Bool}
    (ho : Value.okWide Try.prog W .any base 28 v) (h : DataW.Trod enc Try.prog W 0 sp true 28 v d p) : ∃ vd vb D B, TreeIn W v vd vb D B := by
  obtain ⟨c0, c1, y0, y1, m, rfl, _, _, hy0, hy1⟩ := open_agg2 Try.underlying28 (by kernel_rfl) (show Try.prog.cellsOf 28 = 2 by kernel_rfl) ho h
  obtain ⟨D, hD, hb⟩ := sli_of_cell Try.underlying25 Try.underlying2 (by kernel_rfl) hy0
  obtain ⟨B, hB, _⟩ := sli_of_cell Try.underlying26 Try.underlying3 (by kernel_rfl) hy1
  exact ⟨c0, c1, D, B, rfl, hD, hB, hb⟩
theorem tells_bool {Q : Prop} {b : Bool} {w w' : World} {r : Ending} (h : Tells Q w r w') (hb : b = true ↔ Q) : r = .returned (.bool b) ∧ Upd [] w w' := by
  obtain ⟨c, rfl, hc, hu⟩ := h
  have : c = b := by
    have h2 := hc.trans hb.symm
    cases c <;> cases b <;> simp_all
  exact ⟨by rw [this], hu⟩
theorem provesA_iff {N : Int} {E : List Ed} {src : Int} {D B : List Int} (n s : Nat) (hn : N = n) (hs : src = s) (hw : weighB N E = true) (hsn : s < n) (hb : ∀ x, x ∈ D → x ≤ 9223372036854775807) : ProvB n s E D B ↔ ProvesA N E src D B := by
  subst hn hs
  rw [prov_iff hw hsn hb]
  exact ⟨fun h => ⟨hw, by omega, by omega, h⟩, fun h => h.2.2.2⟩
theorem proves_any (w : World) (N : Int) (va vd vb : Value) (E : List Ed) (D B : List Int) (src : Int) (hE : SlE w va E) (hwb : ∀ e, e ∈ E → e.w ≤ 9223372036854775807) (hD : SlI w [] vd D) (hB : SlI w [] vb B)
    (hb : ∀ x, x ∈ D → -9223372036854775808 ≤ x ∧ x ≤ 9223372036854775807) :
    Calls Try.prog 6 #[.agg #[.int .i64 N, va], .int .i64 src, .agg #[vd, vb]] w (Tells (ProvesA N E src D B) w) := by
  by_cases h : weighB N E = false ∨ src < 0 ∨ N ≤ src ∨ (D.length : Int) ≠ N ∨ (B.length : Int) ≠ N
  · refine (proves_no w N va vd vb E D B src hE hwb hD hB h).mono fun r w' ⟨h1, h2⟩ => ⟨false, h1, ⟨fun e => (by cases e), fun e => ?_⟩, h2⟩
    obtain ⟨e1, e2, e3, e4, e5, _⟩ := e
    rcases h with h | h | h | h | h
    · rw [h] at e1; cases e1
    · omega
    · omega
    · omega
    · omega
  · have hw : weighB N E = true := by
      cases hw : weighB N E with
      | true => rfl
      | false => exact absurd (Or.inl hw) h
    obtain ⟨n, hn⟩ : ∃ n : Nat, N = n := ⟨N.toNat, by omega⟩
    obtain ⟨s, hs⟩ : ∃ s : Nat, src = s := ⟨src.toNat, by omega⟩
    have hsn : s < n := by omega
    have hP := provesA_iff (B := B) n s hn hs hw hsn (fun x hx => (hb x hx).2)
    subst hn hs
    refine (proves_yes w n s va vd vb E D B hE hw hsn hD hB (by omega) (by omega) hb).mono fun r w' ⟨b, h1, h2, h3⟩ => ⟨b, h1, h2.trans hP, h3⟩
theorem tight_any (w : World) (N : Int) (va vd : Value) (E : List Ed) (D : List Int) (hE : SlE w va E) (hwb : ∀ e, e ∈ E → e.w ≤ 9223372036854775807) (hD : SlI w [] vd D) (hb : ∀ x, x ∈ D → -9223372036854775808 ≤ x ∧ x ≤ 9223372036854775807) :
    Calls Try.prog 9 #[.agg #[.int .i64 N, va], vd] w fun r w' => ∃ v, r = .returned v ∧ Upd [] w w' ∧ SlI w' [] v (tightR N E D) := by
  unfold tightR
  by_cases h : weighB N E = true ∧ (D.length : Int) = N
  · rw [if_pos h]
    exact (ptight_any w N va vd E D hE hD h.1 h.2 hb).mono fun r w' ⟨v, h1, h2, h3⟩ => ⟨v, h1, h2, SlI.of_row h3 (by simp)⟩
  · rw [if_neg h]
    obtain ⟨a2, c2, rfl, _⟩ := hD
    refine (ptight_no w N va E a2 D.length c2 hE hwb ?_).mono fun r w' ⟨h1, h2⟩ => ⟨_, h1, h2, none, 0, rfl, by simp, by omega, fun j u hj => by simp at hj⟩
    cases hw : weighB N E with
    | false => exact Or.inl rfl
    | true => exact Or.inr (fun e => h ⟨hw, e⟩)
theorem rtight_any (w : World) (N : Int) (va vd : Value) (E : List Ed) (D : List Int) (hE : SlE w va E) (hD : SlI w [] vd D) (hb : ∀ x, x ∈ D → -9223372036854775808 ≤ x ∧ x ≤ 9223372036854775807) :
    Calls Try.prog 10 #[.agg #[.int .i64 N, va], vd] w fun r w' => ∃ v, r = .returned v ∧ Upd [] w w' ∧ SlI w' [] v (tightR N E D) := by
  unfold tightR
  by_cases h : weighB N E = true ∧ (D.length : Int) = N
  · rw [if_pos h]
    exact (rtight_yes w N va vd E D hE hD h.1 h.2 hb).mono fun r w' ⟨v, h1, h2, h3⟩ => ⟨v, h1, h2, SlI.of_row h3 (by simp)⟩
  · rw [if_neg h]
    obtain ⟨a2, c2, rfl, _⟩ := hD
    refine (rtight_no w N va E a2 D.length c2 hE ?_).mono fun r w' ⟨⟨g, h1⟩, h2⟩ => ⟨_, h1, h2, _, 0, rfl, by simp, by omega, fun j u hj => by simp at hj⟩
    cases hw : weighB N E with
    | false => exact Or.inl rfl
    | true => exact Or.inr (fun e => h ⟨hw, e⟩)
/-- The example. -/
def exE : List Ed := [⟨0, 1, 5⟩]
theorem ex_yes : ProvesA 2 exE 0 [0, 5] [-1, 0] := by
  refine (provesA_iff 2 0 rfl rfl (by decide +kernel) (by decide) (by decide)).1 ?_
  refine ⟨rfl, rfl, rfl, rfl, by decide +kernel, by decide +kernel, ?_, ?_⟩
  · intro v hv
    rcases (by omega : v = 0 ∨ v = 1) with rfl | rfl
    · unfold okV; decide +kernel
    · unfold okV; decide +kernel
  · intro v hv hb
    rcases (by omega : v = 0 ∨ v = 1) with rfl | rfl
    · exact ⟨0, rfl⟩
    · exact ⟨1, by decide +kernel⟩
theorem ex_no : ¬ ProvesA 2 exE 0 [0, 6] [-1, 0] := by
  intro h
  have h2 := (provesA_iff 2 0 rfl rfl (by decide +kernel) (by decide) (by decide)).2 h
  have h3 := h2.ok 1 (by omega)
  revert h3
  unfold okV; decide +kernel
theorem sli2 {W : World} {g : Nat} {x y : Int} (h0 : W.cell? ⟨g, 0, none⟩ = some (.int .i64 x)) (h1 : W.cell? ⟨g, 1, none⟩ = some (.int .i64 y)) : SlI W [] (.slice (some ⟨g, 0, none⟩) 2 2) [x, y] := by
  refine ⟨some ⟨g, 0, none⟩, 2, rfl, by simp, by omega, fun j u hj => ⟨g, 0, rfl, World.block_lt_of_cell? W _ h0, by simp, ?_⟩⟩
  match j, hj with
  | 0, hj => simp at hj; subst hj; exact h0
  | 1, hj => simp at hj; subst hj; exact h1
  | j + 2, hj => simp at hj
theorem sle1 {W : World} {g : Nat} {x y z : Int} (h0 : W.cell? ⟨g, 0, none⟩ = some (.int .i64 x)) (h1 : W.cell? ⟨g, 1, none⟩ = some (.int .i64 y)) (h2 : W.cell? ⟨g, 2, none⟩ = some (.int .i64 z)) : SlE W (.slice (some ⟨g, 0, none⟩) 1 1) [⟨x, y, z⟩] := by
  refine ⟨some ⟨g, 0, none⟩, 1, rfl, by omega, by simp, fun j u hj => ⟨g, 0, rfl, World.block_lt_of_cell? W _ h0, ?_⟩⟩
  match j, hj with
  | 0, hj => simp at hj; subst hj; exact ⟨h0, h1, h2⟩
  | j + 1, hj => simp at hj
theorem ex1 {W : World} {va vd vb : Value} (hE : SlE W va exE) (hD : SlI W [] vd [0, 5]) (hB : SlI W [] vb [-1, 0]) :
    Calls Try.prog 6 #[.agg #[.int .i64 2, va], .int .i64 0, .agg #[vd, vb]] W fun r w' => r = .returned (.bool true) ∧ Upd [] W w' :=
  (proves_any W 2 va vd vb exE [0, 5] [-1, 0] 0 hE (by decide) hD hB (by decide)).mono fun r w' h => tells_bool h ⟨fun _ => ex_yes, fun _ => rfl⟩
theorem ex2 {W : World} {va vd vb : Value} (hE : SlE W va exE) (hD : SlI W [] vd [0, 6]) (hB : SlI W [] vb [-1, 0]) :
    Calls Try.prog 6 #[.agg #[.int .i64 2, va], .int .i64 0, .agg #[vd, vb]] W fun r w' => r = .returned (.bool false) ∧ Upd [] W w' :=
  (proves_any W 2 va vd vb exE [0, 6] [-1, 0] 0 hE (by decide) hD hB (by decide)).mono fun r w' h => tells_bool h ⟨fun e => (by cases e), fun e => (ex_no e).elim⟩
set_option maxHeartbeats 1000000 in
theorem palive_any (w : World) : Calls Try.prog 4 #[] w fun r w' => r = .returned (.bool true) ∧ Upd [] w w' := by
  go_enter Try.func4, Try.ntmps4
  go_wp2_with (first
    | ((go_at_call 6; (with_reducible refine (ex1 (vd := .slice (some ⟨w.heap.size + 1 + 1, 0, none⟩) 2 2) (sle1 (by go_simp) (by go_simp) (by go_simp)) (sli2 (by go_simp) (by go_simp)) (sli2 (by go_simp) (by go_simp))).mono ?_)); rintro e w1 ⟨rfl, hu1⟩; (have q0 : w1.cell? ⟨w.heap.size, 0, none⟩ = some (.int .i64 0) := hu1.was (by go_simp)); (have q1 : w1.cell? ⟨w.heap.size, 1, none⟩ = some (.int .i64 1) := hu1.was (by go_simp)); (have q2 : w1.cell? ⟨w.heap.size, 2, none⟩ = some (.int .i64 5) := hu1.was (by go_simp)); (have q3 : w1.cell? ⟨w.heap.size + 1, 0, none⟩ = some (.int .i64 2) := hu1.was (by go_simp)); (have q4 : w1.cell? ⟨w.heap.size + 1, 1, none⟩ = some (.slice (some ⟨w.heap.size, 0, none⟩) 1 1) := hu1.was (by go_simp)); (have hz1 : w.heap.size < w1.heap.size := World.block_lt_of_cell? w1 _ q0); (have hz2 : w.heap.size + 1 < w1.heap.size := World.block_lt_of_cell? w1 _ q3))
    | ((go_at_call 6; (with_reducible refine (ex2 (sle1 (by go_simp) (by go_simp) (by go_simp)) (sli2 (by go_simp) (by go_simp)) (sli2 (by go_simp) (by go_simp))).mono ?_)); rintro e w2 ⟨rfl, hu2⟩)
    | fail)
  go_ret
  exact ⟨rfl, by have h1 : Upd [] w w1 := Upd.trans (by (repeat (first | assumption | exact Upd.refl _ _ | refine Upd.alloc ?_ _ | refine Upd.drew ?_ | refine Upd.drewN ?_ _ | refine Upd.setCell ?_ ?_ _ | focus (left; simp; done) | focus (right; simp; done) | focus (right; simp; omega)))) hu1; exact h1.trans (Upd.trans (by (repeat (first | assumption | exact Upd.refl _ _ | refine Upd.alloc ?_ _ | refine Upd.drew ?_ | refine Upd.drewN ?_ _ | refine Upd.setCell ?_ ?_ _ | focus (left; simp; done) | focus (right; simp; done) | focus (right; simp; omega)))) hu2)⟩
end Go.Proofs.Ytaeipfpdimjfoaa
