/-
  The edges of a graph, wherever they lie: a slice of values of three cells that came in; vertex, and the closures that ask of one edge. Conditions: those of each lemma.
-/
import Derived.Test.YtaeipfpdimjfoaaSameSl
import Derived.Deep.Slices
import Derived.Deep.Strs
import Derived.Lib.Mul64
import Derived.Laws.Bits64b
set_option linter.unusedVariables false
set_option linter.unusedSimpArgs false
namespace Go.Proofs.Ytaeipfpdimjfoaa
open Go Go.RowKit

/-- An edge, as numbers. -/
structure Ed where
  f : Int
  t : Int
  w : Int
instance : Inhabited Ed := ⟨⟨0, 0, 0⟩⟩
def Ed.val (e : Ed) : Value := .agg #[.int .i64 e.f, .int .i64 e.t, .int .i64 e.w]

/-- Edges, nil or not. -/
def SlE (w : World) (v : Value) (E : List Ed) : Prop :=
  ∃ a cap, v = .slice a E.length cap ∧ cap ≤ 9223372036854775807 ∧ E.length ≤ 9223372036854775807 ∧ ∀ j e, E[j]? = some e → ∃ g off, a = some ⟨g, off, none⟩ ∧ g < w.heap.size ∧
    w.cell? ⟨g, off + j * 3, none⟩ = some (.int .i64 e.f) ∧ w.cell? ⟨g, off + j * 3 + 1, none⟩ = some (.int .i64 e.t) ∧ w.cell? ⟨g, off + j * 3 + 2, none⟩ = some (.int .i64 e.w)
theorem SlE.upd {w w' : World} {v : Value} {E : List Ed} (h : SlE w v E) (hu : Upd [] w w') : SlE w' v E := by
  obtain ⟨a, cap, rfl, h1, h1', h2⟩ := h
  refine ⟨a, cap, rfl, h1, h1', fun j e hj => ?_⟩
  obtain ⟨g, off, rfl, hg, h3, h4, h5⟩ := h2 j e hj
  exact ⟨g, off, rfl, Nat.lt_of_lt_of_le hg hu.size, hu.was h3, hu.was h4, hu.was h5⟩
theorem SlE.shape {w : World} {v : Value} {E : List Ed} (h : SlE w v E) : ∃ a cap, v = .slice a E.length cap ∧ cap ≤ 9223372036854775807 := by
  obtain ⟨a, cap, rfl, h1, _⟩ := h; exact ⟨a, cap, rfl, h1⟩
theorem SlE.at {w : World} {a : Option Addr} {n c : Nat} {E : List Ed} (h : SlE w (.slice a n c) E) (j : Nat) (hj : j < E.length) : ∃ g off, a = some ⟨g, off, none⟩ ∧ g < w.heap.size ∧
    w.cell? ⟨g, off + j * 3, none⟩ = some (.int .i64 (E.getD j default).f) ∧ w.cell? ⟨g, off + j * 3 + 1, none⟩ = some (.int .i64 (E.getD j default).t) ∧ w.cell? ⟨g, off + j * 3 + 2, none⟩ = some (.int .i64 (E.getD j default).w) := by
  obtain ⟨a', cap, he, h1, h1', h2⟩ := h
  cases he
  exact h2 j _ (by simp [List.getD_eq_getElem?_getD, hj])

set_option maxRecDepth 100000 in
open Go.ChangeShapes Go.ChangeAt Go.WideShapes in
theorem sle_of_cell {H : Type} {enc : TypeId × Value → H} {W : World} {v : Value} {y : DataW H × List MemPlace} {m : Nat} {base : Nat} {sp : Nat → Bool}
    (hf : DataW.trod enc Try.prog W base sp true m 22 [v] = some y) : ∃ E, SlE W v E ∧ ∀ e, e ∈ E → -9223372036854775808 ≤ e.w ∧ e.w ≤ 9223372036854775807 := by
  rcases Go.Deep.open_slice Try.underlying22 hf with ⟨hcs, _⟩ | ⟨y, l, c, m, n, D, Pl, hcs, _, hl, hm, hmm, _, hx⟩
  · simp at hcs
    subst hcs
    exact ⟨[], ⟨none, 0, rfl, by omega, by simp, fun j e h => by simp at h⟩, fun e he => by cases he⟩
  · simp at hcs
    subst hcs
    have hlm : l ≤ m := by rw [hmm]; split <;> omega
    have hc4 : Try.prog.cellsOf 36 = 3 := by kernel_rfl
    rw [hc4] at hx
    have key : ∀ i, ∃ q : (Int × Int × Int), i < l → W.cell? (y.add (i * 3)) = some (.int .i64 q.1) ∧ W.cell? (y.add (i * 3 + 1)) = some (.int .i64 q.2.1) ∧ W.cell? (y.add (i * 3 + 2)) = some (.int .i64 q.2.2) ∧ (-9223372036854775808 ≤ q.2.2 ∧ q.2.2 ≤ 9223372036854775807) := fun i => by
      by_cases hi : i < l
      · obtain ⟨cs, h1, h2⟩ := hx i (by omega)
        obtain ⟨_, hlen, hcell⟩ := World.cells?_some h1
        obtain ⟨xs, n', _, _, _, hlx, hfld⟩ := DataW.trod_struct Try.underlying36 h2
        match cs, hlen with
        | [c0, c1, c2], _ =>
          have f0 := hfld 0 _ rfl
          have f1 := hfld 1 _ rfl
          have f2 := hfld 2 _ rfl
          match xs, hlx with
          | [x0, x1, x2], _ =>
            obtain ⟨k, e0, _, _⟩ := DataW.trod_int Try.underlying3 f0
            obtain ⟨p, e1, _, _⟩ := DataW.trod_int Try.underlying3 f1
            obtain ⟨x, e2, _, wx⟩ := DataW.trod_int Try.underlying2 f2
            have g0 := hcell 0 (by omega)
            have g1 := hcell 1 (by omega)
            have g2 := hcell 2 (by omega)
            rw [Go.Deep.add_add] at g0 g1 g2
            have t1 : Try.prog.cellsOf 3 = 1 := by kernel_rfl
            have t2 : Try.prog.cellsOf 2 = 1 := by kernel_rfl
            simp [t1, t2] at e0 e1 e2
            subst e0 e1 e2
            exact ⟨(k, p, x), fun _ => ⟨by simpa using g0, by simpa using g1, by simpa using g2, by simp [Lit.wf, IntKind.min, IntKind.max, IntKind.signed, IntKind.bits] at wx; omega⟩⟩
      · exact ⟨(0, 0, 0), fun h => absurd h hi⟩
    obtain ⟨q, hq⟩ := Classical.axiomOfChoice key
    have hlen : ((List.range l).map fun i => (⟨(q i).1, (q i).2.1, (q i).2.2⟩ : Ed)).length = l := by simp
    refine ⟨(List.range l).map fun i => ⟨(q i).1, (q i).2.1, (q i).2.2⟩, ⟨some y, c, by rw [hlen], by unfold maxLen at hm; omega, by rw [hlen]; unfold maxLen at hm; omega, fun j e hj => ?_⟩, fun e he => ?_⟩
    rotate_left
    · obtain ⟨i, hi, rfl⟩ := List.mem_map.1 he
      exact (hq i (List.mem_range.1 hi)).2.2.2
    obtain ⟨b, off, spot⟩ := y
    have hjl : j < l := by
      have := (List.getElem?_eq_some_iff.1 hj).1
      rwa [hlen] at this
    have hspot : spot = none := by have := World.cell?_spot (hq 0 (by omega)).1; simpa [Addr.add] using this
    subst hspot
    rw [List.getElem?_map, List.getElem?_range hjl] at hj
    simp only [Option.map_some, Option.some.injEq] at hj
    subst hj
    have hh := hq j hjl
    refine ⟨b, off, rfl, ?_, ?_⟩
    · have := World.block_lt_of_cell? W _ hh.1
      rw [Go.WideShapes.add_plain] at this
      exact this
    · simpa only [Go.WideShapes.add_plain, Nat.add_assoc] using (And.intro hh.1 (And.intro hh.2.1 hh.2.2.1))

def vertB (N x : Int) : Bool := decide (0 ≤ x) && decide (x < N)
def endsB (N : Int) (e : Ed) : Bool := vertB N e.f && vertB N e.t
def rightB (N : Int) (E : List Ed) : Bool := decide (0 ≤ N) && decide (N ≤ 4096) && decide (E.length ≤ 65536) && E.all (endsB N)
def weighB (N : Int) (E : List Ed) : Bool := rightB N E && E.all (fun e => decide (0 ≤ e.w) && decide (e.w ≤ 9223372036854775807 / max N 1))

theorem vertex_any (N x : Int) (a : Option Addr) (n c : Nat) (w : World) :
    Calls Try.prog 27 #[.agg #[.int .i64 N, .slice a n c], .int .i64 x] w fun e w' => e = .returned (.bool (vertB N x)) ∧ Upd [] w w' := by
  unfold vertB
  by_cases h : 0 ≤ x
  · go_enter Try.func27, Try.ntmps27
    go_wp2
    go_ret
    exact ⟨ret_bool (by simp [h]), (Upd.refl _ _).alloc _⟩
  · go_enter Try.func27, Try.ntmps27
    go_wp2
    go_ret
    exact ⟨ret_bool (by rw [decide_eq_false (by omega)]; rfl), (Upd.refl _ _).alloc _⟩
/-- A box that holds a graph. -/
def BoxG (w : World) (B : Nat) (N : Int) (vs : Value) : Prop := w.cell? ⟨B, 0, none⟩ = some (.int .i64 N) ∧ w.cell? ⟨B, 1, none⟩ = some vs
theorem BoxG.upd {w w' : World} {B : Nat} {N : Int} {vs : Value} (h : BoxG w B N vs) (hu : Upd [] w w') : BoxG w' B N vs := ⟨hu.was h.1, hu.was h.2⟩
theorem check1_any (e : Ed) (B : Nat) (N : Int) (a : Option Addr) (n c : Nat) (w : World) (h : BoxG w B N (.slice a n c)) :
    Calls Try.prog 26 #[e.val, .pointer (some ⟨B, 0, none⟩)] w fun x w' => x = .returned (.bool (!(endsB N e))) ∧ Upd [] w w' := by
  obtain ⟨ef, et, ew⟩ := e
  unfold Ed.val endsB
  have h0 := fun W (hu : Upd [] w W) => hu.was h.1
  have h1 := fun W (hu : Upd [] w W) => hu.was h.2
  have H0 := Lib.hid h0
  have H1 := Lib.hid h1
  clear h0 h1
  obtain ⟨hN, hV⟩ := h
  have hB : B < w.heap.size := World.block_lt_of_cell? w _ hN
  have k1 := fun W => vertex_any N ef a n c W
  have k2 := fun W => vertex_any N et a n c W
  cases hb : vertB N ef
  · rw [hb] at k1
    go_enter Try.func26, Try.ntmps26
    go_wp2_with ((go_at_call 27; (with_reducible refine (k1 _).mono ?_)); rintro e w1 ⟨rfl, hu1⟩; have q0 := H0.out _ (((Upd.refl _ _).alloc _).trans hu1))
    go_ret
    exact ⟨ret_bool (by simp), ((Upd.refl _ _).alloc _).trans hu1⟩
  · rw [hb] at k1
    have hu0 : Upd [] w (w.alloc (.cells #[.int .i64 ef, .int .i64 et, .int .i64 ew] 36)) := (Upd.refl _ _).alloc _
    have E1 : ∀ W, Upd [] (w.alloc (.cells #[.int .i64 ef, .int .i64 et, .int .i64 ew] 36)) W → W.cell? ⟨w.heap.size, 1, none⟩ = some (.int .i64 et) := fun W h => h.was (by simp)
    have HE1 := Lib.hid E1
    clear E1
    go_enter Try.func26, Try.ntmps26
    go_wp2_with (first
      | ((go_at_call 27; (with_reducible refine (k1 _).mono ?_)); rintro e w1 ⟨rfl, hu1⟩; have q0 := H0.out _ (hu0.trans hu1); have q1 := H1.out _ (hu0.trans hu1); have q2 := HE1.out _ hu1)
      | ((go_at_call 27; (with_reducible refine (k2 _).mono ?_)); rintro e w2 ⟨rfl, hu2⟩))
    go_ret
    exact ⟨ret_bool (by simp), (hu0.trans hu1).trans hu2⟩
end Go.Proofs.Ytaeipfpdimjfoaa
