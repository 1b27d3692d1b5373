/-
  Package proof: the small functions, and feasible. Conditions: those of each lemma.
-/
import Derived.Test.YtaeipfpdimjfoaaGrg
import Derived.Test.YtaeipfpdimjfoaaPrP4
set_option linter.unusedVariables false
set_option linter.unusedSimpArgs false
namespace Go.Proofs.Ytaeipfpdimjfoaa
open Go Go.RowKit

def fitsB (x : Int) : Bool := decide (0 ≤ x) && decide (x ≠ 9223372036854775807)
theorem fits_any (x : Int) (w : World) : Calls Try.prog 18 #[.int .i64 x] w fun e w' => e = .returned (.bool (fitsB x)) ∧ w' = w := by
  unfold fitsB
  by_cases h : x ≥ 0
  · by_cases h2 : x = 9223372036854775807
    · subst h2
      go_enter Try.func18, Try.ntmps18
      go_wp2
      go_ret
      exact ⟨ret_bool (by simp), rfl⟩
    · have h2b : (x != 9223372036854775807) = true := by simpa using h2
      go_enter Try.func18, Try.ntmps18
      go_wp2
      go_ret
      exact ⟨ret_bool (by simp [h2]; omega), rfl⟩
  · go_enter Try.func18, Try.ntmps18
    go_wp2
    go_ret
    exact ⟨ret_bool (by simp; omega), rfl⟩
theorem neg_any (x : Int) (w : World) : Calls Try.prog 13 #[.int .i64 x] w fun e w' => e = .returned (.bool (decide (x < 0))) ∧ Upd [] w w' := by
  go_enter Try.func13, Try.ntmps13
  go_wp2
  go_ret
  exact ⟨ret_bool rfl, Upd.refl _ _⟩
/-- Does an edge lead nearer than is told? -/
def nearB (D : List Int) (e : Ed) : Bool := decide (D.getD e.f.toNat 0 ≠ 9223372036854775807) && decide (e.w ≤ 9223372036854775807 - D.getD e.f.toNat 0) && decide (D.getD e.t.toNat 0 > D.getD e.f.toNat 0 + e.w)
set_option maxHeartbeats 2000000 in
theorem near_any (W : World) (e : Ed) (B cap : Nat) (a : Option Addr) (D : List Int) (hB : W.cell? ⟨B, 0, none⟩ = some (.slice a D.length cap)) (hD : SlI W [] (.slice a D.length cap) D)
    (hf : 0 ≤ e.f ∧ e.f < D.length) (ht : 0 ≤ e.t ∧ e.t < D.length) (hw : 0 ≤ e.w ∧ e.w ≤ 9223372036854775807) (hb : ∀ x, x ∈ D → 0 ≤ x ∧ x ≤ 9223372036854775807) :
    Calls Try.prog 23 #[e.val, .pointer (some ⟨B, 0, none⟩)] W fun r w' => r = .returned (.bool (nearB D e)) ∧ Upd [] W w' := by
  obtain ⟨ef, et, ew⟩ := e
  dsimp only at hf ht hw
  obtain ⟨f, rfl⟩ : ∃ f : Nat, ef = f := ⟨ef.toNat, by omega⟩
  obtain ⟨t, rfl⟩ : ∃ t : Nat, et = t := ⟨et.toNat, by omega⟩
  have hf' : f < D.length := by omega
  have ht' : t < D.length := by omega
  unfold nearB Ed.val
  dsimp only
  rw [Int.toNat_natCast, Int.toNat_natCast]
  obtain ⟨_, _, he, hc1, hc2, hcell⟩ := hD
  have x1 : D[f]? = some (D.getD f 0) := by simp [List.getD_eq_getElem?_getD, hf']
  have x2 : D[t]? = some (D.getD t 0) := by simp [List.getD_eq_getElem?_getD, ht']
  cases he
  obtain ⟨g, off, rfl, hg, _, c1⟩ := hcell f _ x1
  obtain ⟨g2, off2, he2, _, _, c2⟩ := hcell t _ x2
  cases he2
  have b1 := hb _ (List.mem_of_getElem? x1)
  have b2 := hb _ (List.mem_of_getElem? x2)
  clear hcell x1 x2 hb
  have hBl := World.block_lt_of_cell? W _ hB
  dsimp only at hBl
  generalize D.getD f 0 = d1 at *
  generalize D.getD t 0 = d2 at *
  generalize D.length = n at *
  by_cases h1 : d1 = 9223372036854775807
  · subst h1
    go_enter Try.func23, Try.ntmps23
    go_wp2
    go_quiet (fail)
    go_wp2
    go_ret
    exact ⟨ret_bool (by simp), by (repeat (first | assumption | exact Upd.refl _ _ | refine Upd.alloc ?_ _ | refine Upd.drew ?_ | refine Upd.drewN ?_ _ | refine Upd.setCell ?_ ?_ _ | focus (left; simp; done) | focus (right; simp; done) | focus (right; simp; omega)))⟩
  · have h1b : (d1 != 9223372036854775807) = true := by simpa using h1
    by_cases h2 : ew ≤ 9223372036854775807 - d1
    · have hs1 : IntKind.i64.wrap (9223372036854775807 - d1) = 9223372036854775807 - d1 := IntWalk.i64_in _ (by omega)
      have hs2 : IntKind.i64.wrap (d1 + ew) = d1 + ew := IntWalk.i64_in _ (by omega)
      go_enter Try.func23, Try.ntmps23
      go_wp2
      go_quiet (fail)
      go_wp2
      go_ret
      exact ⟨ret_bool (by simp [h1, h2]), by (repeat (first | assumption | exact Upd.refl _ _ | refine Upd.alloc ?_ _ | refine Upd.drew ?_ | refine Upd.drewN ?_ _ | refine Upd.setCell ?_ ?_ _ | focus (left; simp; done) | focus (right; simp; done) | focus (right; simp; omega)))⟩
    · have hs1 : IntKind.i64.wrap (9223372036854775807 - d1) = 9223372036854775807 - d1 := IntWalk.i64_in _ (by omega)
      have h2b : decide (ew ≤ 9223372036854775807 - d1) = false := by simpa using h2
      go_enter Try.func23, Try.ntmps23
      go_wp2
      go_quiet (fail)
      go_wp2
      go_ret
      exact ⟨ret_bool (by simp [h1]; intro hh; omega), by (repeat (first | assumption | exact Upd.refl _ _ | refine Upd.alloc ?_ _ | refine Upd.drew ?_ | refine Upd.drewN ?_ _ | refine Upd.setCell ?_ ?_ _ | focus (left; simp; done) | focus (right; simp; done) | focus (right; simp; omega)))⟩
def feasB (D : List Int) (E : List Ed) : Bool := !(E.any (nearB D))
set_option maxHeartbeats 2000000 in
theorem feas_any (w : World) (N : Int) (va vd : Value) (E : List Ed) (D : List Int) (hE : SlE w va E) (hD : SlI w [] vd D) (hr : rightB N E = true) (hN : (D.length : Int) = N)
    (hw : ∀ e, e ∈ E → 0 ≤ e.w ∧ e.w ≤ 9223372036854775807) (hb : ∀ x, x ∈ D → 0 ≤ x ∧ x ≤ 9223372036854775807) :
    Calls Try.prog 14 #[.agg #[.int .i64 N, va], vd] w fun r w' => r = .returned (.bool (feasB D E)) ∧ Upd [] w w' := by
  obtain ⟨a, cap, rfl, hcap⟩ := hE.shape
  obtain ⟨a2, cap2, rfl, hc1, hc2, hcell⟩ := hD
  have hDD : SlI w [] (.slice a2 D.length cap2) D := ⟨a2, cap2, rfl, hc1, hc2, hcell⟩
  have u0 : Upd [] w ((w.alloc (.cells #[.int .i64 N, .slice a E.length cap] 24)).alloc (.cells #[.slice a2 D.length cap2] 25)) := ((Upd.refl _ _).alloc _).alloc _
  have kc := conE_any _ (.slice a E.length cap) E (nearB D) 23 #[.pointer (some ⟨(w.alloc (.cells #[.int .i64 N, .slice a E.length cap] 24)).heap.size, 0, none⟩)] (hE.upd u0) (fun _ _ => by kernel_rfl)
    (fun W e hW he => near_any W e _ cap2 a2 D (hW.was (by simp)) (SlI.fresh hDD (u0.trans hW) (fun x hx => by simp at hx)) (by have := right_mem hr he; omega) (by have := right_mem hr he; omega) (hw e he) hb)
  rw [World.size_alloc] at kc
  unfold feasB
  generalize E.any (nearB D) = bb at *
  clear hE hcell hDD hr hw hb hN
  generalize E.length = n at *
  generalize D.length = m at *
  go_enter Try.func14, Try.ntmps14
  go_wp2_with (first
    | ((go_at_call 22; (with_reducible refine (kc).mono ?_)); rintro e w1 ⟨rfl, hu1⟩)
    | fail)
  go_ret
  exact ⟨ret_bool (by simp), u0.trans hu1⟩
end Go.Proofs.Ytaeipfpdimjfoaa
