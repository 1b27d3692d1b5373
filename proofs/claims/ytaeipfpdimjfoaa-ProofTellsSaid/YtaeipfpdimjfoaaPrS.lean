/-
  The document's: is a tree right? Conditions: those of each lemma.
-/
import Derived.Test.YtaeipfpdimjfoaaPrR
set_option linter.unusedVariables false
set_option linter.unusedSimpArgs false
namespace Go.Proofs.Ytaeipfpdimjfoaa
open Go Go.RowKit

def ProvesA (N : Int) (E : List Ed) (src : Int) (D B : List Int) : Prop :=
  weighB N E = true ∧ 0 ≤ src ∧ src < N ∧ TreeA (eN E) N.toNat src.toNat (passes (eN E) src.toNat N.toNat) D B
set_option maxHeartbeats 1000000 in
theorem rproves_any (w : World) (N : Int) (va vd vb : Value) (E : List Ed) (D B : List Int) (src : Int) (hE : SlE w va E) (hD : SlI w [] vd D) (hB : SlI w [] vb B) :
    Calls Try.prog 7 #[.agg #[.int .i64 N, va], .int .i64 src, vd, vb] w (Tells (ProvesA N E src D B) w) := by
  have kw := fun W (hW : Upd [] w W) => rweigh_any W N va E (hE.upd hW)
  have kt := fun W (hW : Upd [] w W) n s (hN : N = ((n : Nat) : Int)) (hs : src = ((s : Nat) : Int)) (hwE : weighB N E = true) (hsn : s < n) =>
    tree_any W n va vd vb E D B s (hE.upd hW) (hD.fresh hW (fun g hg => Or.inl hg)) (hB.fresh hW (fun g hg => Or.inl hg)) (by rw [← hN]; exact hwE) hsn
  obtain ⟨a, cap, rfl, hcap⟩ := hE.shape
  obtain ⟨ad, capd, rfl, _, _, _⟩ := hD
  obtain ⟨ab, capb, rfl, _, _, _⟩ := hB
  have u0 : Upd [] w (w.alloc (.cells #[.int .i64 N, .slice a E.length cap] 24)) := (Upd.refl _ _).alloc _
  clear hE
  have hno : ¬ (weighB N E = true ∧ 0 ≤ src ∧ src < N) → (false = true ↔ ProvesA N E src D B) := fun h => ⟨fun e => (by cases e), fun e => absurd ⟨e.1, e.2.1, e.2.2.1⟩ h⟩
  cases hw : weighB N E with
  | false =>
    rw [hw] at kw
    have HN := Lib.hid (hno (by rw [hw]; intro h; cases h.1))
    clear kt hw hno
    generalize E.length = n at *
    generalize D.length = n2 at *
    generalize B.length = n3 at *
    go_enter Try.func7, Try.ntmps7
    go_wp2_with (first
      | ((go_at_call 16; (with_reducible refine (kw _ u0).mono ?_)); rintro e w1 ⟨rfl, hu1⟩)
      | fail)
    go_ret
    exact ⟨_, rfl, HN.out, u0.trans hu1⟩
  | true =>
    rw [hw] at kw
    by_cases h0 : src < 0
    · have HN := Lib.hid (hno (by omega))
      clear kt hw hno
      generalize E.length = n at *
      generalize D.length = n2 at *
      generalize B.length = n3 at *
      go_enter Try.func7, Try.ntmps7
      go_wp2_with (first
        | ((go_at_call 16; (with_reducible refine (kw _ u0).mono ?_)); rintro e w1 ⟨rfl, hu1⟩)
        | fail)
      go_ret
      exact ⟨_, rfl, HN.out, u0.trans hu1⟩
    · by_cases h1 : src < N
      · obtain ⟨n0, rfl⟩ : ∃ n0 : Nat, N = n0 := ⟨N.toNat, by omega⟩
        obtain ⟨s, rfl⟩ : ∃ s : Nat, src = s := ⟨src.toNat, by omega⟩
        have hsn : s < n0 := by omega
        have kt' := fun W (hW : Upd [] w W) => kt W hW n0 s rfl rfl hw hsn
        have HP := Lib.hid (show TreeA (eN E) n0 s (passes (eN E) s n0) D B ↔ ProvesA (n0 : Int) E (s : Int) D B from ⟨fun h => ⟨hw, by omega, by omega, h⟩, fun h => h.2.2.2⟩)
        have h1b : decide ((s : Int) ≥ (n0 : Int)) = false := by simp; omega
        have hsn2 : ¬ n0 ≤ s := by omega
        clear kt hw hno h0 h1
        generalize TreeA (eN E) n0 s (passes (eN E) s n0) D B = TA at *
        generalize E.length = n at *
        generalize D.length = n2 at *
        generalize B.length = n3 at *
        go_enter Try.func7, Try.ntmps7
        go_wp2_with (first
          | ((go_at_call 16; (with_reducible refine (kw _ u0).mono ?_)); rintro e w1 ⟨rfl, hu1⟩; (have q0 : w1.cell? ⟨w.heap.size, 0, none⟩ = some (.int .i64 (n0 : Int)) := hu1.was (by simp)); (have q1 : w1.cell? ⟨w.heap.size, 1, none⟩ = some (.slice a n cap) := hu1.was (by simp)))
          | ((go_at_call 17; (with_reducible refine (kt' _ (by first | exact u0.trans hu1)).mono ?_)); rintro e w2 ⟨b, rfl, hb, hu2⟩)
          | fail)
        go_ret
        exact ⟨_, rfl, hb.trans HP.out, (u0.trans hu1).trans hu2⟩
      · have HN := Lib.hid (hno (by omega))
        have h1b : decide (src ≥ N) = true := by simp; omega
        clear kt hw hno h1
        generalize E.length = n at *
        generalize D.length = n2 at *
        generalize B.length = n3 at *
        go_enter Try.func7, Try.ntmps7
        go_wp2_with (first
          | ((go_at_call 16; (with_reducible refine (kw _ u0).mono ?_)); rintro e w1 ⟨rfl, hu1⟩; (have q0 : w1.cell? ⟨w.heap.size, 0, none⟩ = some (.int .i64 N) := hu1.was (by simp)))
          | fail)
        go_ret
        exact ⟨_, rfl, HN.out, u0.trans hu1⟩
end Go.Proofs.Ytaeipfpdimjfoaa
