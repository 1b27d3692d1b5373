/-
  Can ways in a graph be weighed: package graph. Conditions: those of each lemma.
-/
import Derived.Test.YtaeipfpdimjfoaaGrw
import Derived.Test.YtaeipfpdimjfoaaShelf
set_option linter.unusedVariables false
set_option linter.unusedSimpArgs false
namespace Go.Proofs.Ytaeipfpdimjfoaa
open Go Go.RowKit

/-- The error's number. -/
def errW (b : Bool) : Int := if b then 0 else 201
/-- The greatest weight. -/
def mxW (l : List Ed) : Int := l.foldl (fun m e => max m e.w) 0
theorem mxF_le (l : List Ed) (m b : Int) : l.foldl (fun m e => max m e.w) m ≤ b ↔ m ≤ b ∧ ∀ e, e ∈ l → e.w ≤ b := by
  induction l generalizing m with
  | nil => simp
  | cons a l ih =>
    rw [List.foldl_cons, ih]
    simp only [List.mem_cons, forall_eq_or_imp]
    constructor
    · rintro ⟨h1, h2⟩; exact ⟨by omega, by omega, h2⟩
    · rintro ⟨h1, h2, h3⟩; exact ⟨by omega, h3⟩
theorem mxW_le {l : List Ed} {b : Int} (hb : 0 ≤ b) : mxW l ≤ b ↔ ∀ e, e ∈ l → e.w ≤ b := by
  unfold mxW; rw [mxF_le]; exact ⟨fun h => h.2, fun h => ⟨hb, h⟩⟩
theorem mxW_pos (l : List Ed) : 0 ≤ mxW l := by
  have := (mxF_le l 0 (mxW l)).1 (Int.le_refl _)
  exact this.1
theorem mxW_take (E : List Ed) (k : Nat) (x : Ed) (hx : E[k]? = some x) : mxW (E.take (k + 1)) = max (mxW (E.take k)) x.w := by
  unfold mxW; rw [List.take_add_one, hx, List.foldl_append]; rfl
theorem weigh_iff {N : Int} {E : List Ed} (hr : rightB N E = true) (h0 : ∀ e, e ∈ E → 0 ≤ e.w) : weighB N E = true ↔ N * mxW E ≤ 9223372036854775807 := by
  have hw : weighB N E = E.all (wOk N) := by unfold weighB; rw [hr]; rfl
  have hN := right_bd hr
  rw [hw]
  by_cases hz : N = 0
  · subst hz
    have hE : E = [] := by
      cases E with
      | nil => rfl
      | cons a l => have := right_mem hr (e := a) (by simp); omega
    subst hE
    simp [mxW]
  · have hN1 : 0 < N := by omega
    have hmx : max N 1 = N := by omega
    have h2 : (∀ e, e ∈ E → e.w ≤ 9223372036854775807 / N) ↔ N * mxW E ≤ 9223372036854775807 := by
      rw [← mxW_le (Int.ediv_nonneg (by omega) (by omega)), Int.le_ediv_iff_mul_le hN1, Int.mul_comm]
    rw [← h2, List.all_eq_true]
    constructor
    · intro h e he
      have := h e he
      unfold wOk at this
      rw [hmx] at this
      simp only [Bool.and_eq_true, decide_eq_true_eq] at this
      exact this.2
    · intro h e he
      unfold wOk
      rw [hmx, decide_eq_true (h0 e he), decide_eq_true (h e he)]
      rfl
set_option maxHeartbeats 4000000 in
theorem gweigh_any (w : World) (N : Int) (va : Value) (E : List Ed) (hE : SlE w va E) (hwb : ∀ e, e ∈ E → e.w ≤ 9223372036854775807) :
    Calls Try.prog 11 #[.agg #[.int .i64 N, va]] w fun r w' => r = .returned (.int .i64 (errW (weighB N E))) ∧ Upd [] w w' := by
  have kr := fun W (hW : Upd [] w W) => gcheck_any W N va E (hE.upd hW)
  obtain ⟨a, cap, rfl, hcap⟩ := hE.shape
  have HE := Lib.hid hE
  have hl : E.length ≤ 9223372036854775807 := by obtain ⟨_, _, _, _, h, _⟩ := hE; exact h
  clear hE
  have u0 : Upd [] w (w.alloc (.cells #[.int .i64 N, .slice a E.length cap] 24)) := (Upd.refl _ _).alloc _
  cases hr : rightB N E with
  | false =>
    have hw : weighB N E = false := by unfold weighB; rw [hr]; rfl
    rw [hw]
    rw [hr] at kr
    clear hw hr
    generalize E.length = n at *
    go_enter Try.func11, Try.ntmps11
    go_wp2_with (first
      | ((go_at_call 19; (with_reducible refine (kr _ u0).mono ?_)); rintro e w1 ⟨rfl, hu1⟩)
      | fail)
    go_ret
    exact ⟨rfl, u0.trans hu1⟩
  | true =>
    have HR := Lib.hid hr
    have hNb := right_bd hr
    rw [hr] at kr
    clear hr
    obtain ⟨Nn, rfl⟩ : ∃ Nn : Nat, N = Nn := ⟨N.toNat, by omega⟩
    generalize hn : E.length = n at *
    have HN := Lib.hid hn
    have HB := Lib.hid hwb
    clear hn hwb
    go_enter Try.func11, Try.ntmps11
    go_wp2_with (first
      | ((go_at_call 19; (with_reducible refine (kr _ u0).mono ?_)); rintro e w1 ⟨rfl, hu1⟩; (have q1 : w1.cell? ⟨w.heap.size, 1, none⟩ = some (.slice a n cap) := hu1.was (by simp)))
      | fail)
    clear q1
    go_loopw [4, 6, 17] (fun m _ i wr => ∃ k : Nat, k ≤ n ∧ i = .int .i64 (k : Int) ∧ m = .int .i64 (mxW (E.take k)) ∧ (∀ e, e ∈ E.take k → 0 ≤ e.w) ∧ Upd [] (w.alloc (.cells #[.int .i64 Nn, .slice a n cap] 24)) wr) (fun _ _ i _ => n - (intOf i).toNat)
    case atStart => exact ⟨0, by omega, rfl, rfl, by simp, hu1⟩
    case round =>
      clear hu1 kr
      obtain ⟨k, hk, rfl, rfl, hpos, hu⟩ := hrel
      rename World => wr
      have q0 : wr.cell? ⟨w.heap.size, 0, none⟩ = some (.int .i64 Nn) := hu.was (by simp)
      have q1 : wr.cell? ⟨w.heap.size, 1, none⟩ = some (.slice a n cap) := hu.was (by simp)
      have hsz : w.heap.size < wr.heap.size := by have := hu.size; simp at this; omega
      have HP := Lib.hid hpos
      clear hpos
      by_cases hkn : k < n
      · have hkE : k < E.length := by rw [HN.out]; exact hkn
        have hx : E[k]? = some (E.getD k default) := by simp [List.getD_eq_getElem?_getD, hkE]
        have hmem : E.getD k default ∈ E := List.mem_of_getElem? hx
        obtain ⟨g, off, rfl, hg, c0, c1, c2⟩ := (HE.out.upd (u0.trans hu)).at k hkE
        generalize E.getD k default = e at *
        have HT := Lib.hid (mxW_take E k _ hx)
        have HM := Lib.hid hmem
        have HX := Lib.hid hx
        have hwr : IntKind.i64.wrap ((k : Int) + 1) = (k : Int) + 1 := IntWalk.i64_in _ (by omega)
        obtain ⟨ef, et, ew⟩ := e
        dsimp only at c0 c1 c2
        clear hx hmem HE
        generalize hmo : mxW (E.take k) = mo at *
        have HMO := Lib.hid hmo
        clear hmo
        by_cases b0 : ew < 0
        · have hf : Hid (weighB Nn E = false) := Lib.hid (by
            have hw : weighB Nn E = E.all (wOk Nn) := by unfold weighB; rw [HR.out]; rfl
            rw [hw, all_no (wOk Nn) E _ HM.out (by unfold wOk; rw [decide_eq_false (by dsimp only; omega)]; rfl)])
          have b0b : decide (ew < 0) = true := by simpa using b0
          go_wp2
          go_ret
          exact ⟨by rw [hf.out]; rfl, by have := u0.trans hu; (repeat (first | assumption | exact Upd.refl _ _ | refine Upd.alloc ?_ _ | refine Upd.drew ?_ | refine Upd.drewN ?_ _ | refine Upd.setCell ?_ ?_ _ | focus (left; simp; done) | focus (right; simp; done) | focus (right; simp; omega)))⟩
        · have b0b : decide (ew < 0) = false := by simpa using b0
          go_wp2
          refine ⟨⟨k + 1, by omega, by go_num, by rw [HT.out], fun e he => ?_, by (repeat (first | assumption | exact Upd.refl _ _ | refine Upd.alloc ?_ _ | refine Upd.drew ?_ | refine Upd.drewN ?_ _ | refine Upd.setCell ?_ ?_ _ | focus (left; simp; done) | focus (right; simp; done) | focus (right; simp; omega)))⟩, by simp [intOf]; omega⟩
          rw [List.take_add_one, HX.out] at he
          rcases List.mem_append.1 he with he | he
          · exact HP.out e he
          · simp at he; subst he; dsimp only; omega
      · obtain rfl : k = n := by omega
        have hT : E.take k = E := by rw [← HN.out, List.take_length]
        rw [hT]
        have hpos : ∀ e, e ∈ E → 0 ≤ e.w := by have := HP.out; rw [hT] at this; exact this
        have hiff := weigh_iff HR.out hpos
        have h1 := mxW_pos E
        have h2 : mxW E ≤ 9223372036854775807 := (mxW_le (by omega)).2 HB.out
        obtain ⟨mo, hmo⟩ : ∃ mo : Nat, mxW E = mo := ⟨(mxW E).toNat, by omega⟩
        rw [hmo] at hiff h2
        rw [hmo]
        have kM := fun W => Try.bits_Mul64 Nn mo (by omega) (by omega) W
        have w1 : IntKind.u64.wrap (Nn : Int) = (Nn : Int) := by rw [IntKind.wrap_u64]; omega
        have w2 : IntKind.u64.wrap (mo : Int) = (mo : Int) := by rw [IntKind.wrap_u64]; omega
        have hP : ((Nn : Int) * (mo : Int)) = ((Nn * mo : Nat) : Int) := (Int.natCast_mul _ _).symm
        rw [hP] at hiff
        generalize Nn * mo = P at *
        clear hT hpos hmo h1 hP
        cases hwB : weighB Nn E with
        | false =>
          have hbig : ¬ ((P : Int) ≤ 9223372036854775807) := fun h => by rw [hiff.2 h] at hwB; cases hwB
          have HWB := Lib.hid hwB
          clear hwB hiff
          have hor : 0 < P / 18446744073709551616 ∨ (P / 18446744073709551616 = 0 ∧ 9223372036854775807 < P % 18446744073709551616) := by omega
          generalize P / 18446744073709551616 = hi at *
          generalize P % 18446744073709551616 = lo at *
          rcases hor with h | ⟨h, h'⟩
          · go_wp2_with (first
              | ((go_at_call 20; (with_reducible refine (kM _).mono ?_)); rintro e w9 ⟨rfl, hw9⟩; rw [hw9]; clear hw9 w9)
              | fail)
            go_ret
            exact ⟨by rw [HWB.out]; rfl, by have := u0.trans hu; (repeat (first | assumption | exact Upd.refl _ _ | refine Upd.alloc ?_ _ | refine Upd.drew ?_ | refine Upd.drewN ?_ _ | refine Upd.setCell ?_ ?_ _ | focus (left; simp; done) | focus (right; simp; done) | focus (right; simp; omega)))⟩
          · subst h
            have h'' : (9223372036854775807 : Int) < (lo : Int) := by omega
            go_wp2_with (first
              | ((go_at_call 20; (with_reducible refine (kM _).mono ?_)); rintro e w9 ⟨rfl, hw9⟩; rw [hw9]; clear hw9 w9)
              | fail)
            go_ret
            exact ⟨by rw [HWB.out]; rfl, by have := u0.trans hu; (repeat (first | assumption | exact Upd.refl _ _ | refine Upd.alloc ?_ _ | refine Upd.drew ?_ | refine Upd.drewN ?_ _ | refine Upd.setCell ?_ ?_ _ | focus (left; simp; done) | focus (right; simp; done) | focus (right; simp; omega)))⟩
        | true =>
          have hsm : (P : Int) ≤ 9223372036854775807 := hiff.1 hwB
          have HWB := Lib.hid hwB
          clear hwB hiff
          have hor : P / 18446744073709551616 = 0 ∧ ¬ (9223372036854775807 < P % 18446744073709551616) := by omega
          generalize P / 18446744073709551616 = hi at *
          generalize P % 18446744073709551616 = lo at *
          obtain ⟨h, h'⟩ := hor
          subst h
          have h'' : ¬ (9223372036854775807 : Int) < (lo : Int) := by omega
          have h3 : decide ((9223372036854775807 : Int) < (lo : Int)) = false := by simpa using h''
          go_wp2_with (first
            | ((go_at_call 20; (with_reducible refine (kM _).mono ?_)); rintro e w9 ⟨rfl, hw9⟩; rw [hw9]; clear hw9 w9)
            | fail)
          go_ret
          exact ⟨by rw [HWB.out]; rfl, by have := u0.trans hu; (repeat (first | assumption | exact Upd.refl _ _ | refine Upd.alloc ?_ _ | refine Upd.drew ?_ | refine Upd.drewN ?_ _ | refine Upd.setCell ?_ ?_ _ | focus (left; simp; done) | focus (right; simp; done) | focus (right; simp; omega)))⟩
end Go.Proofs.Ytaeipfpdimjfoaa
