/-
  Slots that are in heaps (package cells): Lower, Ahead. Conditions: those of each lemma.
-/
import Derived.Test.YtechoojcgdjcdaaCells2
set_option linter.unusedVariables false
set_option linter.unusedSimpArgs false
namespace Go.Proofs.Ytechoojcgdjcdaa
open Go Go.RowKit

set_option maxHeartbeats 2000000 in
theorem clower_no {w : World} {c st : Nat} {F : List Nat} {A : NS} (h : CellsAt w c F A st) (x k s : Int) (hB : lowB A x k s = false) :
    Calls Try.prog 138 #[.pointer (some ⟨c, 0, none⟩), .int .i64 x, .agg #[.int .i64 k, .int .u64 s]] w fun e w' => e = .returned (.bool false) ∧ Upd [] w w' := by
  have hu0 : Upd [] w (w.alloc (.cells #[.int .i64 k, .int .u64 s] 59)) := (Upd.refl _ _).alloc _
  have k3 := fun W (hW : Upd [] (w.alloc (.cells #[.int .i64 k, .int .u64 s] 59)) W) => cin_any (h.upd0 (hu0.trans hW)) x
  unfold lowB at hB
  cases e : inN A x
  · rw [e] at k3
    clear hB e h
    go_enter Try.func138, Try.ntmps138
    go_wp2
    go_quiet ((go_at_call 71; exact Calls.quiet_of_same (k3 _ (by (repeat (first | assumption | exact Upd.refl _ _ | refine Upd.alloc ?_ _ | refine Upd.drew ?_ | refine Upd.drewN ?_ _ | refine Upd.setCell ?_ ?_ _ | focus (left; simp; done) | focus (right; simp; done) | focus (right; simp; omega)))))))
    go_wp2
    go_ret
    exact ⟨rfl, by (repeat (first | assumption | exact Upd.refl _ _ | refine Upd.alloc ?_ _ | refine Upd.drew ?_ | refine Upd.drewN ?_ _ | refine Upd.setCell ?_ (Or.inr (by first | (simp; done) | (simp; omega))) _ | (apply Upd.trans; rotate_left; assumption)))⟩
  · rw [e] at hB k3
    have hx := (inN_iff _ _).1 e
    obtain ⟨i, rfl⟩ : ∃ i : Nat, x = i := ⟨x.toNat, by omega⟩
    have hi : i < A.cs.length := by omega
    have hl : lessE (A.c i).k (A.c i).s k s = true := by simpa using hB
    obtain ⟨ca, nm, mb, g, cap, l, rt, dp, raw, h, rfl⟩ := h
    have ee : A.c i = ⟨rt (raw i).i.toNat, (raw i).k, (raw i).s⟩ := by
      rcases h.rel i hi with ⟨h1, h2⟩ | ⟨h1, h2, h3⟩
      · have := hx.2.2; rw [Int.toNat_natCast, h2] at this; exact absurd this (by decide)
      · exact h3
    rw [ee] at hl
    have c1 := h.c1
    have d1 := h.row.cellAt (i * 3 + 1) (by omega) (clCell1 raw i)
    have d2 := h.row.cellAt (i * 3 + 2) (by omega) (clCell2 raw i)
    have hA := h.ok.c1
    have kl := fun W => eless_any (raw i).k (raw i).s k s W
    rw [hl] at kl
    generalize (raw i).k = k0 at *
    generalize (raw i).s = s0 at *
    have r1 : ∀ W, Upd [] (w.alloc (.cells #[.int .i64 k, .int .u64 s] 59)) W → W.cell? ⟨c, 1, none⟩ = some (.slice (some ⟨ca, 0, none⟩) A.cs.length A.cs.length) := fun W hW => (hu0.trans hW).was c1
    have r2 : ∀ W, Upd [] (w.alloc (.cells #[.int .i64 k, .int .u64 s] 59)) W → W.cell? ⟨ca, i * 3 + 1, none⟩ = some (.int .i64 k0) := fun W hW => (hu0.trans hW).was d1
    have r3 : ∀ W, Upd [] (w.alloc (.cells #[.int .i64 k, .int .u64 s] 59)) W → W.cell? ⟨ca, i * 3 + 2, none⟩ = some (.int .u64 s0) := fun W hW => (hu0.trans hW).was d2
    have r4 : ∀ W, Upd [] (w.alloc (.cells #[.int .i64 k, .int .u64 s] 59)) W → W.cell? ⟨w.heap.size, 0, none⟩ = some (.int .i64 k) := fun W h => h.was (by simp)
    have r5 : ∀ W, Upd [] (w.alloc (.cells #[.int .i64 k, .int .u64 s] 59)) W → W.cell? ⟨w.heap.size, 1, none⟩ = some (.int .u64 s) := fun W h => h.was (by simp)
    clear hB e h hx hl ee c1 d1 d2
    go_enter Try.func138, Try.ntmps138
    go_wp2
    go_region_held3 (Upd [] (w.alloc (.cells #[.int .i64 k, .int .u64 s] 59))) (repeat (first | assumption | exact Upd.refl _ _ | refine Upd.drew ?_ | refine Upd.alloc ?_ _ | (apply Upd.trans; rotate_left; assumption)))
      (first
        | (go_at_call 71; (with_reducible refine (k3 _ (by (repeat (first | assumption | exact Upd.refl _ _ | refine Upd.alloc ?_ _ | refine Upd.drew ?_ | refine Upd.drewN ?_ _ | refine Upd.setCell ?_ ?_ _ | focus (left; simp; done) | focus (right; simp; done) | focus (right; simp; omega))))).mono ?_); rintro e w9 ⟨rfl, hw9⟩; rw [hw9]; clear hw9 w9)
        | (go_at_call 141; (with_reducible refine (kl _).mono ?_); rintro e w1 ⟨rfl, hu1⟩; (have hu2 : Upd [] (w.alloc (.cells #[.int .i64 k, .int .u64 s] 59)) w1 := by (repeat (first | assumption | exact Upd.refl _ _ | refine Upd.drew ?_ | refine Upd.alloc ?_ _ | (apply Upd.trans; rotate_left; assumption))))))
    go_wp2
    go_ret
    exact ⟨rfl, by (repeat (first | assumption | exact Upd.refl _ _ | refine Upd.alloc ?_ _ | refine Upd.drew ?_ | refine Upd.drewN ?_ _ | refine Upd.setCell ?_ (Or.inr (by first | (simp; done) | (simp; omega))) _ | (apply Upd.trans; rotate_left; assumption)))⟩
theorem manyF_same {A A' : NS} (h : ∀ q, lenN A' q = lenN A q) : manyF A' = manyF A := by
  funext q; unfold manyF; rw [h q]
set_option maxHeartbeats 2000000 in
theorem clower_yes {w : World} {c st : Nat} {F : List Nat} {A : NS} (h : CellsAt w c F A st) (i : Nat) (k s : Int) (hk : -9223372036854775808 ≤ k ∧ k ≤ 9223372036854775807 ∧ 0 ≤ s ∧ s ≤ 18446744073709551615) (hB : lowB A i k s = true) :
    Calls Try.prog 138 #[.pointer (some ⟨c, 0, none⟩), .int .i64 (i : Int), .agg #[.int .i64 k, .int .u64 s]] w fun e w' => e = .returned (.bool true) ∧ CellsAt w' c F (lowN A i k s) st ∧ Upd F w w' := by
  have hu0 : Upd [] w (w.alloc (.cells #[.int .i64 k, .int .u64 s] 59)) := (Upd.refl _ _).alloc _
  have k3 := fun W (hW : Upd [] (w.alloc (.cells #[.int .i64 k, .int .u64 s] 59)) W) => cin_any (h.upd0 (hu0.trans hW)) i
  have hB0 := Lib.hid hB
  unfold lowB at hB
  simp only [Bool.and_eq_true, Bool.not_eq_true', Int.toNat_natCast] at hB
  obtain ⟨e, hl⟩ := hB
  rw [e] at k3
  obtain ⟨hi, hx2⟩ := (inN_nat _ _).1 e
  obtain ⟨ca, nm, mb, g, cap, l, rt, dp, raw, h, rfl⟩ := h
  have ee : 1 ≤ (raw i).i ∧ (raw i).i < l.length ∧ A.c i = ⟨rt (raw i).i.toNat, (raw i).k, (raw i).s⟩ := by
    rcases h.rel i hi with ⟨h1, h2⟩ | h3
    · rw [h2] at hx2; exact absurd hx2 (by decide)
    · exact h3
  rw [ee.2.2] at hl
  have c1 := h.c1
  have d1 := h.row.cellAt (i * 3 + 1) (by omega) (clCell1 raw i)
  have d2 := h.row.cellAt (i * 3 + 2) (by omega) (clCell2 raw i)
  have f1 := h.row.free (i * 3 + 1)
  have f2 := h.row.free (i * 3 + 2)
  have hA := h.ok.c1
  have kl := fun W => eless_any (raw i).k (raw i).s k s W
  rw [hl] at kl
  have R3 : Hid (∀ w2 : World, Upd [] (w.alloc (.cells #[.int .i64 k, .int .u64 s] 59)) w2 → CellsAt ((w2.setCell ⟨ca, i * 3 + 1, none⟩ (.int .i64 k)).setCell ⟨ca, i * 3 + 2, none⟩ (.int .u64 s)) c [c, ca, nm, mb, g] (lowN A i k s) st ∧ Upd [c, ca, nm, mb, g] w ((w2.setCell ⟨ca, i * 3 + 1, none⟩ (.int .i64 k)).setCell ⟨ca, i * 3 + 2, none⟩ (.int .u64 s))) := fun w2 hw2 => by
    have hs := h.sep
    have hm := h.upd (hu0.trans hw2) (by simp)
    have hu4 : Upd [ca, mb] w2 ((w2.setCell ⟨ca, i * 3 + 1, none⟩ (.int .i64 k)).setCell ⟨ca, i * 3 + 2, none⟩ (.int .u64 s)) := by (repeat (first | assumption | exact Upd.refl _ _ | refine Upd.alloc ?_ _ | refine Upd.drew ?_ | refine Upd.drewN ?_ _ | refine Upd.setCell ?_ ?_ _ | focus (left; simp; done) | focus (right; simp; done) | focus (right; simp; omega)))
    have hu5 : Upd [ca] w2 ((w2.setCell ⟨ca, i * 3 + 1, none⟩ (.int .i64 k)).setCell ⟨ca, i * 3 + 2, none⟩ (.int .u64 s)) := by (repeat (first | assumption | exact Upd.refl _ _ | refine Upd.alloc ?_ _ | refine Upd.drew ?_ | refine Upd.drewN ?_ _ | refine Upd.setCell ?_ ?_ _ | focus (left; simp; done) | focus (right; simp; done) | focus (right; simp; omega)))
    have e2 : lowN A (i : Int) k s = withN A i ⟨(A.c i).i, k, s⟩ := by unfold lowN; rw [if_pos hB0.out]; simp
    refine ⟨⟨ca, nm, mb, g, cap, l, rt, dp, fun y => if y = i then ⟨(raw i).i, k, s⟩ else raw y, ?_, rfl⟩, ((hu0.trans hw2).mono (by simp)).trans (hu4.mono (by first | (simp; done) | (simp; omega)))⟩
    rw [e2]
    refine hm.turn hu4 (row2 hm.row k s) ?_ (by rw [← e2]; exact lowN_ok h.ok _ _ _ hk) (len_with _ _ _) rfl (rel_with h.rel hi (Or.inr ⟨ee.1, ee.2.1, by rw [ee.2.2]⟩))
    rw [manyF_same (A := A) (A' := withN A i ⟨(A.c i).i, k, s⟩) (fun q => by have := lenN_with A i ⟨(A.c i).i, k, s⟩ q hi; simp only at this; omega)]
    exact hm.many.upd hu5 (by first | (simp; done) | (simp; omega))
  generalize (raw i).k = k0 at *
  generalize (raw i).s = s0 at *
  have hlt : ca < w.heap.size := h.row.lt
  have r1 : ∀ W, Upd [] (w.alloc (.cells #[.int .i64 k, .int .u64 s] 59)) W → W.cell? ⟨c, 1, none⟩ = some (.slice (some ⟨ca, 0, none⟩) A.cs.length A.cs.length) := fun W hW => (hu0.trans hW).was c1
  have r2 : ∀ W, Upd [] (w.alloc (.cells #[.int .i64 k, .int .u64 s] 59)) W → W.cell? ⟨ca, i * 3 + 1, none⟩ = some (.int .i64 k0) := fun W hW => (hu0.trans hW).was d1
  have r3 : ∀ W, Upd [] (w.alloc (.cells #[.int .i64 k, .int .u64 s] 59)) W → W.cell? ⟨ca, i * 3 + 2, none⟩ = some (.int .u64 s0) := fun W hW => (hu0.trans hW).was d2
  have r4 : ∀ W, Upd [] (w.alloc (.cells #[.int .i64 k, .int .u64 s] 59)) W → W.cell? ⟨w.heap.size, 0, none⟩ = some (.int .i64 k) := fun W h => h.was (by simp)
  have r5 : ∀ W, Upd [] (w.alloc (.cells #[.int .i64 k, .int .u64 s] 59)) W → W.cell? ⟨w.heap.size, 1, none⟩ = some (.int .u64 s) := fun W h => h.was (by simp)
  have g1 : ∀ W, Upd [] (w.alloc (.cells #[.int .i64 k, .int .u64 s] 59)) W → W.frozen? ⟨ca, i * 3 + 1, none⟩ = false := fun W hW => by rw [(hu0.trans hW).frozen hlt (by simp)]; exact f1
  have g2 : ∀ W, Upd [] (w.alloc (.cells #[.int .i64 k, .int .u64 s] 59)) W → W.frozen? ⟨ca, i * 3 + 2, none⟩ = false := fun W hW => by rw [(hu0.trans hW).frozen hlt (by simp)]; exact f2
  clear h hl ee c1 d1 d2 f1 f2 e hx2
  go_enter Try.func138, Try.ntmps138
  go_wp2
  go_region_held3 (Upd [] (w.alloc (.cells #[.int .i64 k, .int .u64 s] 59))) (repeat (first | assumption | exact Upd.refl _ _ | refine Upd.drew ?_ | refine Upd.alloc ?_ _ | (apply Upd.trans; rotate_left; assumption)))
    (first
      | (go_at_call 71; (with_reducible refine (k3 _ (by (repeat (first | assumption | exact Upd.refl _ _ | refine Upd.alloc ?_ _ | refine Upd.drew ?_ | refine Upd.drewN ?_ _ | refine Upd.setCell ?_ ?_ _ | focus (left; simp; done) | focus (right; simp; done) | focus (right; simp; omega))))).mono ?_); rintro e w9 ⟨rfl, hw9⟩; rw [hw9]; clear hw9 w9)
      | (go_at_call 141; (with_reducible refine (kl _).mono ?_); rintro e w1 ⟨rfl, hu1⟩; (have hu2 : Upd [] (w.alloc (.cells #[.int .i64 k, .int .u64 s] 59)) w1 := by (repeat (first | assumption | exact Upd.refl _ _ | refine Upd.drew ?_ | refine Upd.alloc ?_ _ | (apply Upd.trans; rotate_left; assumption))))))
  have q1 := r1 _ hu2
  have q2 := r2 _ hu2
  have q3 := r3 _ hu2
  have q4 := r4 _ hu2
  have q5 := r5 _ hu2
  have q6 := g1 _ hu2
  have q7 := g2 _ hu2
  clear r1 r2 r3 r4 r5 g1 g2 k3 kl
  have HQ := Lib.hid hu2
  clear hu2 hu0 hu1
  go_wp2
  go_region
  go_wp2
  go_ret
  exact ⟨rfl, ((R3.out w1 HQ.out).1).upd0 ((Upd.refl _ _).drew), (R3.out w1 HQ.out).2.drew⟩
def satS (st k : Nat) : Nat := min (st + k) 4611686018427387904
theorem satS_zero {st : Nat} (h : st ≤ 4611686018427387904) : satS st 0 = st := by unfold satS; omega
theorem satS_add (st a b : Nat) : satS (satS st a) b = satS st (a + b) := by unfold satS; omega
theorem ccount_any (p : Addr) (s : Nat) (w : World) (h1 : s ≤ 4611686018427387904) (hc : w.cell? p = some (.int .i64 (s : Int))) (hf : w.frozen? p = false) :
    Calls Try.prog 105 #[.pointer (some p), .int .i64 1] w fun e w' => e = .returned (.tuple #[]) ∧ w' = w.setCell p (.int .i64 (satS s 1 : Nat)) := by
  by_cases h : s = 4611686018427387904
  · have e : satS s 1 = 4611686018427387904 := by unfold satS; omega
    rw [e]
    have h' : 4611686018427387904 - (s : Int) < 1 := by omega
    clear e h
    go_enter Try.func105, Try.ntmps105
    go_wp2
    go_end0
    exact ⟨rfl, rfl⟩
  · have e : ((satS s 1 : Nat) : Int) = (s : Int) + 1 := by unfold satS; omega
    rw [e]
    have h' : ¬ 4611686018427387904 - (s : Int) < 1 := by omega
    clear e h
    go_enter Try.func105, Try.ntmps105
    go_wp2
    go_end0
    exact ⟨rfl, rfl⟩
theorem CM.count {w : World} {c ca nm mb g cap : Nat} {l : List Int} {rt dp : Nat → Nat} {raw : Nat → Cl} {A : NS} {st : Nat} (h : CM w c ca nm mb g cap l rt dp raw A st) (k : Nat) : CM (w.setCell ⟨c, 0, none⟩ (.int .i64 (satS st k : Nat))) c ca nm mb g cap l rt dp raw A (satS st k) := by
  have hu : Upd [c] w (w.setCell ⟨c, 0, none⟩ (.int .i64 (satS st k : Nat))) := by (repeat (first | assumption | exact Upd.refl _ _ | refine Upd.alloc ?_ _ | refine Upd.drew ?_ | refine Upd.drewN ?_ _ | refine Upd.setCell ?_ ?_ _ | focus (left; simp; done) | focus (right; simp; done) | focus (right; simp; omega)))
  have s := h.sep
  refine ⟨(h.head.set 0 _).ext (fun j hj => ?_), h.row.upd hu (by first | (simp; done) | (simp; omega)), h.nms.upd hu (by first | (simp; done) | (simp; omega)) (by first | (simp; done) | (simp; omega)), h.many.upd hu (by first | (simp; done) | (simp; omega)), h.nok, h.ok, by unfold satS; omega, h.rel, h.hlen, h.has, s⟩
  rcases (by omega : j = 0 ∨ j = 1 ∨ j = 2 ∨ j = 3) with rfl | rfl | rfl | rfl <;> simp
theorem cahead_no {w : World} {c st : Nat} {F : List Nat} {A : NS} (h : CellsAt w c F A st) (a b : Int) (hB : (inN A a && inN A b) = false) :
    Calls Try.prog 85 #[.pointer (some ⟨c, 0, none⟩), .int .i64 a, .int .i64 b] w fun e w' => e = .returned (.bool false) ∧ w' = w := by
  have k1 := cin_any h a
  have k2 := cin_any h b
  clear h
  cases e : inN A a
  · rw [e] at k1
    clear hB k2 e
    go_enter Try.func85, Try.ntmps85
    go_wp2_with ((go_at_call 71; (with_reducible refine (k1).mono ?_); rintro e w9 ⟨rfl, hw9⟩; rw [hw9]; clear hw9 w9))
    go_ret
    exact ⟨rfl, rfl⟩
  · rw [e] at hB k1
    have e2 : inN A b = false := by simpa using hB
    rw [e2] at k2
    clear hB e e2
    by_cases hab : a = b
    · subst hab
      go_enter Try.func85, Try.ntmps85
      go_wp2_with (first | (go_at_call 71; (with_reducible refine (k2).mono ?_); rintro e w9 ⟨rfl, hw9⟩; rw [hw9]; clear hw9 w9))
      go_ret
      exact ⟨rfl, rfl⟩
    · go_enter Try.func85, Try.ntmps85
      go_wp2_with (first | (go_at_call 71; (with_reducible refine (k1).mono ?_); rintro e w9 ⟨rfl, hw9⟩; rw [hw9]; clear hw9 w9) | (go_at_call 71; (with_reducible refine (k2).mono ?_); rintro e w9 ⟨rfl, hw9⟩; rw [hw9]; clear hw9 w9))
      go_ret
      exact ⟨rfl, rfl⟩
theorem cmpE_lt3 (A : NS) (a b : Nat) : (decide (cmpE (A.c a).k (A.c a).s (A.c b).k (A.c b).s < 0) || (decide (cmpE (A.c a).k (A.c a).s (A.c b).k (A.c b).s = 0) && decide (a < b))) = decide (lt3 A a b) := by
  rw [Bool.eq_iff_iff, decide_eq_true_iff]
  simp only [Bool.or_eq_true, Bool.and_eq_true, decide_eq_true_eq]
  unfold cmpE cmpZ lt3
  by_cases h : (A.c a).k = (A.c b).k
  · rw [if_pos h]
    by_cases h1 : (A.c a).s < (A.c b).s
    · rw [if_pos h1]; omega
    · rw [if_neg h1]; split <;> omega
  · rw [if_neg h]
    by_cases h1 : (A.c a).k < (A.c b).k
    · rw [if_pos h1]; omega
    · rw [if_neg h1]; split <;> omega
set_option maxHeartbeats 4000000 in
theorem cahead_yes {w : World} {c st : Nat} {F : List Nat} {A : NS} (h : CellsAt w c F A st) (a b : Nat) (ha : inN A a = true) (hb : inN A b = true) :
    Calls Try.prog 85 #[.pointer (some ⟨c, 0, none⟩), .int .i64 (a : Int), .int .i64 (b : Int)] w fun e w' => e = .returned (.bool (decide (lt3 A a b))) ∧ CellsAt w' c F A (satS st 1) ∧ Upd [c] w w' := by
  have k1 := cin_any h a
  have k2 := cin_any h b
  rw [ha] at k1
  rw [hb] at k2
  obtain ⟨ha1, ha2⟩ := (inN_nat _ _).1 ha
  obtain ⟨hb1, hb2⟩ := (inN_nat _ _).1 hb
  have hA := h.ok.c1
  obtain ⟨ca, nm, mb, g, cap, l, rt, dp, raw, h, rfl⟩ := h
  have e1 : A.c a = ⟨rt (raw a).i.toNat, (raw a).k, (raw a).s⟩ := by
    rcases h.rel a ha1 with ⟨h1, h2⟩ | h3
    · rw [h2] at ha2; exact absurd ha2 (by decide)
    · exact h3.2.2
  have e2 : A.c b = ⟨rt (raw b).i.toNat, (raw b).k, (raw b).s⟩ := by
    rcases h.rel b hb1 with ⟨h1, h2⟩ | h3
    · rw [h2] at hb2; exact absurd hb2 (by decide)
    · exact h3.2.2
  have hres := cmpE_lt3 A a b
  rw [e1, e2] at hres
  simp only at hres
  have c0 := h.c0
  have c1 := h.c1
  have f0 := h.head.free 0
  have d1 := h.row.cellAt (a * 3 + 1) (by omega) (clCell1 raw a)
  have d2 := h.row.cellAt (a * 3 + 2) (by omega) (clCell2 raw a)
  have d3 := h.row.cellAt (b * 3 + 1) (by omega) (clCell1 raw b)
  have d4 := h.row.cellAt (b * 3 + 2) (by omega) (clCell2 raw b)
  have s := h.sep
  have hst := h.st62
  have kc := ccount_any ⟨c, 0, none⟩ st w hst c0 f0
  have kk := fun W => compare_any (raw a).k (raw a).s (raw b).k (raw b).s W
  generalize hz : cmpE (raw a).k (raw a).s (raw b).k (raw b).s = z at *
  generalize (raw a).k = ka at *
  generalize (raw a).s = sa at *
  generalize (raw b).k = kb at *
  generalize (raw b).s = sb at *
  have hcaw := h.row.lt
  have hcw := h.head.lt
  have H1 := Lib.hid (h.count 1)
  have HR := Lib.hid hres
  generalize hn : satS st 1 = st1 at *
  have u0 : Upd [c] w (w.setCell ⟨c, 0, none⟩ (.int .i64 (st1 : Int))) := by (repeat (first | assumption | exact Upd.refl _ _ | refine Upd.alloc ?_ _ | refine Upd.drew ?_ | refine Upd.drewN ?_ _ | refine Upd.setCell ?_ ?_ _ | focus (left; simp; done) | focus (right; simp; done) | focus (right; simp; omega)))
  have r1 : ∀ W, Upd [] (w.setCell ⟨c, 0, none⟩ (.int .i64 (st1 : Int))) W → W.cell? ⟨c, 1, none⟩ = some (.slice (some ⟨ca, 0, none⟩) A.cs.length A.cs.length) := fun W hW => hW.was H1.out.c1
  have r2 : ∀ W, Upd [] (w.setCell ⟨c, 0, none⟩ (.int .i64 (st1 : Int))) W → W.cell? ⟨ca, a * 3 + 1, none⟩ = some (.int .i64 ka) := fun W hW => hW.was ((u0.cell hcaw (by first | (simp; done) | (simp; omega))).trans d1)
  have r3 : ∀ W, Upd [] (w.setCell ⟨c, 0, none⟩ (.int .i64 (st1 : Int))) W → W.cell? ⟨ca, a * 3 + 2, none⟩ = some (.int .u64 sa) := fun W hW => hW.was ((u0.cell hcaw (by first | (simp; done) | (simp; omega))).trans d2)
  have r4 : ∀ W, Upd [] (w.setCell ⟨c, 0, none⟩ (.int .i64 (st1 : Int))) W → W.cell? ⟨ca, b * 3 + 1, none⟩ = some (.int .i64 kb) := fun W hW => hW.was ((u0.cell hcaw (by first | (simp; done) | (simp; omega))).trans d3)
  have r5 : ∀ W, Upd [] (w.setCell ⟨c, 0, none⟩ (.int .i64 (st1 : Int))) W → W.cell? ⟨ca, b * 3 + 2, none⟩ = some (.int .u64 sb) := fun W hW => hW.was ((u0.cell hcaw (by first | (simp; done) | (simp; omega))).trans d4)
  clear h ha hb ha2 hb2 e1 e2 hres d1 d2 d3 d4 hz hn u0
  by_cases hz1 : z < 0
  · have hd : decide (lt3 A a b) = true := by rw [← HR.out, decide_eq_true hz1]; rfl
    rw [hd]
    clear hd
    go_enter Try.func85, Try.ntmps85
    go_wp2_with (first | (go_at_call 71; (with_reducible refine (k1).mono ?_); rintro e w9 ⟨rfl, hw9⟩; rw [hw9]; clear hw9 w9) | (go_at_call 71; (with_reducible refine (k2).mono ?_); rintro e w9 ⟨rfl, hw9⟩; rw [hw9]; clear hw9 w9) | (go_at_call 105; (with_reducible refine (kc).mono ?_); rintro e w9 ⟨rfl, hw9⟩; rw [hw9]; clear hw9 w9))
    go_region_held3 (Upd [] (w.setCell ⟨c, 0, none⟩ (.int .i64 (st1 : Int)))) (repeat (first | assumption | exact Upd.refl _ _ | refine Upd.drew ?_ | refine Upd.alloc ?_ _ | (apply Upd.trans; rotate_left; assumption)))
      ((go_at_call 106; (with_reducible refine (kk _).mono ?_); rintro e w1 ⟨rfl, hu1⟩; (have hu2 : Upd [] (w.setCell ⟨c, 0, none⟩ (.int .i64 (st1 : Int))) w1 := by (repeat (first | assumption | exact Upd.refl _ _ | refine Upd.drew ?_ | refine Upd.alloc ?_ _ | (apply Upd.trans; rotate_left; assumption))))))
    go_wp2
    go_ret
    exact ⟨rfl, ⟨ca, nm, mb, g, cap, l, rt, dp, raw, H1.out.upd hu2 (by simp), rfl⟩, ((Upd.refl [c] w).setCell (Or.inl (by simp)) _).then hu2⟩
  · by_cases hz2 : z = 0
    · have hd : decide (lt3 A a b) = decide ((a : Int) < (b : Int)) := by rw [← HR.out, decide_eq_false hz1, decide_eq_true hz2]; simp
      rw [hd]
      subst hz2
      clear hd
      go_enter Try.func85, Try.ntmps85
      go_wp2_with (first | (go_at_call 71; (with_reducible refine (k1).mono ?_); rintro e w9 ⟨rfl, hw9⟩; rw [hw9]; clear hw9 w9) | (go_at_call 71; (with_reducible refine (k2).mono ?_); rintro e w9 ⟨rfl, hw9⟩; rw [hw9]; clear hw9 w9) | (go_at_call 105; (with_reducible refine (kc).mono ?_); rintro e w9 ⟨rfl, hw9⟩; rw [hw9]; clear hw9 w9))
      go_region_held3 (Upd [] (w.setCell ⟨c, 0, none⟩ (.int .i64 (st1 : Int)))) (repeat (first | assumption | exact Upd.refl _ _ | refine Upd.drew ?_ | refine Upd.alloc ?_ _ | (apply Upd.trans; rotate_left; assumption)))
        ((go_at_call 106; (with_reducible refine (kk _).mono ?_); rintro e w1 ⟨rfl, hu1⟩; (have hu2 : Upd [] (w.setCell ⟨c, 0, none⟩ (.int .i64 (st1 : Int))) w1 := by (repeat (first | assumption | exact Upd.refl _ _ | refine Upd.drew ?_ | refine Upd.alloc ?_ _ | (apply Upd.trans; rotate_left; assumption))))))
      go_wp2
      go_ret
      exact ⟨ret_bool (by simp), ⟨ca, nm, mb, g, cap, l, rt, dp, raw, H1.out.upd hu2 (by simp), rfl⟩, ((Upd.refl [c] w).setCell (Or.inl (by simp)) _).then hu2⟩
    · have hz3 : (z == 0) = false := by simpa using hz2
      have hd : decide (lt3 A a b) = false := by rw [← HR.out, decide_eq_false hz1, decide_eq_false hz2]; rfl
      rw [hd]
      clear hd hz2
      go_enter Try.func85, Try.ntmps85
      go_wp2_with (first | (go_at_call 71; (with_reducible refine (k1).mono ?_); rintro e w9 ⟨rfl, hw9⟩; rw [hw9]; clear hw9 w9) | (go_at_call 71; (with_reducible refine (k2).mono ?_); rintro e w9 ⟨rfl, hw9⟩; rw [hw9]; clear hw9 w9) | (go_at_call 105; (with_reducible refine (kc).mono ?_); rintro e w9 ⟨rfl, hw9⟩; rw [hw9]; clear hw9 w9))
      go_region_held3 (Upd [] (w.setCell ⟨c, 0, none⟩ (.int .i64 (st1 : Int)))) (repeat (first | assumption | exact Upd.refl _ _ | refine Upd.drew ?_ | refine Upd.alloc ?_ _ | (apply Upd.trans; rotate_left; assumption)))
        ((go_at_call 106; (with_reducible refine (kk _).mono ?_); rintro e w1 ⟨rfl, hu1⟩; (have hu2 : Upd [] (w.setCell ⟨c, 0, none⟩ (.int .i64 (st1 : Int))) w1 := by (repeat (first | assumption | exact Upd.refl _ _ | refine Upd.drew ?_ | refine Upd.alloc ?_ _ | (apply Upd.trans; rotate_left; assumption))))))
      go_wp2
      go_ret
      exact ⟨ret_bool (by simp; omega), ⟨ca, nm, mb, g, cap, l, rt, dp, raw, H1.out.upd hu2 (by simp), rfl⟩, ((Upd.refl [c] w).setCell (Or.inl (by simp)) _).then hu2⟩
end Go.Proofs.Ytechoojcgdjcdaa
