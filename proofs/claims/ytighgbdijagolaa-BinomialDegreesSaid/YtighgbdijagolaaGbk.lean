/-
  Binomial heaps: Nest.Decrease, Delete. Conditions: those of each lemma.
-/
import Derived.Test.YtighgbdijagolaaBn6
set_option linter.unusedVariables false
set_option linter.unusedSimpArgs false
namespace Go.Proofs.Ytighgbdijagolaa
open Go Go.RowKit

set_option maxHeartbeats 1000000 in
theorem dclos_any (W : World) (n0 c b3 b4 : Nat) (F : List Nat) (A : NS) (st x y : Nat) (h3 : W.cell? ⟨b3, 0, none⟩ = some (.pointer (some ⟨n0, 0, none⟩))) (h4 : W.cell? ⟨b4, 0, none⟩ = some (.int .i64 (x : Int))) (h0 : W.cell? ⟨n0, 0, none⟩ = some (.pointer (some ⟨c, 0, none⟩)))
    (hC : CellsAt W c F A st) (hx : inN A (x : Int) = true) (hy : inN A (y : Int) = true) (e3 : b3 ≠ c) (e4 : b4 ≠ c) (e0 : n0 ≠ c) :
    Calls Try.prog 148 #[.int .i64 (y : Int), .pointer (some ⟨b3, 0, none⟩), .pointer (some ⟨b4, 0, none⟩)] W fun e w' => e = .returned (.bool (decide (lt3 A x y))) ∧ CellsAt w' c F A (satS st 1) ∧ Upd [c] W w' := by
  have ka := fun W' (hW : Upd [] W W') => cahead_yes (hC.upd0 hW) x y hx hy
  have r3 : ∀ W', Upd [c] W W' → W'.cell? ⟨b3, 0, none⟩ = some (.pointer (some ⟨n0, 0, none⟩)) := fun W' hW => hW.kept h3 (by simpa using e3)
  have r4 : ∀ W', Upd [c] W W' → W'.cell? ⟨b4, 0, none⟩ = some (.int .i64 (x : Int)) := fun W' hW => hW.kept h4 (by simpa using e4)
  have r0 : ∀ W', Upd [c] W W' → W'.cell? ⟨n0, 0, none⟩ = some (.pointer (some ⟨c, 0, none⟩)) := fun W' hW => hW.kept h0 (by simpa using e0)
  clear hC hx hy h3 h4 h0
  generalize decide (lt3 A x y) = b at *
  go_enter Try.func148, Try.ntmps148
  go_wp2
  go_region_held3 (Upd [c] W) (repeat (first | assumption | exact Upd.refl _ _ | refine Upd.drew ?_ | refine Upd.alloc ?_ _ | refine Upd.setCell ?_ ?_ _ | focus (left; simp; done) | focus (right; simp; done) | focus (right; simp; omega) | (apply Upd.trans; rotate_left; assumption)))
    (first
      | ((go_at_call 104; (with_reducible refine (ka _ (by (repeat (first | assumption | exact Upd.refl _ _ | refine Upd.alloc ?_ _ | refine Upd.drew ?_ | refine Upd.drewN ?_ _ | refine Upd.setCell ?_ ?_ _ | focus (left; simp; done) | focus (right; simp; done) | focus (right; simp; omega))))).mono ?_)); rintro e w1 ⟨rfl, hC1, hu1⟩; (have hu2 : Upd [c] W w1 := Upd.trans (by (repeat (first | assumption | exact Upd.refl _ _ | refine Upd.drew ?_ | refine Upd.alloc ?_ _ | refine Upd.setCell ?_ ?_ _ | focus (left; simp; done) | focus (right; simp; done) | focus (right; simp; omega) | (apply Upd.trans; rotate_left; assumption)))) hu1)))
  go_wp2
  go_ret
  exact ⟨rfl, hC1.upd0 (by (repeat (first | assumption | exact Upd.refl _ _ | refine Upd.alloc ?_ _ | refine Upd.drew ?_ | refine Upd.drewN ?_ _ | refine Upd.setCell ?_ ?_ _ | focus (left; simp; done) | focus (right; simp; done) | focus (right; simp; omega)))), by (repeat (first | assumption | exact Upd.refl _ _ | refine Upd.drew ?_ | refine Upd.alloc ?_ _ | refine Upd.setCell ?_ ?_ _ | focus (left; simp; done) | focus (right; simp; done) | focus (right; simp; omega) | (apply Upd.trans; rotate_left; assumption)))⟩
theorem tclosd_any (W : World) (y : Int) : Calls Try.prog 149 #[.int .i64 y] W fun e w' => e = .returned (.bool true) ∧ w' = W := by
  go_enter Try.func149, Try.ntmps149
  go_wp2
  go_ret
  exact ⟨rfl, rfl⟩
theorem hold_true (w : World) (K : List Nat) (B : BB) (F : List Nat) (A : NS) : HoldK w K B F A 0 (fun _ => true) 149 #[] := by
  refine ⟨fun _ _ => by kernel_rfl, fun W st above hu h0 hne hC hin => ?_⟩
  refine (tclosd_any W above).mono ?_
  rintro e w' ⟨rfl, rfl⟩
  exact ⟨rfl, by rw [satS_zero hC.st62]; exact hC, Upd.refl _ _⟩
theorem hold_ahead (w : World) (K : List Nat) (B : BB) (F : List Nat) (A : NS) (b3 b4 x : Nat) (h3 : w.cell? ⟨b3, 0, none⟩ = some (.pointer (some ⟨B.n0, 0, none⟩))) (h4 : w.cell? ⟨b4, 0, none⟩ = some (.int .i64 (x : Int))) (hx : inN A (x : Int) = true) (k3 : b3 ∉ K) (k4 : b4 ∉ K) (hc : B.c ∈ K) :
    HoldK w K B F A 1 (fun y => decide (lt3 A x y)) 148 #[.pointer (some ⟨b3, 0, none⟩), .pointer (some ⟨b4, 0, none⟩)] := by
  refine ⟨fun _ _ => by kernel_rfl, fun W st above hu h0 hne hC hin => ?_⟩
  exact dclos_any W B.n0 B.c b3 b4 F A st x above (hu.kept h3 k3) (hu.kept h4 k4) h0 hC hx hin (fun e => k3 (e ▸ hc)) (fun e => k4 (e ▸ hc)) hne
section
variable {w : World} {p : Nat} {FF : List Nat} {A : NS} {st : Nat} {G : BG}
/-- What is behind a decrease: the heaps, and how often was asked. -/
def decL (A' : NS) (x : Nat) (G : BG) : BG × Nat := liftL (fun y => decide (lt3 A' x y)) 1 x A'.cs.length G
theorem dec_bn {x : Nat} {k s : Int} (I : BnI A G) (hB : lowB A x k s = true) (hx : x < A.cs.length) : BnI (lowN A x k s) (decL (lowN A x k s) x G).1 := by
  obtain ⟨X, hk⟩ := low_start I hB hx
  have hn := low_len A x k s
  have hx' : x < (lowN A x k s).cs.length := by rw [hn]; exact hx
  have E := lift_end (hp := fun y => decide (lt3 (lowN A x k s) x y)) (ct := 1) hx' (lowN A x k s).cs.length X (by omega)
  have K := liftL_kids (hp := fun y => decide (lt3 (lowN A x k s) x y)) (ct := 1) hx' (fun p _ h => of_decide_eq_true h) (lowN A x k s).cs.length X (by rw [hn]; exact hk)
  refine E.1.done hx' K (fun p hp => ?_)
  rcases E.2 with h | ⟨p', h1, h2⟩
  · have hp : (decL (lowN A x k s) x G).1.F.u x = p := hp
    have h : (decL (lowN A x k s) x G).1.F.u x = -1 := h
    omega
  · have hp : (decL (lowN A x k s) x G).1.F.u x = p := hp
    have h1 : (decL (lowN A x k s) x G).1.F.u x = p' := h1
    obtain rfl : p = p' := by omega
    have hne : x ≠ p := fun e => by
      subst e
      exact E.1.fh.f.self hx' (E.1.fh.f.above hx' h1).2
    exact (lt3_total hne).resolve_left (of_decide_eq_false h2)
set_option maxHeartbeats 4000000 in
theorem bdec_yes (h : BnK w p FF A st G) (x : Nat) (k s : Int) (hk : -9223372036854775808 ≤ k ∧ k ≤ 9223372036854775807 ∧ 0 ≤ s ∧ s ≤ 18446744073709551615) (hB : lowB A x k s = true) :
    Calls Try.prog 140 #[.pointer (some ⟨p, 0, none⟩), .int .i64 (x : Int), .agg #[.int .i64 k, .int .u64 s]] w fun e w' => e = .returned (.bool true) ∧
      Goes FF w w' (fun FF' => BnK w' p FF' (lowN A x k s) (satS st (decL (lowN A x k s) x G).2) (decL (lowN A x k s) x G).1) := by
  obtain ⟨⟨B, F, gr, cr, lo, S, vs, rfl, rfl, M, eF⟩, I⟩ := h
  have hin := low_in hB
  obtain ⟨hx, hhome⟩ := (inN_nat _ _).1 hin
  obtain ⟨X, -⟩ := low_start I hB hx
  have I2 := dec_bn I hB hx
  have hcs := low_len A (x : Int) k s
  have hhs := low_hs A (x : Int) k s
  have hix := low_i hB hx x
  have hin2 : inN (lowN A x k s) (x : Int) = true := (inN_nat _ _).2 ⟨by omega, by omega⟩
  have hasq := inN_has M.cells.ok hin
  rw [Int.toNat_natCast] at hasq
  obtain ⟨q, hq0, hq1, hqv⟩ := M.hq hasq
  obtain ⟨w3, hw3⟩ : ∃ w3, w3 = ((w.alloc (.cells #[.pointer (some ⟨B.n0, 0, none⟩)] 23)).alloc (.cells #[.int .i64 (x : Int)] 3)).alloc (.cells #[.int .i64 k, .int .u64 s] 57) := ⟨_, rfl⟩
  have u3 : Upd [] w w3 := by rw [hw3]; (repeat (first | assumption | exact Upd.refl _ _ | refine Upd.alloc ?_ _ | refine Upd.drew ?_ | refine Upd.drewN ?_ _ | refine Upd.setCell ?_ ?_ _ | focus (left; simp; done) | focus (right; simp; done) | focus (right; simp; omega)))
  have s3 : w3.heap.size = w.heap.size + 3 := by rw [hw3]; simp
  have b3 : w3.cell? ⟨w.heap.size, 0, none⟩ = some (.pointer (some ⟨B.n0, 0, none⟩)) := by rw [hw3]; go_simp
  have b4 : w3.cell? ⟨w.heap.size + 1, 0, none⟩ = some (.int .i64 (x : Int)) := by rw [hw3]; go_simp
  have b5 : w3.cell? ⟨w.heap.size + 1 + 1, 0, none⟩ = some (.int .i64 k) := by rw [hw3]; go_simp
  have b6 : w3.cell? ⟨w.heap.size + 1 + 1, 1, none⟩ = some (.int .u64 s) := by rw [hw3]; go_simp
  have nF : ∀ j, w.heap.size + j ∉ F := fun j hm => by have := M.cells.lt _ hm; omega
  have kl := fun W (hW : Upd [] w3 W) => clower_yes (M.cells.upd0 (u3.trans hW)) x k s hk hB
  have h0 := u3.was M.h0
  have hbF := M.d1.1
  have r0 : ∀ W, Upd F w3 W → W.cell? ⟨B.n0, 0, none⟩ = some (.pointer (some ⟨B.c, 0, none⟩)) := fun W hW => hW.kept h0 hbF
  have r3 : ∀ W, Upd F w3 W → W.cell? ⟨w.heap.size, 0, none⟩ = some (.pointer (some ⟨B.n0, 0, none⟩)) := fun W hW => hW.kept b3 (nF 0)
  have r4 : ∀ W, Upd F w3 W → W.cell? ⟨w.heap.size + 1, 0, none⟩ = some (.int .i64 (x : Int)) := fun W hW => hW.kept b4 (nF 1)
  have r5 : ∀ W, Upd F w3 W → W.cell? ⟨w.heap.size + 1 + 1, 0, none⟩ = some (.int .i64 k) := fun W hW => hW.kept b5 (nF 2)
  have r6 : ∀ W, Upd F w3 W → W.cell? ⟨w.heap.size + 1 + 1, 1, none⟩ = some (.int .u64 s) := fun W hW => hW.kept b6 (nF 2)
  have HM := Lib.hid M
  have HI := Lib.hid (And.intro X (And.intro I2 (And.intro eF (And.intro hcs (And.intro hhs hin2)))))
  have HW := Lib.hid hw3
  clear M I X I2 eF hcs hhs hin hasq h0 b3 b4 b5 b6 hB nF hw3
  generalize hA' : lowN A (x : Int) k s = A' at *
  rw [hq0] at hix
  go_enter Try.func140, Try.ntmps140
  go_wp2
  rw [← HW.out]
  go_region_held3 (Upd F w3) (repeat (first | assumption | exact Upd.refl _ _ | refine Upd.drew ?_ | refine Upd.alloc ?_ _ | refine Upd.setCell ?_ ?_ _ | focus (left; simp; done) | focus (right; simp; done) | focus (right; simp; omega) | (apply Upd.trans; rotate_left; assumption)))
    (first
      | ((go_at_call 146; (with_reducible refine (kl _ (by (repeat (first | assumption | exact Upd.refl _ _ | refine Upd.alloc ?_ _ | refine Upd.drew ?_ | refine Upd.drewN ?_ _ | refine Upd.setCell ?_ ?_ _ | focus (left; simp; done) | focus (right; simp; done) | focus (right; simp; omega))))).mono ?_)); rintro e w4 ⟨rfl, hC4, hu4⟩; (have hu4b : Upd F w3 w4 := Upd.trans (by (repeat (first | assumption | exact Upd.refl _ _ | refine Upd.drew ?_ | refine Upd.alloc ?_ _ | refine Upd.setCell ?_ ?_ _ | focus (left; simp; done) | focus (right; simp; done) | focus (right; simp; omega) | (apply Upd.trans; rotate_left; assumption)))) hu4)))
  have kh := fun W (hW : Upd [] w4 W) => chome_yes (hC4.upd0 hW) x HI.out.2.2.2.2.2
  rw [hix] at kh
  go_wp2
  go_region_held3 (Upd F w3) (repeat (first | assumption | exact Upd.refl _ _ | refine Upd.drew ?_ | refine Upd.alloc ?_ _ | refine Upd.setCell ?_ ?_ _ | focus (left; simp; done) | focus (right; simp; done) | focus (right; simp; omega) | (apply Upd.trans; rotate_left; assumption)))
    (first
      | ((go_at_call 66; (with_reducible refine (kh _ (by (repeat (first | assumption | exact Upd.refl _ _ | refine Upd.alloc ?_ _ | refine Upd.drew ?_ | refine Upd.drewN ?_ _ | refine Upd.setCell ?_ ?_ _ | focus (left; simp; done) | focus (right; simp; done) | focus (right; simp; omega))))).mono ?_)); rintro e w5 ⟨rfl, hC5, hu5⟩; (have hu5b : Upd F w3 w5 := Upd.trans (by (repeat (first | assumption | exact Upd.refl _ _ | refine Upd.drew ?_ | refine Upd.alloc ?_ _ | refine Upd.setCell ?_ ?_ _ | focus (left; simp; done) | focus (right; simp; done) | focus (right; simp; omega) | (apply Upd.trans; rotate_left; assumption)))) hu5)))
  have hM5 := (HM.out.upd0 u3).setC hu5b hC5 (fun y hy => Or.inl hy) HI.out.2.2.2.1 (by rw [HI.out.2.2.2.2.1])
  have g3 := r3 w5 hu5b
  have g4 := r4 w5 hu5b
  have hlt := HM.out.lt
  have hcs := HI.out.2.2.2.1
  have hKK : ∀ j, w.heap.size + j ∉ B.blk F gr A'.cs.length S vs := fun j hm => by rw [hcs] at hm; have := hlt _ hm; omega
  have H5 := fun (W : World) (hW : Upd [] w5 W) => hold_ahead W (B.blk F gr A'.cs.length S vs) B F A' w.heap.size (w.heap.size + 1) x (hW.was g3) (hW.was g4) HI.out.2.2.2.2.2 (hKK 0) (hKK 1) (blk_F _ HM.out.cells.mem)
  have kL := fun W (hW : Upd [] w5 W) => blift_any (hM5.upd0 hW) HI.out.2.2.1 HI.out.1 (by omega) (by rw [hix]; omega) hix hqv (H5 W hW)
  have HM5 := Lib.hid hM5
  clear hM5 hC5 hC4 kh kl r0 r5 r6 hlt hKK r3 r4
  go_wp2_with (first
    | ((go_at_call 147; (with_reducible refine (kL _ (by (repeat (first | assumption | exact Upd.refl _ _ | refine Upd.alloc ?_ _ | refine Upd.drew ?_ | refine Upd.drewN ?_ _ | refine Upd.setCell ?_ ?_ _ | focus (left; simp; done) | focus (right; simp; done) | focus (right; simp; omega))))).mono ?_)); rintro e w6 ⟨rfl, S6, hM6, hF6, hu6, hb6⟩)
    | fail)
  go_ret
  have hcs := HI.out.2.2.2.1
  have uw : Upd (B.blk F gr A.cs.length S vs) w w6 := by
    rw [hcs] at hu6
    exact ((u3.mono (by simp)).trans (hu5b.mono blk_F)).trans (Upd.trans (by (repeat (first | assumption | exact Upd.refl _ _ | refine Upd.drew ?_ | refine Upd.alloc ?_ _ | refine Upd.setCell ?_ ?_ _ | focus (left; simp; done) | focus (right; simp; done) | focus (right; simp; omega) | (apply Upd.trans; rotate_left; assumption)))) hu6)
  refine ⟨rfl, B.blk F gr A'.cs.length S6 vs, ⟨⟨B, F, gr, cr, lo, S6, vs, rfl, rfl, hM6, hF6⟩, HI.out.2.1⟩, uw, fun y hy => Or.inl ?_⟩
  rw [hcs] at hy hb6
  simp only [BB.blk, List.mem_cons, List.mem_append] at hy ⊢
  rcases hy with e | e | e | e | e | e | e
  · exact Or.inl e
  · exact Or.inr (Or.inl e)
  · exact Or.inr (Or.inr (Or.inl e))
  · exact Or.inr (Or.inr (Or.inr (Or.inl e)))
  · exact Or.inr (Or.inr (Or.inr (Or.inr (Or.inl e))))
  · exact Or.inr (Or.inr (Or.inr (Or.inr (Or.inr (Or.inl (hb6 y e))))))
  · exact Or.inr (Or.inr (Or.inr (Or.inr (Or.inr (Or.inr e)))))
theorem bdec_no (h : BnK w p FF A st G) (x k s : Int) (hB : lowB A x k s = false) :
    Calls Try.prog 140 #[.pointer (some ⟨p, 0, none⟩), .int .i64 x, .agg #[.int .i64 k, .int .u64 s]] w fun e w' => e = .returned (.bool false) ∧ Upd [] w w' := by
  obtain ⟨⟨B, F, gr, cr, lo, S, vs, rfl, rfl, M, eF⟩, I⟩ := h
  obtain ⟨w3, hw3⟩ : ∃ w3, w3 = ((w.alloc (.cells #[.pointer (some ⟨B.n0, 0, none⟩)] 23)).alloc (.cells #[.int .i64 x] 3)).alloc (.cells #[.int .i64 k, .int .u64 s] 57) := ⟨_, rfl⟩
  have u3 : Upd [] w w3 := by rw [hw3]; (repeat (first | assumption | exact Upd.refl _ _ | refine Upd.alloc ?_ _ | refine Upd.drew ?_ | refine Upd.drewN ?_ _ | refine Upd.setCell ?_ ?_ _ | focus (left; simp; done) | focus (right; simp; done) | focus (right; simp; omega)))
  have b3 : w3.cell? ⟨w.heap.size, 0, none⟩ = some (.pointer (some ⟨B.n0, 0, none⟩)) := by rw [hw3]; go_simp
  have b4 : w3.cell? ⟨w.heap.size + 1, 0, none⟩ = some (.int .i64 x) := by rw [hw3]; go_simp
  have b5 : w3.cell? ⟨w.heap.size + 1 + 1, 0, none⟩ = some (.int .i64 k) := by rw [hw3]; go_simp
  have b6 : w3.cell? ⟨w.heap.size + 1 + 1, 1, none⟩ = some (.int .u64 s) := by rw [hw3]; go_simp
  have kl := fun W (hW : Upd [] w3 W) => clower_no (M.cells.upd0 (u3.trans hW)) x k s hB
  have h0 := u3.was M.h0
  have r0 : ∀ W, Upd [] w3 W → W.cell? ⟨B.n0, 0, none⟩ = some (.pointer (some ⟨B.c, 0, none⟩)) := fun W hW => hW.was h0
  have r3 : ∀ W, Upd [] w3 W → W.cell? ⟨w.heap.size, 0, none⟩ = some (.pointer (some ⟨B.n0, 0, none⟩)) := fun W hW => hW.was b3
  have r4 : ∀ W, Upd [] w3 W → W.cell? ⟨w.heap.size + 1, 0, none⟩ = some (.int .i64 x) := fun W hW => hW.was b4
  have r5 : ∀ W, Upd [] w3 W → W.cell? ⟨w.heap.size + 1 + 1, 0, none⟩ = some (.int .i64 k) := fun W hW => hW.was b5
  have r6 : ∀ W, Upd [] w3 W → W.cell? ⟨w.heap.size + 1 + 1, 1, none⟩ = some (.int .u64 s) := fun W hW => hW.was b6
  have HW := Lib.hid hw3
  clear M I eF h0 b3 b4 b5 b6 hB hw3
  go_enter Try.func140, Try.ntmps140
  go_wp2
  rw [← HW.out]
  go_region_held3 (Upd [] w3) (repeat (first | assumption | exact Upd.refl _ _ | refine Upd.drew ?_ | refine Upd.alloc ?_ _ | refine Upd.setCell ?_ ?_ _ | focus (left; simp; done) | focus (right; simp; done) | focus (right; simp; omega) | (apply Upd.trans; rotate_left; assumption)))
    (first
      | ((go_at_call 146; (with_reducible refine (kl _ (by (repeat (first | assumption | exact Upd.refl _ _ | refine Upd.alloc ?_ _ | refine Upd.drew ?_ | refine Upd.drewN ?_ _ | refine Upd.setCell ?_ ?_ _ | focus (left; simp; done) | focus (right; simp; done) | focus (right; simp; omega))))).mono ?_)); rintro e w4 ⟨rfl, hu4⟩; (have hu4b : Upd [] w3 w4 := Upd.trans (by (repeat (first | assumption | exact Upd.refl _ _ | refine Upd.drew ?_ | refine Upd.alloc ?_ _ | refine Upd.setCell ?_ ?_ _ | focus (left; simp; done) | focus (right; simp; done) | focus (right; simp; omega) | (apply Upd.trans; rotate_left; assumption)))) hu4)))
  go_wp2
  go_ret
  exact ⟨rfl, u3.trans (by (repeat (first | assumption | exact Upd.refl _ _ | refine Upd.drew ?_ | refine Upd.alloc ?_ _ | refine Upd.setCell ?_ ?_ _ | focus (left; simp; done) | focus (right; simp; done) | focus (right; simp; omega) | (apply Upd.trans; rotate_left; assumption))))⟩
/-- What is behind a delete: the heaps as they are when the slot is at the top. -/
def delL (A : NS) (x : Nat) (G : BG) : BG × Nat := liftL (fun _ => true) 0 x A.cs.length G
def delG (A : NS) (x : Nat) (G : BG) : BG := takeG A (A.c x).i.toNat x (delL A x G).1
def delQ (A : NS) (x : Nat) (G : BG) : Nat := (delL A x G).2 + takeQ A (A.c x).i.toNat x (delL A x G).1
theorem del_top {x : Nat} (I : BnI A G) (hx : x < A.cs.length) : BnX A (delL A x G).1 x ∧ (delL A x G).1.F.u x = -1 := by
  have E := lift_end (hp := fun _ => true) (ct := 0) hx A.cs.length (I.x hx) (by omega)
  refine ⟨E.1, ?_⟩
  rcases E.2 with h | ⟨p, _, h⟩
  · exact h
  · cases h
set_option maxHeartbeats 2000000 in
theorem bdel_yes (h : BnK w p FF A st G) (x : Nat) (hin : inN A (x : Int) = true) :
    Calls Try.prog 141 #[.pointer (some ⟨p, 0, none⟩), .int .i64 (x : Int)] w fun e w' => e = .returned (.bool true) ∧
      Goes FF w w' (fun FF' => BnK w' p FF' (dropN A x) (satS st (delQ A x G)) (delG A x G)) := by
  obtain ⟨⟨B, F, gr, cr, lo, S, vs, rfl, rfl, M, eF⟩, I⟩ := h
  obtain ⟨hx, hhome⟩ := (inN_nat _ _).1 hin
  obtain ⟨X1, hr1⟩ := del_top I hx
  have hasq := inN_has M.cells.ok hin
  rw [Int.toNat_natCast] at hasq
  obtain ⟨q, hq0, hq1, hqv⟩ := M.hq hasq
  have T := (take_bn X1 M.cells.ok hx hr1 hhome hq0).1
  have eq : (A.c x).i.toNat = q := by omega
  have kh := chome_yes M.cells x hin
  rw [hq0] at kh
  have h0 := M.h0
  have kL := fun W (hM : BnM W B F gr cr lo A st S vs G.R) => blift_any hM eF (I.x hx) hx hhome hq0 hqv (hold_true W (B.blk F gr A.cs.length S vs) B F A)
  have kT := fun W S' (hM : BnM W B F gr cr lo A (satS st (delL A x G).2) S' vs (delL A x G).1.R) (e : S'.f = (delL A x G).1.F) => btake_any hM e X1 hx hr1 hhome hq0 hqv
  have HM := Lib.hid M
  have HI := Lib.hid (And.intro T eq)
  clear M I X1 hr1 hasq T eF eq hin
  go_enter Try.func141, Try.ntmps141
  go_wp2_with (first
    | ((go_at_call 66; (with_reducible refine (kh).mono ?_)); rintro e w1 ⟨rfl, hC1, hu1⟩; (have hM1 := HM.out.setC hu1 hC1 (fun y hy => Or.inl hy) rfl rfl); (have kL1 := kL _ hM1); (have hs1 := hu1.size); (have HM1 := Lib.hid hM1); clear hM1)
    | ((go_at_call 147; (with_reducible refine (kL1).mono ?_)); rintro e w2 ⟨rfl, S2, hM2, hF2, hu2, hb2⟩; (have kT2 := kT _ S2 hM2 hF2); (have hs2 := hu2.size))
    | ((go_at_call 150; (with_reducible refine (kT2).mono ?_)); rintro e w3 ⟨rfl, FF3, hK3, hu3, hf3⟩)
    | fail)
  go_ret
  have kb : ∀ y, y ∈ B.blk F gr A.cs.length S2 vs → y ∈ B.blk F gr A.cs.length S vs := fun y hy => by
    simp only [BB.blk, List.mem_cons, List.mem_append] at hy ⊢
    rcases hy with e | e | e | e | e | e | e
    · exact Or.inl e
    · exact Or.inr (Or.inl e)
    · exact Or.inr (Or.inr (Or.inl e))
    · exact Or.inr (Or.inr (Or.inr (Or.inl e)))
    · exact Or.inr (Or.inr (Or.inr (Or.inr (Or.inl e))))
    · exact Or.inr (Or.inr (Or.inr (Or.inr (Or.inr (Or.inl (hb2 y e))))))
    · exact Or.inr (Or.inr (Or.inr (Or.inr (Or.inr (Or.inr e)))))
  rw [satS_add] at hK3
  refine ⟨rfl, FF3, ?_, ((hu1.mono blk_F).trans hu2).trans (hu3.mono kb), fun y hy => ?_⟩
  · unfold delQ delG
    rw [HI.out.2]
    exact ⟨hK3, HI.out.1⟩
  · rcases hf3 y hy with h' | h'
    · exact Or.inl (kb y h')
    · exact Or.inr (by omega)
theorem bdel_no (h : BnK w p FF A st G) (x : Int) (hin : inN A x = false) :
    Calls Try.prog 141 #[.pointer (some ⟨p, 0, none⟩), .int .i64 x] w fun e w' => e = .returned (.bool false) ∧ w' = w := by
  obtain ⟨⟨B, F, gr, cr, lo, S, vs, rfl, rfl, M, eF⟩, I⟩ := h
  have kh := chome_no M.cells x hin
  have h0 := M.h0
  clear M I eF hin
  go_enter Try.func141, Try.ntmps141
  go_wp2_with ((go_at_call 66; (with_reducible refine (kh).mono ?_); rintro e w9 ⟨rfl, hw9⟩; rw [hw9]; clear hw9 w9))
  go_ret
  exact ⟨rfl, rfl⟩
end
end Go.Proofs.Ytighgbdijagolaa

set_option linter.unusedVariables false
set_option linter.unusedSimpArgs false
namespace Go.Proofs.Ytighgbdijagolaa
open Go Go.RowKit

theorem rowInfo : (Try.prog.info? 63).map (fun i => (i.zero, i.size, i.bytes)) = some (some (.slice none 0 0), 1, 24) := by kernel_rfl
theorem bn_far {A : NS} {G : BG} (I : BnI A G) (ok : A.Ok) : G.R A.hs.length = [] := by
  cases e : G.R A.hs.length with
  | nil => rfl
  | cons x t =>
    have hx : x ∈ G.R A.hs.length := by rw [e]; simp
    obtain ⟨y, _, hy, _, hh, _⟩ := bn_in I hx
    have := ok.nat y hy
    omega
theorem getD_snoc (vs : List Value) (v : Value) (k : Nat) : (vs ++ [v]).getD k undef = if k < vs.length then vs.getD k undef else if k = vs.length then v else undef := by
  simp only [List.getD_eq_getElem?_getD]
  by_cases e : k < vs.length
  · rw [List.getElem?_append_left e, if_pos e]
  · rw [List.getElem?_append_right (by omega), if_neg e]
    by_cases e2 : k = vs.length
    · subst e2; simp
    · rw [if_neg e2, List.getElem?_eq_none (by simp; omega)]; rfl
section
variable {w : World} {p : Nat} {FF : List Nat} {A : NS} {st : Nat} {G : BG}
set_option maxHeartbeats 2000000 in
theorem bmake_any (h : BnK w p FF A st G) :
    Calls Try.prog 42 #[.pointer (some ⟨p, 0, none⟩)] w fun e w' => e = .returned (.int .i64 (makeV A)) ∧ Goes FF w w' (fun FF' => BnK w' p FF' (makeN A) st G) := by
  obtain ⟨⟨B, F, gr, cr, lo, S, vs, rfl, rfl, M, eF⟩, I⟩ := h
  have k := cmake_any M.cells
  have h0 := M.h0
  have I2 := bn_make I
  by_cases hl : 65536 < A.hs.length
  · have e1 : makeV A = 0 := by unfold makeV; rw [if_pos hl]
    have e2 : makeN A = A := by unfold makeN; rw [if_pos hl]
    rw [e1, e2] at k
    rw [e1, e2]
    have HM := Lib.hid M
    have HI := Lib.hid (And.intro I eF)
    clear M I eF e1 e2 I2
    go_enter Try.func42, Try.ntmps42
    go_wp2_with ((go_at_call 68; (with_reducible refine (k).mono ?_)); rintro e w1 ⟨rfl, F1, hC, hu, hF⟩)
    go_ret
    refine ⟨rfl, B.blk F1 gr A.cs.length S vs, ⟨⟨B, F1, gr, cr, lo, S, vs, rfl, rfl, HM.out.setC hu hC hF rfl rfl, HI.out.2⟩, HI.out.1⟩, hu.mono blk_F, fun y hy => ?_⟩
    simp only [BB.blk, List.mem_cons, List.mem_append] at hy ⊢
    rcases hy with e | e | e | e | e | e | e
    · exact Or.inl (Or.inl e)
    · exact Or.inl (Or.inr (Or.inl e))
    · exact Or.inl (Or.inr (Or.inr (Or.inl e)))
    · exact Or.inl (Or.inr (Or.inr (Or.inr (Or.inl e))))
    · rcases hF y e with h' | h'
      · exact Or.inl (Or.inr (Or.inr (Or.inr (Or.inr (Or.inl h')))))
      · exact Or.inr h'
    · exact Or.inl (Or.inr (Or.inr (Or.inr (Or.inr (Or.inr (Or.inl e))))))
    · exact Or.inl (Or.inr (Or.inr (Or.inr (Or.inr (Or.inr (Or.inr e))))))
  · have e1 : makeV A = A.hs.length := by unfold makeV; rw [if_neg hl]
    rw [e1] at k
    rw [e1]
    have hcs : (makeN A).cs.length = A.cs.length := by rw [make_cs]
    have hhs : (makeN A).hs.length = A.hs.length + 1 := by unfold makeN; rw [if_neg hl]; simp
    have hh0 := M.cells.ok.h0
    have hvl : vs.length ≤ 65536 := by rw [M.len]; omega
    have hlen := M.len
    have hpos : (0 : Int) < (A.hs.length : Int) := by omega
    have HM := Lib.hid M
    have HI := Lib.hid (And.intro I2 (And.intro eF (And.intro (bn_far I M.cells.ok) hlen)))
    clear M I e1 I2 eF hlen
    go_enter Try.func42, Try.ntmps42
    go_wp2_with (first
      | ((go_at_call 68; (with_reducible refine (k).mono ?_)); rintro e w1 ⟨rfl, F1, hC, hu, hF⟩; (have d3 := hu.kept HM.out.h2 HM.out.d1.1); (have f3 := hu.keptF HM.out.h2 HM.out.d1.1 (HM.out.head.free 2)); (have ho1 := owns_upd HM.out.rows hu (fun g hg => by simp [Value.ownBlock] at hg; subst hg; exact HM.out.d1.2.2.2)); (have g0 : B.n0 ≠ gr := HM.out.d2.2.2.1); (have gl := Nat.lt_of_lt_of_le HM.out.gr_lt hu.size))
      | ((at_builtin; refine wpList_append_sep rfl _ _ 30 rfl 0 63 (.slice none 0 0) 1 24 Try.underlying30 rowInfo rfl (by decide) _ _ _ rfl (ho1) [.slice none 0 0] rfl (by simp [Value.oneCell']) (by first | rfl | (rw [World.size_alloc]; rfl)) (by unfold maxLen; omega) (by omega) (by omega) ?_; intro v2 w2 ho2 hu2 hsep2); (have hu2 : Upd [gr] w1 w2 := hu2); obtain ⟨gr1, cr1, ev, _⟩ := own_shape ho2 (by omega); subst ev; (have d4 := hu2.kept d3 (by simp; omega)); (have f4 := hu2.keptF d3 (by simp; omega) f3)))
    go_ret
    have hM := HM.out
    have hlt := hM.lt
    have f := hM.d1
    have q := hM.d2
    have hws := hu.size
    have hw3 : Upd [B.n0] w2 (w2.setCell ⟨B.n0, 2, none⟩ (.slice (some ⟨gr1, 0, none⟩) (vs.length + 1) cr1)) := by (repeat (first | assumption | exact Upd.refl _ _ | refine Upd.alloc ?_ _ | refine Upd.drew ?_ | refine Upd.drewN ?_ _ | refine Upd.setCell ?_ ?_ _ | focus (left; simp; done) | focus (right; simp; done) | focus (right; simp; omega)))
    have hg1 : gr1 = gr ∨ w1.heap.size < gr1 := by
      rcases hsep2 with h | h
      · exact Or.inl (Option.some.inj h)
      · exact Or.inr (h gr1 rfl)
    have hC1 := hC.lt
    have l0 := hlt B.n0 (by simp [BB.blk])
    have l1 := hlt B.bt (by simp [BB.blk])
    have l2 := hlt B.ba (by simp [BB.blk])
    have l4 := hM.gr_lt
    have hnF : ∀ y, y < w.heap.size → y ∉ F → y ∉ F1 := fun y hy hn hm => by rcases hF y hm with h' | h'; exact hn h'; omega
    have hgF : gr1 ∉ F1 := by
      rcases hg1 with e | e
      · rw [e]; exact hnF gr l4 f.2.2.2
      · exact fun hm => by have := hC1 gr1 hm; omega
    have hgn : ∀ y, y < w.heap.size → y ≠ gr → y ≠ gr1 := fun y hy hn e => by
      rcases hg1 with e2 | e2
      · exact hn (e.trans e2)
      · omega
    have hcs := hcs
    have hv : (vs ++ [Value.slice none 0 0]).length = vs.length + 1 := by simp
    have hin := HI.out.2.2.1
    have hhd := ((hM.head.upd hu f.1).upd hu2 (by simp; omega)).set 2 (.slice (some ⟨gr1, 0, none⟩) (vs.length + 1) cr1)
    have oldv : ∀ j, j < vs.length + 1 → ∀ g, ((vs ++ [Value.slice none 0 0]).getD j undef).ownBlock = some g → j < vs.length ∧ (vs.getD j undef).ownBlock = some g := fun j hj g hg => by
      rw [getD_snoc] at hg
      by_cases e : j < vs.length
      · rw [if_pos e] at hg; exact ⟨e, hg⟩
      · rw [if_neg e, if_pos (by omega)] at hg; cases hg
    have hBM : BnM (w2.setCell ⟨B.n0, 2, none⟩ (.slice (some ⟨gr1, 0, none⟩) (vs.length + 1) cr1)) B F1 gr1 cr1 lo (makeN A) st S (vs ++ [.slice none 0 0]) G.R := by
      refine ⟨?_, ?_, ?_, ?_, by rw [hv, hhs, HI.out.2.2.2], fun j hj => ?_, ⟨hnF _ l0 f.1, hnF _ l1 f.2.1, hnF _ l2 f.2.2.1, hgF⟩, ⟨q.1, q.2.1, hgn _ l0 q.2.2.1, hgn _ l1 q.2.2.2.1, hgn _ l2 q.2.2.2.2⟩, fun g hg => ?_, fun j g hj hg => ?_, fun j k g hj hk hne hg => ?_⟩
      · rw [hv]
        refine hhd.ext (fun j hj => ?_)
        rcases (by omega : j = 0 ∨ j = 1 ∨ j = 2) with rfl | rfl | rfl <;> rfl
      · exact (hC.upd hu2 (fun y hy => by simp at hy; rw [hy]; exact hnF gr l4 f.2.2.2)).upd hw3 (fun y hy => by simp at hy; rw [hy]; exact hnF _ l0 f.1)
      · rw [hcs]
        exact ((hM.cubes.upd hu f.2.1 f.2.2.1 (fun g hg => (hM.d3 g hg).2.2)).upd hu2 (by simp; exact q.2.2.2.1) (by simp; exact q.2.2.2.2) (fun g hg hm => by simp at hm; exact (hM.d3 g hg).2.1 hm)).upd hw3 (by simp; exact Ne.symm q.1) (by simp; exact Ne.symm q.2.1) (fun g hg hm => by simp at hm; exact (hM.d3 g hg).1 hm)
      · rw [hv]
        refine owns_upd (owns_mono ho2 (Nat.zero_le _)) hw3 (fun g hg hm => ?_)
        simp [Value.ownBlock] at hg hm
        exact hgn _ l0 q.2.2.1 (by omega)
      · rw [hv] at hj
        rw [getD_snoc]
        by_cases e : j < vs.length
        · rw [if_pos e]
          exact (((hM.each j e).upd hu (fun g hg => (hM.d4 j g e hg).2.2.2.2.1)).upd hu2 (fun g hg hm => by simp at hm; exact (hM.d4 j g e hg).2.2.2.1 hm)).upd hw3 (fun g hg hm => by simp at hm; exact (hM.d4 j g e hg).1 hm)
        · obtain rfl : j = vs.length := by omega
          rw [if_neg e, if_pos rfl, HI.out.2.2.2, hin]
          exact OwnOff.nil _ _
      · rw [hcs] at hg
        have := hM.d3 g hg
        have hgl := (hM.cubes.blk_lo hg).2
        exact ⟨this.1, hgn g hgl this.2.1, hnF g hgl this.2.2⟩
      · rw [hv] at hj
        obtain ⟨e, hg⟩ := oldv j hj g hg
        have := hM.d4 j g e hg
        have hgl := hM.row_lt e hg
        rw [hcs]
        exact ⟨this.1, this.2.1, this.2.2.1, hgn g hgl this.2.2.2.1, hnF g hgl this.2.2.2.2.1, this.2.2.2.2.2⟩
      · rw [hv] at hj hk
        obtain ⟨e, hg⟩ := oldv j hj g hg
        intro h2
        obtain ⟨e2, h2⟩ := oldv k hk g h2
        exact hM.d5 j k g e e2 hne hg h2
    refine ⟨rfl, B.blk F1 gr1 (makeN A).cs.length S (vs ++ [.slice none 0 0]), ⟨⟨B, F1, gr1, cr1, lo, S, _, rfl, rfl, hBM, HI.out.2.1⟩, HI.out.1⟩, ((hu.mono blk_F).trans (hu2.mono (fun y hy => by simp at hy; subst hy; simp [BB.blk]))).trans (hw3.mono (fun y hy => by simp at hy; subst hy; simp [BB.blk])), fun y hy => ?_⟩
    rw [hcs] at hy
    simp only [BB.blk, List.mem_cons, List.mem_append] at hy ⊢
    rcases hy with e | e | e | e | e | e | e
    · exact Or.inl (Or.inl e)
    · exact Or.inl (Or.inr (Or.inl e))
    · exact Or.inl (Or.inr (Or.inr (Or.inl e)))
    · rcases hg1 with e2 | e2
      · exact Or.inl (Or.inr (Or.inr (Or.inr (Or.inl (e.trans e2)))))
      · exact Or.inr (by omega)
    · rcases hF y e with h' | h'
      · exact Or.inl (Or.inr (Or.inr (Or.inr (Or.inr (Or.inl h')))))
      · exact Or.inr h'
    · exact Or.inl (Or.inr (Or.inr (Or.inr (Or.inr (Or.inr (Or.inl e))))))
    · obtain ⟨j, hj, hg⟩ := mem_rblk.1 e
      rw [hv] at hj
      obtain ⟨e3, hg⟩ := oldv j hj y hg
      exact Or.inl (Or.inr (Or.inr (Or.inr (Or.inr (Or.inr (Or.inr (mem_rblk.2 ⟨j, e3, hg⟩)))))))
end
theorem bnew_no (n : Int) (w : World) (h : n < 0 ∨ 65536 < n) :
    Calls Try.prog 17 #[.int .i64 n] w fun e w' => e = .returned (.tuple #[.pointer none, .int .i64 31]) ∧ w' = w := by
  have k := cnew_no n w h
  go_enter Try.func17, Try.ntmps17
  go_wp2_with ((go_at_call 44; (with_reducible refine (k).mono ?_); rintro e w9 ⟨rfl, hw9⟩; rw [hw9]; clear hw9 w9))
  go_ret2
  exact ⟨rfl, rfl⟩
set_option maxHeartbeats 1000000 in
theorem bnew_yes (n : Nat) (w : World) (h : n ≤ 65536) :
    Calls Try.prog 17 #[.int .i64 (n : Int)] w fun e w' => ∃ p FF, e = .returned (.tuple #[.pointer (some ⟨p, 0, none⟩), .int .i64 0]) ∧ BnK w' p FF (NS.new n) 0 BG.none ∧ Upd [] w w' ∧ ∀ x, x ∈ FF → w.heap.size ≤ x := by
  have k := cnew_yes n w h
  have kc := fun W => carryNew_yes n W h
  go_enter Try.func17, Try.ntmps17
  go_wp2_with (first
    | ((go_at_call 44; (with_reducible refine (k).mono ?_)); rintro e w1 ⟨c, F, rfl, hC, hu1, hF⟩)
    | ((go_at_call 45; (with_reducible refine (kc _).mono ?_)); rintro e w2 ⟨bt, ba, rfl, hFo, hu2, hbt, hba⟩))
  go_ret2
  have hn : (NS.new n).cs.length = n := by simp [NS.new]
  obtain ⟨w3, hw3⟩ : ∃ w3, w3 = w2.alloc (.cells #[.slice none 0 0] 63) := ⟨_, rfl⟩
  have hs3 : w3.heap.size = w2.heap.size + 1 := by rw [hw3]; simp
  have u3 : Upd [] w2 w3 := by rw [hw3]; exact (Upd.refl _ _).alloc _
  have o3 : w3.ownsRow 0 63 1 (.slice (some ⟨w2.heap.size, 0, none⟩) 1 1) 1 [.slice none 0 0] := by rw [hw3]; exact own_lit w2 [.slice none 0 0] 63 0 1 1 rfl (Nat.zero_le _) (by unfold maxLen; omega)
  rw [← hw3]
  have hR := rowAt_new w3 [Value.pointer (some ⟨c, 0, none⟩), .pointer (some ⟨bt, 0, none⟩), .slice (some ⟨w2.heap.size, 0, none⟩) 1 1] 32
  rw [hs3] at hR
  have u4 : Upd [] w3 (w3.alloc (.cells #[.pointer (some ⟨c, 0, none⟩), .pointer (some ⟨bt, 0, none⟩), .slice (some ⟨w2.heap.size, 0, none⟩) 1 1] 32)) := (Upd.refl _ _).alloc _
  have z1 := hu1.size
  have z2 := hu2.size
  have hlF := hC.lt
  have hb1 := hFo.head.lt
  have hb2 := hFo.row.lt
  have hFn : ∀ y, w1.heap.size ≤ y → y ∉ F := fun y hy hm => by have := hlF y hm; omega
  have hno : ∀ m g, g ∉ CS.none.blk m := fun m g hg => by
    obtain ⟨y, _, e⟩ := (CS.mem_blk _ m g).1 hg
    cases e
  have hv0 : ∀ h, h < [Value.slice none 0 0].length → [Value.slice none 0 0].getD h undef = Value.slice none 0 0 := fun h hh => by
    have : h = 0 := by simp at hh; omega
    subst this; rfl
  have hBM : BnM (w3.alloc (.cells #[.pointer (some ⟨c, 0, none⟩), .pointer (some ⟨bt, 0, none⟩), .slice (some ⟨w2.heap.size, 0, none⟩) 1 1] 32)) ⟨w2.heap.size + 1, c, bt, ba⟩ F w2.heap.size 1 w2.heap.size (NS.new n) 0 CS.none [.slice none 0 0] BG.none.R := by
    refine ⟨hR, hC.upd0 (hu2.trans (u3.trans u4)), by rw [hn]; exact hFo.upd0 (u3.trans u4), owns_upd o3 u4 (by simp), rfl, fun h hh => by rw [hv0 h hh]; exact OwnOff.nil _ _, ⟨hFn _ (by simp only; omega), hFn _ (by simp only; omega), hFn _ (by simp only; omega), hFn _ (by omega)⟩, ⟨?_, ?_, ?_, ?_, ?_⟩, fun g hg => absurd hg (hno _ g), fun h g hh hg => (by rw [hv0 h hh] at hg; cases hg), fun h k g hh hk _ hg => (by rw [hv0 h hh] at hg; cases hg)⟩
    all_goals simp only; omega
  refine ⟨w2.heap.size + 1, _, by simp [hs3], ⟨⟨⟨w2.heap.size + 1, c, bt, ba⟩, F, w2.heap.size, 1, w2.heap.size, CS.none, [.slice none 0 0], rfl, rfl, hBM, rfl⟩, bn_new n⟩, hu1.trans (hu2.trans (u3.trans u4)), fun y hy => ?_⟩
  simp only [BB.blk, List.mem_cons, List.mem_append] at hy
  rcases hy with e | e | e | e | e | e | e
  · omega
  · omega
  · omega
  · omega
  · exact hF y e
  · exact absurd e (hno _ y)
  · obtain ⟨j, hj, hg⟩ := mem_rblk.1 e
    rw [hv0 j hj] at hg; cases hg
end Go.Proofs.Ytighgbdijagolaa

set_option linter.unusedVariables false
set_option linter.unusedSimpArgs false
namespace Go.Proofs.Ytighgbdijagolaa
open Go Go.RowKit

/-- What is behind something done, and how often slots were held against one another. -/
def stepB (A : NS) (a : AC) (G : BG) : BG × Nat :=
  if a.kind = 1 then (if putB A a.h a.x then (putG (putN A a.h a.x a.k a.s) a.h.toNat a.x.toNat G, putQ (putN A a.h a.x a.k a.s) a.h.toNat a.x.toNat G) else (G, 0))
  else if a.kind = 2 then (G, minC A G a.h)
  else if a.kind = 3 then (extG A a.h G, extC A a.h G)
  else if a.kind = 4 then (if lowB A a.x a.k a.s then decL (lowN A a.x a.k a.s) a.x.toNat G else (G, 0))
  else if a.kind = 5 then (if inN A a.x then (delG A a.x.toNat G, delQ A a.x.toNat G) else (G, 0))
  else if a.kind = 6 then (if joinB A a.h a.x then (meldG (joinN A a.h a.x) a.h.toNat a.x.toNat G, meldQ (joinN A a.h a.x) a.h.toNat a.x.toNat G) else (G, 0))
  else (G, 0)
theorem bn_via_has (p c : Nat) : ∀ W : World, W.cell? ⟨p, 0, none⟩ = some (.pointer (some ⟨c, 0, none⟩)) → (method 282 23 (.pointer (some ⟨p, 0, none⟩)) "Has").run Try.prog W = .ok (20, .pointer (some ⟨c, 0, none⟩)) W := (by intro W h; unfold method; have hm : ∃ m, (Array.find? (fun x => x.name == "Has") Try.t23.methods) = some m ∧ m.path.toList = [⟨32, 0, true⟩] ∧ m.func = some (20, true) ∧ m.path.isEmpty = false := ⟨(Array.find? (fun x => x.name == "Has") Try.t23.methods).get!, by kernel_rfl, by kernel_rfl, by kernel_rfl, by kernel_rfl⟩; obtain ⟨m, h1, h2, h3, h4⟩ := hm; go_simp; simp only [follow, Place.get]; go_simp; (try unfold receiverAt); (try simp only [Place.get]); (try go_simp))
theorem bn_via_len (p c : Nat) : ∀ W : World, W.cell? ⟨p, 0, none⟩ = some (.pointer (some ⟨c, 0, none⟩)) → (method 282 23 (.pointer (some ⟨p, 0, none⟩)) "Len").run Try.prog W = .ok (21, .pointer (some ⟨c, 0, none⟩)) W := (by intro W h; unfold method; have hm : ∃ m, (Array.find? (fun x => x.name == "Len") Try.t23.methods) = some m ∧ m.path.toList = [⟨32, 0, true⟩] ∧ m.func = some (21, true) ∧ m.path.isEmpty = false := ⟨(Array.find? (fun x => x.name == "Len") Try.t23.methods).get!, by kernel_rfl, by kernel_rfl, by kernel_rfl, by kernel_rfl⟩; obtain ⟨m, h1, h2, h3, h4⟩ := hm; go_simp; simp only [follow, Place.get]; go_simp; (try unfold receiverAt); (try simp only [Place.get]); (try go_simp))
theorem bn_via_entry (p c : Nat) : ∀ W : World, W.cell? ⟨p, 0, none⟩ = some (.pointer (some ⟨c, 0, none⟩)) → (method 282 23 (.pointer (some ⟨p, 0, none⟩)) "Entry").run Try.prog W = .ok (142, .pointer (some ⟨c, 0, none⟩)) W := (by intro W h; unfold method; have hm : ∃ m, (Array.find? (fun x => x.name == "Entry") Try.t23.methods) = some m ∧ m.path.toList = [⟨32, 0, true⟩] ∧ m.func = some (142, true) ∧ m.path.isEmpty = false := ⟨(Array.find? (fun x => x.name == "Entry") Try.t23.methods).get!, by kernel_rfl, by kernel_rfl, by kernel_rfl, by kernel_rfl⟩; obtain ⟨m, h1, h2, h3, h4⟩ := hm; go_simp; simp only [follow, Place.get]; go_simp; (try unfold receiverAt); (try simp only [Place.get]); (try go_simp))
theorem bn_via_home (p c : Nat) : ∀ W : World, W.cell? ⟨p, 0, none⟩ = some (.pointer (some ⟨c, 0, none⟩)) → (method 282 23 (.pointer (some ⟨p, 0, none⟩)) "Home").run Try.prog W = .ok (66, .pointer (some ⟨c, 0, none⟩)) W := (by intro W h; unfold method; have hm : ∃ m, (Array.find? (fun x => x.name == "Home") Try.t23.methods) = some m ∧ m.path.toList = [⟨32, 0, true⟩] ∧ m.func = some (66, true) ∧ m.path.isEmpty = false := ⟨(Array.find? (fun x => x.name == "Home") Try.t23.methods).get!, by kernel_rfl, by kernel_rfl, by kernel_rfl, by kernel_rfl⟩; obtain ⟨m, h1, h2, h3, h4⟩ := hm; go_simp; simp only [follow, Place.get]; go_simp; (try unfold receiverAt); (try simp only [Place.get]); (try go_simp))
theorem bn_via_cap (p c : Nat) : ∀ W : World, W.cell? ⟨p, 0, none⟩ = some (.pointer (some ⟨c, 0, none⟩)) → (method 282 23 (.pointer (some ⟨p, 0, none⟩)) "Capacity").run Try.prog W = .ok (18, .pointer (some ⟨c, 0, none⟩)) W := (by intro W h; unfold method; have hm : ∃ m, (Array.find? (fun x => x.name == "Capacity") Try.t23.methods) = some m ∧ m.path.toList = [⟨32, 0, true⟩] ∧ m.func = some (18, true) ∧ m.path.isEmpty = false := ⟨(Array.find? (fun x => x.name == "Capacity") Try.t23.methods).get!, by kernel_rfl, by kernel_rfl, by kernel_rfl, by kernel_rfl⟩; obtain ⟨m, h1, h2, h3, h4⟩ := hm; go_simp; simp only [follow, Place.get]; go_simp; (try unfold receiverAt); (try simp only [Place.get]); (try go_simp))
theorem bn_via_steps (p c : Nat) : ∀ W : World, W.cell? ⟨p, 0, none⟩ = some (.pointer (some ⟨c, 0, none⟩)) → (method 282 23 (.pointer (some ⟨p, 0, none⟩)) "Steps").run Try.prog W = .ok (19, .pointer (some ⟨c, 0, none⟩)) W := (by intro W h; unfold method; have hm : ∃ m, (Array.find? (fun x => x.name == "Steps") Try.t23.methods) = some m ∧ m.path.toList = [⟨32, 0, true⟩, ⟨39, 0, true⟩] ∧ m.func = some (19, true) ∧ m.path.isEmpty = false := ⟨(Array.find? (fun x => x.name == "Steps") Try.t23.methods).get!, by kernel_rfl, by kernel_rfl, by kernel_rfl, by kernel_rfl⟩; obtain ⟨m, h1, h2, h3, h4⟩ := hm; go_simp; simp only [follow, Place.get]; go_simp; (try unfold receiverAt); (try simp only [Place.get]); (try go_simp))
theorem bn_make' (p : Nat) : ∀ W : World, (method 282 23 (.pointer (some ⟨p, 0, none⟩)) "Make").run Try.prog W = .ok (42, .pointer (some ⟨p, 0, none⟩)) W := fun _ => by kernel_rfl
theorem bn_insert (p : Nat) : ∀ W : World, (method 282 23 (.pointer (some ⟨p, 0, none⟩)) "Insert").run Try.prog W = .ok (43, .pointer (some ⟨p, 0, none⟩)) W := fun _ => by kernel_rfl
theorem bn_min' (p : Nat) : ∀ W : World, (method 282 23 (.pointer (some ⟨p, 0, none⟩)) "Min").run Try.prog W = .ok (145, .pointer (some ⟨p, 0, none⟩)) W := fun _ => by kernel_rfl
theorem bn_extract (p : Nat) : ∀ W : World, (method 282 23 (.pointer (some ⟨p, 0, none⟩)) "Extract").run Try.prog W = .ok (143, .pointer (some ⟨p, 0, none⟩)) W := fun _ => by kernel_rfl
theorem bn_decrease (p : Nat) : ∀ W : World, (method 282 23 (.pointer (some ⟨p, 0, none⟩)) "Decrease").run Try.prog W = .ok (140, .pointer (some ⟨p, 0, none⟩)) W := fun _ => by kernel_rfl
theorem bn_delete (p : Nat) : ∀ W : World, (method 282 23 (.pointer (some ⟨p, 0, none⟩)) "Delete").run Try.prog W = .ok (141, .pointer (some ⟨p, 0, none⟩)) W := fun _ => by kernel_rfl
theorem bn_meld (p : Nat) : ∀ W : World, (method 282 23 (.pointer (some ⟨p, 0, none⟩)) "Meld").run Try.prog W = .ok (144, .pointer (some ⟨p, 0, none⟩)) W := fun _ => by kernel_rfl
section
variable {w : World} {p : Nat} {F : List Nat} {A : NS} {st : Nat} {G : BG}
theorem BnK.upd {w' : World} {S : List Nat} (h : BnK w p F A st G) (hu : Upd S w w') (hS : ∀ x, x ∈ S → x ∉ F) : BnK w' p F A st G := by
  obtain ⟨⟨B, F1, gr, cr, lo, S1, vs, rfl, rfl, M, eF⟩, I⟩ := h
  exact ⟨⟨B, F1, gr, cr, lo, S1, vs, rfl, rfl, M.upd hu hS, eF⟩, I⟩
theorem BnK.upd0 {w' : World} (h : BnK w p F A st G) (hu : Upd [] w w') : BnK w' p F A st G := h.upd hu (by simp)
theorem BnK.ok (h : BnK w p F A st G) : A.Ok := by
  obtain ⟨⟨B, F1, gr, cr, lo, S1, vs, rfl, rfl, M, eF⟩, I⟩ := h
  exact M.cells.ok
theorem BnK.st62 (h : BnK w p F A st G) : st ≤ 4611686018427387904 := by
  obtain ⟨⟨B, F1, gr, cr, lo, S1, vs, rfl, rfl, M, eF⟩, I⟩ := h
  exact M.cells.st62
theorem BnK.cl (h : BnK w p F A st G) : ∃ c F1, w.cell? ⟨p, 0, none⟩ = some (.pointer (some ⟨c, 0, none⟩)) ∧ CellsAt w c F1 A st := by
  obtain ⟨⟨B, F1, gr, cr, lo, S1, vs, rfl, rfl, M, eF⟩, I⟩ := h
  exact ⟨B.c, F1, M.h0, M.cells⟩
noncomputable def nestBn : NestK where
  ty := 23
  G := BG
  at_ := BnK
  cost := fun A a g => (stepB A a g).2
  next := fun A a g => (stepB A a g).1
  upd := fun h hu hS => h.upd hu hS
  lt := fun h => by
    obtain ⟨⟨B, F1, gr, cr, lo, S1, vs, rfl, rfl, M, eF⟩, I⟩ := h
    exact M.lt
  ok := fun h => h.ok
  st62 := fun h => h.st62
  idle := fun A a g h => by
    unfold stepB; rw [if_neg h.2.1, if_neg h.2.2.1, if_neg h.2.2.2.1, if_neg h.2.2.2.2.1, if_neg h.2.2.2.2.2.1, if_neg h.2.2.2.2.2.2]; exact ⟨rfl, rfl⟩
  make := fun {w p F A st g} hh x k s h => by
    refine mth_direct 42 (fun _ _ => by kernel_rfl) (bn_make' _) (fun W hW => ?_)
    have es : stepB A ⟨0, hh, x, k, s⟩ g = (g, 0) := by unfold stepB; simp
    rw [es, satS_zero h.st62]
    exact bmake_any (h.upd0 hW)
  insert := fun {w p F A st g} a ha hk h => by
    refine mth_direct 43 (fun _ _ => by kernel_rfl) (bn_insert _) (fun W hW => ?_)
    have hWK := h.upd0 hW
    have es : stepB A a g = if putB A a.h a.x then (putG (putN A a.h a.x a.k a.s) a.h.toNat a.x.toNat g, putQ (putN A a.h a.x a.k a.s) a.h.toNat a.x.toNat g) else (g, 0) := by unfold stepB; rw [if_pos hk]
    rw [es]
    cases hB : putB A a.h a.x with
    | false =>
      rw [if_neg (by simp)]
      have e2 : putN A a.h a.x a.k a.s = A := by unfold putN; rw [hB]; rfl
      rw [e2, satS_zero h.st62]
      refine (binsert_no hWK a.h a.x a.k a.s hB).mono ?_
      rintro e w' ⟨rfl, hu⟩
      exact ⟨rfl, Goes.stay (hWK.upd0 hu) (hu.mono (by simp))⟩
    | true =>
      rw [if_pos rfl]
      obtain ⟨hh, y, e1, e2⟩ := put_nat hB
      rw [e1, e2] at hB ⊢
      exact binsert_yes hWK hh y a.k a.s ha.k hB
  min := fun {w p F A st g} a ha hk h => by
    refine mth_direct 145 (fun _ _ => by kernel_rfl) (bn_min' _) (fun W hW => ?_)
    have hWK := h.upd0 hW
    have es : stepB A a g = (g, minC A g a.h) := by unfold stepB; rw [if_neg (by omega), if_pos hk]
    rw [es]
    obtain ⟨⟨B, F1, gr, cr, lo, S1, vs, rfl, rfl, M, eF⟩, I⟩ := hWK
    refine (bmin_any M I a.h).mono ?_
    rintro e w' ⟨rfl, hM2, hu⟩
    exact ⟨rfl, Goes.stay ⟨⟨B, F1, gr, cr, lo, S1, vs, rfl, rfl, hM2, eF⟩, I⟩ (hu.mono (fun y hy => by simp at hy; subst hy; exact blk_F _ M.cells.mem))⟩
  extract := fun {w p F A st g} a ha hk h => by
    refine mth_direct 143 (fun _ _ => by kernel_rfl) (bn_extract _) (fun W hW => ?_)
    have es : stepB A a g = (extG A a.h g, extC A a.h g) := by unfold stepB; rw [if_neg (by omega), if_neg (by omega), if_pos hk]
    rw [es]
    exact bextract_any (h.upd0 hW) a.h
  decrease := fun {w p F A st g} a ha hk h => by
    refine mth_direct 140 (fun _ _ => by kernel_rfl) (bn_decrease _) (fun W hW => ?_)
    have hWK := h.upd0 hW
    have es : stepB A a g = if lowB A a.x a.k a.s then decL (lowN A a.x a.k a.s) a.x.toNat g else (g, 0) := by unfold stepB; rw [if_neg (by omega), if_neg (by omega), if_neg (by omega), if_pos hk]
    rw [es]
    cases hB : lowB A a.x a.k a.s with
    | false =>
      rw [if_neg (by simp)]
      have e2 : lowN A a.x a.k a.s = A := by unfold lowN; rw [hB]; rfl
      rw [e2, satS_zero h.st62]
      refine (bdec_no hWK a.x a.k a.s hB).mono ?_
      rintro e w' ⟨rfl, hu⟩
      exact ⟨rfl, Goes.stay (hWK.upd0 hu) (hu.mono (by simp))⟩
    | true =>
      rw [if_pos rfl]
      obtain ⟨y, e2⟩ := in_nat (low_in hB)
      rw [e2] at hB ⊢
      exact bdec_yes hWK y a.k a.s ha.k hB
  delete := fun {w p F A st g} a ha hk h => by
    refine mth_direct 141 (fun _ _ => by kernel_rfl) (bn_delete _) (fun W hW => ?_)
    have hWK := h.upd0 hW
    have es : stepB A a g = if inN A a.x then (delG A a.x.toNat g, delQ A a.x.toNat g) else (g, 0) := by unfold stepB; rw [if_neg (by omega), if_neg (by omega), if_neg (by omega), if_neg (by omega), if_pos hk]
    rw [es]
    cases hin : inN A a.x with
    | false =>
      rw [if_neg (by simp)]
      have e2 : dropN A a.x = A := by unfold dropN; rw [hin]; rfl
      rw [e2, satS_zero h.st62]
      refine (bdel_no hWK a.x hin).mono ?_
      rintro e w' ⟨rfl, rfl⟩
      exact ⟨rfl, Goes.stay hWK (Upd.refl _ _)⟩
    | true =>
      rw [if_pos rfl]
      obtain ⟨y, e2⟩ := in_nat hin
      rw [e2] at hin ⊢
      exact bdel_yes hWK y hin
  meld := fun {w p F A st g} a ha hk h => by
    refine mth_direct 144 (fun _ _ => by kernel_rfl) (bn_meld _) (fun W hW => ?_)
    have hWK := h.upd0 hW
    have es : stepB A a g = if joinB A a.h a.x then (meldG (joinN A a.h a.x) a.h.toNat a.x.toNat g, meldQ (joinN A a.h a.x) a.h.toNat a.x.toNat g) else (g, 0) := by
      unfold stepB; rw [if_neg (by omega), if_neg (by omega), if_neg (by omega), if_neg (by omega), if_neg (by omega), if_pos hk]
    rw [es]
    cases hB : joinB A a.h a.x with
    | false =>
      rw [if_neg (by simp)]
      have e2 : joinN A a.h a.x = A := by unfold joinN; rw [hB]; rfl
      rw [e2, satS_zero h.st62]
      refine (bmeld_no hWK a.h a.x hB).mono ?_
      rintro e w' ⟨rfl, rfl⟩
      exact ⟨rfl, Goes.stay hWK (Upd.refl _ _)⟩
    | true =>
      rw [if_pos rfl]
      obtain ⟨y, z, e1, e2⟩ := join_nat hB
      rw [e1, e2] at hB ⊢
      exact bmeld_yes hWK y z hB
  has := fun x h => by
    obtain ⟨c, F1, h0, hC⟩ := h.cl
    exact mth_via 20 (fun _ _ => by kernel_rfl) h0 (bn_via_has _ _) (fun W hW => chas_any (hC.upd0 hW) x)
  len := fun x hx h => by
    obtain ⟨c, F1, h0, hC⟩ := h.cl
    exact mth_via 21 (fun _ _ => by kernel_rfl) h0 (bn_via_len _ _) (fun W hW => clen_any (hC.upd0 hW) x hx)
  entry := fun {w p F A st g} x h => by
    obtain ⟨c, F1, h0, hC⟩ := h.cl
    refine mth_via 142 (fun _ _ => by kernel_rfl) h0 (bn_via_entry _ _) (fun W hW => ?_)
    cases hin : inN A x with
    | false => simpa using centry_no (hC.upd0 hW) x hin
    | true =>
      obtain ⟨y, e2⟩ := in_nat hin
      rw [e2] at hin ⊢
      simpa using centry_yes (hC.upd0 hW) y hin
  home := fun {w p F A st g} x h => by
    obtain ⟨⟨B, F1, gr, cr, lo, S1, vs, rfl, rfl, M, eF⟩, I⟩ := h
    refine mth_via 66 (fun _ _ => by kernel_rfl) M.h0 (bn_via_home _ _) (fun W hW => ?_)
    have hMW := M.upd0 hW
    cases hin : inN A x with
    | false =>
      rw [if_neg (by simp)]
      refine (chome_no hMW.cells x hin).mono ?_
      rintro e w' ⟨rfl, rfl⟩
      exact ⟨rfl, Goes.stay ⟨⟨B, F1, gr, cr, lo, S1, vs, rfl, rfl, hMW, eF⟩, I⟩ (Upd.refl _ _)⟩
    | true =>
      rw [if_pos rfl]
      obtain ⟨y, e2⟩ := in_nat hin
      rw [e2] at hin ⊢
      refine (chome_yes hMW.cells y hin).mono ?_
      rintro e w' ⟨rfl, hC, hu⟩
      exact ⟨rfl, Goes.stay ⟨⟨B, F1, gr, cr, lo, S1, vs, rfl, rfl, hMW.setC hu hC (fun y hy => Or.inl hy) rfl rfl, eF⟩, I⟩ (hu.mono blk_F)⟩
  capacity := fun h => by
    obtain ⟨c, F1, h0, hC⟩ := h.cl
    exact mth_via 18 (fun _ _ => by kernel_rfl) h0 (bn_via_cap _ _) (fun W hW => ccap_any (hC.upd0 hW))
  steps := fun h => by
    obtain ⟨c, F1, h0, hC⟩ := h.cl
    exact mth_via 19 (fun _ _ => by kernel_rfl) h0 (bn_via_steps _ _) (fun W hW => csteps_any (hC.upd0 hW))
end
end Go.Proofs.Ytighgbdijagolaa
