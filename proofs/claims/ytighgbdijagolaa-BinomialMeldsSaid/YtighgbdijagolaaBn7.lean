/-
  Binomial heaps: Nest.Decrease, Delete. Conditions: those of each lemma.
-/
import Derived.Test.YtighgbdijagolaaBn6
set_option linter.unusedVariables false
set_option linter.unusedSimpArgs false
namespace Go.Proofs.Ytighgbdijagolaa
open Go Go.RowKit

set_option maxHeartbeats 1000000 in
theorem dclos_any (W : World) (n0 c b3 b4 : Nat) (F : List Nat) (A : NS) (st x y : Nat) (h3 : W.cell? ⟨b3, 0, none⟩ = some (.pointer (some ⟨n0, 0, none⟩))) (h4 : W.cell? ⟨b4, 0, none⟩ = some (.int .i64 (x : Int))) (h0 : W.cell? ⟨n0, 0, none⟩ = some (.pointer (some ⟨c, 0, none⟩)))
    (hC : CellsAt W c F A st) (hx : inN A (x : Int) = true) (hy : inN A (y : Int) = true) (e3 : b3 ≠ c) (e4 : b4 ≠ c) (e0 : n0 ≠ c) :
    Calls Try.prog 148 #[.int .i64 (y : Int), .pointer (some ⟨b3, 0, none⟩), .pointer (some ⟨b4, 0, none⟩)] W fun e w' => e = .returned (.bool (decide (lt3 A x y))) ∧ CellsAt w' c F A (satS st 1) ∧ Upd [c] W w' := by
  have ka := fun W' (hW : Upd [] W W') => cahead_yes (hC.upd0 hW) x y hx hy
  have r3 : ∀ W', Upd [c] W W' → W'.cell? ⟨b3, 0, none⟩ = some (.pointer (some ⟨n0, 0, none⟩)) := fun W' hW => hW.kept h3 (by simpa using e3)
  have r4 : ∀ W', Upd [c] W W' → W'.cell? ⟨b4, 0, none⟩ = some (.int .i64 (x : Int)) := fun W' hW => hW.kept h4 (by simpa using e4)
  have r0 : ∀ W', Upd [c] W W' → W'.cell? ⟨n0, 0, none⟩ = some (.pointer (some ⟨c, 0, none⟩)) := fun W' hW => hW.kept h0 (by simpa using e0)
  clear hC hx hy h3 h4 h0
  generalize decide (lt3 A x y) = b at *
  go_enter Try.func148, Try.ntmps148
  go_wp2
  go_region_held3 (Upd [c] W) (repeat (first | assumption | exact Upd.refl _ _ | refine Upd.drew ?_ | refine Upd.alloc ?_ _ | refine Upd.setCell ?_ ?_ _ | focus (left; simp; done) | focus (right; simp; done) | focus (right; simp; omega) | (apply Upd.trans; rotate_left; assumption)))
    (first
      | ((go_at_call 104; (with_reducible refine (ka _ (by (repeat (first | assumption | exact Upd.refl _ _ | refine Upd.alloc ?_ _ | refine Upd.drew ?_ | refine Upd.drewN ?_ _ | refine Upd.setCell ?_ ?_ _ | focus (left; simp; done) | focus (right; simp; done) | focus (right; simp; omega))))).mono ?_)); rintro e w1 ⟨rfl, hC1, hu1⟩; (have hu2 : Upd [c] W w1 := Upd.trans (by (repeat (first | assumption | exact Upd.refl _ _ | refine Upd.drew ?_ | refine Upd.alloc ?_ _ | refine Upd.setCell ?_ ?_ _ | focus (left; simp; done) | focus (right; simp; done) | focus (right; simp; omega) | (apply Upd.trans; rotate_left; assumption)))) hu1)))
  go_wp2
  go_ret
  exact ⟨rfl, hC1.upd0 (by (repeat (first | assumption | exact Upd.refl _ _ | refine Upd.alloc ?_ _ | refine Upd.drew ?_ | refine Upd.drewN ?_ _ | refine Upd.setCell ?_ ?_ _ | focus (left; simp; done) | focus (right; simp; done) | focus (right; simp; omega)))), by (repeat (first | assumption | exact Upd.refl _ _ | refine Upd.drew ?_ | refine Upd.alloc ?_ _ | refine Upd.setCell ?_ ?_ _ | focus (left; simp; done) | focus (right; simp; done) | focus (right; simp; omega) | (apply Upd.trans; rotate_left; assumption)))⟩
theorem tclosd_any (W : World) (y : Int) : Calls Try.prog 149 #[.int .i64 y] W fun e w' => e = .returned (.bool true) ∧ w' = W := by
  go_enter Try.func149, Try.ntmps149
  go_wp2
  go_ret
  exact ⟨rfl, rfl⟩
theorem hold_true (w : World) (K : List Nat) (B : BB) (F : List Nat) (A : NS) : HoldK w K B F A 0 (fun _ => true) 149 #[] := by
  refine ⟨fun _ _ => by kernel_rfl, fun W st above hu h0 hne hC hin => ?_⟩
  refine (tclosd_any W above).mono ?_
  rintro e w' ⟨rfl, rfl⟩
  exact ⟨rfl, by rw [satS_zero hC.st62]; exact hC, Upd.refl _ _⟩
theorem hold_ahead (w : World) (K : List Nat) (B : BB) (F : List Nat) (A : NS) (b3 b4 x : Nat) (h3 : w.cell? ⟨b3, 0, none⟩ = some (.pointer (some ⟨B.n0, 0, none⟩))) (h4 : w.cell? ⟨b4, 0, none⟩ = some (.int .i64 (x : Int))) (hx : inN A (x : Int) = true) (k3 : b3 ∉ K) (k4 : b4 ∉ K) (hc : B.c ∈ K) :
    HoldK w K B F A 1 (fun y => decide (lt3 A x y)) 148 #[.pointer (some ⟨b3, 0, none⟩), .pointer (some ⟨b4, 0, none⟩)] := by
  refine ⟨fun _ _ => by kernel_rfl, fun W st above hu h0 hne hC hin => ?_⟩
  exact dclos_any W B.n0 B.c b3 b4 F A st x above (hu.kept h3 k3) (hu.kept h4 k4) h0 hC hx hin (fun e => k3 (e ▸ hc)) (fun e => k4 (e ▸ hc)) hne
section
variable {w : World} {p : Nat} {FF : List Nat} {A : NS} {st : Nat} {G : BG}
/-- What is behind a decrease: the heaps, and how often was asked. -/
def decL (A' : NS) (x : Nat) (G : BG) : BG × Nat := liftL (fun y => decide (lt3 A' x y)) 1 x A'.cs.length G
theorem dec_bn {x : Nat} {k s : Int} (I : BnI A G) (hB : lowB A x k s = true) (hx : x < A.cs.length) : BnI (lowN A x k s) (decL (lowN A x k s) x G).1 := by
  obtain ⟨X, hk⟩ := low_start I hB hx
  have hn := low_len A x k s
  have hx' : x < (lowN A x k s).cs.length := by rw [hn]; exact hx
  have E := lift_end (hp := fun y => decide (lt3 (lowN A x k s) x y)) (ct := 1) hx' (lowN A x k s).cs.length X (by omega)
  have K := liftL_kids (hp := fun y => decide (lt3 (lowN A x k s) x y)) (ct := 1) hx' (fun p _ h => of_decide_eq_true h) (lowN A x k s).cs.length X (by rw [hn]; exact hk)
  refine E.1.done hx' K (fun p hp => ?_)
  rcases E.2 with h | ⟨p', h1, h2⟩
  · have hp : (decL (lowN A x k s) x G).1.F.u x = p := hp
    have h : (decL (lowN A x k s) x G).1.F.u x = -1 := h
    omega
  · have hp : (decL (lowN A x k s) x G).1.F.u x = p := hp
    have h1 : (decL (lowN A x k s) x G).1.F.u x = p' := h1
    obtain rfl : p = p' := by omega
    have hne : x ≠ p := fun e => by
      subst e
      exact E.1.fh.f.self hx' (E.1.fh.f.above hx' h1).2
    exact (lt3_total hne).resolve_left (of_decide_eq_false h2)
set_option maxHeartbeats 4000000 in
theorem bdec_yes (h : BnK w p FF A st G) (x : Nat) (k s : Int) (hk : -9223372036854775808 ≤ k ∧ k ≤ 9223372036854775807 ∧ 0 ≤ s ∧ s ≤ 18446744073709551615) (hB : lowB A x k s = true) :
    Calls Try.prog 140 #[.pointer (some ⟨p, 0, none⟩), .int .i64 (x : Int), .agg #[.int .i64 k, .int .u64 s]] w fun e w' => e = .returned (.bool true) ∧
      Goes FF w w' (fun FF' => BnK w' p FF' (lowN A x k s) (satS st (decL (lowN A x k s) x G).2) (decL (lowN A x k s) x G).1) := by
  obtain ⟨⟨B, F, gr, cr, lo, S, vs, rfl, rfl, M, eF⟩, I⟩ := h
  have hin := low_in hB
  obtain ⟨hx, hhome⟩ := (inN_nat _ _).1 hin
  obtain ⟨X, -⟩ := low_start I hB hx
  have I2 := dec_bn I hB hx
  have hcs := low_len A (x : Int) k s
  have hhs := low_hs A (x : Int) k s
  have hix := low_i hB hx x
  have hin2 : inN (lowN A x k s) (x : Int) = true := (inN_nat _ _).2 ⟨by omega, by omega⟩
  have hasq := inN_has M.cells.ok hin
  rw [Int.toNat_natCast] at hasq
  obtain ⟨q, hq0, hq1, hqv⟩ := M.hq hasq
  obtain ⟨w3, hw3⟩ : ∃ w3, w3 = ((w.alloc (.cells #[.pointer (some ⟨B.n0, 0, none⟩)] 23)).alloc (.cells #[.int .i64 (x : Int)] 3)).alloc (.cells #[.int .i64 k, .int .u64 s] 57) := ⟨_, rfl⟩
  have u3 : Upd [] w w3 := by rw [hw3]; (repeat (first | assumption | exact Upd.refl _ _ | refine Upd.alloc ?_ _ | refine Upd.drew ?_ | refine Upd.drewN ?_ _ | refine Upd.setCell ?_ ?_ _ | focus (left; simp; done) | focus (right; simp; done) | focus (right; simp; omega)))
  have s3 : w3.heap.size = w.heap.size + 3 := by rw [hw3]; simp
  have b3 : w3.cell? ⟨w.heap.size, 0, none⟩ = some (.pointer (some ⟨B.n0, 0, none⟩)) := by rw [hw3]; go_simp
  have b4 : w3.cell? ⟨w.heap.size + 1, 0, none⟩ = some (.int .i64 (x : Int)) := by rw [hw3]; go_simp
  have b5 : w3.cell? ⟨w.heap.size + 1 + 1, 0, none⟩ = some (.int .i64 k) := by rw [hw3]; go_simp
  have b6 : w3.cell? ⟨w.heap.size + 1 + 1, 1, none⟩ = some (.int .u64 s) := by rw [hw3]; go_simp
  have nF : ∀ j, w.heap.size + j ∉ F := fun j hm => by have := M.cells.lt _ hm; omega
  have kl := fun W (hW : Upd [] w3 W) => clower_yes (M.cells.upd0 (u3.trans hW)) x k s hk hB
  have h0 := u3.was M.h0
  have hbF := M.d1.1
  have r0 : ∀ W, Upd F w3 W → W.cell? ⟨B.n0, 0, none⟩ = some (.pointer (some ⟨B.c, 0, none⟩)) := fun W hW => hW.kept h0 hbF
  have r3 : ∀ W, Upd F w3 W → W.cell? ⟨w.heap.size, 0, none⟩ = some (.pointer (some ⟨B.n0, 0, none⟩)) := fun W hW => hW.kept b3 (nF 0)
  have r4 : ∀ W, Upd F w3 W → W.cell? ⟨w.heap.size + 1, 0, none⟩ = some (.int .i64 (x : Int)) := fun W hW => hW.kept b4 (nF 1)
  have r5 : ∀ W, Upd F w3 W → W.cell? ⟨w.heap.size + 1 + 1, 0, none⟩ = some (.int .i64 k) := fun W hW => hW.kept b5 (nF 2)
  have r6 : ∀ W, Upd F w3 W → W.cell? ⟨w.heap.size + 1 + 1, 1, none⟩ = some (.int .u64 s) := fun W hW => hW.kept b6 (nF 2)
  have HM := Lib.hid M
  have HI := Lib.hid (And.intro X (And.intro I2 (And.intro eF (And.intro hcs (And.intro hhs hin2)))))
  have HW := Lib.hid hw3
  clear M I X I2 eF hcs hhs hin hasq h0 b3 b4 b5 b6 hB nF hw3
  generalize hA' : lowN A (x : Int) k s = A' at *
  rw [hq0] at hix
  go_enter Try.func140, Try.ntmps140
  go_wp2
  rw [← HW.out]
  go_region_held3 (Upd F w3) (repeat (first | assumption | exact Upd.refl _ _ | refine Upd.drew ?_ | refine Upd.alloc ?_ _ | refine Upd.setCell ?_ ?_ _ | focus (left; simp; done) | focus (right; simp; done) | focus (right; simp; omega) | (apply Upd.trans; rotate_left; assumption)))
    (first
      | ((go_at_call 146; (with_reducible refine (kl _ (by (repeat (first | assumption | exact Upd.refl _ _ | refine Upd.alloc ?_ _ | refine Upd.drew ?_ | refine Upd.drewN ?_ _ | refine Upd.setCell ?_ ?_ _ | focus (left; simp; done) | focus (right; simp; done) | focus (right; simp; omega))))).mono ?_)); rintro e w4 ⟨rfl, hC4, hu4⟩; (have hu4b : Upd F w3 w4 := Upd.trans (by (repeat (first | assumption | exact Upd.refl _ _ | refine Upd.drew ?_ | refine Upd.alloc ?_ _ | refine Upd.setCell ?_ ?_ _ | focus (left; simp; done) | focus (right; simp; done) | focus (right; simp; omega) | (apply Upd.trans; rotate_left; assumption)))) hu4)))
  have kh := fun W (hW : Upd [] w4 W) => chome_yes (hC4.upd0 hW) x HI.out.2.2.2.2.2
  rw [hix] at kh
  go_wp2
  go_region_held3 (Upd F w3) (repeat (first | assumption | exact Upd.refl _ _ | refine Upd.drew ?_ | refine Upd.alloc ?_ _ | refine Upd.setCell ?_ ?_ _ | focus (left; simp; done) | focus (right; simp; done) | focus (right; simp; omega) | (apply Upd.trans; rotate_left; assumption)))
    (first
      | ((go_at_call 66; (with_reducible refine (kh _ (by (repeat (first | assumption | exact Upd.refl _ _ | refine Upd.alloc ?_ _ | refine Upd.drew ?_ | refine Upd.drewN ?_ _ | refine Upd.setCell ?_ ?_ _ | focus (left; simp; done) | focus (right; simp; done) | focus (right; simp; omega))))).mono ?_)); rintro e w5 ⟨rfl, hC5, hu5⟩; (have hu5b : Upd F w3 w5 := Upd.trans (by (repeat (first | assumption | exact Upd.refl _ _ | refine Upd.drew ?_ | refine Upd.alloc ?_ _ | refine Upd.setCell ?_ ?_ _ | focus (left; simp; done) | focus (right; simp; done) | focus (right; simp; omega) | (apply Upd.trans; rotate_left; assumption)))) hu5)))
  have hM5 := (HM.out.upd0 u3).setC hu5b hC5 (fun y hy => Or.inl hy) HI.out.2.2.2.1 (by rw [HI.out.2.2.2.2.1])
  have g3 := r3 w5 hu5b
  have g4 := r4 w5 hu5b
  have hlt := HM.out.lt
  have hcs := HI.out.2.2.2.1
  have hKK : ∀ j, w.heap.size + j ∉ B.blk F gr A'.cs.length S vs := fun j hm => by rw [hcs] at hm; have := hlt _ hm; omega
  have H5 := fun (W : World) (hW : Upd [] w5 W) => hold_ahead W (B.blk F gr A'.cs.length S vs) B F A' w.heap.size (w.heap.size + 1) x (hW.was g3) (hW.was g4) HI.out.2.2.2.2.2 (hKK 0) (hKK 1) (blk_F _ HM.out.cells.mem)
  have kL := fun W (hW : Upd [] w5 W) => blift_any (hM5.upd0 hW) HI.out.2.2.1 HI.out.1 (by omega) (by rw [hix]; omega) hix hqv (H5 W hW)
  have HM5 := Lib.hid hM5
  clear hM5 hC5 hC4 kh kl r0 r5 r6 hlt hKK r3 r4
  go_wp2_with (first
    | ((go_at_call 147; (with_reducible refine (kL _ (by (repeat (first | assumption | exact Upd.refl _ _ | refine Upd.alloc ?_ _ | refine Upd.drew ?_ | refine Upd.drewN ?_ _ | refine Upd.setCell ?_ ?_ _ | focus (left; simp; done) | focus (right; simp; done) | focus (right; simp; omega))))).mono ?_)); rintro e w6 ⟨rfl, S6, hM6, hF6, hu6, hb6⟩)
    | fail)
  go_ret
  have hcs := HI.out.2.2.2.1
  have uw : Upd (B.blk F gr A.cs.length S vs) w w6 := by
    rw [hcs] at hu6
    exact ((u3.mono (by simp)).trans (hu5b.mono blk_F)).trans (Upd.trans (by (repeat (first | assumption | exact Upd.refl _ _ | refine Upd.drew ?_ | refine Upd.alloc ?_ _ | refine Upd.setCell ?_ ?_ _ | focus (left; simp; done) | focus (right; simp; done) | focus (right; simp; omega) | (apply Upd.trans; rotate_left; assumption)))) hu6)
  refine ⟨rfl, B.blk F gr A'.cs.length S6 vs, ⟨⟨B, F, gr, cr, lo, S6, vs, rfl, rfl, hM6, hF6⟩, HI.out.2.1⟩, uw, fun y hy => Or.inl ?_⟩
  rw [hcs] at hy hb6
  simp only [BB.blk, List.mem_cons, List.mem_append] at hy ⊢
  rcases hy with e | e | e | e | e | e | e
  · exact Or.inl e
  · exact Or.inr (Or.inl e)
  · exact Or.inr (Or.inr (Or.inl e))
  · exact Or.inr (Or.inr (Or.inr (Or.inl e)))
  · exact Or.inr (Or.inr (Or.inr (Or.inr (Or.inl e))))
  · exact Or.inr (Or.inr (Or.inr (Or.inr (Or.inr (Or.inl (hb6 y e))))))
  · exact Or.inr (Or.inr (Or.inr (Or.inr (Or.inr (Or.inr e)))))
theorem bdec_no (h : BnK w p FF A st G) (x k s : Int) (hB : lowB A x k s = false) :
    Calls Try.prog 140 #[.pointer (some ⟨p, 0, none⟩), .int .i64 x, .agg #[.int .i64 k, .int .u64 s]] w fun e w' => e = .returned (.bool false) ∧ Upd [] w w' := by
  obtain ⟨⟨B, F, gr, cr, lo, S, vs, rfl, rfl, M, eF⟩, I⟩ := h
  obtain ⟨w3, hw3⟩ : ∃ w3, w3 = ((w.alloc (.cells #[.pointer (some ⟨B.n0, 0, none⟩)] 23)).alloc (.cells #[.int .i64 x] 3)).alloc (.cells #[.int .i64 k, .int .u64 s] 57) := ⟨_, rfl⟩
  have u3 : Upd [] w w3 := by rw [hw3]; (repeat (first | assumption | exact Upd.refl _ _ | refine Upd.alloc ?_ _ | refine Upd.drew ?_ | refine Upd.drewN ?_ _ | refine Upd.setCell ?_ ?_ _ | focus (left; simp; done) | focus (right; simp; done) | focus (right; simp; omega)))
  have b3 : w3.cell? ⟨w.heap.size, 0, none⟩ = some (.pointer (some ⟨B.n0, 0, none⟩)) := by rw [hw3]; go_simp
  have b4 : w3.cell? ⟨w.heap.size + 1, 0, none⟩ = some (.int .i64 x) := by rw [hw3]; go_simp
  have b5 : w3.cell? ⟨w.heap.size + 1 + 1, 0, none⟩ = some (.int .i64 k) := by rw [hw3]; go_simp
  have b6 : w3.cell? ⟨w.heap.size + 1 + 1, 1, none⟩ = some (.int .u64 s) := by rw [hw3]; go_simp
  have kl := fun W (hW : Upd [] w3 W) => clower_no (M.cells.upd0 (u3.trans hW)) x k s hB
  have h0 := u3.was M.h0
  have r0 : ∀ W, Upd [] w3 W → W.cell? ⟨B.n0, 0, none⟩ = some (.pointer (some ⟨B.c, 0, none⟩)) := fun W hW => hW.was h0
  have r3 : ∀ W, Upd [] w3 W → W.cell? ⟨w.heap.size, 0, none⟩ = some (.pointer (some ⟨B.n0, 0, none⟩)) := fun W hW => hW.was b3
  have r4 : ∀ W, Upd [] w3 W → W.cell? ⟨w.heap.size + 1, 0, none⟩ = some (.int .i64 x) := fun W hW => hW.was b4
  have r5 : ∀ W, Upd [] w3 W → W.cell? ⟨w.heap.size + 1 + 1, 0, none⟩ = some (.int .i64 k) := fun W hW => hW.was b5
  have r6 : ∀ W, Upd [] w3 W → W.cell? ⟨w.heap.size + 1 + 1, 1, none⟩ = some (.int .u64 s) := fun W hW => hW.was b6
  have HW := Lib.hid hw3
  clear M I eF h0 b3 b4 b5 b6 hB hw3
  go_enter Try.func140, Try.ntmps140
  go_wp2
  rw [← HW.out]
  go_region_held3 (Upd [] w3) (repeat (first | assumption | exact Upd.refl _ _ | refine Upd.drew ?_ | refine Upd.alloc ?_ _ | refine Upd.setCell ?_ ?_ _ | focus (left; simp; done) | focus (right; simp; done) | focus (right; simp; omega) | (apply Upd.trans; rotate_left; assumption)))
    (first
      | ((go_at_call 146; (with_reducible refine (kl _ (by (repeat (first | assumption | exact Upd.refl _ _ | refine Upd.alloc ?_ _ | refine Upd.drew ?_ | refine Upd.drewN ?_ _ | refine Upd.setCell ?_ ?_ _ | focus (left; simp; done) | focus (right; simp; done) | focus (right; simp; omega))))).mono ?_)); rintro e w4 ⟨rfl, hu4⟩; (have hu4b : Upd [] w3 w4 := Upd.trans (by (repeat (first | assumption | exact Upd.refl _ _ | refine Upd.drew ?_ | refine Upd.alloc ?_ _ | refine Upd.setCell ?_ ?_ _ | focus (left; simp; done) | focus (right; simp; done) | focus (right; simp; omega) | (apply Upd.trans; rotate_left; assumption)))) hu4)))
  go_wp2
  go_ret
  exact ⟨rfl, u3.trans (by (repeat (first | assumption | exact Upd.refl _ _ | refine Upd.drew ?_ | refine Upd.alloc ?_ _ | refine Upd.setCell ?_ ?_ _ | focus (left; simp; done) | focus (right; simp; done) | focus (right; simp; omega) | (apply Upd.trans; rotate_left; assumption))))⟩
/-- What is behind a delete: the heaps as they are when the slot is at the top. -/
def delL (A : NS) (x : Nat) (G : BG) : BG × Nat := liftL (fun _ => true) 0 x A.cs.length G
def delG (A : NS) (x : Nat) (G : BG) : BG := takeG A (A.c x).i.toNat x (delL A x G).1
def delQ (A : NS) (x : Nat) (G : BG) : Nat := (delL A x G).2 + takeQ A (A.c x).i.toNat x (delL A x G).1
theorem del_top {x : Nat} (I : BnI A G) (hx : x < A.cs.length) : BnX A (delL A x G).1 x ∧ (delL A x G).1.F.u x = -1 := by
  have E := lift_end (hp := fun _ => true) (ct := 0) hx A.cs.length (I.x hx) (by omega)
  refine ⟨E.1, ?_⟩
  rcases E.2 with h | ⟨p, _, h⟩
  · exact h
  · cases h
set_option maxHeartbeats 2000000 in
theorem bdel_yes (h : BnK w p FF A st G) (x : Nat) (hin : inN A (x : Int) = true) :
    Calls Try.prog 141 #[.pointer (some ⟨p, 0, none⟩), .int .i64 (x : Int)] w fun e w' => e = .returned (.bool true) ∧
      Goes FF w w' (fun FF' => BnK w' p FF' (dropN A x) (satS st (delQ A x G)) (delG A x G)) := by
  obtain ⟨⟨B, F, gr, cr, lo, S, vs, rfl, rfl, M, eF⟩, I⟩ := h
  obtain ⟨hx, hhome⟩ := (inN_nat _ _).1 hin
  obtain ⟨X1, hr1⟩ := del_top I hx
  have hasq := inN_has M.cells.ok hin
  rw [Int.toNat_natCast] at hasq
  obtain ⟨q, hq0, hq1, hqv⟩ := M.hq hasq
  have T := (take_bn X1 M.cells.ok hx hr1 hhome hq0).1
  have eq : (A.c x).i.toNat = q := by omega
  have kh := chome_yes M.cells x hin
  rw [hq0] at kh
  have h0 := M.h0
  have kL := fun W (hM : BnM W B F gr cr lo A st S vs G.R) => blift_any hM eF (I.x hx) hx hhome hq0 hqv (hold_true W (B.blk F gr A.cs.length S vs) B F A)
  have kT := fun W S' (hM : BnM W B F gr cr lo A (satS st (delL A x G).2) S' vs (delL A x G).1.R) (e : S'.f = (delL A x G).1.F) => btake_any hM e X1 hx hr1 hhome hq0 hqv
  have HM := Lib.hid M
  have HI := Lib.hid (And.intro T eq)
  clear M I X1 hr1 hasq T eF eq hin
  go_enter Try.func141, Try.ntmps141
  go_wp2_with (first
    | ((go_at_call 66; (with_reducible refine (kh).mono ?_)); rintro e w1 ⟨rfl, hC1, hu1⟩; (have hM1 := HM.out.setC hu1 hC1 (fun y hy => Or.inl hy) rfl rfl); (have kL1 := kL _ hM1); (have hs1 := hu1.size); (have HM1 := Lib.hid hM1); clear hM1)
    | ((go_at_call 147; (with_reducible refine (kL1).mono ?_)); rintro e w2 ⟨rfl, S2, hM2, hF2, hu2, hb2⟩; (have kT2 := kT _ S2 hM2 hF2); (have hs2 := hu2.size))
    | ((go_at_call 150; (with_reducible refine (kT2).mono ?_)); rintro e w3 ⟨rfl, FF3, hK3, hu3, hf3⟩)
    | fail)
  go_ret
  have kb : ∀ y, y ∈ B.blk F gr A.cs.length S2 vs → y ∈ B.blk F gr A.cs.length S vs := fun y hy => by
    simp only [BB.blk, List.mem_cons, List.mem_append] at hy ⊢
    rcases hy with e | e | e | e | e | e | e
    · exact Or.inl e
    · exact Or.inr (Or.inl e)
    · exact Or.inr (Or.inr (Or.inl e))
    · exact Or.inr (Or.inr (Or.inr (Or.inl e)))
    · exact Or.inr (Or.inr (Or.inr (Or.inr (Or.inl e))))
    · exact Or.inr (Or.inr (Or.inr (Or.inr (Or.inr (Or.inl (hb2 y e))))))
    · exact Or.inr (Or.inr (Or.inr (Or.inr (Or.inr (Or.inr e)))))
  rw [satS_add] at hK3
  refine ⟨rfl, FF3, ?_, ((hu1.mono blk_F).trans hu2).trans (hu3.mono kb), fun y hy => ?_⟩
  · unfold delQ delG
    rw [HI.out.2]
    exact ⟨hK3, HI.out.1⟩
  · rcases hf3 y hy with h' | h'
    · exact Or.inl (kb y h')
    · exact Or.inr (by omega)
theorem bdel_no (h : BnK w p FF A st G) (x : Int) (hin : inN A x = false) :
    Calls Try.prog 141 #[.pointer (some ⟨p, 0, none⟩), .int .i64 x] w fun e w' => e = .returned (.bool false) ∧ w' = w := by
  obtain ⟨⟨B, F, gr, cr, lo, S, vs, rfl, rfl, M, eF⟩, I⟩ := h
  have kh := chome_no M.cells x hin
  have h0 := M.h0
  clear M I eF hin
  go_enter Try.func141, Try.ntmps141
  go_wp2_with ((go_at_call 66; (with_reducible refine (kh).mono ?_); rintro e w9 ⟨rfl, hw9⟩; rw [hw9]; clear hw9 w9))
  go_ret
  exact ⟨rfl, rfl⟩
end
end Go.Proofs.Ytighgbdijagolaa
