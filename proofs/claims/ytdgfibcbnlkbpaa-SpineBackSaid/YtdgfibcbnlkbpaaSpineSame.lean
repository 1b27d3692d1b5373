/-
  A thing's place in the program's trees and in the document's (haycocklaw09.same). Conditions: those of each lemma.
-/
import Derived.Test.YtdgfibcbnlkbpaaSpineDoE
set_option linter.unusedVariables false
set_option linter.unusedSimpArgs false
namespace Go.Proofs.Ytdgfibcbnlkbpaa
open Go Go.RowKit

theorem root_pair (bt ba n lo : Nat) (S : TS) (l : List Hg) (x : Int) (v : Value) (R : Rel n S l) (hn : n ≤ 1000) :
    ∃ (o : Int) (d : Bool), (∀ W, TreesAt W bt ba n S → Calls Try.prog 33 #[.pointer (some ⟨bt, 0, none⟩), .int .i64 x] W fun e w' => e = .returned (.tuple #[.int .i64 o, .bool d]) ∧ w' = W) ∧
      (∀ W, LstAt W lo v l.length (hgCells l) → Calls Try.prog 58 #[.agg #[.int .i64 (n : Int), v], .int .i64 x] W fun e w' => e = .returned (.tuple #[.int .i64 o, .bool d]) ∧ Upd [] W w') := by
  by_cases hx : 0 ≤ x ∧ x < n
  · exact ⟨rootL l n x, true, fun W h => root_law bt ba n S l x W h R hx, fun W h => rroot_any W lo n x v l h (by omega) hx⟩
  · exact ⟨0, false, fun W h => root_no bt ba n S x W h hx, fun W h => rroot_no W n x v (by obtain ⟨a, cap, rfl, _⟩ := h.open; rfl) hx⟩

set_option maxHeartbeats 2000000 in
theorem same_law (bt ba n lo : Nat) (S : TS) (l : List Hg) (v : Value) (w : World) (x : Int) (hT : TreesAt w bt ba n S) (hR : Rel n S l) (hL : LstAt w lo v l.length (hgCells l)) (hn : n ≤ 1000) :
    Calls Try.prog 41 #[.pointer (some ⟨bt, 0, none⟩), .agg #[.int .i64 (n : Int), v], .int .i64 x] w (fun e w' => e = .returned (.bool true) ∧ Upd [] w w') := by
  obtain ⟨a, cap, rfl, _⟩ := hL.open
  obtain ⟨o, d, kO, kO2⟩ := root_pair bt ba n lo S l x (.slice a l.length cap) hR hn
  have hU : Upd [] w (w.alloc (.cells #[.int .i64 (n : Int), .slice a l.length cap] 52)) := (Upd.refl _ _).alloc _
  have HT := Lib.hid (fun W (h : Upd [] (w.alloc (.cells #[.int .i64 (n : Int), .slice a l.length cap] 52)) W) => hT.upd (hU.trans h) (by simp) (by simp))
  have HL := Lib.hid (fun W (h : Upd [] (w.alloc (.cells #[.int .i64 (n : Int), .slice a l.length cap] 52)) W) => hL.upd (hU.trans h) (by simp))
  have r0 : ∀ W, Upd [] (w.alloc (.cells #[.int .i64 (n : Int), .slice a l.length cap] 52)) W → W.cell? ⟨w.heap.size, 0, none⟩ = some (.int .i64 (n : Int)) := fun W h => h.was (by simp)
  have r1 : ∀ W, Upd [] (w.alloc (.cells #[.int .i64 (n : Int), .slice a l.length cap] 52)) W → W.cell? ⟨w.heap.size, 1, none⟩ = some (.slice a l.length cap) := fun W h => h.was (by simp)
  have k1 := fun W (h : TreesAt W bt ba n S) => left_law bt ba n S l x W h hR
  have k2 := fun W (h : TreesAt W bt ba n S) => right_law bt ba n S l x W h hR
  have k3 := fun W (h : TreesAt W bt ba n S) => up_law bt ba n S l x W h hR
  have k4 := fun W r (h : LstAt W lo (.slice a l.length cap) l.length (hgCells l)) => rkid_any W lo n x r (.slice a l.length cap) l h
  have k5 := fun W (h : LstAt W lo (.slice a l.length cap) l.length (hgCells l)) => rup_any W lo n x (.slice a l.length cap) l h
  have k4l := fun W => k4 W false
  have k4r := fun W => k4 W true
  clear k4
  generalize ov (kidL l x false) = y1 at *
  generalize ob (kidL l x false) = z1 at *
  generalize ov (kidL l x true) = y2 at *
  generalize ob (kidL l x true) = z2 at *
  generalize ov (upL l x) = y3 at *
  generalize ob (upL l x) = z3 at *
  have hu := Upd.refl [] (w.alloc (.cells #[.int .i64 (n : Int), .slice a l.length cap] 52))
  clear hT hL hR
  go_enter Try.func41, Try.ntmps41
  go_wp2_with (first
    | ((go_at_call 30; (with_reducible refine (k1 _ (HT.out _ hu)).mono ?_)); rintro e w1 ⟨rfl, j1, rfl⟩; have hq1 := hu.drewN j1)
    | ((go_at_call 31; (with_reducible refine (k2 _ (HT.out _ hq1)).mono ?_)); rintro e w2 ⟨rfl, j2, rfl⟩; have hq2 : Upd [] (w.alloc (.cells #[.int .i64 (n : Int), .slice a l.length cap] 52)) ((w.alloc (.cells #[.int .i64 (n : Int), .slice a l.length cap] 52)).drewN (j1 + j2)) := hu.drewN _)
    | ((go_at_call 32; (with_reducible refine (k3 _ (HT.out _ hq2)).mono ?_)); rintro e w3 ⟨rfl, j3, rfl⟩; have hq3 : Upd [] (w.alloc (.cells #[.int .i64 (n : Int), .slice a l.length cap] 52)) ((w.alloc (.cells #[.int .i64 (n : Int), .slice a l.length cap] 52)).drewN (j1 + j2 + j3)) := hu.drewN _)
    | ((go_at_call 33; (with_reducible refine (kO _ (HT.out _ hq3)).mono ?_)); rintro e w4 ⟨rfl, rfl⟩)
    | ((go_at_call 56; (with_reducible refine (k4l _ (HL.out _ hq3)).mono ?_)); rintro e w5 ⟨rfl, hb5⟩; have hq5 := hq3.trans hb5)
    | ((go_at_call 56; (with_reducible refine (k4r _ (HL.out _ hq5)).mono ?_)); rintro e w6 ⟨rfl, hb6⟩; have hq6 := hq5.trans hb6)
    | ((go_at_call 57; (with_reducible refine (k5 _ (HL.out _ hq6)).mono ?_)); rintro e w7 ⟨rfl, hb7⟩; have hq7 := hq6.trans hb7)
    | ((go_at_call 58; (with_reducible refine (kO2 _ (HL.out _ hq7)).mono ?_)); rintro e w8 ⟨rfl, hb8⟩; have hq8 := hq7.trans hb8))
  go_ret
  exact ⟨by simp, hU.trans hq8⟩

end Go.Proofs.Ytdgfibcbnlkbpaa
