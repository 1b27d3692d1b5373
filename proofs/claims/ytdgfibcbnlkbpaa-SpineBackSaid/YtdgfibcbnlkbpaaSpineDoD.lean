/-
  An act done to trees and to the document's (haycocklaw09.do): both answer alike, and say one behind it. Conditions: those of each lemma.
-/
import Derived.Test.YtdgfibcbnlkbpaaSpineDoC
set_option linter.unusedVariables false
set_option linter.unusedSimpArgs false
namespace Go.Proofs.Ytdgfibcbnlkbpaa
open Go Go.RowKit

set_option maxHeartbeats 2000000 in
theorem do_turn_yes (bt ba n lo : Nat) (S : TS) (l : List Hg) (v : Value) (w : World) (i : Nat) (x : Int) (r : Bool) (hT : TreesAt w bt ba n S) (hR : Rel n S l) (hL : LstAt w lo v l.length (hgCells l)) (hba : ba < lo) (hlo : lo ≤ w.heap.size) (hn : n ≤ 1000)(hin : i < n) :
    Calls Try.prog 36 #[.pointer (some ⟨bt, 0, none⟩), .agg #[.int .i64 (n : Int), v], .agg #[.int .i64 2, .int .i64 (i : Int), .int .i64 x, .bool r]] w (DoPost bt ba n lo w) := by
  have hbt := hT.head.lt
  have hbal := hT.row.lt
  have hnle := hT.le
  have hll := hR.snd.len
  obtain ⟨a, cap, rfl, _⟩ := hL.open
  generalize hlen : l.length = len at *
  have HLEN := Lib.hid hlen
  clear hlen
  have hU3 : Upd [ba] w (((w.alloc (.cells #[.int .i64 (n : Int), .slice a len cap] 52)).alloc (.cells #[.int .i64 2, .int .i64 (i : Int), .int .i64 x, .bool r] 54)).alloc (.cells #[.int .i64 0, .slice none 0 0] 52)) := ((Upd.refl [ba] w).alloc _).alloc _ |>.alloc _
  have r0 : ∀ W, Upd [ba] (((w.alloc (.cells #[.int .i64 (n : Int), .slice a len cap] 52)).alloc (.cells #[.int .i64 2, .int .i64 (i : Int), .int .i64 x, .bool r] 54)).alloc (.cells #[.int .i64 0, .slice none 0 0] 52)) W → W.cell? ⟨w.heap.size, 0, none⟩ = some (.int .i64 (n : Int)) := fun W h => by rw [h.cell (by first | (simp; done) | (simp; omega)) (by first | (simp; done) | (simp; omega))]; exact ((Upd.refl [] _).alloc _).was (((Upd.refl [] _).alloc _).was (by simp))
  have r1 : ∀ W, Upd [ba] (((w.alloc (.cells #[.int .i64 (n : Int), .slice a len cap] 52)).alloc (.cells #[.int .i64 2, .int .i64 (i : Int), .int .i64 x, .bool r] 54)).alloc (.cells #[.int .i64 0, .slice none 0 0] 52)) W → W.cell? ⟨w.heap.size, 1, none⟩ = some (.slice a len cap) := fun W h => by rw [h.cell (by first | (simp; done) | (simp; omega)) (by first | (simp; done) | (simp; omega))]; exact ((Upd.refl [] _).alloc _).was (((Upd.refl [] _).alloc _).was (by simp))
  have r2 : ∀ W, Upd [ba] (((w.alloc (.cells #[.int .i64 (n : Int), .slice a len cap] 52)).alloc (.cells #[.int .i64 2, .int .i64 (i : Int), .int .i64 x, .bool r] 54)).alloc (.cells #[.int .i64 0, .slice none 0 0] 52)) W → W.cell? ⟨w.heap.size + 1, 0, none⟩ = some (.int .i64 2) := fun W h => by rw [h.cell (by first | (simp; done) | (simp; omega)) (by first | (simp; done) | (simp; omega))]; exact ((Upd.refl [] _).alloc _).was (by simp)
  have r3 : ∀ W, Upd [ba] (((w.alloc (.cells #[.int .i64 (n : Int), .slice a len cap] 52)).alloc (.cells #[.int .i64 2, .int .i64 (i : Int), .int .i64 x, .bool r] 54)).alloc (.cells #[.int .i64 0, .slice none 0 0] 52)) W → W.cell? ⟨w.heap.size + 1, 1, none⟩ = some (.int .i64 (i : Int)) := fun W h => by rw [h.cell (by first | (simp; done) | (simp; omega)) (by first | (simp; done) | (simp; omega))]; exact ((Upd.refl [] _).alloc _).was (by simp)
  have r4 : ∀ W, Upd [ba] (((w.alloc (.cells #[.int .i64 (n : Int), .slice a len cap] 52)).alloc (.cells #[.int .i64 2, .int .i64 (i : Int), .int .i64 x, .bool r] 54)).alloc (.cells #[.int .i64 0, .slice none 0 0] 52)) W → W.cell? ⟨w.heap.size + 1, 2, none⟩ = some (.int .i64 x) := fun W h => by rw [h.cell (by first | (simp; done) | (simp; omega)) (by first | (simp; done) | (simp; omega))]; exact ((Upd.refl [] _).alloc _).was (by simp)
  have r5 : ∀ W, Upd [ba] (((w.alloc (.cells #[.int .i64 (n : Int), .slice a len cap] 52)).alloc (.cells #[.int .i64 2, .int .i64 (i : Int), .int .i64 x, .bool r] 54)).alloc (.cells #[.int .i64 0, .slice none 0 0] 52)) W → W.cell? ⟨w.heap.size + 1, 3, none⟩ = some (.bool r) := fun W h => by rw [h.cell (by first | (simp; done) | (simp; omega)) (by first | (simp; done) | (simp; omega))]; exact ((Upd.refl [] _).alloc _).was (by simp)
  have hres0 := rowAt_new ((w.alloc (.cells #[.int .i64 (n : Int), .slice a len cap] 52)).alloc (.cells #[.int .i64 2, .int .i64 (i : Int), .int .i64 x, .bool r] 54)) [.int .i64 0, .slice none 0 0] 52
  rw [World.size_alloc, World.size_alloc] at hres0
  have hres : ∀ W, Upd [ba] (((w.alloc (.cells #[.int .i64 (n : Int), .slice a len cap] 52)).alloc (.cells #[.int .i64 2, .int .i64 (i : Int), .int .i64 x, .bool r] 54)).alloc (.cells #[.int .i64 0, .slice none 0 0] 52)) W → RowAt W (w.heap.size + 1 + 1) 52 2 (fun j => [Value.int .i64 0, .slice none 0 0].getD j undef) := fun W h => hres0.upd h (by simp; omega)
  have q0 := fun W h => (hres W h).cellAt 0 (by omega) rfl
  have q1 := fun W h => (hres W h).cellAt 1 (by omega) rfl
  have q2 := fun W h => (hres W h).free 0
  have q3 := fun W h => (hres W h).free 1
  have HT := Lib.hid (fun W (h : Upd [ba] (((w.alloc (.cells #[.int .i64 (n : Int), .slice a len cap] 52)).alloc (.cells #[.int .i64 2, .int .i64 (i : Int), .int .i64 x, .bool r] 54)).alloc (.cells #[.int .i64 0, .slice none 0 0] 52)) W) => (hU3.trans h))
  have HL := Lib.hid (fun W (h : Upd [ba] w W) => hL.upd h (fun k hk => Or.inl (by simp at hk; omega)))
  have hT3 := hT.upd ((((Upd.refl [] w).alloc (.cells #[.int .i64 (n : Int), .slice a len cap] 52)).alloc (.cells #[.int .i64 2, .int .i64 (i : Int), .int .i64 x, .bool r] 54)).alloc (.cells #[.int .i64 0, .slice none 0 0] 52)) (by simp) (by simp)
  have HT0 := Lib.hid hT
  have HL0 : Hid (LstAt w lo (.slice a len cap) l.length (hgCells l)) := by show LstAt _ _ _ _ _; rw [HLEN.out]; exact hL
  clear hres0 hT hL
  have kT := rturn_any (((w.alloc (.cells #[.int .i64 (n : Int), .slice a len cap] 52)).alloc (.cells #[.int .i64 2, .int .i64 (i : Int), .int .i64 x, .bool r] 54)).alloc (.cells #[.int .i64 0, .slice none 0 0] 52)) lo n (i : Int) (.slice a len cap) l (by rw [HLEN.out]; exact HL.out _ hU3) (by have := HLEN.out; omega) (by simp; omega)
  rw [show decide (0 ≤ ((i : Int) : Int) ∧ ((i : Int) : Int) < n) = true by simp; omega] at kT
  obtain ⟨len2, hl2⟩ : ∃ k, (turnL l (i : Int)).length = k := ⟨_, rfl⟩
  simp only [hl2] at kT
  have HL2 := Lib.hid hl2
  clear hl2
  have kP := fun W (hW : TreesAt W bt ba n S) => turn_yes bt ba n S i W hW hin
  have HR := Lib.hid (hR.turn hin)
  clear hR hin
  have hu := Upd.refl [ba] (((w.alloc (.cells #[.int .i64 (n : Int), .slice a len cap] 52)).alloc (.cells #[.int .i64 2, .int .i64 (i : Int), .int .i64 x, .bool r] 54)).alloc (.cells #[.int .i64 0, .slice none 0 0] 52))
  have HU3 := Lib.hid hU3
  go_enter Try.func36, Try.ntmps36
  go_wp2_with (((go_at_call 54; (with_reducible refine kT.mono ?_)); rintro e w2 ⟨v2, rfl, hL2, hb2⟩; obtain ⟨a2, c2, rfl, _⟩ := hL2.open; have hq2 : Upd [ba] (((w.alloc (.cells #[.int .i64 (n : Int), .slice a len cap] 52)).alloc (.cells #[.int .i64 2, .int .i64 (i : Int), .int .i64 x, .bool r] 54)).alloc (.cells #[.int .i64 0, .slice none 0 0] 52)) w2 := hu.then hb2))
  have hBX : Upd [ba] (((w.alloc (.cells #[.int .i64 (n : Int), .slice a len cap] 52)).alloc (.cells #[.int .i64 2, .int .i64 (i : Int), .int .i64 x, .bool r] 54)).alloc (.cells #[.int .i64 0, .slice none 0 0] 52)) (w2.alloc (.cells #[.int .i64 (n : Int), (.slice a2 len2 c2)] 52)) := (hq2).alloc _
  have hsz : w.heap.size + 1 + 1 + 1 ≤ w2.heap.size := by have := (hq2).size; simpa using this
  have s1 : HasRow (w2.alloc (.cells #[.int .i64 (n : Int), (.slice a2 len2 c2)] 52)) (w.heap.size + 1 + 1) 52 2 := ⟨_, hres _ hBX⟩
  have t0 : ∀ W, Upd [ba, w.heap.size + 1 + 1] (w2.alloc (.cells #[.int .i64 (n : Int), (.slice a2 len2 c2)] 52)) W → W.cell? ⟨w2.heap.size, 0, none⟩ = some (.int .i64 (n : Int)) := fun W h => by rw [h.cell (by simp) (by simp; omega)]; simp
  have t1 : ∀ W, Upd [ba, w.heap.size + 1 + 1] (w2.alloc (.cells #[.int .i64 (n : Int), (.slice a2 len2 c2)] 52)) W → W.cell? ⟨w2.heap.size, 1, none⟩ = some (.slice a2 len2 c2) := fun W h => by rw [h.cell (by simp) (by simp; omega)]; simp
  have t2 : ∀ W, Upd [ba, w.heap.size + 1 + 1] (w2.alloc (.cells #[.int .i64 (n : Int), (.slice a2 len2 c2)] 52)) W → W.cell? ⟨w.heap.size + 1, 1, none⟩ = some (.int .i64 (i : Int)) := fun W h => by rw [h.cell (by simp; omega) (by simp; omega)]; exact r3 _ hBX
  have t3 : ∀ W, Upd [ba, w.heap.size + 1 + 1] (w2.alloc (.cells #[.int .i64 (n : Int), (.slice a2 len2 c2)] 52)) W → W.cell? ⟨w.heap.size + 1, 2, none⟩ = some (.int .i64 x) := fun W h => by rw [h.cell (by simp; omega) (by simp; omega)]; exact r4 _ hBX
  have t4 : ∀ W, Upd [ba, w.heap.size + 1 + 1] (w2.alloc (.cells #[.int .i64 (n : Int), (.slice a2 len2 c2)] 52)) W → W.cell? ⟨w.heap.size + 1, 3, none⟩ = some (.bool r) := fun W h => by rw [h.cell (by simp; omega) (by simp; omega)]; exact r5 _ hBX
  have p2 : ∀ W, HasRow W (w.heap.size + 1 + 1) 52 2 → W.cell? ⟨w.heap.size + 1 + 1, 0, none⟩ = some (cv W ⟨w.heap.size + 1 + 1, 0, none⟩) := fun W h => h.cell 0 (by omega)
  have p3 : ∀ W, HasRow W (w.heap.size + 1 + 1) 52 2 → W.cell? ⟨w.heap.size + 1 + 1, 1, none⟩ = some (cv W ⟨w.heap.size + 1 + 1, 1, none⟩) := fun W h => h.cell 1 (by omega)
  have p4 : ∀ W, HasRow W (w.heap.size + 1 + 1) 52 2 → W.frozen? ⟨w.heap.size + 1 + 1, 0, none⟩ = false := fun W h => h.free 0
  have p5 : ∀ W, HasRow W (w.heap.size + 1 + 1) 52 2 → W.frozen? ⟨w.heap.size + 1 + 1, 1, none⟩ = false := fun W h => h.free 1
  have hTX : TreesAt (w2.alloc (.cells #[.int .i64 (n : Int), (.slice a2 len2 c2)] 52)) bt ba n S := (hT3.upd (hb2.alloc _) (by simp) (by simp))
  clear r0 r1 r2 r3 r4 r5 q0 q1 q2 q3
  go_region_held3 (fun W => Upd [ba, w.heap.size + 1 + 1] (w2.alloc (.cells #[.int .i64 (n : Int), (.slice a2 len2 c2)] 52)) W ∧ HasRow W (w.heap.size + 1 + 1) 52 2)
    (first
      | assumption
      | exact ⟨(Upd.refl _ _).drew, s1⟩
      | (refine ⟨?_, ?_⟩; assumption; assumption)
      | exact ⟨(h1.setCell (Or.inl (by simp)) _).setCell (Or.inl (by simp)) _, (h2.set 0 _).set 1 _⟩)
    (first | ((go_at_call 39; (with_reducible refine (kP _ hTX.drew).mono ?_)); rintro e w3 ⟨rfl, hT4, hu4⟩; have h1 : Upd [ba, w.heap.size + 1 + 1] (w2.alloc (.cells #[.int .i64 (n : Int), (.slice a2 len2 c2)] 52)) w3 := (Upd.refl _ _).drew.trans (hu4.mono (by simp)); have h2 : HasRow w3 (w.heap.size + 1 + 1) 52 2 := s1.upd ((Upd.refl [ba] _).drew.trans hu4) (by simp; omega)))
  go_wp2
  
  refine bodyPost_ret (v := .tuple #[.agg #[.int .i64 (n : Int), .slice a2 len2 c2], .bool true]) (by simp [results, Try.results36, go_sem, p2, p3, h2, s1]) rfl ?_
  have hs1 := hq2.size
  simp only [World.size_alloc] at hs1
  refine DoPost.mk (.slice a2 len2 c2) (turnS S i) (turnL l (i : Int)) rfl ?_ HR.out ?_ ?_
  · exact hT4.upd (((Upd.refl [w.heap.size + 1 + 1] _).setCell (Or.inl (by simp)) _).setCell (Or.inl (by simp)) _) (by simp; omega) (by simp; omega)
  · rw [HL2.out]
    exact ((hL2.upd ((((Upd.refl [ba, w.heap.size + 1 + 1] _).alloc _).trans h1).setCell (p := ⟨w.heap.size + 1 + 1, 0, none⟩) (Or.inl (by simp)) (.int .i64 (n : Int)) |>.setCell (p := ⟨w.heap.size + 1 + 1, 1, none⟩) (Or.inl (by simp)) (.slice a2 len2 c2)) (fun k hk => Or.inl (by simp at hk ⊢; omega))).mono (by simp; omega))
  · exact (((HT.out _ hBX).joined h1 (fun y hy => by simp at hy; rcases hy with rfl | rfl; exact Or.inl (by simp); exact Or.inr (by omega))).setCell (Or.inr (by simp; omega)) _).setCell (Or.inr (by simp; omega)) _

set_option maxHeartbeats 2000000 in
theorem do_turn_no (bt ba n lo : Nat) (S : TS) (l : List Hg) (v : Value) (w : World) (p x : Int) (r : Bool) (hT : TreesAt w bt ba n S) (hR : Rel n S l) (hL : LstAt w lo v l.length (hgCells l)) (hba : ba < lo) (hlo : lo ≤ w.heap.size) (hn : n ≤ 1000)(hx : ¬ (0 ≤ p ∧ p < n)) :
    Calls Try.prog 36 #[.pointer (some ⟨bt, 0, none⟩), .agg #[.int .i64 (n : Int), v], .agg #[.int .i64 2, .int .i64 p, .int .i64 x, .bool r]] w (DoPost bt ba n lo w) := by
  have hbt := hT.head.lt
  have hbal := hT.row.lt
  have hnle := hT.le
  have hll := hR.snd.len
  obtain ⟨a, cap, rfl, _⟩ := hL.open
  generalize hlen : l.length = len at *
  have HLEN := Lib.hid hlen
  clear hlen
  have hU3 : Upd [ba] w (((w.alloc (.cells #[.int .i64 (n : Int), .slice a len cap] 52)).alloc (.cells #[.int .i64 2, .int .i64 p, .int .i64 x, .bool r] 54)).alloc (.cells #[.int .i64 0, .slice none 0 0] 52)) := ((Upd.refl [ba] w).alloc _).alloc _ |>.alloc _
  have r0 : ∀ W, Upd [ba] (((w.alloc (.cells #[.int .i64 (n : Int), .slice a len cap] 52)).alloc (.cells #[.int .i64 2, .int .i64 p, .int .i64 x, .bool r] 54)).alloc (.cells #[.int .i64 0, .slice none 0 0] 52)) W → W.cell? ⟨w.heap.size, 0, none⟩ = some (.int .i64 (n : Int)) := fun W h => by rw [h.cell (by first | (simp; done) | (simp; omega)) (by first | (simp; done) | (simp; omega))]; exact ((Upd.refl [] _).alloc _).was (((Upd.refl [] _).alloc _).was (by simp))
  have r1 : ∀ W, Upd [ba] (((w.alloc (.cells #[.int .i64 (n : Int), .slice a len cap] 52)).alloc (.cells #[.int .i64 2, .int .i64 p, .int .i64 x, .bool r] 54)).alloc (.cells #[.int .i64 0, .slice none 0 0] 52)) W → W.cell? ⟨w.heap.size, 1, none⟩ = some (.slice a len cap) := fun W h => by rw [h.cell (by first | (simp; done) | (simp; omega)) (by first | (simp; done) | (simp; omega))]; exact ((Upd.refl [] _).alloc _).was (((Upd.refl [] _).alloc _).was (by simp))
  have r2 : ∀ W, Upd [ba] (((w.alloc (.cells #[.int .i64 (n : Int), .slice a len cap] 52)).alloc (.cells #[.int .i64 2, .int .i64 p, .int .i64 x, .bool r] 54)).alloc (.cells #[.int .i64 0, .slice none 0 0] 52)) W → W.cell? ⟨w.heap.size + 1, 0, none⟩ = some (.int .i64 2) := fun W h => by rw [h.cell (by first | (simp; done) | (simp; omega)) (by first | (simp; done) | (simp; omega))]; exact ((Upd.refl [] _).alloc _).was (by simp)
  have r3 : ∀ W, Upd [ba] (((w.alloc (.cells #[.int .i64 (n : Int), .slice a len cap] 52)).alloc (.cells #[.int .i64 2, .int .i64 p, .int .i64 x, .bool r] 54)).alloc (.cells #[.int .i64 0, .slice none 0 0] 52)) W → W.cell? ⟨w.heap.size + 1, 1, none⟩ = some (.int .i64 p) := fun W h => by rw [h.cell (by first | (simp; done) | (simp; omega)) (by first | (simp; done) | (simp; omega))]; exact ((Upd.refl [] _).alloc _).was (by simp)
  have r4 : ∀ W, Upd [ba] (((w.alloc (.cells #[.int .i64 (n : Int), .slice a len cap] 52)).alloc (.cells #[.int .i64 2, .int .i64 p, .int .i64 x, .bool r] 54)).alloc (.cells #[.int .i64 0, .slice none 0 0] 52)) W → W.cell? ⟨w.heap.size + 1, 2, none⟩ = some (.int .i64 x) := fun W h => by rw [h.cell (by first | (simp; done) | (simp; omega)) (by first | (simp; done) | (simp; omega))]; exact ((Upd.refl [] _).alloc _).was (by simp)
  have r5 : ∀ W, Upd [ba] (((w.alloc (.cells #[.int .i64 (n : Int), .slice a len cap] 52)).alloc (.cells #[.int .i64 2, .int .i64 p, .int .i64 x, .bool r] 54)).alloc (.cells #[.int .i64 0, .slice none 0 0] 52)) W → W.cell? ⟨w.heap.size + 1, 3, none⟩ = some (.bool r) := fun W h => by rw [h.cell (by first | (simp; done) | (simp; omega)) (by first | (simp; done) | (simp; omega))]; exact ((Upd.refl [] _).alloc _).was (by simp)
  have hres0 := rowAt_new ((w.alloc (.cells #[.int .i64 (n : Int), .slice a len cap] 52)).alloc (.cells #[.int .i64 2, .int .i64 p, .int .i64 x, .bool r] 54)) [.int .i64 0, .slice none 0 0] 52
  rw [World.size_alloc, World.size_alloc] at hres0
  have hres : ∀ W, Upd [ba] (((w.alloc (.cells #[.int .i64 (n : Int), .slice a len cap] 52)).alloc (.cells #[.int .i64 2, .int .i64 p, .int .i64 x, .bool r] 54)).alloc (.cells #[.int .i64 0, .slice none 0 0] 52)) W → RowAt W (w.heap.size + 1 + 1) 52 2 (fun j => [Value.int .i64 0, .slice none 0 0].getD j undef) := fun W h => hres0.upd h (by simp; omega)
  have q0 := fun W h => (hres W h).cellAt 0 (by omega) rfl
  have q1 := fun W h => (hres W h).cellAt 1 (by omega) rfl
  have q2 := fun W h => (hres W h).free 0
  have q3 := fun W h => (hres W h).free 1
  have HT := Lib.hid (fun W (h : Upd [ba] (((w.alloc (.cells #[.int .i64 (n : Int), .slice a len cap] 52)).alloc (.cells #[.int .i64 2, .int .i64 p, .int .i64 x, .bool r] 54)).alloc (.cells #[.int .i64 0, .slice none 0 0] 52)) W) => (hU3.trans h))
  have HL := Lib.hid (fun W (h : Upd [ba] w W) => hL.upd h (fun k hk => Or.inl (by simp at hk; omega)))
  have hT3 := hT.upd ((((Upd.refl [] w).alloc (.cells #[.int .i64 (n : Int), .slice a len cap] 52)).alloc (.cells #[.int .i64 2, .int .i64 p, .int .i64 x, .bool r] 54)).alloc (.cells #[.int .i64 0, .slice none 0 0] 52)) (by simp) (by simp)
  have HT0 := Lib.hid hT
  have HL0 : Hid (LstAt w lo (.slice a len cap) l.length (hgCells l)) := by show LstAt _ _ _ _ _; rw [HLEN.out]; exact hL
  clear hres0 hT hL
  have kT := rturn_any (((w.alloc (.cells #[.int .i64 (n : Int), .slice a len cap] 52)).alloc (.cells #[.int .i64 2, .int .i64 p, .int .i64 x, .bool r] 54)).alloc (.cells #[.int .i64 0, .slice none 0 0] 52)) lo n p (.slice a len cap) l (by rw [HLEN.out]; exact HL.out _ hU3) (by have := HLEN.out; omega) (by simp; omega)
  rw [show decide (0 ≤ (p : Int) ∧ (p : Int) < n) = false by simp; omega] at kT
  rw [turnL_none hR.snd hx] at kT
  obtain ⟨len2, hl2⟩ : ∃ k, l.length = k := ⟨_, rfl⟩
  simp only [hl2] at kT
  have HL2 := Lib.hid hl2
  clear hl2
  have kP := fun W (hW : TreesAt W bt ba n S) => turn_no bt ba n S p W hW hx
  have HR := Lib.hid hR
  clear hR hx
  have hu := Upd.refl [ba] (((w.alloc (.cells #[.int .i64 (n : Int), .slice a len cap] 52)).alloc (.cells #[.int .i64 2, .int .i64 p, .int .i64 x, .bool r] 54)).alloc (.cells #[.int .i64 0, .slice none 0 0] 52))
  have HU3 := Lib.hid hU3
  go_enter Try.func36, Try.ntmps36
  go_wp2_with (((go_at_call 54; (with_reducible refine kT.mono ?_)); rintro e w2 ⟨v2, rfl, hL2, hb2⟩; obtain ⟨a2, c2, rfl, _⟩ := hL2.open; have hq2 : Upd [ba] (((w.alloc (.cells #[.int .i64 (n : Int), .slice a len cap] 52)).alloc (.cells #[.int .i64 2, .int .i64 p, .int .i64 x, .bool r] 54)).alloc (.cells #[.int .i64 0, .slice none 0 0] 52)) w2 := hu.then hb2))
  have hBX : Upd [ba] (((w.alloc (.cells #[.int .i64 (n : Int), .slice a len cap] 52)).alloc (.cells #[.int .i64 2, .int .i64 p, .int .i64 x, .bool r] 54)).alloc (.cells #[.int .i64 0, .slice none 0 0] 52)) (w2.alloc (.cells #[.int .i64 (n : Int), (.slice a2 len2 c2)] 52)) := (hq2).alloc _
  have hsz : w.heap.size + 1 + 1 + 1 ≤ w2.heap.size := by have := (hq2).size; simpa using this
  have s1 : HasRow (w2.alloc (.cells #[.int .i64 (n : Int), (.slice a2 len2 c2)] 52)) (w.heap.size + 1 + 1) 52 2 := ⟨_, hres _ hBX⟩
  have t0 : ∀ W, Upd [ba, w.heap.size + 1 + 1] (w2.alloc (.cells #[.int .i64 (n : Int), (.slice a2 len2 c2)] 52)) W → W.cell? ⟨w2.heap.size, 0, none⟩ = some (.int .i64 (n : Int)) := fun W h => by rw [h.cell (by simp) (by simp; omega)]; simp
  have t1 : ∀ W, Upd [ba, w.heap.size + 1 + 1] (w2.alloc (.cells #[.int .i64 (n : Int), (.slice a2 len2 c2)] 52)) W → W.cell? ⟨w2.heap.size, 1, none⟩ = some (.slice a2 len2 c2) := fun W h => by rw [h.cell (by simp) (by simp; omega)]; simp
  have t2 : ∀ W, Upd [ba, w.heap.size + 1 + 1] (w2.alloc (.cells #[.int .i64 (n : Int), (.slice a2 len2 c2)] 52)) W → W.cell? ⟨w.heap.size + 1, 1, none⟩ = some (.int .i64 p) := fun W h => by rw [h.cell (by simp; omega) (by simp; omega)]; exact r3 _ hBX
  have t3 : ∀ W, Upd [ba, w.heap.size + 1 + 1] (w2.alloc (.cells #[.int .i64 (n : Int), (.slice a2 len2 c2)] 52)) W → W.cell? ⟨w.heap.size + 1, 2, none⟩ = some (.int .i64 x) := fun W h => by rw [h.cell (by simp; omega) (by simp; omega)]; exact r4 _ hBX
  have t4 : ∀ W, Upd [ba, w.heap.size + 1 + 1] (w2.alloc (.cells #[.int .i64 (n : Int), (.slice a2 len2 c2)] 52)) W → W.cell? ⟨w.heap.size + 1, 3, none⟩ = some (.bool r) := fun W h => by rw [h.cell (by simp; omega) (by simp; omega)]; exact r5 _ hBX
  have p2 : ∀ W, HasRow W (w.heap.size + 1 + 1) 52 2 → W.cell? ⟨w.heap.size + 1 + 1, 0, none⟩ = some (cv W ⟨w.heap.size + 1 + 1, 0, none⟩) := fun W h => h.cell 0 (by omega)
  have p3 : ∀ W, HasRow W (w.heap.size + 1 + 1) 52 2 → W.cell? ⟨w.heap.size + 1 + 1, 1, none⟩ = some (cv W ⟨w.heap.size + 1 + 1, 1, none⟩) := fun W h => h.cell 1 (by omega)
  have p4 : ∀ W, HasRow W (w.heap.size + 1 + 1) 52 2 → W.frozen? ⟨w.heap.size + 1 + 1, 0, none⟩ = false := fun W h => h.free 0
  have p5 : ∀ W, HasRow W (w.heap.size + 1 + 1) 52 2 → W.frozen? ⟨w.heap.size + 1 + 1, 1, none⟩ = false := fun W h => h.free 1
  have hTX : TreesAt (w2.alloc (.cells #[.int .i64 (n : Int), (.slice a2 len2 c2)] 52)) bt ba n S := (hT3.upd (hb2.alloc _) (by simp) (by simp))
  clear r0 r1 r2 r3 r4 r5 q0 q1 q2 q3
  go_region_held3 (fun W => Upd [ba, w.heap.size + 1 + 1] (w2.alloc (.cells #[.int .i64 (n : Int), (.slice a2 len2 c2)] 52)) W ∧ HasRow W (w.heap.size + 1 + 1) 52 2)
    (first
      | assumption
      | exact ⟨(Upd.refl _ _).drew, s1⟩
      | (refine ⟨?_, ?_⟩; assumption; assumption)
      | exact ⟨(h1.setCell (Or.inl (by simp)) _).setCell (Or.inl (by simp)) _, (h2.set 0 _).set 1 _⟩)
    (first | ((go_at_call 39; (with_reducible refine (kP _ hTX.drew).mono ?_)); rintro e w3 ⟨rfl, rfl⟩; have hT4 := hTX.drew; have h1 : Upd [ba, w.heap.size + 1 + 1] (w2.alloc (.cells #[.int .i64 (n : Int), (.slice a2 len2 c2)] 52)) ((w2.alloc (.cells #[.int .i64 (n : Int), (.slice a2 len2 c2)] 52)).drew) := (Upd.refl _ _).drew; have h2 : HasRow ((w2.alloc (.cells #[.int .i64 (n : Int), (.slice a2 len2 c2)] 52)).drew) (w.heap.size + 1 + 1) 52 2 := s1.upd ((Upd.refl [] _).drew) (by simp)))
  go_wp2
  
  refine bodyPost_ret (v := .tuple #[.agg #[.int .i64 (n : Int), .slice a2 len2 c2], .bool true]) (by simp [results, Try.results36, go_sem, p2, p3, h2, s1]) rfl ?_
  have hs1 := hq2.size
  simp only [World.size_alloc] at hs1
  refine DoPost.mk (.slice a2 len2 c2) S l rfl ?_ HR.out ?_ ?_
  · exact hT4.upd (((Upd.refl [w.heap.size + 1 + 1] _).setCell (Or.inl (by simp)) _).setCell (Or.inl (by simp)) _) (by simp; omega) (by simp; omega)
  · rw [HL2.out]
    exact ((hL2.upd ((((Upd.refl [ba, w.heap.size + 1 + 1] _).alloc _).trans h1).setCell (p := ⟨w.heap.size + 1 + 1, 0, none⟩) (Or.inl (by simp)) (.int .i64 (n : Int)) |>.setCell (p := ⟨w.heap.size + 1 + 1, 1, none⟩) (Or.inl (by simp)) (.slice a2 len2 c2)) (fun k hk => Or.inl (by simp at hk ⊢; omega))).mono (by simp; omega))
  · exact (((HT.out _ hBX).joined h1 (fun y hy => by simp at hy; rcases hy with rfl | rfl; exact Or.inl (by simp); exact Or.inr (by omega))).setCell (Or.inr (by simp; omega)) _).setCell (Or.inr (by simp; omega)) _

set_option maxHeartbeats 2000000 in
theorem do_cut_yes (bt ba n lo : Nat) (S : TS) (l : List Hg) (v : Value) (w : World) (p : Int) (i j : Nat) (r : Bool) (hT : TreesAt w bt ba n S) (hR : Rel n S l) (hL : LstAt w lo v l.length (hgCells l)) (hba : ba < lo) (hlo : lo ≤ w.heap.size) (hn : n ≤ 1000)(hi : i < n) (hj : j < n) (hup : upL l (j : Int) = some (i : Int)) :
    Calls Try.prog 36 #[.pointer (some ⟨bt, 0, none⟩), .agg #[.int .i64 (n : Int), v], .agg #[.int .i64 1, .int .i64 p, .int .i64 (j : Int), .bool r]] w (DoPost bt ba n lo w) := by
  have hbt := hT.head.lt
  have hbal := hT.row.lt
  have hnle := hT.le
  have hll := hR.snd.len
  obtain ⟨a, cap, rfl, _⟩ := hL.open
  generalize hlen : l.length = len at *
  have HLEN := Lib.hid hlen
  clear hlen
  have hU3 : Upd [ba] w (((w.alloc (.cells #[.int .i64 (n : Int), .slice a len cap] 52)).alloc (.cells #[.int .i64 1, .int .i64 p, .int .i64 (j : Int), .bool r] 54)).alloc (.cells #[.int .i64 0, .slice none 0 0] 52)) := ((Upd.refl [ba] w).alloc _).alloc _ |>.alloc _
  have r0 : ∀ W, Upd [ba] (((w.alloc (.cells #[.int .i64 (n : Int), .slice a len cap] 52)).alloc (.cells #[.int .i64 1, .int .i64 p, .int .i64 (j : Int), .bool r] 54)).alloc (.cells #[.int .i64 0, .slice none 0 0] 52)) W → W.cell? ⟨w.heap.size, 0, none⟩ = some (.int .i64 (n : Int)) := fun W h => by rw [h.cell (by first | (simp; done) | (simp; omega)) (by first | (simp; done) | (simp; omega))]; exact ((Upd.refl [] _).alloc _).was (((Upd.refl [] _).alloc _).was (by simp))
  have r1 : ∀ W, Upd [ba] (((w.alloc (.cells #[.int .i64 (n : Int), .slice a len cap] 52)).alloc (.cells #[.int .i64 1, .int .i64 p, .int .i64 (j : Int), .bool r] 54)).alloc (.cells #[.int .i64 0, .slice none 0 0] 52)) W → W.cell? ⟨w.heap.size, 1, none⟩ = some (.slice a len cap) := fun W h => by rw [h.cell (by first | (simp; done) | (simp; omega)) (by first | (simp; done) | (simp; omega))]; exact ((Upd.refl [] _).alloc _).was (((Upd.refl [] _).alloc _).was (by simp))
  have r2 : ∀ W, Upd [ba] (((w.alloc (.cells #[.int .i64 (n : Int), .slice a len cap] 52)).alloc (.cells #[.int .i64 1, .int .i64 p, .int .i64 (j : Int), .bool r] 54)).alloc (.cells #[.int .i64 0, .slice none 0 0] 52)) W → W.cell? ⟨w.heap.size + 1, 0, none⟩ = some (.int .i64 1) := fun W h => by rw [h.cell (by first | (simp; done) | (simp; omega)) (by first | (simp; done) | (simp; omega))]; exact ((Upd.refl [] _).alloc _).was (by simp)
  have r3 : ∀ W, Upd [ba] (((w.alloc (.cells #[.int .i64 (n : Int), .slice a len cap] 52)).alloc (.cells #[.int .i64 1, .int .i64 p, .int .i64 (j : Int), .bool r] 54)).alloc (.cells #[.int .i64 0, .slice none 0 0] 52)) W → W.cell? ⟨w.heap.size + 1, 1, none⟩ = some (.int .i64 p) := fun W h => by rw [h.cell (by first | (simp; done) | (simp; omega)) (by first | (simp; done) | (simp; omega))]; exact ((Upd.refl [] _).alloc _).was (by simp)
  have r4 : ∀ W, Upd [ba] (((w.alloc (.cells #[.int .i64 (n : Int), .slice a len cap] 52)).alloc (.cells #[.int .i64 1, .int .i64 p, .int .i64 (j : Int), .bool r] 54)).alloc (.cells #[.int .i64 0, .slice none 0 0] 52)) W → W.cell? ⟨w.heap.size + 1, 2, none⟩ = some (.int .i64 (j : Int)) := fun W h => by rw [h.cell (by first | (simp; done) | (simp; omega)) (by first | (simp; done) | (simp; omega))]; exact ((Upd.refl [] _).alloc _).was (by simp)
  have r5 : ∀ W, Upd [ba] (((w.alloc (.cells #[.int .i64 (n : Int), .slice a len cap] 52)).alloc (.cells #[.int .i64 1, .int .i64 p, .int .i64 (j : Int), .bool r] 54)).alloc (.cells #[.int .i64 0, .slice none 0 0] 52)) W → W.cell? ⟨w.heap.size + 1, 3, none⟩ = some (.bool r) := fun W h => by rw [h.cell (by first | (simp; done) | (simp; omega)) (by first | (simp; done) | (simp; omega))]; exact ((Upd.refl [] _).alloc _).was (by simp)
  have hres0 := rowAt_new ((w.alloc (.cells #[.int .i64 (n : Int), .slice a len cap] 52)).alloc (.cells #[.int .i64 1, .int .i64 p, .int .i64 (j : Int), .bool r] 54)) [.int .i64 0, .slice none 0 0] 52
  rw [World.size_alloc, World.size_alloc] at hres0
  have hres : ∀ W, Upd [ba] (((w.alloc (.cells #[.int .i64 (n : Int), .slice a len cap] 52)).alloc (.cells #[.int .i64 1, .int .i64 p, .int .i64 (j : Int), .bool r] 54)).alloc (.cells #[.int .i64 0, .slice none 0 0] 52)) W → RowAt W (w.heap.size + 1 + 1) 52 2 (fun j => [Value.int .i64 0, .slice none 0 0].getD j undef) := fun W h => hres0.upd h (by simp; omega)
  have q0 := fun W h => (hres W h).cellAt 0 (by omega) rfl
  have q1 := fun W h => (hres W h).cellAt 1 (by omega) rfl
  have q2 := fun W h => (hres W h).free 0
  have q3 := fun W h => (hres W h).free 1
  have HT := Lib.hid (fun W (h : Upd [ba] (((w.alloc (.cells #[.int .i64 (n : Int), .slice a len cap] 52)).alloc (.cells #[.int .i64 1, .int .i64 p, .int .i64 (j : Int), .bool r] 54)).alloc (.cells #[.int .i64 0, .slice none 0 0] 52)) W) => (hU3.trans h))
  have HL := Lib.hid (fun W (h : Upd [ba] w W) => hL.upd h (fun k hk => Or.inl (by simp at hk; omega)))
  have hT3 := hT.upd ((((Upd.refl [] w).alloc (.cells #[.int .i64 (n : Int), .slice a len cap] 52)).alloc (.cells #[.int .i64 1, .int .i64 p, .int .i64 (j : Int), .bool r] 54)).alloc (.cells #[.int .i64 0, .slice none 0 0] 52)) (by simp) (by simp)
  have HT0 := Lib.hid hT
  have HL0 : Hid (LstAt w lo (.slice a len cap) l.length (hgCells l)) := by show LstAt _ _ _ _ _; rw [HLEN.out]; exact hL
  clear hres0 hT hL
  have kC := rcut_any (((w.alloc (.cells #[.int .i64 (n : Int), .slice a len cap] 52)).alloc (.cells #[.int .i64 1, .int .i64 p, .int .i64 (j : Int), .bool r] 54)).alloc (.cells #[.int .i64 0, .slice none 0 0] 52)) lo n (j : Int) (.slice a len cap) l (by rw [HLEN.out]; exact HL.out _ hU3) (by have := HLEN.out; omega) (by simp; omega)
  simp only [hup, ov, ob, Option.getD, Option.isSome] at kC
  have hSu : S.u j = i := by rw [hR.up j hj, hup]; rfl
  have kP := fun W (hW : TreesAt W bt ba n S) => cut_yes bt ba n S i j W hW hi hj hSu
  have HR := Lib.hid (hR.cut hi hj hSu)
  clear hR hSu hup hi hj
  obtain ⟨len2, hl2⟩ : ∃ k, (cutL l (j : Int)).length = k := ⟨_, rfl⟩
  simp only [hl2] at kC
  have HL2 := Lib.hid hl2
  clear hl2
  have hu := Upd.refl [ba] (((w.alloc (.cells #[.int .i64 (n : Int), .slice a len cap] 52)).alloc (.cells #[.int .i64 1, .int .i64 p, .int .i64 (j : Int), .bool r] 54)).alloc (.cells #[.int .i64 0, .slice none 0 0] 52))
  have HU3 := Lib.hid hU3
  go_enter Try.func36, Try.ntmps36
  go_wp2_with (first
    | ((go_at_call 53; (with_reducible refine kC.mono ?_)); rintro e w2 ⟨v2, rfl, hL2, hb2⟩; obtain ⟨a2, c2, rfl, _⟩ := hL2.open; have hq2 : Upd [ba] (((w.alloc (.cells #[.int .i64 (n : Int), .slice a len cap] 52)).alloc (.cells #[.int .i64 1, .int .i64 p, .int .i64 (j : Int), .bool r] 54)).alloc (.cells #[.int .i64 0, .slice none 0 0] 52)) w2 := hu.then hb2; have hsz : w.heap.size + 1 + 1 + 1 ≤ w2.heap.size := by { have := hq2.size; simpa using this }; have hq2a : Upd [ba] (((w.alloc (.cells #[.int .i64 (n : Int), .slice a len cap] 52)).alloc (.cells #[.int .i64 1, .int .i64 p, .int .i64 (j : Int), .bool r] 54)).alloc (.cells #[.int .i64 0, .slice none 0 0] 52)) (w2.alloc (.cells #[.int .i64 (n : Int), (.slice a2 len2 c2)] 52)) := hq2.alloc _)
    | ((go_at_call 37; (with_reducible refine (kP (w2.alloc (.cells #[.int .i64 (n : Int), (.slice a2 len2 c2)] 52)) (hT3.upd (hb2.alloc _) (by simp) (by simp))).mono ?_)); rintro e w3 ⟨rfl, hT4, hu4⟩; have hq3 : Upd [ba] (((w.alloc (.cells #[.int .i64 (n : Int), .slice a len cap] 52)).alloc (.cells #[.int .i64 1, .int .i64 p, .int .i64 (j : Int), .bool r] 54)).alloc (.cells #[.int .i64 0, .slice none 0 0] 52)) w3 := (hq2.alloc (.cells #[.int .i64 (n : Int), (.slice a2 len2 c2)] 52)).trans hu4; have t0 : (w3).cell? ⟨w2.heap.size, 0, none⟩ = some (.int .i64 (n : Int)) := by { rw [hu4.cell (by simp) (by simp; omega)]; simp }; have t1 : (w3).cell? ⟨w2.heap.size, 1, none⟩ = some (.slice a2 len2 c2) := by { rw [hu4.cell (by simp) (by simp; omega)]; simp }))
  refine bodyPost_ret (v := .tuple #[.agg #[.int .i64 (n : Int), .slice a2 len2 c2], .bool true]) (by simp [results, Try.results36, go_sem, *]) rfl ?_
  have hs1 := hq2.size
  simp only [World.size_alloc] at hs1
  refine DoPost.mk (.slice a2 len2 c2) (cutS S i j) (cutL l (j : Int)) rfl ?_ HR.out ?_ ?_
  · exact hT4.upd (((Upd.refl [w.heap.size + 1 + 1] _).setCell (Or.inl (by simp)) _).setCell (Or.inl (by simp)) _) (by simp; omega) (by simp; omega)
  · rw [HL2.out]
    exact ((hL2.upd ((((Upd.refl [ba, w.heap.size + 1 + 1] _).alloc _).trans (hu4.mono (by simp))).setCell (p := ⟨w.heap.size + 1 + 1, 0, none⟩) (Or.inl (by simp)) (.int .i64 (n : Int)) |>.setCell (p := ⟨w.heap.size + 1 + 1, 1, none⟩) (Or.inl (by simp)) (.slice a2 len2 c2)) (fun k hk => Or.inl (by simp at hk ⊢; omega))).mono (by simp; omega))
  · exact ((HT.out _ hq3).setCell (Or.inr (by simp; omega)) _).setCell (Or.inr (by simp; omega)) _

set_option maxHeartbeats 2000000 in
theorem do_cut_no (bt ba n lo : Nat) (S : TS) (l : List Hg) (v : Value) (w : World) (p x : Int) (r : Bool) (hT : TreesAt w bt ba n S) (hR : Rel n S l) (hL : LstAt w lo v l.length (hgCells l)) (hba : ba < lo) (hlo : lo ≤ w.heap.size) (hn : n ≤ 1000)(hup : upL l x = none) :
    Calls Try.prog 36 #[.pointer (some ⟨bt, 0, none⟩), .agg #[.int .i64 (n : Int), v], .agg #[.int .i64 1, .int .i64 p, .int .i64 x, .bool r]] w (DoPost bt ba n lo w) := by
  have hbt := hT.head.lt
  have hbal := hT.row.lt
  have hnle := hT.le
  have hll := hR.snd.len
  obtain ⟨a, cap, rfl, _⟩ := hL.open
  generalize hlen : l.length = len at *
  have HLEN := Lib.hid hlen
  clear hlen
  have hU3 : Upd [ba] w (((w.alloc (.cells #[.int .i64 (n : Int), .slice a len cap] 52)).alloc (.cells #[.int .i64 1, .int .i64 p, .int .i64 x, .bool r] 54)).alloc (.cells #[.int .i64 0, .slice none 0 0] 52)) := ((Upd.refl [ba] w).alloc _).alloc _ |>.alloc _
  have r0 : ∀ W, Upd [ba] (((w.alloc (.cells #[.int .i64 (n : Int), .slice a len cap] 52)).alloc (.cells #[.int .i64 1, .int .i64 p, .int .i64 x, .bool r] 54)).alloc (.cells #[.int .i64 0, .slice none 0 0] 52)) W → W.cell? ⟨w.heap.size, 0, none⟩ = some (.int .i64 (n : Int)) := fun W h => by rw [h.cell (by first | (simp; done) | (simp; omega)) (by first | (simp; done) | (simp; omega))]; exact ((Upd.refl [] _).alloc _).was (((Upd.refl [] _).alloc _).was (by simp))
  have r1 : ∀ W, Upd [ba] (((w.alloc (.cells #[.int .i64 (n : Int), .slice a len cap] 52)).alloc (.cells #[.int .i64 1, .int .i64 p, .int .i64 x, .bool r] 54)).alloc (.cells #[.int .i64 0, .slice none 0 0] 52)) W → W.cell? ⟨w.heap.size, 1, none⟩ = some (.slice a len cap) := fun W h => by rw [h.cell (by first | (simp; done) | (simp; omega)) (by first | (simp; done) | (simp; omega))]; exact ((Upd.refl [] _).alloc _).was (((Upd.refl [] _).alloc _).was (by simp))
  have r2 : ∀ W, Upd [ba] (((w.alloc (.cells #[.int .i64 (n : Int), .slice a len cap] 52)).alloc (.cells #[.int .i64 1, .int .i64 p, .int .i64 x, .bool r] 54)).alloc (.cells #[.int .i64 0, .slice none 0 0] 52)) W → W.cell? ⟨w.heap.size + 1, 0, none⟩ = some (.int .i64 1) := fun W h => by rw [h.cell (by first | (simp; done) | (simp; omega)) (by first | (simp; done) | (simp; omega))]; exact ((Upd.refl [] _).alloc _).was (by simp)
  have r3 : ∀ W, Upd [ba] (((w.alloc (.cells #[.int .i64 (n : Int), .slice a len cap] 52)).alloc (.cells #[.int .i64 1, .int .i64 p, .int .i64 x, .bool r] 54)).alloc (.cells #[.int .i64 0, .slice none 0 0] 52)) W → W.cell? ⟨w.heap.size + 1, 1, none⟩ = some (.int .i64 p) := fun W h => by rw [h.cell (by first | (simp; done) | (simp; omega)) (by first | (simp; done) | (simp; omega))]; exact ((Upd.refl [] _).alloc _).was (by simp)
  have r4 : ∀ W, Upd [ba] (((w.alloc (.cells #[.int .i64 (n : Int), .slice a len cap] 52)).alloc (.cells #[.int .i64 1, .int .i64 p, .int .i64 x, .bool r] 54)).alloc (.cells #[.int .i64 0, .slice none 0 0] 52)) W → W.cell? ⟨w.heap.size + 1, 2, none⟩ = some (.int .i64 x) := fun W h => by rw [h.cell (by first | (simp; done) | (simp; omega)) (by first | (simp; done) | (simp; omega))]; exact ((Upd.refl [] _).alloc _).was (by simp)
  have r5 : ∀ W, Upd [ba] (((w.alloc (.cells #[.int .i64 (n : Int), .slice a len cap] 52)).alloc (.cells #[.int .i64 1, .int .i64 p, .int .i64 x, .bool r] 54)).alloc (.cells #[.int .i64 0, .slice none 0 0] 52)) W → W.cell? ⟨w.heap.size + 1, 3, none⟩ = some (.bool r) := fun W h => by rw [h.cell (by first | (simp; done) | (simp; omega)) (by first | (simp; done) | (simp; omega))]; exact ((Upd.refl [] _).alloc _).was (by simp)
  have hres0 := rowAt_new ((w.alloc (.cells #[.int .i64 (n : Int), .slice a len cap] 52)).alloc (.cells #[.int .i64 1, .int .i64 p, .int .i64 x, .bool r] 54)) [.int .i64 0, .slice none 0 0] 52
  rw [World.size_alloc, World.size_alloc] at hres0
  have hres : ∀ W, Upd [ba] (((w.alloc (.cells #[.int .i64 (n : Int), .slice a len cap] 52)).alloc (.cells #[.int .i64 1, .int .i64 p, .int .i64 x, .bool r] 54)).alloc (.cells #[.int .i64 0, .slice none 0 0] 52)) W → RowAt W (w.heap.size + 1 + 1) 52 2 (fun j => [Value.int .i64 0, .slice none 0 0].getD j undef) := fun W h => hres0.upd h (by simp; omega)
  have q0 := fun W h => (hres W h).cellAt 0 (by omega) rfl
  have q1 := fun W h => (hres W h).cellAt 1 (by omega) rfl
  have q2 := fun W h => (hres W h).free 0
  have q3 := fun W h => (hres W h).free 1
  have HT := Lib.hid (fun W (h : Upd [ba] (((w.alloc (.cells #[.int .i64 (n : Int), .slice a len cap] 52)).alloc (.cells #[.int .i64 1, .int .i64 p, .int .i64 x, .bool r] 54)).alloc (.cells #[.int .i64 0, .slice none 0 0] 52)) W) => (hU3.trans h))
  have HL := Lib.hid (fun W (h : Upd [ba] w W) => hL.upd h (fun k hk => Or.inl (by simp at hk; omega)))
  have hT3 := hT.upd ((((Upd.refl [] w).alloc (.cells #[.int .i64 (n : Int), .slice a len cap] 52)).alloc (.cells #[.int .i64 1, .int .i64 p, .int .i64 x, .bool r] 54)).alloc (.cells #[.int .i64 0, .slice none 0 0] 52)) (by simp) (by simp)
  have HT0 := Lib.hid hT
  have HL0 : Hid (LstAt w lo (.slice a len cap) l.length (hgCells l)) := by show LstAt _ _ _ _ _; rw [HLEN.out]; exact hL
  clear hres0 hT hL
  have kC := rcut_any (((w.alloc (.cells #[.int .i64 (n : Int), .slice a len cap] 52)).alloc (.cells #[.int .i64 1, .int .i64 p, .int .i64 x, .bool r] 54)).alloc (.cells #[.int .i64 0, .slice none 0 0] 52)) lo n x (.slice a len cap) l (by rw [HLEN.out]; exact HL.out _ hU3) (by have := HLEN.out; omega) (by simp; omega)
  simp only [hup, ov, ob, Option.getD, Option.isSome] at kC
  rw [cutL_none hup] at kC
  have kP := fun W (hW : TreesAt W bt ba n S) => cut_no bt ba n S x W hW (by
    unfold upOf
    split
    · rename_i hx
      have e1 := hR.up x.toNat (by omega)
      rw [show ((x.toNat : Nat) : Int) = x by omega, hup] at e1
      exact e1
    · rfl)
  have HR := Lib.hid hR
  clear hR hup
  obtain ⟨len2, hl2⟩ : ∃ k, l.length = k := ⟨_, rfl⟩
  simp only [hl2] at kC
  have HL2 := Lib.hid hl2
  clear hl2
  have hu := Upd.refl [ba] (((w.alloc (.cells #[.int .i64 (n : Int), .slice a len cap] 52)).alloc (.cells #[.int .i64 1, .int .i64 p, .int .i64 x, .bool r] 54)).alloc (.cells #[.int .i64 0, .slice none 0 0] 52))
  have HU3 := Lib.hid hU3
  go_enter Try.func36, Try.ntmps36
  go_wp2_with (first
    | ((go_at_call 53; (with_reducible refine kC.mono ?_)); rintro e w2 ⟨v2, rfl, hL2, hb2⟩; obtain ⟨a2, c2, rfl, _⟩ := hL2.open; have hq2 : Upd [ba] (((w.alloc (.cells #[.int .i64 (n : Int), .slice a len cap] 52)).alloc (.cells #[.int .i64 1, .int .i64 p, .int .i64 x, .bool r] 54)).alloc (.cells #[.int .i64 0, .slice none 0 0] 52)) w2 := hu.then hb2; have hsz : w.heap.size + 1 + 1 + 1 ≤ w2.heap.size := by { have := hq2.size; simpa using this }; have hq2a : Upd [ba] (((w.alloc (.cells #[.int .i64 (n : Int), .slice a len cap] 52)).alloc (.cells #[.int .i64 1, .int .i64 p, .int .i64 x, .bool r] 54)).alloc (.cells #[.int .i64 0, .slice none 0 0] 52)) (w2.alloc (.cells #[.int .i64 (n : Int), (.slice a2 len2 c2)] 52)) := hq2.alloc _)
    | ((go_at_call 37; (with_reducible refine (kP (w2.alloc (.cells #[.int .i64 (n : Int), (.slice a2 len2 c2)] 52)) (hT3.upd (hb2.alloc _) (by simp) (by simp))).mono ?_)); rintro e w3 ⟨rfl, rfl⟩; have hT4 := (hT3.upd (hb2.alloc (.cells #[.int .i64 (n : Int), (.slice a2 len2 c2)] 52)) (by simp) (by simp)); have hu4 := Upd.refl [ba] (w2.alloc (.cells #[.int .i64 (n : Int), (.slice a2 len2 c2)] 52)); have hq3 : Upd [ba] (((w.alloc (.cells #[.int .i64 (n : Int), .slice a len cap] 52)).alloc (.cells #[.int .i64 1, .int .i64 p, .int .i64 x, .bool r] 54)).alloc (.cells #[.int .i64 0, .slice none 0 0] 52)) (w2.alloc (.cells #[.int .i64 (n : Int), (.slice a2 len2 c2)] 52)) := (hq2.alloc (.cells #[.int .i64 (n : Int), (.slice a2 len2 c2)] 52)).trans hu4; have t0 : ((w2.alloc (.cells #[.int .i64 (n : Int), (.slice a2 len2 c2)] 52))).cell? ⟨w2.heap.size, 0, none⟩ = some (.int .i64 (n : Int)) := by { rw [hu4.cell (by simp) (by simp; omega)]; simp }; have t1 : ((w2.alloc (.cells #[.int .i64 (n : Int), (.slice a2 len2 c2)] 52))).cell? ⟨w2.heap.size, 1, none⟩ = some (.slice a2 len2 c2) := by { rw [hu4.cell (by simp) (by simp; omega)]; simp }))
  refine bodyPost_ret (v := .tuple #[.agg #[.int .i64 (n : Int), .slice a2 len2 c2], .bool true]) (by simp [results, Try.results36, go_sem, *]) rfl ?_
  have hs1 := hq2.size
  simp only [World.size_alloc] at hs1
  refine DoPost.mk (.slice a2 len2 c2) S l rfl ?_ HR.out ?_ ?_
  · exact hT4.upd (((Upd.refl [w.heap.size + 1 + 1] _).setCell (Or.inl (by simp)) _).setCell (Or.inl (by simp)) _) (by simp; omega) (by simp; omega)
  · rw [HL2.out]
    exact ((hL2.upd ((((Upd.refl [ba, w.heap.size + 1 + 1] _).alloc _).trans (hu4.mono (by simp))).setCell (p := ⟨w.heap.size + 1 + 1, 0, none⟩) (Or.inl (by simp)) (.int .i64 (n : Int)) |>.setCell (p := ⟨w.heap.size + 1 + 1, 1, none⟩) (Or.inl (by simp)) (.slice a2 len2 c2)) (fun k hk => Or.inl (by simp at hk ⊢; omega))).mono (by simp; omega))
  · exact ((HT.out _ hq3).setCell (Or.inr (by simp; omega)) _).setCell (Or.inr (by simp; omega)) _


end Go.Proofs.Ytdgfibcbnlkbpaa
