/-
  An act done to trees and to the document's (haycocklaw09.do): both answer alike, and say one behind it. Conditions: those of each lemma.
-/
import Derived.Test.YtdgfibcbnlkbpaaSpineDoB
set_option linter.unusedVariables false
set_option linter.unusedSimpArgs false
namespace Go.Proofs.Ytdgfibcbnlkbpaa
open Go Go.RowKit

set_option maxHeartbeats 2000000 in
theorem do_hang_yes (bt ba n lo : Nat) (S : TS) (l : List Hg) (v : Value) (w : World) (i j : Nat) (r : Bool) (hT : TreesAt w bt ba n S) (hR : Rel n S l) (hL : LstAt w lo v l.length (hgCells l)) (hba : ba < lo) (hlo : lo ≤ w.heap.size) (hn : n ≤ 1000) (ha : aboveL l (n + 1) j i = false) (hk : rhangOk n l i j r = true) :
    Calls Try.prog 36 #[.pointer (some ⟨bt, 0, none⟩), .agg #[.int .i64 (n : Int), v], .agg #[.int .i64 0, .int .i64 (i : Int), .int .i64 (j : Int), .bool r]] w (DoPost bt ba n lo w) := by
  have hbt := hT.head.lt
  have hbal := hT.row.lt
  have hnle := hT.le
  have hll := hR.snd.len
  obtain ⟨a, cap, rfl, _⟩ := hL.open
  generalize hlen : l.length = len at *
  have HLEN := Lib.hid hlen
  clear hlen
  have hU3 : Upd [ba] w (((w.alloc (.cells #[.int .i64 (n : Int), .slice a len cap] 52)).alloc (.cells #[.int .i64 0, .int .i64 (i : Int), .int .i64 (j : Int), .bool r] 54)).alloc (.cells #[.int .i64 0, .slice none 0 0] 52)) := ((Upd.refl [ba] w).alloc _).alloc _ |>.alloc _
  have r0 : ∀ W, Upd [ba] (((w.alloc (.cells #[.int .i64 (n : Int), .slice a len cap] 52)).alloc (.cells #[.int .i64 0, .int .i64 (i : Int), .int .i64 (j : Int), .bool r] 54)).alloc (.cells #[.int .i64 0, .slice none 0 0] 52)) W → W.cell? ⟨w.heap.size, 0, none⟩ = some (.int .i64 (n : Int)) := fun W h => by rw [h.cell (by first | (simp; done) | (simp; omega)) (by first | (simp; done) | (simp; omega))]; exact ((Upd.refl [] _).alloc _).was (((Upd.refl [] _).alloc _).was (by simp))
  have r1 : ∀ W, Upd [ba] (((w.alloc (.cells #[.int .i64 (n : Int), .slice a len cap] 52)).alloc (.cells #[.int .i64 0, .int .i64 (i : Int), .int .i64 (j : Int), .bool r] 54)).alloc (.cells #[.int .i64 0, .slice none 0 0] 52)) W → W.cell? ⟨w.heap.size, 1, none⟩ = some (.slice a len cap) := fun W h => by rw [h.cell (by first | (simp; done) | (simp; omega)) (by first | (simp; done) | (simp; omega))]; exact ((Upd.refl [] _).alloc _).was (((Upd.refl [] _).alloc _).was (by simp))
  have r2 : ∀ W, Upd [ba] (((w.alloc (.cells #[.int .i64 (n : Int), .slice a len cap] 52)).alloc (.cells #[.int .i64 0, .int .i64 (i : Int), .int .i64 (j : Int), .bool r] 54)).alloc (.cells #[.int .i64 0, .slice none 0 0] 52)) W → W.cell? ⟨w.heap.size + 1, 0, none⟩ = some (.int .i64 0) := fun W h => by rw [h.cell (by first | (simp; done) | (simp; omega)) (by first | (simp; done) | (simp; omega))]; exact ((Upd.refl [] _).alloc _).was (by simp)
  have r3 : ∀ W, Upd [ba] (((w.alloc (.cells #[.int .i64 (n : Int), .slice a len cap] 52)).alloc (.cells #[.int .i64 0, .int .i64 (i : Int), .int .i64 (j : Int), .bool r] 54)).alloc (.cells #[.int .i64 0, .slice none 0 0] 52)) W → W.cell? ⟨w.heap.size + 1, 1, none⟩ = some (.int .i64 (i : Int)) := fun W h => by rw [h.cell (by first | (simp; done) | (simp; omega)) (by first | (simp; done) | (simp; omega))]; exact ((Upd.refl [] _).alloc _).was (by simp)
  have r4 : ∀ W, Upd [ba] (((w.alloc (.cells #[.int .i64 (n : Int), .slice a len cap] 52)).alloc (.cells #[.int .i64 0, .int .i64 (i : Int), .int .i64 (j : Int), .bool r] 54)).alloc (.cells #[.int .i64 0, .slice none 0 0] 52)) W → W.cell? ⟨w.heap.size + 1, 2, none⟩ = some (.int .i64 (j : Int)) := fun W h => by rw [h.cell (by first | (simp; done) | (simp; omega)) (by first | (simp; done) | (simp; omega))]; exact ((Upd.refl [] _).alloc _).was (by simp)
  have r5 : ∀ W, Upd [ba] (((w.alloc (.cells #[.int .i64 (n : Int), .slice a len cap] 52)).alloc (.cells #[.int .i64 0, .int .i64 (i : Int), .int .i64 (j : Int), .bool r] 54)).alloc (.cells #[.int .i64 0, .slice none 0 0] 52)) W → W.cell? ⟨w.heap.size + 1, 3, none⟩ = some (.bool r) := fun W h => by rw [h.cell (by first | (simp; done) | (simp; omega)) (by first | (simp; done) | (simp; omega))]; exact ((Upd.refl [] _).alloc _).was (by simp)
  have hres0 := rowAt_new ((w.alloc (.cells #[.int .i64 (n : Int), .slice a len cap] 52)).alloc (.cells #[.int .i64 0, .int .i64 (i : Int), .int .i64 (j : Int), .bool r] 54)) [.int .i64 0, .slice none 0 0] 52
  rw [World.size_alloc, World.size_alloc] at hres0
  have hres : ∀ W, Upd [ba] (((w.alloc (.cells #[.int .i64 (n : Int), .slice a len cap] 52)).alloc (.cells #[.int .i64 0, .int .i64 (i : Int), .int .i64 (j : Int), .bool r] 54)).alloc (.cells #[.int .i64 0, .slice none 0 0] 52)) W → RowAt W (w.heap.size + 1 + 1) 52 2 (fun j => [Value.int .i64 0, .slice none 0 0].getD j undef) := fun W h => hres0.upd h (by simp; omega)
  have q0 := fun W h => (hres W h).cellAt 0 (by omega) rfl
  have q1 := fun W h => (hres W h).cellAt 1 (by omega) rfl
  have q2 := fun W h => (hres W h).free 0
  have q3 := fun W h => (hres W h).free 1
  have HT := Lib.hid (fun W (h : Upd [ba] (((w.alloc (.cells #[.int .i64 (n : Int), .slice a len cap] 52)).alloc (.cells #[.int .i64 0, .int .i64 (i : Int), .int .i64 (j : Int), .bool r] 54)).alloc (.cells #[.int .i64 0, .slice none 0 0] 52)) W) => (hU3.trans h))
  have HL := Lib.hid (fun W (h : Upd [ba] w W) => hL.upd h (fun k hk => Or.inl (by simp at hk; omega)))
  have hT3 := hT.upd ((((Upd.refl [] w).alloc (.cells #[.int .i64 (n : Int), .slice a len cap] 52)).alloc (.cells #[.int .i64 0, .int .i64 (i : Int), .int .i64 (j : Int), .bool r] 54)).alloc (.cells #[.int .i64 0, .slice none 0 0] 52)) (by simp) (by simp)
  have HT0 := Lib.hid hT
  have HL0 : Hid (LstAt w lo (.slice a len cap) l.length (hgCells l)) := by show LstAt _ _ _ _ _; rw [HLEN.out]; exact hL
  clear hres0 hT hL
  have kA := rabove_any (((w.alloc (.cells #[.int .i64 (n : Int), .slice a len cap] 52)).alloc (.cells #[.int .i64 0, .int .i64 (i : Int), .int .i64 (j : Int), .bool r] 54)).alloc (.cells #[.int .i64 0, .slice none 0 0] 52)) lo n j i (.slice a len cap) l (by rw [HLEN.out]; exact HL.out _ hU3) (by omega)
  rw [ha] at kA
  have kH := fun W (hW : Upd [ba] w W) => rhang_yes W lo n i j r (.slice a len cap) l (by rw [HLEN.out]; exact HL.out _ hW) (by have := hW.size; omega) (by have := HLEN.out; omega) hk
  obtain ⟨len2, hl2⟩ : ∃ k, (l ++ [Hg.mk i j r]).length = k := ⟨_, rfl⟩
  simp only [hl2] at kH
  have HL2 := Lib.hid hl2
  clear hl2
  have hk2 := hk
  unfold rhangOk ob at hk2
  simp only [Bool.and_eq_true, Bool.not_eq_true', decide_eq_true_eq] at hk2
  obtain ⟨⟨⟨⟨e1, e2⟩, e3⟩, e4⟩, e5⟩ := hk2
  have f4 : upL l j = none := by cases hq : upL l j with
    | none => rfl
    | some q => rw [hq] at e4; simp at e4
  have f5 : kidL l i r = none := by cases hq : kidL l i r with
    | none => rfl
    | some q => rw [hq] at e5; simp at e5
  have hin : i < n := by omega
  have hjn : j < n := by omega
  have hne : i ≠ j := by intro h; subst h; simp at e3
  have kP := fun W (hW : TreesAt W bt ba n S) => hang_yes bt ba n S i j r W hW hin hjn hne (by rw [hR.up j hjn, f4]; rfl) (by rw [hR.kid i hin r, f5]; rfl)
  have HR := Lib.hid (hR.hang (r := r) hin hjn hne f4 f5 ha)
  have hu := Upd.refl [ba] (((w.alloc (.cells #[.int .i64 (n : Int), .slice a len cap] 52)).alloc (.cells #[.int .i64 0, .int .i64 (i : Int), .int .i64 (j : Int), .bool r] 54)).alloc (.cells #[.int .i64 0, .slice none 0 0] 52))
  clear hk ha hR e1 e2 e3 e4 e5 f4 f5
  have HIN := Lib.hid (And.intro hin hjn)
  clear hin hjn hne
  go_enter Try.func36, Try.ntmps36
  go_wp2_with (first
    | ((go_at_call 51; (with_reducible refine kA.mono ?_)); rintro e w1 ⟨rfl, hb1⟩; have hq1 : Upd [ba] (((w.alloc (.cells #[.int .i64 (n : Int), .slice a len cap] 52)).alloc (.cells #[.int .i64 0, .int .i64 (i : Int), .int .i64 (j : Int), .bool r] 54)).alloc (.cells #[.int .i64 0, .slice none 0 0] 52)) w1 := hu.then hb1)
    | ((go_at_call 52; (with_reducible refine (kH _ (HT.out _ hq1)).mono ?_)); rintro e w2 ⟨v2, rfl, hL2, hb2⟩; obtain ⟨a2, c2, rfl, _⟩ := hL2.open; have hq2 : Upd [ba] (((w.alloc (.cells #[.int .i64 (n : Int), .slice a len cap] 52)).alloc (.cells #[.int .i64 0, .int .i64 (i : Int), .int .i64 (j : Int), .bool r] 54)).alloc (.cells #[.int .i64 0, .slice none 0 0] 52)) w2 := hq1.then hb2))
  have hBX : Upd [ba] (((w.alloc (.cells #[.int .i64 (n : Int), .slice a len cap] 52)).alloc (.cells #[.int .i64 0, .int .i64 (i : Int), .int .i64 (j : Int), .bool r] 54)).alloc (.cells #[.int .i64 0, .slice none 0 0] 52)) (w2.alloc (.cells #[.int .i64 (n : Int), (.slice a2 len2 c2)] 52)) := (hq2).alloc _
  have hsz : w.heap.size + 1 + 1 + 1 ≤ w2.heap.size := by have := (hq2).size; simpa using this
  have s1 : HasRow (w2.alloc (.cells #[.int .i64 (n : Int), (.slice a2 len2 c2)] 52)) (w.heap.size + 1 + 1) 52 2 := ⟨_, hres _ hBX⟩
  have t0 : ∀ W, Upd [ba, w.heap.size + 1 + 1] (w2.alloc (.cells #[.int .i64 (n : Int), (.slice a2 len2 c2)] 52)) W → W.cell? ⟨w2.heap.size, 0, none⟩ = some (.int .i64 (n : Int)) := fun W h => by rw [h.cell (by simp) (by simp; omega)]; simp
  have t1 : ∀ W, Upd [ba, w.heap.size + 1 + 1] (w2.alloc (.cells #[.int .i64 (n : Int), (.slice a2 len2 c2)] 52)) W → W.cell? ⟨w2.heap.size, 1, none⟩ = some (.slice a2 len2 c2) := fun W h => by rw [h.cell (by simp) (by simp; omega)]; simp
  have t2 : ∀ W, Upd [ba, w.heap.size + 1 + 1] (w2.alloc (.cells #[.int .i64 (n : Int), (.slice a2 len2 c2)] 52)) W → W.cell? ⟨w.heap.size + 1, 1, none⟩ = some (.int .i64 (i : Int)) := fun W h => by rw [h.cell (by simp; omega) (by simp; omega)]; exact r3 _ hBX
  have t3 : ∀ W, Upd [ba, w.heap.size + 1 + 1] (w2.alloc (.cells #[.int .i64 (n : Int), (.slice a2 len2 c2)] 52)) W → W.cell? ⟨w.heap.size + 1, 2, none⟩ = some (.int .i64 (j : Int)) := fun W h => by rw [h.cell (by simp; omega) (by simp; omega)]; exact r4 _ hBX
  have t4 : ∀ W, Upd [ba, w.heap.size + 1 + 1] (w2.alloc (.cells #[.int .i64 (n : Int), (.slice a2 len2 c2)] 52)) W → W.cell? ⟨w.heap.size + 1, 3, none⟩ = some (.bool r) := fun W h => by rw [h.cell (by simp; omega) (by simp; omega)]; exact r5 _ hBX
  have p2 : ∀ W, HasRow W (w.heap.size + 1 + 1) 52 2 → W.cell? ⟨w.heap.size + 1 + 1, 0, none⟩ = some (cv W ⟨w.heap.size + 1 + 1, 0, none⟩) := fun W h => h.cell 0 (by omega)
  have p3 : ∀ W, HasRow W (w.heap.size + 1 + 1) 52 2 → W.cell? ⟨w.heap.size + 1 + 1, 1, none⟩ = some (cv W ⟨w.heap.size + 1 + 1, 1, none⟩) := fun W h => h.cell 1 (by omega)
  have p4 : ∀ W, HasRow W (w.heap.size + 1 + 1) 52 2 → W.frozen? ⟨w.heap.size + 1 + 1, 0, none⟩ = false := fun W h => h.free 0
  have p5 : ∀ W, HasRow W (w.heap.size + 1 + 1) 52 2 → W.frozen? ⟨w.heap.size + 1 + 1, 1, none⟩ = false := fun W h => h.free 1
  have hTX : TreesAt (w2.alloc (.cells #[.int .i64 (n : Int), (.slice a2 len2 c2)] 52)) bt ba n S := (hT3.upd ((hb1.trans hb2).alloc _) (by simp) (by simp))
  clear r0 r1 r2 r3 r4 r5 q0 q1 q2 q3
  go_region_held3 (fun W => Upd [ba, w.heap.size + 1 + 1] (w2.alloc (.cells #[.int .i64 (n : Int), (.slice a2 len2 c2)] 52)) W ∧ HasRow W (w.heap.size + 1 + 1) 52 2)
    (first
      | assumption
      | exact ⟨(Upd.refl _ _).drew, s1⟩
      | (refine ⟨?_, ?_⟩; assumption; assumption)
      | exact ⟨(h1.setCell (Or.inl (by simp)) _).setCell (Or.inl (by simp)) _, (h2.set 0 _).set 1 _⟩)
    (first | ((go_at_call 38; (with_reducible refine (kP _ hTX.drew).mono ?_)); rintro e w3 ⟨rfl, hT4, hu4⟩; have h1 : Upd [ba, w.heap.size + 1 + 1] (w2.alloc (.cells #[.int .i64 (n : Int), (.slice a2 len2 c2)] 52)) w3 := (Upd.refl _ _).drew.trans (hu4.mono (by simp)); have h2 : HasRow w3 (w.heap.size + 1 + 1) 52 2 := s1.upd ((Upd.refl [ba] _).drew.trans hu4) (by simp; omega)))
  go_wp2
  
  refine bodyPost_ret (v := .tuple #[.agg #[.int .i64 (n : Int), .slice a2 len2 c2], .bool true]) (by simp [results, Try.results36, go_sem, p2, p3, h2]) rfl ?_
  have hs1 := hq1.size
  simp only [World.size_alloc] at hs1
  refine DoPost.mk (.slice a2 len2 c2) (hangS S i j r) (l ++ [Hg.mk i j r]) rfl ?_ HR.out ?_ ?_
  · exact hT4.upd (((Upd.refl [w.heap.size + 1 + 1] _).setCell (Or.inl (by simp)) _).setCell (Or.inl (by simp)) _) (by simp; omega) (by simp; omega)
  · rw [HL2.out]
    exact ((hL2.upd ((((Upd.refl [ba, w.heap.size + 1 + 1] _).alloc _).trans h1).setCell (p := ⟨w.heap.size + 1 + 1, 0, none⟩) (Or.inl (by simp)) (.int .i64 (n : Int)) |>.setCell (p := ⟨w.heap.size + 1 + 1, 1, none⟩) (Or.inl (by simp)) (.slice a2 len2 c2)) (fun k hk => Or.inl (by simp at hk; omega))).mono (by omega))
  · exact (((HT.out _ hBX).joined h1 (fun y hy => by simp at hy; rcases hy with rfl | rfl; exact Or.inl (by simp); exact Or.inr (by omega))).setCell (Or.inr (by simp; omega)) _).setCell (Or.inr (by simp; omega)) _

end Go.Proofs.Ytdgfibcbnlkbpaa
