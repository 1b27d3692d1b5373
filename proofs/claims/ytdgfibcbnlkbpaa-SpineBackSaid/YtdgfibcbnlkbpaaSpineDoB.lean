/-
  An act done to trees and to the document's (haycocklaw09.do): both answer alike, and say one behind it. Conditions: those of each lemma.
-/
import Derived.Test.YtdgfibcbnlkbpaaSpineDo
set_option linter.unusedVariables false
set_option linter.unusedSimpArgs false
namespace Go.Proofs.Ytdgfibcbnlkbpaa
open Go Go.RowKit

theorem hangOk_eq {n : Nat} {S : TS} {l : List Hg} (R : Rel n S l) (p x : Int) (r : Bool) : hangOk n S p x r = rhangOk n l p x r := by
  unfold hangOk rhangOk ob
  by_cases hp : 0 ≤ p ∧ p < n
  · by_cases hx : 0 ≤ x ∧ x < n
    · have e1 := R.up x.toNat (by omega)
      have e2 := R.kid p.toNat (by omega) r
      rw [show ((x.toNat : Nat) : Int) = x by omega] at e1
      rw [show ((p.toNat : Nat) : Int) = p by omega] at e2
      rw [e1, e2]
      have f1 : (upL l x).getD (-1) = -1 ↔ (upL l x).isSome = false := by
        cases hu : upL l x with
        | none => simp
        | some q => obtain ⟨_, hm⟩ := up_mem hu; have := R.snd.rng _ hm; simp at this ⊢; omega
      have f2 : (kidL l p r).getD (-1) = -1 ↔ (kidL l p r).isSome = false := by
        cases hu : kidL l p r with
        | none => simp
        | some q => have := R.snd.rng _ (kid_mem hu); simp at this ⊢; omega
      by_cases g1 : p = x
      · simp [g1]
      · cases h1 : (upL l x).isSome <;> cases h2 : (kidL l p r).isSome <;> simp [hp, hx, g1, f1, f2, h1, h2]
    · have : ¬ (0 ≤ p ∧ p < n ∧ 0 ≤ x ∧ x < n ∧ p ≠ x ∧ S.u x.toNat = -1 ∧ S.kid r p.toNat = -1) := fun h => hx ⟨h.2.2.1, h.2.2.2.1⟩
      simp [this, hx]
  · have : ¬ (0 ≤ p ∧ p < n ∧ 0 ≤ x ∧ x < n ∧ p ≠ x ∧ S.u x.toNat = -1 ∧ S.kid r p.toNat = -1) := fun h => hp ⟨h.1, h.2.1⟩
    simp [this, hp]

set_option maxHeartbeats 2000000 in
theorem do_above (bt ba n lo : Nat) (S : TS) (l : List Hg) (v : Value) (w : World) (p x : Int) (r : Bool) (hT : TreesAt w bt ba n S) (hR : Rel n S l) (hL : LstAt w lo v l.length (hgCells l)) (hba : ba < lo) (hlo : lo ≤ w.heap.size) (ha : aboveL l (n + 1) x p = true) (hxp : x ≠ p) :
    Calls Try.prog 36 #[.pointer (some ⟨bt, 0, none⟩), .agg #[.int .i64 (n : Int), v], .agg #[.int .i64 0, .int .i64 p, .int .i64 x, .bool r]] w (DoPost bt ba n lo w) := by
  have hbt := hT.head.lt
  have hbal := hT.row.lt
  have hnle := hT.le
  have hll := hR.snd.len
  obtain ⟨a, cap, rfl, _⟩ := hL.open
  generalize hlen : l.length = len at *
  have HLEN := Lib.hid hlen
  clear hlen
  have hU3 : Upd [ba] w (((w.alloc (.cells #[.int .i64 (n : Int), .slice a len cap] 52)).alloc (.cells #[.int .i64 0, .int .i64 p, .int .i64 x, .bool r] 54)).alloc (.cells #[.int .i64 0, .slice none 0 0] 52)) := ((Upd.refl [ba] w).alloc _).alloc _ |>.alloc _
  have r0 : ∀ W, Upd [ba] (((w.alloc (.cells #[.int .i64 (n : Int), .slice a len cap] 52)).alloc (.cells #[.int .i64 0, .int .i64 p, .int .i64 x, .bool r] 54)).alloc (.cells #[.int .i64 0, .slice none 0 0] 52)) W → W.cell? ⟨w.heap.size, 0, none⟩ = some (.int .i64 (n : Int)) := fun W h => by rw [h.cell (by first | (simp; done) | (simp; omega)) (by first | (simp; done) | (simp; omega))]; exact ((Upd.refl [] _).alloc _).was (((Upd.refl [] _).alloc _).was (by simp))
  have r1 : ∀ W, Upd [ba] (((w.alloc (.cells #[.int .i64 (n : Int), .slice a len cap] 52)).alloc (.cells #[.int .i64 0, .int .i64 p, .int .i64 x, .bool r] 54)).alloc (.cells #[.int .i64 0, .slice none 0 0] 52)) W → W.cell? ⟨w.heap.size, 1, none⟩ = some (.slice a len cap) := fun W h => by rw [h.cell (by first | (simp; done) | (simp; omega)) (by first | (simp; done) | (simp; omega))]; exact ((Upd.refl [] _).alloc _).was (((Upd.refl [] _).alloc _).was (by simp))
  have r2 : ∀ W, Upd [ba] (((w.alloc (.cells #[.int .i64 (n : Int), .slice a len cap] 52)).alloc (.cells #[.int .i64 0, .int .i64 p, .int .i64 x, .bool r] 54)).alloc (.cells #[.int .i64 0, .slice none 0 0] 52)) W → W.cell? ⟨w.heap.size + 1, 0, none⟩ = some (.int .i64 0) := fun W h => by rw [h.cell (by first | (simp; done) | (simp; omega)) (by first | (simp; done) | (simp; omega))]; exact ((Upd.refl [] _).alloc _).was (by simp)
  have r3 : ∀ W, Upd [ba] (((w.alloc (.cells #[.int .i64 (n : Int), .slice a len cap] 52)).alloc (.cells #[.int .i64 0, .int .i64 p, .int .i64 x, .bool r] 54)).alloc (.cells #[.int .i64 0, .slice none 0 0] 52)) W → W.cell? ⟨w.heap.size + 1, 1, none⟩ = some (.int .i64 p) := fun W h => by rw [h.cell (by first | (simp; done) | (simp; omega)) (by first | (simp; done) | (simp; omega))]; exact ((Upd.refl [] _).alloc _).was (by simp)
  have r4 : ∀ W, Upd [ba] (((w.alloc (.cells #[.int .i64 (n : Int), .slice a len cap] 52)).alloc (.cells #[.int .i64 0, .int .i64 p, .int .i64 x, .bool r] 54)).alloc (.cells #[.int .i64 0, .slice none 0 0] 52)) W → W.cell? ⟨w.heap.size + 1, 2, none⟩ = some (.int .i64 x) := fun W h => by rw [h.cell (by first | (simp; done) | (simp; omega)) (by first | (simp; done) | (simp; omega))]; exact ((Upd.refl [] _).alloc _).was (by simp)
  have r5 : ∀ W, Upd [ba] (((w.alloc (.cells #[.int .i64 (n : Int), .slice a len cap] 52)).alloc (.cells #[.int .i64 0, .int .i64 p, .int .i64 x, .bool r] 54)).alloc (.cells #[.int .i64 0, .slice none 0 0] 52)) W → W.cell? ⟨w.heap.size + 1, 3, none⟩ = some (.bool r) := fun W h => by rw [h.cell (by first | (simp; done) | (simp; omega)) (by first | (simp; done) | (simp; omega))]; exact ((Upd.refl [] _).alloc _).was (by simp)
  have hres0 := rowAt_new ((w.alloc (.cells #[.int .i64 (n : Int), .slice a len cap] 52)).alloc (.cells #[.int .i64 0, .int .i64 p, .int .i64 x, .bool r] 54)) [.int .i64 0, .slice none 0 0] 52
  rw [World.size_alloc, World.size_alloc] at hres0
  have hres : ∀ W, Upd [ba] (((w.alloc (.cells #[.int .i64 (n : Int), .slice a len cap] 52)).alloc (.cells #[.int .i64 0, .int .i64 p, .int .i64 x, .bool r] 54)).alloc (.cells #[.int .i64 0, .slice none 0 0] 52)) W → RowAt W (w.heap.size + 1 + 1) 52 2 (fun j => [Value.int .i64 0, .slice none 0 0].getD j undef) := fun W h => hres0.upd h (by simp; omega)
  have q0 := fun W h => (hres W h).cellAt 0 (by omega) rfl
  have q1 := fun W h => (hres W h).cellAt 1 (by omega) rfl
  have q2 := fun W h => (hres W h).free 0
  have q3 := fun W h => (hres W h).free 1
  have HT := Lib.hid (fun W (h : Upd [ba] (((w.alloc (.cells #[.int .i64 (n : Int), .slice a len cap] 52)).alloc (.cells #[.int .i64 0, .int .i64 p, .int .i64 x, .bool r] 54)).alloc (.cells #[.int .i64 0, .slice none 0 0] 52)) W) => (hU3.trans h))
  have HL := Lib.hid (fun W (h : Upd [ba] w W) => hL.upd h (fun k hk => Or.inl (by simp at hk; omega)))
  have hT3 := hT.upd ((((Upd.refl [] w).alloc (.cells #[.int .i64 (n : Int), .slice a len cap] 52)).alloc (.cells #[.int .i64 0, .int .i64 p, .int .i64 x, .bool r] 54)).alloc (.cells #[.int .i64 0, .slice none 0 0] 52)) (by simp) (by simp)
  have HT0 := Lib.hid hT
  have HL0 : Hid (LstAt w lo (.slice a len cap) l.length (hgCells l)) := by show LstAt _ _ _ _ _; rw [HLEN.out]; exact hL
  clear hres0 hT hL
  have kA := rabove_any (((w.alloc (.cells #[.int .i64 (n : Int), .slice a len cap] 52)).alloc (.cells #[.int .i64 0, .int .i64 p, .int .i64 x, .bool r] 54)).alloc (.cells #[.int .i64 0, .slice none 0 0] 52)) lo n x p (.slice a len cap) l (by rw [HLEN.out]; exact HL.out _ hU3) (by omega)
  rw [ha] at kA
  have b1 : (x != p) = true := by simpa using hxp
  have hu := Upd.refl [ba] (((w.alloc (.cells #[.int .i64 (n : Int), .slice a len cap] 52)).alloc (.cells #[.int .i64 0, .int .i64 p, .int .i64 x, .bool r] 54)).alloc (.cells #[.int .i64 0, .slice none 0 0] 52))
  clear ha hxp
  go_enter Try.func36, Try.ntmps36
  go_wp2_with ((go_at_call 51; (with_reducible refine kA.mono ?_)); rintro e w1 ⟨rfl, hb1⟩; have hq : Upd [ba] (((w.alloc (.cells #[.int .i64 (n : Int), .slice a len cap] 52)).alloc (.cells #[.int .i64 0, .int .i64 p, .int .i64 x, .bool r] 54)).alloc (.cells #[.int .i64 0, .slice none 0 0] 52)) w1 := hu.then hb1)
  refine bodyPost_ret (v := .tuple #[.agg #[.int .i64 (n : Int), (.slice a len cap)], .bool true]) (by simp [results, Try.results36, go_sem, *]) rfl ?_
  exact DoPost.same rfl HT0.out hR HL0.out (by (repeat (first | assumption | exact Upd.refl _ _ | refine Upd.alloc ?_ _ | refine Upd.drew ?_ | refine Upd.drewN ?_ _ | refine Upd.setCell ?_ (Or.inr (by first | (simp; done) | (simp; omega))) _ | (apply Upd.trans; rotate_left; assumption))))

set_option maxHeartbeats 2000000 in
theorem do_hang_no (bt ba n lo : Nat) (S : TS) (l : List Hg) (v : Value) (w : World) (p x : Int) (r : Bool) (hT : TreesAt w bt ba n S) (hR : Rel n S l) (hL : LstAt w lo v l.length (hgCells l)) (hba : ba < lo) (hlo : lo ≤ w.heap.size) (ha : aboveL l (n + 1) x p = false ∨ x = p) (hk : rhangOk n l p x r = false) :
    Calls Try.prog 36 #[.pointer (some ⟨bt, 0, none⟩), .agg #[.int .i64 (n : Int), v], .agg #[.int .i64 0, .int .i64 p, .int .i64 x, .bool r]] w (DoPost bt ba n lo w) := by
  have hbt := hT.head.lt
  have hbal := hT.row.lt
  have hnle := hT.le
  have hll := hR.snd.len
  obtain ⟨a, cap, rfl, _⟩ := hL.open
  generalize hlen : l.length = len at *
  have HLEN := Lib.hid hlen
  clear hlen
  have hU3 : Upd [ba] w (((w.alloc (.cells #[.int .i64 (n : Int), .slice a len cap] 52)).alloc (.cells #[.int .i64 0, .int .i64 p, .int .i64 x, .bool r] 54)).alloc (.cells #[.int .i64 0, .slice none 0 0] 52)) := ((Upd.refl [ba] w).alloc _).alloc _ |>.alloc _
  have r0 : ∀ W, Upd [ba] (((w.alloc (.cells #[.int .i64 (n : Int), .slice a len cap] 52)).alloc (.cells #[.int .i64 0, .int .i64 p, .int .i64 x, .bool r] 54)).alloc (.cells #[.int .i64 0, .slice none 0 0] 52)) W → W.cell? ⟨w.heap.size, 0, none⟩ = some (.int .i64 (n : Int)) := fun W h => by rw [h.cell (by first | (simp; done) | (simp; omega)) (by first | (simp; done) | (simp; omega))]; exact ((Upd.refl [] _).alloc _).was (((Upd.refl [] _).alloc _).was (by simp))
  have r1 : ∀ W, Upd [ba] (((w.alloc (.cells #[.int .i64 (n : Int), .slice a len cap] 52)).alloc (.cells #[.int .i64 0, .int .i64 p, .int .i64 x, .bool r] 54)).alloc (.cells #[.int .i64 0, .slice none 0 0] 52)) W → W.cell? ⟨w.heap.size, 1, none⟩ = some (.slice a len cap) := fun W h => by rw [h.cell (by first | (simp; done) | (simp; omega)) (by first | (simp; done) | (simp; omega))]; exact ((Upd.refl [] _).alloc _).was (((Upd.refl [] _).alloc _).was (by simp))
  have r2 : ∀ W, Upd [ba] (((w.alloc (.cells #[.int .i64 (n : Int), .slice a len cap] 52)).alloc (.cells #[.int .i64 0, .int .i64 p, .int .i64 x, .bool r] 54)).alloc (.cells #[.int .i64 0, .slice none 0 0] 52)) W → W.cell? ⟨w.heap.size + 1, 0, none⟩ = some (.int .i64 0) := fun W h => by rw [h.cell (by first | (simp; done) | (simp; omega)) (by first | (simp; done) | (simp; omega))]; exact ((Upd.refl [] _).alloc _).was (by simp)
  have r3 : ∀ W, Upd [ba] (((w.alloc (.cells #[.int .i64 (n : Int), .slice a len cap] 52)).alloc (.cells #[.int .i64 0, .int .i64 p, .int .i64 x, .bool r] 54)).alloc (.cells #[.int .i64 0, .slice none 0 0] 52)) W → W.cell? ⟨w.heap.size + 1, 1, none⟩ = some (.int .i64 p) := fun W h => by rw [h.cell (by first | (simp; done) | (simp; omega)) (by first | (simp; done) | (simp; omega))]; exact ((Upd.refl [] _).alloc _).was (by simp)
  have r4 : ∀ W, Upd [ba] (((w.alloc (.cells #[.int .i64 (n : Int), .slice a len cap] 52)).alloc (.cells #[.int .i64 0, .int .i64 p, .int .i64 x, .bool r] 54)).alloc (.cells #[.int .i64 0, .slice none 0 0] 52)) W → W.cell? ⟨w.heap.size + 1, 2, none⟩ = some (.int .i64 x) := fun W h => by rw [h.cell (by first | (simp; done) | (simp; omega)) (by first | (simp; done) | (simp; omega))]; exact ((Upd.refl [] _).alloc _).was (by simp)
  have r5 : ∀ W, Upd [ba] (((w.alloc (.cells #[.int .i64 (n : Int), .slice a len cap] 52)).alloc (.cells #[.int .i64 0, .int .i64 p, .int .i64 x, .bool r] 54)).alloc (.cells #[.int .i64 0, .slice none 0 0] 52)) W → W.cell? ⟨w.heap.size + 1, 3, none⟩ = some (.bool r) := fun W h => by rw [h.cell (by first | (simp; done) | (simp; omega)) (by first | (simp; done) | (simp; omega))]; exact ((Upd.refl [] _).alloc _).was (by simp)
  have hres0 := rowAt_new ((w.alloc (.cells #[.int .i64 (n : Int), .slice a len cap] 52)).alloc (.cells #[.int .i64 0, .int .i64 p, .int .i64 x, .bool r] 54)) [.int .i64 0, .slice none 0 0] 52
  rw [World.size_alloc, World.size_alloc] at hres0
  have hres : ∀ W, Upd [ba] (((w.alloc (.cells #[.int .i64 (n : Int), .slice a len cap] 52)).alloc (.cells #[.int .i64 0, .int .i64 p, .int .i64 x, .bool r] 54)).alloc (.cells #[.int .i64 0, .slice none 0 0] 52)) W → RowAt W (w.heap.size + 1 + 1) 52 2 (fun j => [Value.int .i64 0, .slice none 0 0].getD j undef) := fun W h => hres0.upd h (by simp; omega)
  have q0 := fun W h => (hres W h).cellAt 0 (by omega) rfl
  have q1 := fun W h => (hres W h).cellAt 1 (by omega) rfl
  have q2 := fun W h => (hres W h).free 0
  have q3 := fun W h => (hres W h).free 1
  have HT := Lib.hid (fun W (h : Upd [ba] (((w.alloc (.cells #[.int .i64 (n : Int), .slice a len cap] 52)).alloc (.cells #[.int .i64 0, .int .i64 p, .int .i64 x, .bool r] 54)).alloc (.cells #[.int .i64 0, .slice none 0 0] 52)) W) => (hU3.trans h))
  have HL := Lib.hid (fun W (h : Upd [ba] w W) => hL.upd h (fun k hk => Or.inl (by simp at hk; omega)))
  have hT3 := hT.upd ((((Upd.refl [] w).alloc (.cells #[.int .i64 (n : Int), .slice a len cap] 52)).alloc (.cells #[.int .i64 0, .int .i64 p, .int .i64 x, .bool r] 54)).alloc (.cells #[.int .i64 0, .slice none 0 0] 52)) (by simp) (by simp)
  have HT0 := Lib.hid hT
  have HL0 : Hid (LstAt w lo (.slice a len cap) l.length (hgCells l)) := by show LstAt _ _ _ _ _; rw [HLEN.out]; exact hL
  clear hres0 hT hL
  have kA := rabove_any (((w.alloc (.cells #[.int .i64 (n : Int), .slice a len cap] 52)).alloc (.cells #[.int .i64 0, .int .i64 p, .int .i64 x, .bool r] 54)).alloc (.cells #[.int .i64 0, .slice none 0 0] 52)) lo n x p (.slice a len cap) l (by rw [HLEN.out]; exact HL.out _ hU3) (by omega)
  have kH := fun W (hW : Upd [ba] w W) => rhang_no W lo n p x r (.slice a len cap) l (by rw [HLEN.out]; exact HL.out _ hW) hk
  have kP := fun W (hW : TreesAt W bt ba n S) => hang_no bt ba n S p x r W hW (by rw [hangOk_eq hR]; exact hk)
  have hu := Upd.refl [ba] (((w.alloc (.cells #[.int .i64 (n : Int), .slice a len cap] 52)).alloc (.cells #[.int .i64 0, .int .i64 p, .int .i64 x, .bool r] 54)).alloc (.cells #[.int .i64 0, .slice none 0 0] 52))
  have HU3 := Lib.hid hU3
  generalize aboveL l (n + 1) x p = ab at kA ha
  clear hk
  cases ab
  · clear ha
    go_enter Try.func36, Try.ntmps36
    go_wp2_with (first
      | ((go_at_call 51; (with_reducible refine kA.mono ?_)); rintro e w1 ⟨rfl, hb1⟩; have hq1 : Upd [ba] (((w.alloc (.cells #[.int .i64 (n : Int), .slice a len cap] 52)).alloc (.cells #[.int .i64 0, .int .i64 p, .int .i64 x, .bool r] 54)).alloc (.cells #[.int .i64 0, .slice none 0 0] 52)) w1 := hu.then hb1)
      | ((go_at_call 52; (with_reducible refine (kH _ (HT.out _ hq1)).mono ?_)); rintro e w2 ⟨rfl, hb2⟩; have hq2 : Upd [ba] (((w.alloc (.cells #[.int .i64 (n : Int), .slice a len cap] 52)).alloc (.cells #[.int .i64 0, .int .i64 p, .int .i64 x, .bool r] 54)).alloc (.cells #[.int .i64 0, .slice none 0 0] 52)) w2 := hq1.then hb2))
    have hBX : Upd [ba] (((w.alloc (.cells #[.int .i64 (n : Int), .slice a len cap] 52)).alloc (.cells #[.int .i64 0, .int .i64 p, .int .i64 x, .bool r] 54)).alloc (.cells #[.int .i64 0, .slice none 0 0] 52)) (w2.alloc (.cells #[.int .i64 (n : Int), (.slice a len cap)] 52)) := (hq2).alloc _
    have hsz : w.heap.size + 1 + 1 + 1 ≤ w2.heap.size := by have := (hq2).size; simpa using this
    have s1 : HasRow (w2.alloc (.cells #[.int .i64 (n : Int), (.slice a len cap)] 52)) (w.heap.size + 1 + 1) 52 2 := ⟨_, hres _ hBX⟩
    have t0 : ∀ W, Upd [ba, w.heap.size + 1 + 1] (w2.alloc (.cells #[.int .i64 (n : Int), (.slice a len cap)] 52)) W → W.cell? ⟨w2.heap.size, 0, none⟩ = some (.int .i64 (n : Int)) := fun W h => by rw [h.cell (by simp) (by simp; omega)]; simp
    have t1 : ∀ W, Upd [ba, w.heap.size + 1 + 1] (w2.alloc (.cells #[.int .i64 (n : Int), (.slice a len cap)] 52)) W → W.cell? ⟨w2.heap.size, 1, none⟩ = some (.slice a len cap) := fun W h => by rw [h.cell (by simp) (by simp; omega)]; simp
    have t2 : ∀ W, Upd [ba, w.heap.size + 1 + 1] (w2.alloc (.cells #[.int .i64 (n : Int), (.slice a len cap)] 52)) W → W.cell? ⟨w.heap.size + 1, 1, none⟩ = some (.int .i64 p) := fun W h => by rw [h.cell (by simp; omega) (by simp; omega)]; exact r3 _ hBX
    have t3 : ∀ W, Upd [ba, w.heap.size + 1 + 1] (w2.alloc (.cells #[.int .i64 (n : Int), (.slice a len cap)] 52)) W → W.cell? ⟨w.heap.size + 1, 2, none⟩ = some (.int .i64 x) := fun W h => by rw [h.cell (by simp; omega) (by simp; omega)]; exact r4 _ hBX
    have t4 : ∀ W, Upd [ba, w.heap.size + 1 + 1] (w2.alloc (.cells #[.int .i64 (n : Int), (.slice a len cap)] 52)) W → W.cell? ⟨w.heap.size + 1, 3, none⟩ = some (.bool r) := fun W h => by rw [h.cell (by simp; omega) (by simp; omega)]; exact r5 _ hBX
    have p2 : ∀ W, HasRow W (w.heap.size + 1 + 1) 52 2 → W.cell? ⟨w.heap.size + 1 + 1, 0, none⟩ = some (cv W ⟨w.heap.size + 1 + 1, 0, none⟩) := fun W h => h.cell 0 (by omega)
    have p3 : ∀ W, HasRow W (w.heap.size + 1 + 1) 52 2 → W.cell? ⟨w.heap.size + 1 + 1, 1, none⟩ = some (cv W ⟨w.heap.size + 1 + 1, 1, none⟩) := fun W h => h.cell 1 (by omega)
    have p4 : ∀ W, HasRow W (w.heap.size + 1 + 1) 52 2 → W.frozen? ⟨w.heap.size + 1 + 1, 0, none⟩ = false := fun W h => h.free 0
    have p5 : ∀ W, HasRow W (w.heap.size + 1 + 1) 52 2 → W.frozen? ⟨w.heap.size + 1 + 1, 1, none⟩ = false := fun W h => h.free 1
    have hTX : TreesAt (w2.alloc (.cells #[.int .i64 (n : Int), (.slice a len cap)] 52)) bt ba n S := (hT3.upd ((hb1.trans hb2).alloc _) (by simp) (by simp))
    clear r0 r1 r2 r3 r4 r5 q0 q1 q2 q3
    go_region_held3 (fun W => Upd [ba, w.heap.size + 1 + 1] (w2.alloc (.cells #[.int .i64 (n : Int), (.slice a len cap)] 52)) W ∧ HasRow W (w.heap.size + 1 + 1) 52 2)
      (first
        | assumption
        | exact ⟨(Upd.refl _ _).drew, s1⟩
        | (refine ⟨?_, ?_⟩; assumption; assumption)
        | exact ⟨(h1.setCell (Or.inl (by simp)) _).setCell (Or.inl (by simp)) _, (h2.set 0 _).set 1 _⟩)
      (first | ((go_at_call 38; (with_reducible refine (kP _ hTX.drew).mono ?_)); rintro e w3 ⟨rfl, k3, rfl⟩; have h1 : Upd [ba, w.heap.size + 1 + 1] (w2.alloc (.cells #[.int .i64 (n : Int), (.slice a len cap)] 52)) ((w2.alloc (.cells #[.int .i64 (n : Int), (.slice a len cap)] 52)).drewN (1 + k3)) := (Upd.refl _ _).drewN _; have h2 : HasRow ((w2.alloc (.cells #[.int .i64 (n : Int), (.slice a len cap)] 52)).drewN (1 + k3)) (w.heap.size + 1 + 1) 52 2 := s1.upd ((Upd.refl [] _).drewN _) (by simp)))
    go_wp2
    refine bodyPost_ret (v := .tuple #[.agg #[.int .i64 (n : Int), (.slice a len cap)], .bool true]) (by simp [results, Try.results36, go_sem, p2, p3, h2]) rfl ?_
    exact DoPost.same rfl HT0.out hR HL0.out (by (repeat (first | assumption | exact Upd.refl _ _ | refine Upd.alloc ?_ _ | refine Upd.drew ?_ | refine Upd.drewN ?_ _ | refine Upd.setCell ?_ (Or.inr (by first | (simp; done) | (simp; omega))) _ | (apply Upd.trans; rotate_left; assumption))))
  · have hxp : x = p := by simpa using ha
    have b1 : (x != p) = false := by simpa using hxp
    clear hxp
    go_enter Try.func36, Try.ntmps36
    go_wp2_with (first
      | ((go_at_call 51; (with_reducible refine kA.mono ?_)); rintro e w1 ⟨rfl, hb1⟩; have hq1 : Upd [ba] (((w.alloc (.cells #[.int .i64 (n : Int), .slice a len cap] 52)).alloc (.cells #[.int .i64 0, .int .i64 p, .int .i64 x, .bool r] 54)).alloc (.cells #[.int .i64 0, .slice none 0 0] 52)) w1 := hu.then hb1)
      | ((go_at_call 52; (with_reducible refine (kH _ (HT.out _ hq1)).mono ?_)); rintro e w2 ⟨rfl, hb2⟩; have hq2 : Upd [ba] (((w.alloc (.cells #[.int .i64 (n : Int), .slice a len cap] 52)).alloc (.cells #[.int .i64 0, .int .i64 p, .int .i64 x, .bool r] 54)).alloc (.cells #[.int .i64 0, .slice none 0 0] 52)) w2 := hq1.then hb2))
    have hBX : Upd [ba] (((w.alloc (.cells #[.int .i64 (n : Int), .slice a len cap] 52)).alloc (.cells #[.int .i64 0, .int .i64 p, .int .i64 x, .bool r] 54)).alloc (.cells #[.int .i64 0, .slice none 0 0] 52)) (w2.alloc (.cells #[.int .i64 (n : Int), (.slice a len cap)] 52)) := (hq2).alloc _
    have hsz : w.heap.size + 1 + 1 + 1 ≤ w2.heap.size := by have := (hq2).size; simpa using this
    have s1 : HasRow (w2.alloc (.cells #[.int .i64 (n : Int), (.slice a len cap)] 52)) (w.heap.size + 1 + 1) 52 2 := ⟨_, hres _ hBX⟩
    have t0 : ∀ W, Upd [ba, w.heap.size + 1 + 1] (w2.alloc (.cells #[.int .i64 (n : Int), (.slice a len cap)] 52)) W → W.cell? ⟨w2.heap.size, 0, none⟩ = some (.int .i64 (n : Int)) := fun W h => by rw [h.cell (by simp) (by simp; omega)]; simp
    have t1 : ∀ W, Upd [ba, w.heap.size + 1 + 1] (w2.alloc (.cells #[.int .i64 (n : Int), (.slice a len cap)] 52)) W → W.cell? ⟨w2.heap.size, 1, none⟩ = some (.slice a len cap) := fun W h => by rw [h.cell (by simp) (by simp; omega)]; simp
    have t2 : ∀ W, Upd [ba, w.heap.size + 1 + 1] (w2.alloc (.cells #[.int .i64 (n : Int), (.slice a len cap)] 52)) W → W.cell? ⟨w.heap.size + 1, 1, none⟩ = some (.int .i64 p) := fun W h => by rw [h.cell (by simp; omega) (by simp; omega)]; exact r3 _ hBX
    have t3 : ∀ W, Upd [ba, w.heap.size + 1 + 1] (w2.alloc (.cells #[.int .i64 (n : Int), (.slice a len cap)] 52)) W → W.cell? ⟨w.heap.size + 1, 2, none⟩ = some (.int .i64 x) := fun W h => by rw [h.cell (by simp; omega) (by simp; omega)]; exact r4 _ hBX
    have t4 : ∀ W, Upd [ba, w.heap.size + 1 + 1] (w2.alloc (.cells #[.int .i64 (n : Int), (.slice a len cap)] 52)) W → W.cell? ⟨w.heap.size + 1, 3, none⟩ = some (.bool r) := fun W h => by rw [h.cell (by simp; omega) (by simp; omega)]; exact r5 _ hBX
    have p2 : ∀ W, HasRow W (w.heap.size + 1 + 1) 52 2 → W.cell? ⟨w.heap.size + 1 + 1, 0, none⟩ = some (cv W ⟨w.heap.size + 1 + 1, 0, none⟩) := fun W h => h.cell 0 (by omega)
    have p3 : ∀ W, HasRow W (w.heap.size + 1 + 1) 52 2 → W.cell? ⟨w.heap.size + 1 + 1, 1, none⟩ = some (cv W ⟨w.heap.size + 1 + 1, 1, none⟩) := fun W h => h.cell 1 (by omega)
    have p4 : ∀ W, HasRow W (w.heap.size + 1 + 1) 52 2 → W.frozen? ⟨w.heap.size + 1 + 1, 0, none⟩ = false := fun W h => h.free 0
    have p5 : ∀ W, HasRow W (w.heap.size + 1 + 1) 52 2 → W.frozen? ⟨w.heap.size + 1 + 1, 1, none⟩ = false := fun W h => h.free 1
    have hTX : TreesAt (w2.alloc (.cells #[.int .i64 (n : Int), (.slice a len cap)] 52)) bt ba n S := (hT3.upd ((hb1.trans hb2).alloc _) (by simp) (by simp))
    clear r0 r1 r2 r3 r4 r5 q0 q1 q2 q3
    go_region_held3 (fun W => Upd [ba, w.heap.size + 1 + 1] (w2.alloc (.cells #[.int .i64 (n : Int), (.slice a len cap)] 52)) W ∧ HasRow W (w.heap.size + 1 + 1) 52 2)
      (first
        | assumption
        | exact ⟨(Upd.refl _ _).drew, s1⟩
        | (refine ⟨?_, ?_⟩; assumption; assumption)
        | exact ⟨(h1.setCell (Or.inl (by simp)) _).setCell (Or.inl (by simp)) _, (h2.set 0 _).set 1 _⟩)
      (first | ((go_at_call 38; (with_reducible refine (kP _ hTX.drew).mono ?_)); rintro e w3 ⟨rfl, k3, rfl⟩; have h1 : Upd [ba, w.heap.size + 1 + 1] (w2.alloc (.cells #[.int .i64 (n : Int), (.slice a len cap)] 52)) ((w2.alloc (.cells #[.int .i64 (n : Int), (.slice a len cap)] 52)).drewN (1 + k3)) := (Upd.refl _ _).drewN _; have h2 : HasRow ((w2.alloc (.cells #[.int .i64 (n : Int), (.slice a len cap)] 52)).drewN (1 + k3)) (w.heap.size + 1 + 1) 52 2 := s1.upd ((Upd.refl [] _).drewN _) (by simp)))
    go_wp2
    refine bodyPost_ret (v := .tuple #[.agg #[.int .i64 (n : Int), (.slice a len cap)], .bool true]) (by simp [results, Try.results36, go_sem, p2, p3, h2]) rfl ?_
    exact DoPost.same rfl HT0.out hR HL0.out (by (repeat (first | assumption | exact Upd.refl _ _ | refine Upd.alloc ?_ _ | refine Upd.drew ?_ | refine Upd.drewN ?_ _ | refine Upd.setCell ?_ (Or.inr (by first | (simp; done) | (simp; omega))) _ | (apply Upd.trans; rotate_left; assumption))))

end Go.Proofs.Ytdgfibcbnlkbpaa
