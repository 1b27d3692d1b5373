/-
  An act done to trees and to the document's (haycocklaw09.do): both answer alike, and say one behind it. Conditions: those of each lemma.
-/
import Derived.Test.YtdgfibcbnlkbpaaSpineRel
import Derived.Test.YtdgfibcbnlkbpaaSpineAlive
set_option linter.unusedVariables false
set_option linter.unusedSimpArgs false
namespace Go.Proofs.Ytdgfibcbnlkbpaa
open Go Go.RowKit

/-- What stands behind an act. -/
def DoPost (bt ba n lo : Nat) (w : World) (e : Ending) (w' : World) : Prop :=
  ∃ (v' : Value) (S' : TS) (l' : List Hg), e = .returned (.tuple #[.agg #[.int .i64 (n : Int), v'], .bool true]) ∧ TreesAt w' bt ba n S' ∧ Rel n S' l' ∧ LstAt w' lo v' l'.length (hgCells l') ∧ Upd [ba] w w'
theorem DoPost.mk {bt ba n lo : Nat} {w w' : World} {e : Ending} (v' : Value) (S' : TS) (l' : List Hg) (he : e = .returned (.tuple #[.agg #[.int .i64 (n : Int), v'], .bool true])) (hT : TreesAt w' bt ba n S') (hR : Rel n S' l') (hL : LstAt w' lo v' l'.length (hgCells l')) (hU : Upd [ba] w w') : DoPost bt ba n lo w e w' := ⟨v', S', l', he, hT, hR, hL, hU⟩
theorem DoPost.same {bt ba n lo : Nat} {w w' : World} {e : Ending} {v' : Value} {S' : TS} {l' : List Hg} (he : e = .returned (.tuple #[.agg #[.int .i64 (n : Int), v'], .bool true])) (hT : TreesAt w bt ba n S') (hR : Rel n S' l') (hL : LstAt w lo v' l'.length (hgCells l')) (hU : Upd [] w w') : DoPost bt ba n lo w e w' :=
  ⟨v', S', l', he, hT.upd hU (by simp) (by simp), hR, hL.upd hU (by simp), hU.mono (by simp)⟩

set_option maxHeartbeats 2000000 in
theorem do_other (bt ba n lo : Nat) (S : TS) (l : List Hg) (v : Value) (w : World) (kd : Int) (p x : Int) (r : Bool) (hT : TreesAt w bt ba n S) (hR : Rel n S l) (hL : LstAt w lo v l.length (hgCells l)) (hba : ba < lo) (hlo : lo ≤ w.heap.size) (hk : kd ≠ 0 ∧ kd ≠ 1 ∧ kd ≠ 2) :
    Calls Try.prog 36 #[.pointer (some ⟨bt, 0, none⟩), .agg #[.int .i64 (n : Int), v], .agg #[.int .i64 kd, .int .i64 p, .int .i64 x, .bool r]] w (DoPost bt ba n lo w) := by
  have hbt := hT.head.lt
  have hbal := hT.row.lt
  have hnle := hT.le
  have hll := hR.snd.len
  obtain ⟨a, cap, rfl, _⟩ := hL.open
  generalize hlen : l.length = len at *
  have HLEN := Lib.hid hlen
  clear hlen
  have hU3 : Upd [ba] w (((w.alloc (.cells #[.int .i64 (n : Int), .slice a len cap] 52)).alloc (.cells #[.int .i64 kd, .int .i64 p, .int .i64 x, .bool r] 54)).alloc (.cells #[.int .i64 0, .slice none 0 0] 52)) := ((Upd.refl [ba] w).alloc _).alloc _ |>.alloc _
  have r0 : ∀ W, Upd [ba] (((w.alloc (.cells #[.int .i64 (n : Int), .slice a len cap] 52)).alloc (.cells #[.int .i64 kd, .int .i64 p, .int .i64 x, .bool r] 54)).alloc (.cells #[.int .i64 0, .slice none 0 0] 52)) W → W.cell? ⟨w.heap.size, 0, none⟩ = some (.int .i64 (n : Int)) := fun W h => by rw [h.cell (by first | (simp; done) | (simp; omega)) (by first | (simp; done) | (simp; omega))]; exact ((Upd.refl [] _).alloc _).was (((Upd.refl [] _).alloc _).was (by simp))
  have r1 : ∀ W, Upd [ba] (((w.alloc (.cells #[.int .i64 (n : Int), .slice a len cap] 52)).alloc (.cells #[.int .i64 kd, .int .i64 p, .int .i64 x, .bool r] 54)).alloc (.cells #[.int .i64 0, .slice none 0 0] 52)) W → W.cell? ⟨w.heap.size, 1, none⟩ = some (.slice a len cap) := fun W h => by rw [h.cell (by first | (simp; done) | (simp; omega)) (by first | (simp; done) | (simp; omega))]; exact ((Upd.refl [] _).alloc _).was (((Upd.refl [] _).alloc _).was (by simp))
  have r2 : ∀ W, Upd [ba] (((w.alloc (.cells #[.int .i64 (n : Int), .slice a len cap] 52)).alloc (.cells #[.int .i64 kd, .int .i64 p, .int .i64 x, .bool r] 54)).alloc (.cells #[.int .i64 0, .slice none 0 0] 52)) W → W.cell? ⟨w.heap.size + 1, 0, none⟩ = some (.int .i64 kd) := fun W h => by rw [h.cell (by first | (simp; done) | (simp; omega)) (by first | (simp; done) | (simp; omega))]; exact ((Upd.refl [] _).alloc _).was (by simp)
  have r3 : ∀ W, Upd [ba] (((w.alloc (.cells #[.int .i64 (n : Int), .slice a len cap] 52)).alloc (.cells #[.int .i64 kd, .int .i64 p, .int .i64 x, .bool r] 54)).alloc (.cells #[.int .i64 0, .slice none 0 0] 52)) W → W.cell? ⟨w.heap.size + 1, 1, none⟩ = some (.int .i64 p) := fun W h => by rw [h.cell (by first | (simp; done) | (simp; omega)) (by first | (simp; done) | (simp; omega))]; exact ((Upd.refl [] _).alloc _).was (by simp)
  have r4 : ∀ W, Upd [ba] (((w.alloc (.cells #[.int .i64 (n : Int), .slice a len cap] 52)).alloc (.cells #[.int .i64 kd, .int .i64 p, .int .i64 x, .bool r] 54)).alloc (.cells #[.int .i64 0, .slice none 0 0] 52)) W → W.cell? ⟨w.heap.size + 1, 2, none⟩ = some (.int .i64 x) := fun W h => by rw [h.cell (by first | (simp; done) | (simp; omega)) (by first | (simp; done) | (simp; omega))]; exact ((Upd.refl [] _).alloc _).was (by simp)
  have r5 : ∀ W, Upd [ba] (((w.alloc (.cells #[.int .i64 (n : Int), .slice a len cap] 52)).alloc (.cells #[.int .i64 kd, .int .i64 p, .int .i64 x, .bool r] 54)).alloc (.cells #[.int .i64 0, .slice none 0 0] 52)) W → W.cell? ⟨w.heap.size + 1, 3, none⟩ = some (.bool r) := fun W h => by rw [h.cell (by first | (simp; done) | (simp; omega)) (by first | (simp; done) | (simp; omega))]; exact ((Upd.refl [] _).alloc _).was (by simp)
  have hres0 := rowAt_new ((w.alloc (.cells #[.int .i64 (n : Int), .slice a len cap] 52)).alloc (.cells #[.int .i64 kd, .int .i64 p, .int .i64 x, .bool r] 54)) [.int .i64 0, .slice none 0 0] 52
  rw [World.size_alloc, World.size_alloc] at hres0
  have hres : ∀ W, Upd [ba] (((w.alloc (.cells #[.int .i64 (n : Int), .slice a len cap] 52)).alloc (.cells #[.int .i64 kd, .int .i64 p, .int .i64 x, .bool r] 54)).alloc (.cells #[.int .i64 0, .slice none 0 0] 52)) W → RowAt W (w.heap.size + 1 + 1) 52 2 (fun j => [Value.int .i64 0, .slice none 0 0].getD j undef) := fun W h => hres0.upd h (by simp; omega)
  have q0 := fun W h => (hres W h).cellAt 0 (by omega) rfl
  have q1 := fun W h => (hres W h).cellAt 1 (by omega) rfl
  have q2 := fun W h => (hres W h).free 0
  have q3 := fun W h => (hres W h).free 1
  have HT := Lib.hid (fun W (h : Upd [ba] (((w.alloc (.cells #[.int .i64 (n : Int), .slice a len cap] 52)).alloc (.cells #[.int .i64 kd, .int .i64 p, .int .i64 x, .bool r] 54)).alloc (.cells #[.int .i64 0, .slice none 0 0] 52)) W) => (hU3.trans h))
  have HL := Lib.hid (fun W (h : Upd [ba] w W) => hL.upd h (fun k hk => Or.inl (by simp at hk; omega)))
  have hT3 := hT.upd ((((Upd.refl [] w).alloc (.cells #[.int .i64 (n : Int), .slice a len cap] 52)).alloc (.cells #[.int .i64 kd, .int .i64 p, .int .i64 x, .bool r] 54)).alloc (.cells #[.int .i64 0, .slice none 0 0] 52)) (by simp) (by simp)
  have HT0 := Lib.hid hT
  have HL0 : Hid (LstAt w lo (.slice a len cap) l.length (hgCells l)) := by show LstAt _ _ _ _ _; rw [HLEN.out]; exact hL
  clear hres0 hT hL
  obtain ⟨k0, k1, k2⟩ := hk
  have b0 : (kd == 0) = false := by simpa using k0
  have b1 : (kd == 1) = false := by simpa using k1
  have b2 : (kd == 2) = false := by simpa using k2
  have hu := Upd.refl [ba] (((w.alloc (.cells #[.int .i64 (n : Int), .slice a len cap] 52)).alloc (.cells #[.int .i64 kd, .int .i64 p, .int .i64 x, .bool r] 54)).alloc (.cells #[.int .i64 0, .slice none 0 0] 52))
  clear k0 k1 k2
  go_enter Try.func36, Try.ntmps36
  go_wp2
  refine bodyPost_ret (v := .tuple #[.agg #[.int .i64 (n : Int), (.slice a len cap)], .bool true]) (by simp [results, Try.results36, go_sem, *]) rfl ?_
  exact DoPost.same rfl HT0.out hR HL0.out (by (repeat (first | assumption | exact Upd.refl _ _ | refine Upd.alloc ?_ _ | refine Upd.drew ?_ | refine Upd.drewN ?_ _ | refine Upd.setCell ?_ (Or.inr (by first | (simp; done) | (simp; omega))) _ | (apply Upd.trans; rotate_left; assumption))))

end Go.Proofs.Ytdgfibcbnlkbpaa
