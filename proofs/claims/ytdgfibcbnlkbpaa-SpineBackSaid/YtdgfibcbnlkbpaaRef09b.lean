/-
  The document's trees (haycockref09): Hang, Cut, Turn. Conditions: those of each lemma.
-/
import Derived.Test.YtdgfibcbnlkbpaaRef09
import Derived.Deep.RegionHeldLaw
set_option linter.unusedVariables false
set_option linter.unusedSimpArgs false
namespace Go.Proofs.Ytdgfibcbnlkbpaa
open Go Go.RowKit

def rhangOk (n : Int) (l : List Hg) (p x : Int) (r : Bool) : Bool := decide (0 ≤ p ∧ p < n) && decide (0 ≤ x ∧ x < n) && !(p == x) && !ob (upL l x) && !ob (kidL l p r)

set_option maxHeartbeats 1000000 in
theorem rhang_no (w : World) (lo : Nat) (n p x : Int) (r : Bool) (v : Value) (l : List Hg) (h : LstAt w lo v l.length (hgCells l)) (ho : rhangOk n l p x r = false) :
    Calls Try.prog 52 #[.agg #[.int .i64 n, v], .int .i64 p, .int .i64 x, .bool r] w fun e w' => e = .returned (.tuple #[.agg #[.int .i64 n, v], .bool false]) ∧ Upd [] w w' := by
  obtain ⟨a, cap, rfl, _⟩ := h.open
  have hl1 := h.upd ((Upd.refl [] w).alloc (.cells #[.int .i64 n, .slice a l.length cap] 52)) (by simp)
  have hl2 := hl1.upd ((Upd.refl [] _).alloc (.cells #[.int .i64 0, .slice none 0 0] 52)) (by simp)
  have k1 := fun W => rhas_any W n p (.slice a l.length cap) rfl _ rfl
  have k2 := fun W => rhas_any W n x (.slice a l.length cap) rfl _ rfl
  have k3 := fun W (hW : Upd [] ((w.alloc (.cells #[.int .i64 n, .slice a l.length cap] 52)).alloc (.cells #[.int .i64 0, .slice none 0 0] 52)) W) => rup_any W lo n x (.slice a l.length cap) l (hl2.upd hW (by simp))
  have k4 := fun W (hW : Upd [] ((w.alloc (.cells #[.int .i64 n, .slice a l.length cap] 52)).alloc (.cells #[.int .i64 0, .slice none 0 0] 52)) W) => rkid_any W lo n p r (.slice a l.length cap) l (hl2.upd hW (by simp))
  generalize l.length = len at *
  have r0 : ∀ W, Upd [] (((w.alloc (.cells #[.int .i64 n, .slice a len cap] 52)).alloc (.cells #[.int .i64 0, .slice none 0 0] 52))) W → W.cell? ⟨w.heap.size, 0, none⟩ = some (.int .i64 n) := fun W h => h.was (by simp [*])
  have r1 : ∀ W, Upd [] (((w.alloc (.cells #[.int .i64 n, .slice a len cap] 52)).alloc (.cells #[.int .i64 0, .slice none 0 0] 52))) W → W.cell? ⟨w.heap.size, 1, none⟩ = some (.slice a len cap) := fun W h => h.was (by simp [*])
  have r2 : ∀ W, Upd [] (((w.alloc (.cells #[.int .i64 n, .slice a len cap] 52)).alloc (.cells #[.int .i64 0, .slice none 0 0] 52))) W → W.cell? ⟨w.heap.size + 1, 0, none⟩ = some (.int .i64 0) := fun W h => h.was (by simp [*])
  have r3 : ∀ W, Upd [] (((w.alloc (.cells #[.int .i64 n, .slice a len cap] 52)).alloc (.cells #[.int .i64 0, .slice none 0 0] 52))) W → W.cell? ⟨w.heap.size + 1, 1, none⟩ = some (.slice none 0 0) := fun W h => h.was (by simp [*])
  have r4 : ∀ W, Upd [] (((w.alloc (.cells #[.int .i64 n, .slice a len cap] 52)).alloc (.cells #[.int .i64 0, .slice none 0 0] 52))) W → W.frozen? ⟨w.heap.size + 1, 0, none⟩ = false := fun W h => by rw [h.frozen (by simp) (by simp)]; simp
  have r5 : ∀ W, Upd [] (((w.alloc (.cells #[.int .i64 n, .slice a len cap] 52)).alloc (.cells #[.int .i64 0, .slice none 0 0] 52))) W → W.frozen? ⟨w.heap.size + 1, 1, none⟩ = false := fun W h => by rw [h.frozen (by simp) (by simp)]; simp
  unfold rhangOk at ho
  generalize decide (0 ≤ p ∧ p < n) = b1 at k1 ho
  generalize decide (0 ≤ x ∧ x < n) = b2 at k2 ho
  generalize hb3 : (p == x) = b3 at ho
  generalize ob (upL l x) = b4 at k3 ho
  generalize ob (kidL l p r) = b5 at k4 ho
  generalize ov (upL l x) = z4 at k3
  generalize ov (kidL l p r) = z5 at k4
  clear hl1 hl2
  clear h
  by_cases hc1 : b1 = false
  · subst hc1
    clear ho
    go_enter Try.func52, Try.ntmps52
    go_wp2_with (first
      | (go_at_call 57; refine (k3 _ (by first | assumption | exact Upd.refl _ _)).mono ?_; rintro e w' ⟨rfl, hb⟩; have hq : Upd [] ((w.alloc (.cells #[.int .i64 n, .slice a len cap] 52)).alloc (.cells #[.int .i64 0, .slice none 0 0] 52)) w' := (by first | exact hb | (apply Upd.trans; rotate_left; assumption; assumption)))
      | (go_at_call 56; refine (k4 _ (by first | assumption | exact Upd.refl _ _)).mono ?_; rintro e w' ⟨rfl, hb⟩; have hq : Upd [] ((w.alloc (.cells #[.int .i64 n, .slice a len cap] 52)).alloc (.cells #[.int .i64 0, .slice none 0 0] 52)) w' := (by first | exact hb | (apply Upd.trans; rotate_left; assumption; assumption)))
      | ((go_at_call 59; (with_reducible refine (k1 _).mono ?_)); rintro e w' ⟨rfl, hb⟩; have hq : Upd [] ((w.alloc (.cells #[.int .i64 n, .slice a len cap] 52)).alloc (.cells #[.int .i64 0, .slice none 0 0] 52)) w' := (by first | exact hb | (apply Upd.trans; rotate_left; assumption; assumption)))
      | ((go_at_call 59; (with_reducible refine (k2 _).mono ?_)); rintro e w' ⟨rfl, hb⟩; have hq : Upd [] ((w.alloc (.cells #[.int .i64 n, .slice a len cap] 52)).alloc (.cells #[.int .i64 0, .slice none 0 0] 52)) w' := (by first | exact hb | (apply Upd.trans; rotate_left; assumption; assumption))))
    exact bodyPost_ret (v := .tuple #[.agg #[.int .i64 n, .slice a len cap], .bool false]) (by simp [results, Try.results52, go_sem, r0, r1, r2, r3, *]) rfl ⟨rfl, by (repeat (first | assumption | exact Upd.refl _ _ | refine Upd.alloc ?_ _ | refine Upd.drew ?_ | refine Upd.drewN ?_ _ | refine Upd.setCell ?_ (Or.inr (by first | (simp; done) | (simp; omega))) _ | (apply Upd.trans; rotate_left; assumption)))⟩
  have hc1 : b1 = true := by simpa using hc1
  subst hc1
  by_cases hc2 : b2 = false
  · subst hc2
    clear ho
    go_enter Try.func52, Try.ntmps52
    go_wp2_with (first
      | (go_at_call 57; refine (k3 _ (by first | assumption | exact Upd.refl _ _)).mono ?_; rintro e w' ⟨rfl, hb⟩; have hq : Upd [] ((w.alloc (.cells #[.int .i64 n, .slice a len cap] 52)).alloc (.cells #[.int .i64 0, .slice none 0 0] 52)) w' := (by first | exact hb | (apply Upd.trans; rotate_left; assumption; assumption)))
      | (go_at_call 56; refine (k4 _ (by first | assumption | exact Upd.refl _ _)).mono ?_; rintro e w' ⟨rfl, hb⟩; have hq : Upd [] ((w.alloc (.cells #[.int .i64 n, .slice a len cap] 52)).alloc (.cells #[.int .i64 0, .slice none 0 0] 52)) w' := (by first | exact hb | (apply Upd.trans; rotate_left; assumption; assumption)))
      | ((go_at_call 59; (with_reducible refine (k1 _).mono ?_)); rintro e w' ⟨rfl, hb⟩; have hq : Upd [] ((w.alloc (.cells #[.int .i64 n, .slice a len cap] 52)).alloc (.cells #[.int .i64 0, .slice none 0 0] 52)) w' := (by first | exact hb | (apply Upd.trans; rotate_left; assumption; assumption)))
      | ((go_at_call 59; (with_reducible refine (k2 _).mono ?_)); rintro e w' ⟨rfl, hb⟩; have hq : Upd [] ((w.alloc (.cells #[.int .i64 n, .slice a len cap] 52)).alloc (.cells #[.int .i64 0, .slice none 0 0] 52)) w' := (by first | exact hb | (apply Upd.trans; rotate_left; assumption; assumption))))
    exact bodyPost_ret (v := .tuple #[.agg #[.int .i64 n, .slice a len cap], .bool false]) (by simp [results, Try.results52, go_sem, r0, r1, r2, r3, *]) rfl ⟨rfl, by (repeat (first | assumption | exact Upd.refl _ _ | refine Upd.alloc ?_ _ | refine Upd.drew ?_ | refine Upd.drewN ?_ _ | refine Upd.setCell ?_ (Or.inr (by first | (simp; done) | (simp; omega))) _ | (apply Upd.trans; rotate_left; assumption)))⟩
  have hc2 : b2 = true := by simpa using hc2
  subst hc2
  by_cases hc3 : b3 = true
  · subst hc3
    clear ho
    go_enter Try.func52, Try.ntmps52
    go_wp2_with (first
      | (go_at_call 57; refine (k3 _ (by first | assumption | exact Upd.refl _ _)).mono ?_; rintro e w' ⟨rfl, hb⟩; have hq : Upd [] ((w.alloc (.cells #[.int .i64 n, .slice a len cap] 52)).alloc (.cells #[.int .i64 0, .slice none 0 0] 52)) w' := (by first | exact hb | (apply Upd.trans; rotate_left; assumption; assumption)))
      | (go_at_call 56; refine (k4 _ (by first | assumption | exact Upd.refl _ _)).mono ?_; rintro e w' ⟨rfl, hb⟩; have hq : Upd [] ((w.alloc (.cells #[.int .i64 n, .slice a len cap] 52)).alloc (.cells #[.int .i64 0, .slice none 0 0] 52)) w' := (by first | exact hb | (apply Upd.trans; rotate_left; assumption; assumption)))
      | ((go_at_call 59; (with_reducible refine (k1 _).mono ?_)); rintro e w' ⟨rfl, hb⟩; have hq : Upd [] ((w.alloc (.cells #[.int .i64 n, .slice a len cap] 52)).alloc (.cells #[.int .i64 0, .slice none 0 0] 52)) w' := (by first | exact hb | (apply Upd.trans; rotate_left; assumption; assumption)))
      | ((go_at_call 59; (with_reducible refine (k2 _).mono ?_)); rintro e w' ⟨rfl, hb⟩; have hq : Upd [] ((w.alloc (.cells #[.int .i64 n, .slice a len cap] 52)).alloc (.cells #[.int .i64 0, .slice none 0 0] 52)) w' := (by first | exact hb | (apply Upd.trans; rotate_left; assumption; assumption))))
    exact bodyPost_ret (v := .tuple #[.agg #[.int .i64 n, .slice a len cap], .bool false]) (by simp [results, Try.results52, go_sem, r0, r1, r2, r3, *]) rfl ⟨rfl, by (repeat (first | assumption | exact Upd.refl _ _ | refine Upd.alloc ?_ _ | refine Upd.drew ?_ | refine Upd.drewN ?_ _ | refine Upd.setCell ?_ (Or.inr (by first | (simp; done) | (simp; omega))) _ | (apply Upd.trans; rotate_left; assumption)))⟩
  have hc3 : b3 = false := by simpa using hc3
  subst hc3
  by_cases hc4 : b4 = true
  · subst hc4
    clear ho
    go_enter Try.func52, Try.ntmps52
    go_wp2_with (first
      | (go_at_call 57; refine (k3 _ (by first | assumption | exact Upd.refl _ _)).mono ?_; rintro e w' ⟨rfl, hb⟩; have hq : Upd [] ((w.alloc (.cells #[.int .i64 n, .slice a len cap] 52)).alloc (.cells #[.int .i64 0, .slice none 0 0] 52)) w' := (by first | exact hb | (apply Upd.trans; rotate_left; assumption; assumption)))
      | (go_at_call 56; refine (k4 _ (by first | assumption | exact Upd.refl _ _)).mono ?_; rintro e w' ⟨rfl, hb⟩; have hq : Upd [] ((w.alloc (.cells #[.int .i64 n, .slice a len cap] 52)).alloc (.cells #[.int .i64 0, .slice none 0 0] 52)) w' := (by first | exact hb | (apply Upd.trans; rotate_left; assumption; assumption)))
      | ((go_at_call 59; (with_reducible refine (k1 _).mono ?_)); rintro e w' ⟨rfl, hb⟩; have hq : Upd [] ((w.alloc (.cells #[.int .i64 n, .slice a len cap] 52)).alloc (.cells #[.int .i64 0, .slice none 0 0] 52)) w' := (by first | exact hb | (apply Upd.trans; rotate_left; assumption; assumption)))
      | ((go_at_call 59; (with_reducible refine (k2 _).mono ?_)); rintro e w' ⟨rfl, hb⟩; have hq : Upd [] ((w.alloc (.cells #[.int .i64 n, .slice a len cap] 52)).alloc (.cells #[.int .i64 0, .slice none 0 0] 52)) w' := (by first | exact hb | (apply Upd.trans; rotate_left; assumption; assumption))))
    exact bodyPost_ret (v := .tuple #[.agg #[.int .i64 n, .slice a len cap], .bool false]) (by simp [results, Try.results52, go_sem, r0, r1, r2, r3, *]) rfl ⟨rfl, by (repeat (first | assumption | exact Upd.refl _ _ | refine Upd.alloc ?_ _ | refine Upd.drew ?_ | refine Upd.drewN ?_ _ | refine Upd.setCell ?_ (Or.inr (by first | (simp; done) | (simp; omega))) _ | (apply Upd.trans; rotate_left; assumption)))⟩
  have hc4 : b4 = false := by simpa using hc4
  subst hc4
  have hc5 : b5 = true := by cases b5 <;> simp at ho ⊢
  subst hc5
  clear ho
  go_enter Try.func52, Try.ntmps52
  go_wp2_with (first
    | (go_at_call 57; refine (k3 _ (by first | assumption | exact Upd.refl _ _)).mono ?_; rintro e w' ⟨rfl, hb⟩; have hq : Upd [] ((w.alloc (.cells #[.int .i64 n, .slice a len cap] 52)).alloc (.cells #[.int .i64 0, .slice none 0 0] 52)) w' := (by first | exact hb | (apply Upd.trans; rotate_left; assumption; assumption)))
    | (go_at_call 56; refine (k4 _ (by first | assumption | exact Upd.refl _ _)).mono ?_; rintro e w' ⟨rfl, hb⟩; have hq : Upd [] ((w.alloc (.cells #[.int .i64 n, .slice a len cap] 52)).alloc (.cells #[.int .i64 0, .slice none 0 0] 52)) w' := (by first | exact hb | (apply Upd.trans; rotate_left; assumption; assumption)))
    | ((go_at_call 59; (with_reducible refine (k1 _).mono ?_)); rintro e w' ⟨rfl, hb⟩; have hq : Upd [] ((w.alloc (.cells #[.int .i64 n, .slice a len cap] 52)).alloc (.cells #[.int .i64 0, .slice none 0 0] 52)) w' := (by first | exact hb | (apply Upd.trans; rotate_left; assumption; assumption)))
    | ((go_at_call 59; (with_reducible refine (k2 _).mono ?_)); rintro e w' ⟨rfl, hb⟩; have hq : Upd [] ((w.alloc (.cells #[.int .i64 n, .slice a len cap] 52)).alloc (.cells #[.int .i64 0, .slice none 0 0] 52)) w' := (by first | exact hb | (apply Upd.trans; rotate_left; assumption; assumption))))
  exact bodyPost_ret (v := .tuple #[.agg #[.int .i64 n, .slice a len cap], .bool false]) (by simp [results, Try.results52, go_sem, r0, r1, r2, r3, *]) rfl ⟨rfl, by (repeat (first | assumption | exact Upd.refl _ _ | refine Upd.alloc ?_ _ | refine Upd.drew ?_ | refine Upd.drewN ?_ _ | refine Upd.setCell ?_ (Or.inr (by first | (simp; done) | (simp; omega))) _ | (apply Upd.trans; rotate_left; assumption)))⟩

end Go.Proofs.Ytdgfibcbnlkbpaa
