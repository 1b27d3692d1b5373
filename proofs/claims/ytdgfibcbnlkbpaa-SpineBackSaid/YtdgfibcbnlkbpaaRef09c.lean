/-
  The document's trees (haycockref09): Hang where it hangs. Conditions: those of each lemma.
-/
import Derived.Test.YtdgfibcbnlkbpaaRef09b
set_option linter.unusedVariables false
set_option linter.unusedSimpArgs false
namespace Go.Proofs.Ytdgfibcbnlkbpaa
open Go Go.RowKit

set_option maxHeartbeats 2000000 in
theorem rhang_yes (w : World) (lo : Nat) (n p x : Int) (r : Bool) (v : Value) (l : List Hg) (h : LstAt w lo v l.length (hgCells l)) (hlo : lo ≤ w.heap.size) (hl : l.length ≤ 1000) (ho : rhangOk n l p x r = true) :
    Calls Try.prog 52 #[.agg #[.int .i64 n, v], .int .i64 p, .int .i64 x, .bool r] w fun e w' => ∃ v', e = .returned (.tuple #[.agg #[.int .i64 n, v'], .bool true]) ∧ LstAt w' w.heap.size v' (l ++ [Hg.mk p x r]).length (hgCells (l ++ [Hg.mk p x r])) ∧ Upd [] w w' := by
  obtain ⟨a, cap, rfl, _⟩ := h.open
  have hl1 := h.upd ((Upd.refl [] w).alloc (.cells #[.int .i64 n, .slice a l.length cap] 52)) (by simp)
  have hl2 := hl1.upd ((Upd.refl [] _).alloc (.cells #[.int .i64 0, .slice none 0 0] 52)) (by simp)
  have k1 := fun W => rhas_any W n p (.slice a l.length cap) rfl _ rfl
  have k2 := fun W => rhas_any W n x (.slice a l.length cap) rfl _ rfl
  have k3 := fun W (hW : Upd [] ((w.alloc (.cells #[.int .i64 n, .slice a l.length cap] 52)).alloc (.cells #[.int .i64 0, .slice none 0 0] 52)) W) => rup_any W lo n x (.slice a l.length cap) l (hl2.upd hW (by simp))
  have k4 := fun W (hW : Upd [] ((w.alloc (.cells #[.int .i64 n, .slice a l.length cap] 52)).alloc (.cells #[.int .i64 0, .slice none 0 0] 52)) W) => rkid_any W lo n p r (.slice a l.length cap) l (hl2.upd hW (by simp))
  have hL := Lib.hid h
  have hcl := Lib.hid (hg_len l)
  generalize hlen : l.length = len at *
  have HLEN := Lib.hid hlen
  clear hlen
  have r0 : ∀ W, Upd [] (((w.alloc (.cells #[.int .i64 n, .slice a len cap] 52)).alloc (.cells #[.int .i64 0, .slice none 0 0] 52))) W → W.cell? ⟨w.heap.size, 0, none⟩ = some (.int .i64 n) := fun W h => h.was (by simp [*])
  have r1 : ∀ W, Upd [] (((w.alloc (.cells #[.int .i64 n, .slice a len cap] 52)).alloc (.cells #[.int .i64 0, .slice none 0 0] 52))) W → W.cell? ⟨w.heap.size, 1, none⟩ = some (.slice a len cap) := fun W h => h.was (by simp [*])
  have r2 : ∀ W, Upd [] (((w.alloc (.cells #[.int .i64 n, .slice a len cap] 52)).alloc (.cells #[.int .i64 0, .slice none 0 0] 52))) W → W.cell? ⟨w.heap.size + 1, 0, none⟩ = some (.int .i64 0) := fun W h => h.was (by simp [*])
  have r3 : ∀ W, Upd [] (((w.alloc (.cells #[.int .i64 n, .slice a len cap] 52)).alloc (.cells #[.int .i64 0, .slice none 0 0] 52))) W → W.cell? ⟨w.heap.size + 1, 1, none⟩ = some (.slice none 0 0) := fun W h => h.was (by simp [*])
  have r4 : ∀ W, Upd [] (((w.alloc (.cells #[.int .i64 n, .slice a len cap] 52)).alloc (.cells #[.int .i64 0, .slice none 0 0] 52))) W → W.frozen? ⟨w.heap.size + 1, 0, none⟩ = false := fun W h => by rw [h.frozen (by simp) (by simp)]; simp
  have r5 : ∀ W, Upd [] (((w.alloc (.cells #[.int .i64 n, .slice a len cap] 52)).alloc (.cells #[.int .i64 0, .slice none 0 0] 52))) W → W.frozen? ⟨w.heap.size + 1, 1, none⟩ = false := fun W h => by rw [h.frozen (by simp) (by simp)]; simp
  unfold rhangOk at ho
  generalize hb3 : (p == x) = b3 at ho
  simp only [Bool.and_eq_true, Bool.not_eq_true'] at ho
  obtain ⟨⟨⟨⟨e1, e2⟩, rfl⟩, e4⟩, e5⟩ := ho
  rw [e1] at k1
  rw [e2] at k2
  rw [e4] at k3
  rw [e5] at k4
  generalize ov (upL l x) = z4 at k3
  generalize ov (kidL l p r) = z5 at k4
  clear hl1 hl2 h e1 e2 e4 e5
  go_enter Try.func52, Try.ntmps52
  go_wp2_with (first
    | (go_at_call 57; refine (k3 _ (by first | assumption | exact Upd.refl _ _)).mono ?_; rintro e w' ⟨rfl, hb⟩; have hq : Upd [] ((w.alloc (.cells #[.int .i64 n, .slice a len cap] 52)).alloc (.cells #[.int .i64 0, .slice none 0 0] 52)) w' := (by first | exact hb | (apply Upd.trans; rotate_left; assumption; assumption)))
    | (go_at_call 56; refine (k4 _ (by first | assumption | exact Upd.refl _ _)).mono ?_; rintro e w' ⟨rfl, hb⟩; have hq : Upd [] ((w.alloc (.cells #[.int .i64 n, .slice a len cap] 52)).alloc (.cells #[.int .i64 0, .slice none 0 0] 52)) w' := (by first | exact hb | (apply Upd.trans; rotate_left; assumption; assumption)))
    | ((go_at_call 59; (with_reducible refine (k1 _).mono ?_)); rintro e w' ⟨rfl, hb⟩; have hq : Upd [] ((w.alloc (.cells #[.int .i64 n, .slice a len cap] 52)).alloc (.cells #[.int .i64 0, .slice none 0 0] 52)) w' := (by first | exact hb | (apply Upd.trans; rotate_left; assumption; assumption)))
    | ((go_at_call 59; (with_reducible refine (k2 _).mono ?_)); rintro e w' ⟨rfl, hb⟩; have hq : Upd [] ((w.alloc (.cells #[.int .i64 n, .slice a len cap] 52)).alloc (.cells #[.int .i64 0, .slice none 0 0] 52)) w' := (by first | exact hb | (apply Upd.trans; rotate_left; assumption; assumption))))
  clear k1 k2 k3 k4
  have q0 : ∀ W, Upd [w.heap.size + 1] ((w.alloc (.cells #[.int .i64 n, .slice a len cap] 52)).alloc (.cells #[.int .i64 0, .slice none 0 0] 52)) W → W.cell? ⟨w.heap.size, 0, none⟩ = some (.int .i64 n) := fun W h => by rw [h.cell (by simp; try omega) (by simp)]; simp
  have q1 : ∀ W, Upd [w.heap.size + 1] ((w.alloc (.cells #[.int .i64 n, .slice a len cap] 52)).alloc (.cells #[.int .i64 0, .slice none 0 0] 52)) W → W.cell? ⟨w.heap.size, 1, none⟩ = some (.slice a len cap) := fun W h => by rw [h.cell (by simp; try omega) (by simp)]; simp
  have q2 : ∀ W, HasRow W (w.heap.size + 1) 52 2 → W.cell? ⟨w.heap.size + 1, 0, none⟩ = some (cv W ⟨w.heap.size + 1, 0, none⟩) := fun W h => h.cell 0 (by omega)
  have q3 : ∀ W, HasRow W (w.heap.size + 1) 52 2 → W.cell? ⟨w.heap.size + 1, 1, none⟩ = some (cv W ⟨w.heap.size + 1, 1, none⟩) := fun W h => h.cell 1 (by omega)
  have q4 : ∀ W, HasRow W (w.heap.size + 1) 52 2 → W.frozen? ⟨w.heap.size + 1, 0, none⟩ = false := fun W h => h.free 0
  have q5 : ∀ W, HasRow W (w.heap.size + 1) 52 2 → W.frozen? ⟨w.heap.size + 1, 1, none⟩ = false := fun W h => h.free 1
  have s0 : Upd [w.heap.size + 1] ((w.alloc (.cells #[.int .i64 n, .slice a len cap] 52)).alloc (.cells #[.int .i64 0, .slice none 0 0] 52)) w' := hq.mono (by simp)
  have s1 := (hasRow_new (w.alloc (.cells #[.int .i64 n, .slice a len cap] 52)) [.int .i64 0, .slice none 0 0] 52).upd hq (by simp)
  rw [World.size_alloc] at s1
  clear r0 r1 r2 r3 r4 r5
  have HL2 : ∀ W, Upd [w.heap.size + 1] ((w.alloc (.cells #[.int .i64 n, .slice a len cap] 52)).alloc (.cells #[.int .i64 0, .slice none 0 0] 52)) W → LstAt W lo (.slice a len cap) len (hgCells l) := fun W hW => hL.out.upd (((Upd.refl [] w).alloc _).alloc _ |>.joined hW (fun x hx => Or.inr (by simp at hx ⊢; omega))) (by simp)
  have hsz := hq.size
  go_region_held3 (fun W => Upd [w.heap.size + 1] ((w.alloc (.cells #[.int .i64 n, .slice a len cap] 52)).alloc (.cells #[.int .i64 0, .slice none 0 0] 52)) W ∧ HasRow W (w.heap.size + 1) 52 2)
    (first
      | assumption
      | exact ⟨s0.drew, s1⟩
      | (refine ⟨?_, ?_⟩; assumption; assumption)
      | (have hS := (by assumption : Upd _ _ _ ∧ HasRow _ _ _ _); exact ⟨hS.1.alloc _, hS.2.upd ((Upd.refl [] _).alloc _) (by simp)⟩)
      | (have hS := (by assumption : Upd _ _ _ ∧ HasRow _ _ _ _); exact ⟨(hS.1.setCell (Or.inl (by simp)) _).setCell (Or.inl (by simp)) _, (hS.2.set 0 _).set 1 _⟩))
    (first
      | (have hS := (by assumption : Upd _ _ _ ∧ HasRow _ _ _ _)
         refine step_append_lst rfl _ _ 50 rfl (w.heap.size + 1 + 1) 88 (.agg #[.int .i64 0, .int .i64 0, .bool false]) 3 24 Try.underlying50 hungInfo rfl (by decide) (.slice (some ⟨w'.heap.size, 0, none⟩) 0 0) 0 [] rfl (by first | exact own_lit w' [] 88 _ 3 0 rfl (by have := hq.size; simp at this ⊢; omega) (by unfold maxLen; omega) | exact World.ownsRow.alloc (own_lit w' [] 88 _ 3 0 rfl (by have := hq.size; simp at this ⊢; omega) (by unfold maxLen; omega)) (.cells #[.int .i64 p, .int .i64 x, .bool r] 88)) lo len (hgCells l) (.slice a len cap) rfl (HL2 _ hS.1) hcl.out (hg_one l) (by unfold maxLen; omega) (by omega) (by have := hS.1.size; simpa using this) ?_
         intro v1 w1 ho1 hu1 hb1
         have hS1 := hS.1.over hb1 (by simp)
         have hS2 := hS.2.over hb1 (by omega))
      | (have hS := (by assumption : Upd _ _ _ ∧ HasRow _ _ _ _)
         refine step_append_lst rfl _ _ 50 rfl (w.heap.size + 1 + 1) 88 (.agg #[.int .i64 0, .int .i64 0, .bool false]) 3 24 Try.underlying50 hungInfo rfl (by decide) (.slice (some ⟨(w'.heap.size + 1), 0, none⟩) 0 0) 0 [] rfl (own_lit_at (w'.alloc (.cells #[.int .i64 p, .int .i64 x, .bool r] 88)) (w'.heap.size + 1) (by simp) [] 88 _ 3 0 rfl (by have := hq.size; simp at this ⊢; omega) (by unfold maxLen; omega)) lo len (hgCells l) (.slice a len cap) rfl (HL2 _ hS.1) hcl.out (hg_one l) (by unfold maxLen; omega) (by omega) (by have := hS.1.size; simpa using this) ?_
         intro v1 w1 ho1 hu1 hb1
         have hS1 := hS.1.over hb1 (by simp)
         have hS2 := hS.2.over hb1 (by omega))
      | (have hS := (by assumption : Upd _ _ _ ∧ HasRow _ _ _ _)
         refine step_append_lst rfl _ _ 50 rfl (w.heap.size + 1 + 1) 88 (.agg #[.int .i64 0, .int .i64 0, .bool false]) 3 24 Try.underlying50 hungInfo rfl (by decide) v1 (0 + len) ([] ++ hgCells l) rfl (World.ownsRow.alloc ho1 _) 0 1 [.int .i64 p, .int .i64 x, .bool r] (.slice (some ⟨w1.heap.size, 0, none⟩) 1 1) rfl (LstAt.of_owns (own_lit w1 [.int .i64 p, .int .i64 x, .bool r] 88 0 3 1 rfl (Nat.zero_le _) (by unfold maxLen; omega))) rfl (by simp [Value.oneCell']) (by unfold maxLen; omega) (by omega) (by have := hS.1.size; simpa using this) ?_
         intro v2 w2 ho2 hu2 hb2
         obtain ⟨a2, cap2, rfl, hc2⟩ := own_slice ho2
         have hS3 := hS.1.over hb2 (by simp)
         have hS4 := hS.2.over hb2 (by omega))
      | (have hS := (by assumption : Upd _ _ _ ∧ HasRow _ _ _ _)
         refine step_append_lst rfl _ _ 50 rfl (w.heap.size + 1 + 1) 88 (.agg #[.int .i64 0, .int .i64 0, .bool false]) 3 24 Try.underlying50 hungInfo rfl (by decide) v1 (0 + len) ([] ++ hgCells l) rfl ho1 0 1 [.int .i64 p, .int .i64 x, .bool r] (.slice (some ⟨(w'.heap.size + 1), 0, none⟩) 1 1) rfl (((LstAt.of_owns (own_lit_at (w'.alloc (.cells #[] 88)) (w'.heap.size + 1) (by simp) [.int .i64 p, .int .i64 x, .bool r] 88 (w'.heap.size + 1) 3 1 rfl (by simp) (by unfold maxLen; omega))).upd ((Upd.refl [w'.heap.size] _).drew.trans hu1) (fun k hk => Or.inl (by simp at hk; omega))).mono (Nat.zero_le _)) rfl (by simp [Value.oneCell']) (by unfold maxLen; omega) (by omega) (by have := hS.1.size; simpa using this) ?_
         intro v2 w2 ho2 hu2 hb2
         obtain ⟨a2, cap2, rfl, hc2⟩ := own_slice ho2
         have hS3 := hS.1.over hb2 (by simp)
         have hS4 := hS.2.over hb2 (by omega))
      | (have hS := (by assumption : Upd _ _ _ ∧ HasRow _ _ _ _)
         refine step_append_lst rfl _ _ 50 rfl (w.heap.size + 1 + 1) 88 (.agg #[.int .i64 0, .int .i64 0, .bool false]) 3 24 Try.underlying50 hungInfo rfl (by decide) v1 (0 + len) ([] ++ hgCells l) rfl ho1 0 1 [.int .i64 p, .int .i64 x, .bool r] (.slice (some ⟨w'.heap.size, 0, none⟩) 1 1) rfl ((LstAt.of_owns (own_lit w' [.int .i64 p, .int .i64 x, .bool r] 88 0 3 1 rfl (Nat.zero_le _) (by unfold maxLen; omega))).upd (((Upd.refl [w'.heap.size + 1] _).alloc (.cells #[] 88)).drew.trans hu1) (fun k hk => Or.inr (by simp at hk ⊢; omega))) rfl (by simp [Value.oneCell']) (by unfold maxLen; omega) (by omega) (by have := hS.1.size; simpa using this) ?_
         intro v2 w2 ho2 hu2 hb2
         obtain ⟨a2, cap2, rfl, hc2⟩ := own_slice ho2
         have hS3 := hS.1.over hb2 (by simp)
         have hS4 := hS.2.over hb2 (by omega)))
  all_goals
    go_wp2
    refine bodyPost_ret (v := .tuple #[.agg #[.int .i64 n, .slice a2 (0 + len + 1) cap2], .bool true]) (by simp [results, Try.results52, go_sem, q0, q1, q2, q3, hS4]) rfl ⟨_, rfl, ?_, ?_⟩
    · have e1 : (l ++ [Hg.mk p x r]).length = 0 + len + 1 := by rw [List.length_append, HLEN.out]; simp
      have e2 : hgCells (l ++ [Hg.mk p x r]) = [] ++ hgCells l ++ [.int .i64 p, .int .i64 x, .bool r] := by rw [hg_append]; rfl
      rw [e1, e2]
      exact (LstAt.of_owns (owns_upd ho2 (((Upd.refl [w.heap.size + 1] _).setCell (Or.inl (by simp)) _).setCell (Or.inl (by simp)) _) (fun k hk hm => by have := (ho2.lt k hk).1; simp at hm; omega))).mono (by omega)
    · exact ((Upd.refl [] w).alloc _).alloc _ |>.joined ((hS3.setCell (Or.inl (by simp)) _).setCell (Or.inl (by simp)) _) (fun y hy => Or.inr (by simp at hy; omega))

end Go.Proofs.Ytdgfibcbnlkbpaa
