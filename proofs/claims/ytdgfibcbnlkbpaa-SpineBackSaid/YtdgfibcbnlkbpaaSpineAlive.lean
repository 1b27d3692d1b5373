/-
  The chapter's example of layer 9 holds; and the law on how many things there can be. Conditions: numbers of 64 bits.
-/
import Derived.Test.YtdgfibcbnlkbpaaRef09g
set_option linter.unusedVariables false
set_option linter.unusedSimpArgs false
namespace Go.Proofs.Ytdgfibcbnlkbpaa
open Go Go.RowKit

theorem rsame_true (w : World) (lo : Nat) (va vb : Value) (z : List Int) (ha : LstAt w lo va z.length (intsZ z)) (hb : LstAt w lo vb z.length (intsZ z)) :
    Calls Try.prog 40 #[va, vb] w fun e w' => e = .returned (.bool true) ∧ ∃ k, w' = w.drewN k :=
  (rsame_any w lo va vb z z ha hb).mono fun e w' ⟨he, h⟩ => ⟨by rw [he, decide_eq_true rfl], h⟩

def al1 : TS := hangS TS.none 0 1 false
def al2 : TS := hangS al1 0 2 true
def al3 : TS := turnS al2 0
def alA (y : Nat) : List Nat := if y = 0 then [0, 1, 2] else [y]
def alB (y : Nat) : List Nat := if y = 0 then [0, 2] else [y]
def alC (y : Nat) : List Nat := if y = 0 then [0, 2, 1] else [y]
theorem al_r2l : InR 3 al2.l := fun y hy => by rcases (by omega : y = 0 ∨ y = 1 ∨ y = 2) with rfl | rfl | rfl <;> first | exact Or.inl rfl | exact Or.inr ⟨1, by omega, rfl⟩ | exact Or.inr ⟨2, by omega, rfl⟩
theorem al_r2r : InR 3 al2.r := fun y hy => by rcases (by omega : y = 0 ∨ y = 1 ∨ y = 2) with rfl | rfl | rfl <;> first | exact Or.inl rfl | exact Or.inr ⟨1, by omega, rfl⟩ | exact Or.inr ⟨2, by omega, rfl⟩
theorem al_r3l : InR 3 al3.l := fun y hy => by rcases (by omega : y = 0 ∨ y = 1 ∨ y = 2) with rfl | rfl | rfl <;> first | exact Or.inl rfl | exact Or.inr ⟨1, by omega, rfl⟩ | exact Or.inr ⟨2, by omega, rfl⟩
theorem al_r3r : InR 3 al3.r := fun y hy => by rcases (by omega : y = 0 ∨ y = 1 ∨ y = 2) with rfl | rfl | rfl <;> first | exact Or.inl rfl | exact Or.inr ⟨1, by omega, rfl⟩ | exact Or.inr ⟨2, by omega, rfl⟩
theorem al_A : ∀ y, y < 3 → alA y = y :: (opt alA (al2.l y) ++ opt alA (al2.r y)) := by decide
theorem al_B : ∀ y, y < 3 → alB y = y :: opt alB (al2.r y) := by decide
theorem al_C : ∀ y, y < 3 → alC y = y :: (opt alC (al3.l y) ++ opt alC (al3.r y)) := by decide

theorem owns_lst {w : World} {base : Nat} {v : Value} {l : List Nat} {z : List Int} (h : w.ownsRow base 3 1 v l.length (ints l)) (hz : z = l.map (fun (x : Nat) => (x : Int))) : LstAt w base v z.length (intsZ z) := by
  subst hz
  have e : intsZ (l.map (fun (x : Nat) => (x : Int))) = ints l := by unfold intsZ ints; rw [List.map_map]; rfl
  rw [e, List.length_map]
  exact LstAt.of_owns h

set_option maxHeartbeats 2000000 in
theorem salive_any (w : World) : Calls Try.prog 28 #[] w fun e w' => e = .returned (.bool true) ∧ Upd [] w w' := by
  have kN : Calls Try.prog 29 #[.int .i64 3] w fun e w' => ∃ bt ba, e = .returned (.tuple #[.pointer (some ⟨bt, 0, none⟩), .int .i64 0]) ∧ TreesAt w' bt ba 3 TS.none ∧ Upd [] w w' ∧ w.heap.size ≤ bt ∧ w.heap.size ≤ ba := spineNew_yes 3 w (by omega)
  have kH1 : ∀ W bt ba, TreesAt W bt ba 3 TS.none → Calls Try.prog 38 #[.pointer (some ⟨bt, 0, none⟩), .int .i64 0, .int .i64 1, .bool false] W fun e w' => e = .returned (.bool true) ∧ TreesAt w' bt ba 3 al1 ∧ Upd [ba] W w' := fun W bt ba h => hang_yes bt ba 3 TS.none 0 1 false W h (by omega) (by omega) (by omega) rfl rfl
  have kH2 : ∀ W bt ba, TreesAt W bt ba 3 al1 → Calls Try.prog 38 #[.pointer (some ⟨bt, 0, none⟩), .int .i64 0, .int .i64 2, .bool true] W fun e w' => e = .returned (.bool true) ∧ TreesAt w' bt ba 3 al2 ∧ Upd [ba] W w' := fun W bt ba h => hang_yes bt ba 3 al1 0 2 true W h (by omega) (by omega) (by omega) rfl rfl
  have kA : ∀ W bt ba, TreesAt W bt ba 3 al2 → Calls Try.prog 34 #[.pointer (some ⟨bt, 0, none⟩), .int .i64 0] W fun e w' => ∃ v, e = .returned v ∧ w'.ownsRow W.heap.size 3 1 v (alA 0).length (ints (alA 0)) ∧ Upd [] W w' := fun W bt ba h => all_any bt ba 3 al2 0 W h (by omega) alA al_A al_r2l al_r2r (by decide)
  have kS : ∀ W bt ba, TreesAt W bt ba 3 al2 → Calls Try.prog 35 #[.pointer (some ⟨bt, 0, none⟩), .int .i64 0] W fun e w' => ∃ v, e = .returned v ∧ w'.ownsRow W.heap.size 3 1 v (alB 0).length (ints (alB 0)) ∧ Upd [] W w' := fun W bt ba h => spine_any bt ba 3 al2 0 W h (by omega) alB al_B al_r2r (by decide)
  have kT : ∀ W bt ba, TreesAt W bt ba 3 al2 → Calls Try.prog 39 #[.pointer (some ⟨bt, 0, none⟩), .int .i64 0] W fun e w' => e = .returned (.bool true) ∧ TreesAt w' bt ba 3 al3 ∧ Upd [ba] W w' := fun W bt ba h => turn_yes bt ba 3 al2 0 W h (by omega)
  have kC : ∀ W bt ba, TreesAt W bt ba 3 al3 → Calls Try.prog 34 #[.pointer (some ⟨bt, 0, none⟩), .int .i64 0] W fun e w' => ∃ v, e = .returned v ∧ w'.ownsRow W.heap.size 3 1 v (alC 0).length (ints (alC 0)) ∧ Upd [] W w' := fun W bt ba h => all_any bt ba 3 al3 0 W h (by omega) alC al_C al_r3l al_r3r (by decide)
  go_enter Try.func28, Try.ntmps28
  go_wp2_with (first
    | ((go_at_call 29; (with_reducible refine kN.mono ?_)); rintro e w1 ⟨bt, ba, rfl, hT1, hu1, hb1, hb2⟩)
    | ((go_at_call 38; (with_reducible refine (kH1 _ _ ba hT1).mono ?_)); rintro e w2 ⟨rfl, hT2, hu2⟩)
    | ((go_at_call 38; (with_reducible refine (kH2 _ _ ba hT2).mono ?_)); rintro e w3 ⟨rfl, hT3, hu3⟩)
    | ((go_at_call 34; (with_reducible refine (kA _ _ ba hT3).mono ?_)); rintro e w4 ⟨va, rfl, ha, hu4⟩; have hT4 := hT3.upd hu4 (by simp) (by simp))
    | ((go_at_call 35; (with_reducible refine (kS _ _ ba hT4).mono ?_)); rintro e w5 ⟨vb, rfl, hs, hu5⟩; have hT5 := hT4.upd hu5 (by simp) (by simp))
    | ((go_at_call 39; (with_reducible refine (kT _ _ ba hT5).mono ?_)); rintro e w6 ⟨rfl, hT6, hu6⟩; have hba3 := hT3.row.lt; have hba4 := hT4.row.lt; have la := ((((owns_lst ha (z := [0, 1, 2]) rfl).upd hu5 (by simp)).upd hu6 (fun k hk => Or.inl (by simp at hk; omega))).mono (Nat.zero_le _)); have lb := (((owns_lst hs (z := [0, 2]) rfl).upd hu6 (fun k hk => Or.inl (by simp at hk; omega))).mono (Nat.zero_le _))))
  have hs1 : Calls Try.prog 40 #[va, .slice (some ⟨w6.heap.size, 0, none⟩) 3 3] (w6.alloc (.cells #[.int .i64 0, .int .i64 1, .int .i64 2] 3)) fun e w' => e = .returned (.bool true) ∧ ∃ k, w' = (w6.alloc (.cells #[.int .i64 0, .int .i64 1, .int .i64 2] 3)).drewN k :=
    rsame_true (w6.alloc (.cells #[.int .i64 0, .int .i64 1, .int .i64 2] 3)) 0 va (.slice (some ⟨w6.heap.size, 0, none⟩) 3 3) [0, 1, 2] (la.upd ((Upd.refl [] _).alloc _) (by simp)) (LstAt.of_owns (own_lit_at w6 w6.heap.size (by simp) (intsZ [0, 1, 2]) 3 0 1 3 rfl (Nat.zero_le _) (by unfold maxLen; omega)))
  (with_reducible refine hs1.mono ?_)
  rintro e w7 ⟨rfl, k7, rfl⟩
  go_wp2_with fail
  have hs2 : Calls Try.prog 40 #[vb, .slice (some ⟨(w6.heap.size + 1), 0, none⟩) 2 2] (((w6.alloc (.cells #[.int .i64 0, .int .i64 1, .int .i64 2] 3)).drewN k7).alloc (.cells #[.int .i64 0, .int .i64 2] 3)) fun e w' => e = .returned (.bool true) ∧ ∃ k, w' = (((w6.alloc (.cells #[.int .i64 0, .int .i64 1, .int .i64 2] 3)).drewN k7).alloc (.cells #[.int .i64 0, .int .i64 2] 3)).drewN k :=
    rsame_true (((w6.alloc (.cells #[.int .i64 0, .int .i64 1, .int .i64 2] 3)).drewN k7).alloc (.cells #[.int .i64 0, .int .i64 2] 3)) 0 vb (.slice (some ⟨(w6.heap.size + 1), 0, none⟩) 2 2) [0, 2] (lb.upd ((((Upd.refl [] _).alloc _).drewN k7).alloc _) (by simp)) (LstAt.of_owns (own_lit_at ((w6.alloc (.cells #[.int .i64 0, .int .i64 1, .int .i64 2] 3)).drewN k7) (w6.heap.size + 1) (by simp) (intsZ [0, 2]) 3 0 1 2 rfl (Nat.zero_le _) (by unfold maxLen; omega)))
  (with_reducible refine hs2.mono ?_)
  rintro e w8 ⟨rfl, k8, rfl⟩
  go_wp2_with fail
  have hT8 := hT6.upd ((((((Upd.refl [] w6).alloc (.cells #[.int .i64 0, .int .i64 1, .int .i64 2] 3)).drewN k7).alloc (.cells #[.int .i64 0, .int .i64 2] 3)).drewN k8)) (by simp) (by simp)
  (with_reducible refine (kC _ _ ba hT8).mono ?_)
  rintro e w9 ⟨vc, rfl, hcc, hu9⟩
  have lc := ((owns_lst hcc (z := [0, 2, 1]) rfl).mono (Nat.zero_le _))
  go_wp2_with fail
  have hs3 : Calls Try.prog 40 #[vc, .slice (some ⟨w9.heap.size, 0, none⟩) 3 3] (w9.alloc (.cells #[.int .i64 0, .int .i64 2, .int .i64 1] 3)) fun e w' => e = .returned (.bool true) ∧ ∃ k, w' = (w9.alloc (.cells #[.int .i64 0, .int .i64 2, .int .i64 1] 3)).drewN k :=
    rsame_true (w9.alloc (.cells #[.int .i64 0, .int .i64 2, .int .i64 1] 3)) 0 vc (.slice (some ⟨w9.heap.size, 0, none⟩) 3 3) [0, 2, 1] (lc.upd ((Upd.refl [] _).alloc _) (by simp)) (LstAt.of_owns (own_lit_at w9 w9.heap.size (by simp) (intsZ [0, 2, 1]) 3 0 1 3 rfl (Nat.zero_le _) (by unfold maxLen; omega)))
  (with_reducible refine hs3.mono ?_)
  rintro e w10 ⟨rfl, k10, rfl⟩
  go_wp2_with fail
  go_ret
  refine ⟨rfl, ?_⟩
  have u1 : Upd [] w w2 := hu1.joined hu2 (fun x hx => by simp at hx; subst hx; exact Or.inr hb2)
  have u2 : Upd [] w w3 := u1.joined hu3 (fun x hx => by simp at hx; subst hx; exact Or.inr hb2)
  have u3 : Upd [] w w6 := ((u2.trans hu4).trans hu5).joined hu6 (fun x hx => by simp at hx; subst hx; exact Or.inr hb2)
  (repeat (first | assumption | exact Upd.refl _ _ | refine Upd.alloc ?_ _ | refine Upd.drew ?_ | refine Upd.drewN ?_ _ | refine Upd.setCell ?_ (Or.inr (by first | (simp; done) | (simp; omega))) _ | (apply Upd.trans; rotate_left; assumption)))
end Go.Proofs.Ytdgfibcbnlkbpaa
