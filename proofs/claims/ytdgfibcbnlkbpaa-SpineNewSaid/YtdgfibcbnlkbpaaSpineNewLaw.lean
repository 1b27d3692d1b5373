/-
  The law on how many things there can be in layer 9: its walk. Conditions: numbers of 64 bits.
-/
import Derived.Test.YtdgfibcbnlkbpaaSpineAlive
set_option linter.unusedVariables false
set_option linter.unusedSimpArgs false
namespace Go.Proofs.Ytdgfibcbnlkbpaa
open Go Go.RowKit

theorem none_kid (n : Nat) (x : Int) (s : Bool) : kidOf n TS.none x s = -1 := by unfold kidOf TS.kid TS.none; split <;> simp
theorem none_up (n : Nat) (x : Int) : upOf n TS.none x = -1 := by unfold upOf TS.none; split <;> rfl

set_option maxHeartbeats 1000000 in
theorem spineNew_law_no (n x : Int) (w : World) (h : n < 0 ∨ 65536 < n) :
    Calls Try.prog 8 #[.int .i64 n, .int .i64 x] w fun e w' => e = .returned (.bool true) ∧ Upd [] w w' := by
  have k := fun W => spineNew_no n W h
  rcases h with h | h
  all_goals
    go_enter Try.func8, Try.ntmps8
    go_wp2_with (first
      | ((go_at_call 28; (with_reducible refine (salive_any _).mono ?_)); rintro e w1 ⟨rfl, hu1⟩)
      | ((go_at_call 29; (with_reducible refine (k _).mono ?_)); rintro e w2 ⟨rfl, rfl⟩))
    go_ret
    exact ⟨rfl, by (repeat (first | assumption | exact Upd.refl _ _ | refine Upd.alloc ?_ _ | refine Upd.drew ?_ | refine Upd.drewN ?_ _ | refine Upd.setCell ?_ (Or.inr (by simp)) _ | (apply Upd.trans; rotate_left; assumption)))⟩

set_option maxHeartbeats 2000000 in
theorem spineNew_law_out (n : Nat) (x : Int) (w : World) (h : n ≤ 65536) (hx : ¬ (0 ≤ x ∧ x < n)) :
    Calls Try.prog 8 #[.int .i64 (n : Int), .int .i64 x] w fun e w' => e = .returned (.bool true) ∧ Upd [] w w' := by
  have kL := fun W bt ba (hT : TreesAt W bt ba n TS.none) => left_any bt ba n TS.none x W hT
  have kR := fun W bt ba (hT : TreesAt W bt ba n TS.none) => right_any bt ba n TS.none x W hT
  have kU := fun W bt ba (hT : TreesAt W bt ba n TS.none) => up_any bt ba n TS.none x W hT
  rw [none_kid] at kL kR
  rw [none_up] at kU
  unfold tv tb at kL kR kU
  simp only [if_true, ne_eq, not_true_eq_false, decide_false] at kL kR kU
  have kO := fun W bt ba (hT : TreesAt W bt ba n TS.none) => root_no bt ba n TS.none x W hT hx
  have kA := fun W bt ba (hT : TreesAt W bt ba n TS.none) => all_no bt ba n TS.none x W hT hx
  have kS := fun W bt ba (hT : TreesAt W bt ba n TS.none) => spine_no bt ba n TS.none x W hT hx
  by_cases h0 : 0 ≤ x
  · have h1 : ¬ x < n := by omega
    clear hx
    go_enter Try.func8, Try.ntmps8
    go_wp2_with (first
      | ((go_at_call 28; (with_reducible refine (salive_any _).mono ?_)); rintro e w1 ⟨rfl, hu1⟩)
      | ((go_at_call 29; (with_reducible refine (spineNew_yes n _ h).mono ?_)); rintro e w2 ⟨bt, ba, rfl, hT2, hu2, hb1, hb2⟩)
      | ((go_at_call 30; (with_reducible refine (kL _ _ ba hT2).mono ?_)); rintro e w3 ⟨rfl, k3, rfl⟩)
      | ((go_at_call 31; (with_reducible refine (kR _ _ ba (hT2.drewN _)).mono ?_)); rintro e w4 ⟨rfl, k4, rfl⟩)
      | ((go_at_call 32; (with_reducible refine (kU _ _ ba (hT2.drewN _)).mono ?_)); rintro e w5 ⟨rfl, k5, rfl⟩)
      | ((go_at_call 33; (with_reducible refine (kO _ _ ba (hT2.drewN _)).mono ?_)); rintro e w6 ⟨rfl, rfl⟩)
      | ((go_at_call 34; (with_reducible refine (kA _ _ ba (hT2.drewN _)).mono ?_)); rintro e w7 ⟨rfl, rfl⟩)
      | ((go_at_call 35; (with_reducible refine (kS _ _ ba (hT2.drewN _)).mono ?_)); rintro e w8 ⟨rfl, rfl⟩))
    go_ret
    exact ⟨by first | rfl | exact ret_bool (by simp; omega), by (repeat (first | assumption | exact Upd.refl _ _ | refine Upd.alloc ?_ _ | refine Upd.drew ?_ | refine Upd.drewN ?_ _ | refine Upd.setCell ?_ (Or.inr (by simp)) _ | (apply Upd.trans; rotate_left; assumption)))⟩
  · clear hx
    go_enter Try.func8, Try.ntmps8
    go_wp2_with (first
      | ((go_at_call 28; (with_reducible refine (salive_any _).mono ?_)); rintro e w1 ⟨rfl, hu1⟩)
      | ((go_at_call 29; (with_reducible refine (spineNew_yes n _ h).mono ?_)); rintro e w2 ⟨bt, ba, rfl, hT2, hu2, hb1, hb2⟩)
      | ((go_at_call 30; (with_reducible refine (kL _ _ ba hT2).mono ?_)); rintro e w3 ⟨rfl, k3, rfl⟩)
      | ((go_at_call 31; (with_reducible refine (kR _ _ ba (hT2.drewN _)).mono ?_)); rintro e w4 ⟨rfl, k4, rfl⟩)
      | ((go_at_call 32; (with_reducible refine (kU _ _ ba (hT2.drewN _)).mono ?_)); rintro e w5 ⟨rfl, k5, rfl⟩)
      | ((go_at_call 33; (with_reducible refine (kO _ _ ba (hT2.drewN _)).mono ?_)); rintro e w6 ⟨rfl, rfl⟩)
      | ((go_at_call 34; (with_reducible refine (kA _ _ ba (hT2.drewN _)).mono ?_)); rintro e w7 ⟨rfl, rfl⟩)
      | ((go_at_call 35; (with_reducible refine (kS _ _ ba (hT2.drewN _)).mono ?_)); rintro e w8 ⟨rfl, rfl⟩))
    go_ret
    exact ⟨by first | rfl | exact ret_bool (by simp; omega), by (repeat (first | assumption | exact Upd.refl _ _ | refine Upd.alloc ?_ _ | refine Upd.drew ?_ | refine Upd.drewN ?_ _ | refine Upd.setCell ?_ (Or.inr (by simp)) _ | (apply Upd.trans; rotate_left; assumption)))⟩

set_option maxHeartbeats 2000000 in
theorem spineNew_law_in (n x : Nat) (w : World) (h : n ≤ 65536) (hx : x < n) :
    Calls Try.prog 8 #[.int .i64 (n : Int), .int .i64 (x : Int)] w fun e w' => e = .returned (.bool true) ∧ Upd [] w w' := by
  have kL := fun W bt ba (hT : TreesAt W bt ba n TS.none) => left_any bt ba n TS.none x W hT
  have kR := fun W bt ba (hT : TreesAt W bt ba n TS.none) => right_any bt ba n TS.none x W hT
  have kU := fun W bt ba (hT : TreesAt W bt ba n TS.none) => up_any bt ba n TS.none x W hT
  rw [none_kid] at kL kR
  rw [none_up] at kU
  unfold tv tb at kL kR kU
  simp only [if_true, ne_eq, not_true_eq_false, decide_false] at kL kR kU
  have hA : ∀ y, y < n → (fun y => [y]) y = y :: (opt (fun y => [y]) (TS.none.l y) ++ opt (fun y => [y]) (TS.none.r y)) := fun y _ => rfl
  have hB : ∀ y, y < n → (fun y => [y]) y = y :: opt (fun y => [y]) (TS.none.r y) := fun y _ => rfl
  have hC : ∀ y, y < n → (fun y => [y]) y = y :: opt (fun y => [y]) (TS.none.u y) := fun y _ => rfl
  have kO := fun W bt ba (hT : TreesAt W bt ba n TS.none) => root_any bt ba n TS.none x W hT hx (fun y => [y]) hC (fun y _ => Or.inl rfl) x rfl
  have kA : ∀ W bt ba, TreesAt W bt ba n TS.none → Calls Try.prog 34 #[.pointer (some ⟨bt, 0, none⟩), .int .i64 (x : Int)] W fun e w' => ∃ a c, e = .returned (.slice a 1 c) ∧ Upd [] W w' := fun W bt ba hT =>
    (all_any bt ba n TS.none x W hT hx (fun y => [y]) hA (fun y _ => Or.inl rfl) (fun y _ => Or.inl rfl) (by simp)).mono fun e w' ⟨v, he, ho, hu⟩ => by
      obtain ⟨a, c, rfl, _⟩ := own_slice ho; exact ⟨a, c, he, hu⟩
  have kS : ∀ W bt ba, TreesAt W bt ba n TS.none → Calls Try.prog 35 #[.pointer (some ⟨bt, 0, none⟩), .int .i64 (x : Int)] W fun e w' => ∃ a c, e = .returned (.slice a 1 c) ∧ Upd [] W w' := fun W bt ba hT =>
    (spine_any bt ba n TS.none x W hT hx (fun y => [y]) hB (fun y _ => Or.inl rfl) (by simp)).mono fun e w' ⟨v, he, ho, hu⟩ => by
      obtain ⟨a, c, rfl, _⟩ := own_slice ho; exact ⟨a, c, he, hu⟩
  clear hA hB hC
  go_enter Try.func8, Try.ntmps8
  go_wp2_with (first
    | ((go_at_call 28; (with_reducible refine (salive_any _).mono ?_)); rintro e w1 ⟨rfl, hu1⟩)
    | ((go_at_call 29; (with_reducible refine (spineNew_yes n _ h).mono ?_)); rintro e w2 ⟨bt, ba, rfl, hT2, hu2, hb1, hb2⟩)
    | ((go_at_call 30; (with_reducible refine (kL _ _ ba hT2).mono ?_)); rintro e w3 ⟨rfl, k3, rfl⟩)
    | ((go_at_call 31; (with_reducible refine (kR _ _ ba (hT2.drewN _)).mono ?_)); rintro e w4 ⟨rfl, k4, rfl⟩)
    | ((go_at_call 32; (with_reducible refine (kU _ _ ba (hT2.drewN _)).mono ?_)); rintro e w5 ⟨rfl, k5, rfl⟩)
    | ((go_at_call 33; (with_reducible refine (kO _ _ ba (hT2.drewN _)).mono ?_)); rintro e w6 ⟨rfl, rfl⟩)
    | ((go_at_call 34; (with_reducible refine (kA _ _ ba (hT2.drewN _)).mono ?_)); rintro e w7 ⟨a7, c7, rfl, hu7⟩)
    | ((go_at_call 35; (with_reducible refine (kS _ _ ba ((hT2.drewN _).upd hu7 (by simp) (by simp))).mono ?_)); rintro e w8 ⟨a8, c8, rfl, hu8⟩))
  go_ret
  exact ⟨rfl, by (repeat (first | assumption | exact Upd.refl _ _ | refine Upd.alloc ?_ _ | refine Upd.drew ?_ | refine Upd.drewN ?_ _ | refine Upd.setCell ?_ (Or.inr (by simp)) _ | (apply Upd.trans; rotate_left; assumption)))⟩

theorem spineNewLaw_any (n x : Int) (w : World) : Calls Try.prog 8 #[.int .i64 n, .int .i64 x] w fun e w' => e = .returned (.bool true) ∧ Upd [] w w' := by
  by_cases h : n < 0 ∨ 65536 < n
  · exact spineNew_law_no n x w h
  · obtain ⟨k, rfl⟩ : ∃ k : Nat, n = k := ⟨n.toNat, by omega⟩
    by_cases hx : 0 ≤ x ∧ x < k
    · obtain ⟨y, rfl⟩ : ∃ y : Nat, x = y := ⟨x.toNat, by omega⟩
      exact spineNew_law_in k y w (by omega) (by omega)
    · exact spineNew_law_out k x w (by omega) hx
end Go.Proofs.Ytdgfibcbnlkbpaa
