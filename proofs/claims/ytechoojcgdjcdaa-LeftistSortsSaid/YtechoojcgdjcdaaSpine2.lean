/-
  The trees of package spine, what changes them: Hang, Cut, Turn. Conditions: those of each lemma.
-/
import Derived.Test.YtechoojcgdjcdaaSpine
set_option linter.unusedVariables false
set_option linter.unusedSimpArgs false
namespace Go.Proofs.Ytechoojcgdjcdaa
open Go Go.RowKit

def hangOk (n : Nat) (S : TS) (p x : Int) (r : Bool) : Bool :=
  decide (0 ≤ p ∧ p < n ∧ 0 ≤ x ∧ x < n ∧ p ≠ x ∧ S.u x.toNat = -1 ∧ S.kid r p.toNat = -1)
def hangS (S : TS) (p x : Int) (r : Bool) : TS := (S.setKid p.toNat r x).setUp x.toNat p

set_option maxHeartbeats 1000000 in
theorem hang_yes (bt ba n : Nat) (S : TS) (i j : Nat) (r : Bool) (w : World) (h : TreesAt w bt ba n S) (hi : i < n) (hj : j < n) (hne : i ≠ j) (hu : S.u j = -1) (hk : S.kid r i = -1) :
    Calls Try.prog 89 #[.pointer (some ⟨bt, 0, none⟩), .int .i64 (i : Int), .int .i64 (j : Int), .bool r] w fun e w' => e = .returned (.bool true) ∧ TreesAt w' bt ba n (hangS S i j r) ∧ Upd [ba] w w' := by
  have hle := h.le
  have hbne := h.ne
  have hbne' : ba ≠ bt := fun e => h.ne e.symm
  have c0 := h.head.cell 0 (by omega)
  have d0 := h.row.cellAt (i * 3) (by omega) (treeCell0 S i)
  have d1 := h.row.cellAt (i * 3 + 1) (by omega) (treeCell1 S i)
  have d2 := h.row.cellAt (j * 3 + 2) (by omega) (treeCell2 S j)
  have e0 := h.row.free (i * 3)
  have e1 := h.row.free (i * 3 + 1)
  have e2 := h.row.free (j * 3 + 2)
  have k1 := has_any bt ba n S i w h true (by simp [hi])
  have k2 := has_any bt ba n S j w h true (by simp [hj])
  have k3 := above_any bt ba n S j w h
  rw [show upOf n S j = -1 by unfold upOf; rw [if_pos (by omega)]; simpa using hu] at k3
  have k4 := kid_any bt ba n S i r w h
  rw [show kidOf n S i r = -1 by unfold kidOf; rw [if_pos (by omega)]; simpa using hk] at k4
  have hij : ((i : Int) == (j : Int)) = false := by simp; omega
  have H := Lib.hid h
  clear h hu hk
  cases r
  · go_enter Try.func89, Try.ntmps89
    go_wp2_with (first
      | (go_at_call 69; (with_reducible refine (k1).mono ?_); rintro e w' ⟨rfl, rfl⟩)
      | (go_at_call 69; (with_reducible refine (k2).mono ?_); rintro e w' ⟨rfl, rfl⟩)
      | (go_at_call 108; (with_reducible refine (k3).mono ?_); rintro e w' ⟨rfl, rfl⟩)
      | (go_at_call 70; (with_reducible refine (k4).mono ?_); rintro e w' ⟨rfl, kd, rfl⟩))
    go_region_held3 (fun W => W.cell? ⟨bt, 0, none⟩ = some (.slice (some ⟨ba, 0, none⟩) n n)) (go_keep) ((go_at_call 91; refine (side_any _ _).mono ?_; rintro e w' ⟨rfl, rfl⟩))
    go_wp2
    go_ret
    exact ⟨rfl, ((H.out.drewN _).setKid i false j).setUp j i, (((Upd.refl _ _).drewN _).setCell (Or.inl (by simp)) _).setCell (Or.inl (by simp)) _⟩
  · go_enter Try.func89, Try.ntmps89
    go_wp2_with (first
      | (go_at_call 69; (with_reducible refine (k1).mono ?_); rintro e w' ⟨rfl, rfl⟩)
      | (go_at_call 69; (with_reducible refine (k2).mono ?_); rintro e w' ⟨rfl, rfl⟩)
      | (go_at_call 108; (with_reducible refine (k3).mono ?_); rintro e w' ⟨rfl, rfl⟩)
      | (go_at_call 70; (with_reducible refine (k4).mono ?_); rintro e w' ⟨rfl, kd, rfl⟩))
    go_region_held3 (fun W => W.cell? ⟨bt, 0, none⟩ = some (.slice (some ⟨ba, 0, none⟩) n n)) (go_keep) ((go_at_call 91; refine (side_any _ _).mono ?_; rintro e w' ⟨rfl, rfl⟩))
    go_wp2
    go_ret
    exact ⟨rfl, ((H.out.drewN _).setKid i true j).setUp j i, (((Upd.refl _ _).drewN _).setCell (Or.inl (by simp)) _).setCell (Or.inl (by simp)) _⟩

theorem hangOk_no {n : Nat} {S : TS} {p x : Int} {r : Bool} (h : ¬ (0 ≤ p ∧ p < n ∧ 0 ≤ x ∧ x < n ∧ p ≠ x ∧ S.u x.toNat = -1 ∧ S.kid r p.toNat = -1)) : hangOk n S p x r = false := by unfold hangOk; simpa using h

set_option maxHeartbeats 1000000 in
theorem hang_no (bt ba n : Nat) (S : TS) (p x : Int) (r : Bool) (w : World) (h : TreesAt w bt ba n S) (ho : hangOk n S p x r = false) :
    Calls Try.prog 89 #[.pointer (some ⟨bt, 0, none⟩), .int .i64 p, .int .i64 x, .bool r] w fun e w' => e = .returned (.bool false) ∧ ∃ k, w' = w.drewN k := by
  have k1 := has_any bt ba n S p w h _ rfl
  have k2 := has_any bt ba n S x w h _ rfl
  have k3 := above_any bt ba n S x w h
  have k4 := kid_any bt ba n S p r w h
  clear h
  unfold hangOk at ho
  by_cases hp : 0 ≤ p ∧ p < n
  · by_cases hx : 0 ≤ x ∧ x < n
    · by_cases hpx : p = x
      · have hb : (p == x) = true := by simpa using hpx
        have b1 : decide (0 ≤ p ∧ p < n) = true := decide_eq_true hp
        have b2 : decide (0 ≤ x ∧ x < n) = true := decide_eq_true hx
        rw [b1] at k1; rw [b2] at k2
        clear ho hpx hx hp b1 b2
        go_enter Try.func89, Try.ntmps89
        go_wp2_with (first
          | (go_at_call 69; (with_reducible refine (k1).mono ?_); rintro e w' ⟨rfl, rfl⟩)
          | (go_at_call 69; (with_reducible refine (k2).mono ?_); rintro e w' ⟨rfl, rfl⟩))
        go_ret
        exact ⟨rfl, 0, rfl⟩
      · by_cases hu : S.u x.toNat = -1
        · have hk : ¬ S.kid r p.toNat = -1 := by intro hk; simp [hp.1, hp.2, hx.1, hx.2, hpx, hu, hk] at ho
          have hb : (p == x) = false := by simpa using hpx
          have b1 : decide (0 ≤ p ∧ p < n) = true := decide_eq_true hp
          have b2 : decide (0 ≤ x ∧ x < n) = true := decide_eq_true hx
          rw [b1] at k1; rw [b2] at k2
          rw [show upOf n S x = -1 by unfold upOf; rw [if_pos hx]; exact hu] at k3
          rw [show kidOf n S p r = S.kid r p.toNat by unfold kidOf; rw [if_pos hp]] at k4
          generalize S.kid r p.toNat = y at k4 hk
          have hy : (y != -1) = true := by simpa using hk
          clear ho hpx hx hp b1 b2 hk hu
          go_enter Try.func89, Try.ntmps89
          go_wp2_with (first
            | (go_at_call 69; (with_reducible refine (k1).mono ?_); rintro e w' ⟨rfl, rfl⟩)
            | (go_at_call 69; (with_reducible refine (k2).mono ?_); rintro e w' ⟨rfl, rfl⟩)
            | (go_at_call 108; (with_reducible refine (k3).mono ?_); rintro e w' ⟨rfl, rfl⟩)
            | (go_at_call 70; (with_reducible refine (k4).mono ?_); rintro e w' ⟨rfl, kd, rfl⟩))
          go_ret
          exact ⟨rfl, _, rfl⟩
        · have hb : (p == x) = false := by simpa using hpx
          have b1 : decide (0 ≤ p ∧ p < n) = true := decide_eq_true hp
          have b2 : decide (0 ≤ x ∧ x < n) = true := decide_eq_true hx
          rw [b1] at k1; rw [b2] at k2
          rw [show upOf n S x = S.u x.toNat by unfold upOf; rw [if_pos hx]] at k3
          generalize S.u x.toNat = y at k3 hu
          have hy : (y != -1) = true := by simpa using hu
          clear ho hpx hx hp b1 b2 hu
          go_enter Try.func89, Try.ntmps89
          go_wp2_with (first
            | (go_at_call 69; (with_reducible refine (k1).mono ?_); rintro e w' ⟨rfl, rfl⟩)
            | (go_at_call 69; (with_reducible refine (k2).mono ?_); rintro e w' ⟨rfl, rfl⟩)
            | (go_at_call 108; (with_reducible refine (k3).mono ?_); rintro e w' ⟨rfl, rfl⟩))
          go_ret
          exact ⟨rfl, 0, rfl⟩
    · have b1 : decide (0 ≤ p ∧ p < n) = true := decide_eq_true hp
      have b2 : decide (0 ≤ x ∧ x < n) = false := decide_eq_false hx
      rw [b1] at k1; rw [b2] at k2
      clear ho hx hp b1 b2
      go_enter Try.func89, Try.ntmps89
      go_wp2_with (first
        | (go_at_call 69; (with_reducible refine (k1).mono ?_); rintro e w' ⟨rfl, rfl⟩)
        | (go_at_call 69; (with_reducible refine (k2).mono ?_); rintro e w' ⟨rfl, rfl⟩))
      go_ret
      exact ⟨rfl, 0, rfl⟩
  · have b1 : decide (0 ≤ p ∧ p < n) = false := decide_eq_false hp
    rw [b1] at k1
    clear ho hp b1
    go_enter Try.func89, Try.ntmps89
    go_wp2_with ((go_at_call 69; (with_reducible refine (k1).mono ?_); rintro e w' ⟨rfl, rfl⟩))
    go_ret
    exact ⟨rfl, 0, rfl⟩

theorem cut_no (bt ba n : Nat) (S : TS) (x : Int) (w : World) (h : TreesAt w bt ba n S) (hu : upOf n S x = -1) :
    Calls Try.prog 88 #[.pointer (some ⟨bt, 0, none⟩), .int .i64 x] w fun e w' => e = .returned (.tuple #[.int .i64 0, .bool false]) ∧ w' = w := by
  have k3 := above_any bt ba n S x w h
  rw [hu] at k3
  clear h hu
  go_enter Try.func88, Try.ntmps88
  go_wp2_with ((go_at_call 108; (with_reducible refine (k3).mono ?_); rintro e w' ⟨rfl, rfl⟩))
  go_ret2
  exact ⟨rfl, rfl⟩

def cutS (S : TS) (i j : Nat) : TS := (S.setKid i (decide (S.r i = j)) (-1)).setUp j (-1)

set_option maxHeartbeats 1000000 in
theorem cut_yes (bt ba n : Nat) (S : TS) (i j : Nat) (w : World) (h : TreesAt w bt ba n S) (hi : i < n) (hj : j < n) (hu : S.u j = i) :
    Calls Try.prog 88 #[.pointer (some ⟨bt, 0, none⟩), .int .i64 (j : Int)] w fun e w' => e = .returned (.tuple #[.int .i64 (i : Int), .bool true]) ∧ TreesAt w' bt ba n (cutS S i j) ∧ Upd [ba] w w' := by
  have hle := h.le
  have hbne : ba ≠ bt := fun e => h.ne e.symm
  have c0 := h.head.cell 0 (by omega)
  have d0 := h.row.cellAt (i * 3) (by omega) (treeCell0 S i)
  have d1 := h.row.cellAt (i * 3 + 1) (by omega) (treeCell1 S i)
  have d2 := h.row.cellAt (j * 3 + 2) (by omega) (treeCell2 S j)
  have e0 := h.row.free (i * 3)
  have e1 := h.row.free (i * 3 + 1)
  have e2 := h.row.free (j * 3 + 2)
  have k3 := above_any bt ba n S j w h
  rw [show upOf n S j = i by unfold upOf; rw [if_pos (by omega)]; simpa using hu] at k3
  have k4 := fun W (hW : TreesAt W bt ba n S) => kid_any bt ba n S i true W hW
  rw [show kidOf n S i true = S.r i by unfold kidOf TS.kid; rw [if_pos (by omega)]; simp] at k4
  have H := Lib.hid h
  have hi1 : ((i : Int) == -1) = false := by simp
  clear h
  by_cases hr : S.r i = j
  · have hb : (S.r i == (j : Int)) = true := by simpa using hr
    have ec : cutS S i j = (S.setKid i true (-1)).setUp j (-1) := by unfold cutS; rw [decide_eq_true hr]
    have EC := Lib.hid ec
    clear hr ec hu
    go_enter Try.func88, Try.ntmps88
    go_wp2_with ((go_at_call 108; (with_reducible refine (k3).mono ?_); rintro e w' ⟨rfl, rfl⟩))
    go_region_held3 (fun W => W.cell? ⟨bt, 0, none⟩ = some (.slice (some ⟨ba, 0, none⟩) n n)) (go_keep)
      (first | ((go_at_call 91; refine (side_any _ _).mono ?_; rintro e w' ⟨rfl, rfl⟩)) | ((go_at_call 70; refine (k4 _ (H.out.drew)).mono ?_; rintro e w' ⟨rfl, kd, rfl⟩)))
    go_wp2
    go_ret2
    exact ⟨rfl, by rw [EC.out]; exact ((H.out.drewN _).setKid i true (-1)).setUp j (-1), (((Upd.refl _ _).drewN _).setCell (Or.inl (by simp)) _).setCell (Or.inl (by simp)) _⟩
  · have hb : (S.r i == (j : Int)) = false := by simpa using hr
    have ec : cutS S i j = (S.setKid i false (-1)).setUp j (-1) := by unfold cutS; rw [decide_eq_false hr]
    have EC := Lib.hid ec
    clear hr ec hu
    go_enter Try.func88, Try.ntmps88
    go_wp2_with ((go_at_call 108; (with_reducible refine (k3).mono ?_); rintro e w' ⟨rfl, rfl⟩))
    go_region_held3 (fun W => W.cell? ⟨bt, 0, none⟩ = some (.slice (some ⟨ba, 0, none⟩) n n)) (go_keep)
      (first | ((go_at_call 91; refine (side_any _ _).mono ?_; rintro e w' ⟨rfl, rfl⟩)) | ((go_at_call 70; refine (k4 _ (H.out.drew)).mono ?_; rintro e w' ⟨rfl, kd, rfl⟩)))
    go_wp2
    go_ret2
    exact ⟨rfl, by rw [EC.out]; exact ((H.out.drewN _).setKid i false (-1)).setUp j (-1), (((Upd.refl _ _).drewN _).setCell (Or.inl (by simp)) _).setCell (Or.inl (by simp)) _⟩

def turnS (S : TS) (i : Nat) : TS := (S.setKid i false (S.r i)).setKid i true (S.l i)

theorem turn_no (bt ba n : Nat) (S : TS) (x : Int) (w : World) (h : TreesAt w bt ba n S) (hx : ¬ (0 ≤ x ∧ x < n)) :
    Calls Try.prog 101 #[.pointer (some ⟨bt, 0, none⟩), .int .i64 x] w fun e w' => e = .returned (.bool false) ∧ w' = w := by
  have k1 := has_any bt ba n S x w h false (by simpa using hx)
  clear h hx
  go_enter Try.func101, Try.ntmps101
  go_wp2_with ((go_at_call 69; (with_reducible refine (k1).mono ?_); rintro e w' ⟨rfl, rfl⟩))
  go_ret
  exact ⟨rfl, rfl⟩

set_option maxHeartbeats 1000000 in
theorem turn_yes (bt ba n : Nat) (S : TS) (i : Nat) (w : World) (h : TreesAt w bt ba n S) (hi : i < n) :
    Calls Try.prog 101 #[.pointer (some ⟨bt, 0, none⟩), .int .i64 (i : Int)] w fun e w' => e = .returned (.bool true) ∧ TreesAt w' bt ba n (turnS S i) ∧ Upd [ba] w w' := by
  have hle := h.le
  have c0 := h.head.cell 0 (by omega)
  have d0 := h.row.cellAt (i * 3) (by omega) (treeCell0 S i)
  have d1 := h.row.cellAt (i * 3 + 1) (by omega) (treeCell1 S i)
  have e0 := h.row.free (i * 3)
  have e1 := h.row.free (i * 3 + 1)
  have k1 := has_any bt ba n S i w h true (by simp [hi])
  have H := Lib.hid h
  clear h
  go_enter Try.func101, Try.ntmps101
  go_wp2_with ((go_at_call 69; (with_reducible refine (k1).mono ?_); rintro e w' ⟨rfl, rfl⟩))
  go_region
  go_wp2
  go_ret
  exact ⟨rfl, ((H.out.setKid i false (S.r i)).setKid i true (S.l i)).drew, (((Upd.refl _ _).setCell (Or.inl (by simp)) _).setCell (Or.inl (by simp)) _).drew⟩

end Go.Proofs.Ytechoojcgdjcdaa
