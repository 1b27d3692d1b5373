/-
  The trees of package spine: what a block of them holds, and what each of its functions does. Conditions: those of each lemma.
-/
import Derived.Test.YtechoojcgdjcdaaGa
import Derived.Test.YtechoojcgdjcdaaProg
set_option linter.unusedVariables false
set_option linter.unusedSimpArgs false
namespace Go.Proofs.Ytechoojcgdjcdaa
open Go Go.RowKit

/-- Children and what is above, by number; -1 where there is none. -/
structure TS where
  l : Nat → Int
  r : Nat → Int
  u : Nat → Int
def TS.none : TS := ⟨fun _ => -1, fun _ => -1, fun _ => -1⟩
def TS.kid (S : TS) (s : Bool) (x : Nat) : Int := if s then S.r x else S.l x
def treeCell (S : TS) (j : Nat) : Value := .int .i64 (if j % 3 = 0 then S.l (j / 3) else if j % 3 = 1 then S.r (j / 3) else S.u (j / 3))
theorem treeCell0 (S : TS) (x : Nat) : treeCell S (x * 3) = .int .i64 (S.l x) := by unfold treeCell; rw [if_pos (by omega), show x * 3 / 3 = x by omega]
theorem treeCell1 (S : TS) (x : Nat) : treeCell S (x * 3 + 1) = .int .i64 (S.r x) := by unfold treeCell; rw [if_neg (by omega), if_pos (by omega), show (x * 3 + 1) / 3 = x by omega]
theorem treeCell2 (S : TS) (x : Nat) : treeCell S (x * 3 + 2) = .int .i64 (S.u x) := by unfold treeCell; rw [if_neg (by omega), if_neg (by omega), show (x * 3 + 2) / 3 = x by omega]

structure TreesAt (w : World) (bt ba n : Nat) (S : TS) : Prop where
  head : RowAt w bt 111 1 (fun _ => .slice (some ⟨ba, 0, none⟩) n n)
  row : RowAt w ba 114 (n * 3) (treeCell S)
  ne : bt ≠ ba
  le : n ≤ 65536
theorem TreesAt.upd {w w' : World} {F : List Nat} {bt ba n : Nat} {S : TS} (h : TreesAt w bt ba n S) (hu : Upd F w w') (h1 : bt ∉ F) (h2 : ba ∉ F) : TreesAt w' bt ba n S :=
  ⟨h.head.upd hu h1, h.row.upd hu h2, h.ne, h.le⟩
theorem TreesAt.drewN {w : World} {bt ba n : Nat} {S : TS} (h : TreesAt w bt ba n S) (k : Nat) : TreesAt (w.drewN k) bt ba n S := ⟨h.head, h.row, h.ne, h.le⟩
theorem TreesAt.drew {w : World} {bt ba n : Nat} {S : TS} (h : TreesAt w bt ba n S) : TreesAt w.drew bt ba n S := ⟨h.head, h.row, h.ne, h.le⟩

theorem linksInfo : (Try.prog.info? 114).map (fun i => (i.zero, i.size, i.bytes)) = some (some (.agg #[.int .i64 0, .int .i64 0, .int .i64 0]), 3, 24) := by kernel_rfl

set_option maxHeartbeats 400000 in
theorem spineNew_no (n : Int) (w : World) (h : n < 0 ∨ 65536 < n) :
    Calls Try.prog 42 #[.int .i64 n] w fun e w' => e = .returned (.tuple #[.pointer none, .int .i64 31]) ∧ w' = w := by
  rcases h with h | h
  all_goals
    go_enter Try.func42, Try.ntmps42
    go_wp2
    go_ret2
    exact ⟨rfl, rfl⟩

set_option maxHeartbeats 400000 in
theorem spineNew_yes (n : Nat) (w : World) (h : n ≤ 65536) :
    Calls Try.prog 42 #[.int .i64 (n : Int)] w fun e w' => ∃ bt ba, e = .returned (.tuple #[.pointer (some ⟨bt, 0, none⟩), .int .i64 0]) ∧ TreesAt w' bt ba n TS.none ∧ Upd [] w w' ∧ w.heap.size ≤ bt ∧ w.heap.size ≤ ba := by
  go_enter Try.func42, Try.ntmps42
  go_wp2_with (at_make; refine wpList_make_row rfl _ 109 rfl 114 (.agg #[.int .i64 0, .int .i64 0, .int .i64 0]) 3 24 Try.underlying109 linksInfo n rfl (by omega) (by unfold maxLen; omega) ?_; intro w1 hr1 hu1)
  have hlt := hr1.lt
  go_loopw [21] (fun i wr => ∃ (k : Nat) (f : Nat → Value), k ≤ n ∧ i = .int .i64 k ∧ RowAt wr w1.heap.size 111 1 (fun _ => .slice (some ⟨w.heap.size, 0, none⟩) n n) ∧ RowAt wr w.heap.size 114 (n * 3) f ∧ (∀ j, j < k * 3 → f j = .int .i64 (-1)) ∧ Upd [] w wr) (fun i _ => n - (intOf i).toNat)
  case atStart => exact ⟨0, _, by omega, rfl, rowAt_new _ _ _ |>.ext (fun j hj => by simp at hj; subst hj; rfl), hr1.alloc _, by omega, hu1.alloc _⟩
  case round =>
    obtain ⟨k, f, hk, rfl, hH, hR, hf, hu⟩ := hrel
    by_cases hkn : k < n
    · have c0 := hH.cell 0 (by omega)
      have d0 := hR.cell (k * 3) (by omega)
      have d1 := hR.cell (k * 3 + 1) (by omega)
      have d2 := hR.cell (k * 3 + 2) (by omega)
      have e0 := hR.free (k * 3)
      have e1 := hR.free (k * 3 + 1)
      have e2 := hR.free (k * 3 + 2)
      have HF := Lib.hid hf
      clear hf
      go_wp2
      go_roundw
      case rel =>
        refine ⟨k + 1, _, by omega, by go_num, ((hH.far _ _ (by simp; omega)).far _ _ (by simp; omega)).far _ _ (by simp; omega), ((hR.set _ _).set _ _).set _ _, fun j hj => ?_, ((hu.setCell (Or.inr (by simp)) _).setCell (Or.inr (by simp)) _).setCell (Or.inr (by simp)) _⟩
        show (if j = k * 3 + 2 then _ else if j = k * 3 + 1 then _ else if j = k * 3 then _ else f j) = _
        split
        · rfl
        · split
          · rfl
          · split
            · rfl
            · exact HF.out j (by omega)
      case measure => simp [intOf]; omega
    · obtain rfl : k = n := by omega
      go_wp2
      go_ret2
      exact ⟨_, _, rfl, ⟨hH, hR.ext (fun j hj => by rw [hf j hj]; unfold treeCell TS.none; simp), by omega, h⟩, hu, hu1.size, Nat.le_refl _⟩

theorem has_any (bt ba n : Nat) (S : TS) (x : Int) (w : World) (h : TreesAt w bt ba n S) (b : Bool) (hb : b = decide (0 ≤ x ∧ x < n)) :
    Calls Try.prog 69 #[.pointer (some ⟨bt, 0, none⟩), .int .i64 x] w fun e w' => e = .returned (.bool b) ∧ w' = w := by
  have hle := h.le
  have c0 := h.head.cell 0 (by omega)
  clear h
  subst hb
  by_cases h0 : 0 ≤ x
  · by_cases h1 : x < n
    · go_enter Try.func69, Try.ntmps69
      go_wp2
      go_ret
      exact ⟨ret_bool (by simp [h0, h1]), rfl⟩
    · go_enter Try.func69, Try.ntmps69
      go_wp2
      go_ret
      exact ⟨ret_bool (by simp [h0, h1]), rfl⟩
  · go_enter Try.func69, Try.ntmps69
    go_wp2
    go_ret
    exact ⟨ret_bool (by simp; omega), rfl⟩

theorem side_any (b : Bool) (w : World) : Calls Try.prog 91 #[.bool b] w fun e w' => e = .returned (.int .i64 (if b then 1 else 0)) ∧ w' = w := by
  cases b
  all_goals
    go_enter Try.func91, Try.ntmps91
    go_wp2
    go_ret
    exact ⟨rfl, rfl⟩

theorem told_none (w : World) : Calls Try.prog 107 #[.int .i64 (-1)] w fun e w' => e = .returned (.tuple #[.int .i64 0, .bool false]) ∧ w' = w := by
  go_enter Try.func107, Try.ntmps107
  go_wp2
  go_ret2
  exact ⟨rfl, rfl⟩
theorem told_some (x : Int) (w : World) (h : x ≠ -1) : Calls Try.prog 107 #[.int .i64 x] w fun e w' => e = .returned (.tuple #[.int .i64 x, .bool true]) ∧ w' = w := by
  have h' : (x == -1) = false := by simpa using h
  go_enter Try.func107, Try.ntmps107
  go_wp2
  go_ret2
  exact ⟨rfl, rfl⟩

def kidOf (n : Nat) (S : TS) (x : Int) (r : Bool) : Int := if 0 ≤ x ∧ x < n then S.kid r x.toNat else -1
def upOf (n : Nat) (S : TS) (x : Int) : Int := if 0 ≤ x ∧ x < n then S.u x.toNat else -1

set_option maxHeartbeats 400000 in
theorem kid_any (bt ba n : Nat) (S : TS) (x : Int) (r : Bool) (w : World) (h : TreesAt w bt ba n S) :
    Calls Try.prog 70 #[.pointer (some ⟨bt, 0, none⟩), .int .i64 x, .bool r] w fun e w' => e = .returned (.int .i64 (kidOf n S x r)) ∧ ∃ k, w' = w.drewN k := by
  by_cases hx : 0 ≤ x ∧ x < n
  · obtain ⟨k, rfl⟩ : ∃ k : Nat, x = k := ⟨x.toNat, by omega⟩
    have hk : k < n := by omega
    have e : kidOf n S k r = S.kid r k := by unfold kidOf; rw [if_pos hx]; simp
    have hle := h.le
    have c0 := h.head.cell 0 (by omega)
    have d0 := h.row.cellAt (k * 3) (by omega) (treeCell0 S k)
    have d1 := h.row.cellAt (k * 3 + 1) (by omega) (treeCell1 S k)
    rw [e]
    clear e
    cases r
    all_goals
      unfold TS.kid
      simp only [if_true, if_false, Bool.false_eq_true]
      go_enter Try.func70, Try.ntmps70
      go_wp2_with (go_at_call 69; refine (has_any bt ba n S k _ h true (by simp [hk])).mono ?_; rintro e w' ⟨rfl, rfl⟩)
      go_quiet ((go_at_call 91; exact Calls.quiet_of_same (side_any _ _)))
      go_wp2
      go_ret
      exact ⟨rfl, _, rfl⟩
  · have e : kidOf n S x r = -1 := by unfold kidOf; rw [if_neg hx]
    rw [e]
    clear e
    go_enter Try.func70, Try.ntmps70
    go_wp2_with (go_at_call 69; refine (has_any bt ba n S x _ h false (by simp [hx])).mono ?_; rintro e w' ⟨rfl, rfl⟩)
    go_ret
    exact ⟨rfl, 0, rfl⟩

set_option maxHeartbeats 400000 in
theorem above_any (bt ba n : Nat) (S : TS) (x : Int) (w : World) (h : TreesAt w bt ba n S) :
    Calls Try.prog 108 #[.pointer (some ⟨bt, 0, none⟩), .int .i64 x] w fun e w' => e = .returned (.int .i64 (upOf n S x)) ∧ w' = w := by
  by_cases hx : 0 ≤ x ∧ x < n
  · obtain ⟨k, rfl⟩ : ∃ k : Nat, x = k := ⟨x.toNat, by omega⟩
    have hk : k < n := by omega
    have e : upOf n S k = S.u k := by unfold upOf; rw [if_pos hx]; simp
    have hle := h.le
    have c0 := h.head.cell 0 (by omega)
    have d0 := h.row.cellAt (k * 3 + 2) (by omega) (treeCell2 S k)
    rw [e]
    clear e
    go_enter Try.func108, Try.ntmps108
    go_wp2_with (go_at_call 69; refine (has_any bt ba n S k _ h true (by simp [hk])).mono ?_; rintro e w' ⟨rfl, rfl⟩)
    go_ret
    exact ⟨rfl, rfl⟩
  · have e : upOf n S x = -1 := by unfold upOf; rw [if_neg hx]
    rw [e]
    clear e
    go_enter Try.func108, Try.ntmps108
    go_wp2_with (go_at_call 69; refine (has_any bt ba n S x _ h false (by simp [hx])).mono ?_; rintro e w' ⟨rfl, rfl⟩)
    go_ret
    exact ⟨rfl, rfl⟩

theorem quiet_two {P : Program} {f : FuncId} {args : Array Value} {w : World} {n : Nat} {v : Value}
    (h : Calls P f args (w.drewN n) fun e w' => e = .returned v ∧ ∃ m, w' = (w.drewN n).drewN m) : Calls P f args (w.drewN n) fun e w'' => e = .returned v ∧ ∃ m, w'' = w.drewN m := Calls.quiet_of h

/-- A child, or what is above, as its caller is told it. -/
def tv (x : Int) : Int := if x = -1 then 0 else x
def tb (x : Int) : Bool := decide (x ≠ -1)
theorem told_any (x : Int) (w : World) : Calls Try.prog 107 #[.int .i64 x] w fun e w' => e = .returned (.tuple #[.int .i64 (tv x), .bool (tb x)]) ∧ w' = w := by
  by_cases h : x = -1
  · subst h; exact told_none w
  · have e1 : tv x = x := by unfold tv; rw [if_neg h]
    have e2 : tb x = true := by unfold tb; simp [h]
    rw [e1, e2]; exact told_some x w h

theorem left_any (bt ba n : Nat) (S : TS) (x : Int) (w : World) (h : TreesAt w bt ba n S) :
    Calls Try.prog 102 #[.pointer (some ⟨bt, 0, none⟩), .int .i64 x] w fun e w' => e = .returned (.tuple #[.int .i64 (tv (kidOf n S x false)), .bool (tb (kidOf n S x false))]) ∧ ∃ k, w' = w.drewN k := by
  generalize hy : kidOf n S x false = y
  have c1 := kid_any bt ba n S x false w h
  rw [hy] at c1
  have c2 := fun W => told_any y W
  go_enter Try.func102, Try.ntmps102
  go_wp2_with (first | (go_at_call 70; refine c1.mono ?_; rintro e w' ⟨rfl, k, rfl⟩) | (go_at_call 107; refine (c2 _).mono ?_; rintro e w' ⟨rfl, rfl⟩))
  go_ret2
  exact ⟨rfl, _, rfl⟩

theorem right_any (bt ba n : Nat) (S : TS) (x : Int) (w : World) (h : TreesAt w bt ba n S) :
    Calls Try.prog 87 #[.pointer (some ⟨bt, 0, none⟩), .int .i64 x] w fun e w' => e = .returned (.tuple #[.int .i64 (tv (kidOf n S x true)), .bool (tb (kidOf n S x true))]) ∧ ∃ k, w' = w.drewN k := by
  generalize hy : kidOf n S x true = y
  have c1 := kid_any bt ba n S x true w h
  rw [hy] at c1
  have c2 := fun W => told_any y W
  go_enter Try.func87, Try.ntmps87
  go_wp2_with (first | (go_at_call 70; refine c1.mono ?_; rintro e w' ⟨rfl, k, rfl⟩) | (go_at_call 107; refine (c2 _).mono ?_; rintro e w' ⟨rfl, rfl⟩))
  go_ret2
  exact ⟨rfl, _, rfl⟩

theorem up_any (bt ba n : Nat) (S : TS) (x : Int) (w : World) (h : TreesAt w bt ba n S) :
    Calls Try.prog 103 #[.pointer (some ⟨bt, 0, none⟩), .int .i64 x] w fun e w' => e = .returned (.tuple #[.int .i64 (tv (upOf n S x)), .bool (tb (upOf n S x))]) ∧ ∃ k, w' = w.drewN k := by
  generalize hy : upOf n S x = y
  have c1 := above_any bt ba n S x w h
  rw [hy] at c1
  have c2 := fun W => told_any y W
  go_enter Try.func103, Try.ntmps103
  go_wp2_with (first | (go_at_call 108; refine c1.mono ?_; rintro e w' ⟨rfl, rfl⟩) | (go_at_call 107; refine (c2 _).mono ?_; rintro e w' ⟨rfl, rfl⟩))
  go_ret2
  exact ⟨rfl, 0, rfl⟩

def TS.setKid (S : TS) (p : Nat) (s : Bool) (v : Int) : TS := if s then ⟨S.l, fun i => if i = p then v else S.r i, S.u⟩ else ⟨fun i => if i = p then v else S.l i, S.r, S.u⟩
def TS.setUp (S : TS) (p : Nat) (v : Int) : TS := ⟨S.l, S.r, fun i => if i = p then v else S.u i⟩
theorem TreesAt.setKid {w : World} {bt ba n : Nat} {S : TS} (h : TreesAt w bt ba n S) (p : Nat) (s : Bool) (v : Int) :
    TreesAt (w.setCell ⟨ba, p * 3 + (if s then 1 else 0), none⟩ (.int .i64 v)) bt ba n (S.setKid p s v) := by
  refine ⟨h.head.far _ _ h.ne, (h.row.set _ _).ext (fun j hj => ?_), h.ne, h.le⟩
  cases s
  · unfold treeCell TS.setKid
    by_cases hj2 : j = p * 3
    · subst hj2; simp
    · have : ¬ (j % 3 = 0 ∧ j / 3 = p) := by omega
      by_cases h0 : j % 3 = 0
      · simp [hj2, h0]; intro hh; exfalso; omega
      · simp [hj2, h0]
  · unfold treeCell TS.setKid
    by_cases hj2 : j = p * 3 + 1
    · subst hj2; simp; intro hh; exfalso; omega
    · by_cases h0 : j % 3 = 1
      · simp [hj2, h0]; intro hh; exfalso; omega
      · simp [hj2, h0]
theorem TreesAt.setUp {w : World} {bt ba n : Nat} {S : TS} (h : TreesAt w bt ba n S) (p : Nat) (v : Int) :
    TreesAt (w.setCell ⟨ba, p * 3 + 2, none⟩ (.int .i64 v)) bt ba n (S.setUp p v) := by
  refine ⟨h.head.far _ _ h.ne, (h.row.set _ _).ext (fun j hj => ?_), h.ne, h.le⟩
  unfold treeCell TS.setUp
  by_cases hj2 : j = p * 3 + 2
  · subst hj2; simp; intro hh; exfalso; omega
  · by_cases h0 : j % 3 = 0
    · simp [hj2, h0]
    · by_cases h1 : j % 3 = 1
      · simp [hj2, h1]
      · simp [hj2, h0, h1]; intro hh; exfalso; omega

end Go.Proofs.Ytechoojcgdjcdaa

set_option linter.unusedVariables false
set_option linter.unusedSimpArgs false
namespace Go.Proofs.Ytechoojcgdjcdaa
open Go Go.RowKit

def hangOk (n : Nat) (S : TS) (p x : Int) (r : Bool) : Bool :=
  decide (0 ≤ p ∧ p < n ∧ 0 ≤ x ∧ x < n ∧ p ≠ x ∧ S.u x.toNat = -1 ∧ S.kid r p.toNat = -1)
def hangS (S : TS) (p x : Int) (r : Bool) : TS := (S.setKid p.toNat r x).setUp x.toNat p

set_option maxHeartbeats 1000000 in
theorem hang_yes (bt ba n : Nat) (S : TS) (i j : Nat) (r : Bool) (w : World) (h : TreesAt w bt ba n S) (hi : i < n) (hj : j < n) (hne : i ≠ j) (hu : S.u j = -1) (hk : S.kid r i = -1) :
    Calls Try.prog 89 #[.pointer (some ⟨bt, 0, none⟩), .int .i64 (i : Int), .int .i64 (j : Int), .bool r] w fun e w' => e = .returned (.bool true) ∧ TreesAt w' bt ba n (hangS S i j r) ∧ Upd [ba] w w' := by
  have hle := h.le
  have hbne := h.ne
  have hbne' : ba ≠ bt := fun e => h.ne e.symm
  have c0 := h.head.cell 0 (by omega)
  have d0 := h.row.cellAt (i * 3) (by omega) (treeCell0 S i)
  have d1 := h.row.cellAt (i * 3 + 1) (by omega) (treeCell1 S i)
  have d2 := h.row.cellAt (j * 3 + 2) (by omega) (treeCell2 S j)
  have e0 := h.row.free (i * 3)
  have e1 := h.row.free (i * 3 + 1)
  have e2 := h.row.free (j * 3 + 2)
  have k1 := has_any bt ba n S i w h true (by simp [hi])
  have k2 := has_any bt ba n S j w h true (by simp [hj])
  have k3 := above_any bt ba n S j w h
  rw [show upOf n S j = -1 by unfold upOf; rw [if_pos (by omega)]; simpa using hu] at k3
  have k4 := kid_any bt ba n S i r w h
  rw [show kidOf n S i r = -1 by unfold kidOf; rw [if_pos (by omega)]; simpa using hk] at k4
  have hij : ((i : Int) == (j : Int)) = false := by simp; omega
  have H := Lib.hid h
  clear h hu hk
  cases r
  · go_enter Try.func89, Try.ntmps89
    go_wp2_with (first
      | (go_at_call 69; (with_reducible refine (k1).mono ?_); rintro e w' ⟨rfl, rfl⟩)
      | (go_at_call 69; (with_reducible refine (k2).mono ?_); rintro e w' ⟨rfl, rfl⟩)
      | (go_at_call 108; (with_reducible refine (k3).mono ?_); rintro e w' ⟨rfl, rfl⟩)
      | (go_at_call 70; (with_reducible refine (k4).mono ?_); rintro e w' ⟨rfl, kd, rfl⟩))
    go_region_held3 (fun W => W.cell? ⟨bt, 0, none⟩ = some (.slice (some ⟨ba, 0, none⟩) n n)) (go_keep) ((go_at_call 91; refine (side_any _ _).mono ?_; rintro e w' ⟨rfl, rfl⟩))
    go_wp2
    go_ret
    exact ⟨rfl, ((H.out.drewN _).setKid i false j).setUp j i, (((Upd.refl _ _).drewN _).setCell (Or.inl (by simp)) _).setCell (Or.inl (by simp)) _⟩
  · go_enter Try.func89, Try.ntmps89
    go_wp2_with (first
      | (go_at_call 69; (with_reducible refine (k1).mono ?_); rintro e w' ⟨rfl, rfl⟩)
      | (go_at_call 69; (with_reducible refine (k2).mono ?_); rintro e w' ⟨rfl, rfl⟩)
      | (go_at_call 108; (with_reducible refine (k3).mono ?_); rintro e w' ⟨rfl, rfl⟩)
      | (go_at_call 70; (with_reducible refine (k4).mono ?_); rintro e w' ⟨rfl, kd, rfl⟩))
    go_region_held3 (fun W => W.cell? ⟨bt, 0, none⟩ = some (.slice (some ⟨ba, 0, none⟩) n n)) (go_keep) ((go_at_call 91; refine (side_any _ _).mono ?_; rintro e w' ⟨rfl, rfl⟩))
    go_wp2
    go_ret
    exact ⟨rfl, ((H.out.drewN _).setKid i true j).setUp j i, (((Upd.refl _ _).drewN _).setCell (Or.inl (by simp)) _).setCell (Or.inl (by simp)) _⟩

theorem hangOk_no {n : Nat} {S : TS} {p x : Int} {r : Bool} (h : ¬ (0 ≤ p ∧ p < n ∧ 0 ≤ x ∧ x < n ∧ p ≠ x ∧ S.u x.toNat = -1 ∧ S.kid r p.toNat = -1)) : hangOk n S p x r = false := by unfold hangOk; simpa using h

set_option maxHeartbeats 1000000 in
theorem hang_no (bt ba n : Nat) (S : TS) (p x : Int) (r : Bool) (w : World) (h : TreesAt w bt ba n S) (ho : hangOk n S p x r = false) :
    Calls Try.prog 89 #[.pointer (some ⟨bt, 0, none⟩), .int .i64 p, .int .i64 x, .bool r] w fun e w' => e = .returned (.bool false) ∧ ∃ k, w' = w.drewN k := by
  have k1 := has_any bt ba n S p w h _ rfl
  have k2 := has_any bt ba n S x w h _ rfl
  have k3 := above_any bt ba n S x w h
  have k4 := kid_any bt ba n S p r w h
  clear h
  unfold hangOk at ho
  by_cases hp : 0 ≤ p ∧ p < n
  · by_cases hx : 0 ≤ x ∧ x < n
    · by_cases hpx : p = x
      · have hb : (p == x) = true := by simpa using hpx
        have b1 : decide (0 ≤ p ∧ p < n) = true := decide_eq_true hp
        have b2 : decide (0 ≤ x ∧ x < n) = true := decide_eq_true hx
        rw [b1] at k1; rw [b2] at k2
        clear ho hpx hx hp b1 b2
        go_enter Try.func89, Try.ntmps89
        go_wp2_with (first
          | (go_at_call 69; (with_reducible refine (k1).mono ?_); rintro e w' ⟨rfl, rfl⟩)
          | (go_at_call 69; (with_reducible refine (k2).mono ?_); rintro e w' ⟨rfl, rfl⟩))
        go_ret
        exact ⟨rfl, 0, rfl⟩
      · by_cases hu : S.u x.toNat = -1
        · have hk : ¬ S.kid r p.toNat = -1 := by intro hk; simp [hp.1, hp.2, hx.1, hx.2, hpx, hu, hk] at ho
          have hb : (p == x) = false := by simpa using hpx
          have b1 : decide (0 ≤ p ∧ p < n) = true := decide_eq_true hp
          have b2 : decide (0 ≤ x ∧ x < n) = true := decide_eq_true hx
          rw [b1] at k1; rw [b2] at k2
          rw [show upOf n S x = -1 by unfold upOf; rw [if_pos hx]; exact hu] at k3
          rw [show kidOf n S p r = S.kid r p.toNat by unfold kidOf; rw [if_pos hp]] at k4
          generalize S.kid r p.toNat = y at k4 hk
          have hy : (y != -1) = true := by simpa using hk
          clear ho hpx hx hp b1 b2 hk hu
          go_enter Try.func89, Try.ntmps89
          go_wp2_with (first
            | (go_at_call 69; (with_reducible refine (k1).mono ?_); rintro e w' ⟨rfl, rfl⟩)
            | (go_at_call 69; (with_reducible refine (k2).mono ?_); rintro e w' ⟨rfl, rfl⟩)
            | (go_at_call 108; (with_reducible refine (k3).mono ?_); rintro e w' ⟨rfl, rfl⟩)
            | (go_at_call 70; (with_reducible refine (k4).mono ?_); rintro e w' ⟨rfl, kd, rfl⟩))
          go_ret
          exact ⟨rfl, _, rfl⟩
        · have hb : (p == x) = false := by simpa using hpx
          have b1 : decide (0 ≤ p ∧ p < n) = true := decide_eq_true hp
          have b2 : decide (0 ≤ x ∧ x < n) = true := decide_eq_true hx
          rw [b1] at k1; rw [b2] at k2
          rw [show upOf n S x = S.u x.toNat by unfold upOf; rw [if_pos hx]] at k3
          generalize S.u x.toNat = y at k3 hu
          have hy : (y != -1) = true := by simpa using hu
          clear ho hpx hx hp b1 b2 hu
          go_enter Try.func89, Try.ntmps89
          go_wp2_with (first
            | (go_at_call 69; (with_reducible refine (k1).mono ?_); rintro e w' ⟨rfl, rfl⟩)
            | (go_at_call 69; (with_reducible refine (k2).mono ?_); rintro e w' ⟨rfl, rfl⟩)
            | (go_at_call 108; (with_reducible refine (k3).mono ?_); rintro e w' ⟨rfl, rfl⟩))
          go_ret
          exact ⟨rfl, 0, rfl⟩
    · have b1 : decide (0 ≤ p ∧ p < n) = true := decide_eq_true hp
      have b2 : decide (0 ≤ x ∧ x < n) = false := decide_eq_false hx
      rw [b1] at k1; rw [b2] at k2
      clear ho hx hp b1 b2
      go_enter Try.func89, Try.ntmps89
      go_wp2_with (first
        | (go_at_call 69; (with_reducible refine (k1).mono ?_); rintro e w' ⟨rfl, rfl⟩)
        | (go_at_call 69; (with_reducible refine (k2).mono ?_); rintro e w' ⟨rfl, rfl⟩))
      go_ret
      exact ⟨rfl, 0, rfl⟩
  · have b1 : decide (0 ≤ p ∧ p < n) = false := decide_eq_false hp
    rw [b1] at k1
    clear ho hp b1
    go_enter Try.func89, Try.ntmps89
    go_wp2_with ((go_at_call 69; (with_reducible refine (k1).mono ?_); rintro e w' ⟨rfl, rfl⟩))
    go_ret
    exact ⟨rfl, 0, rfl⟩

theorem cut_no (bt ba n : Nat) (S : TS) (x : Int) (w : World) (h : TreesAt w bt ba n S) (hu : upOf n S x = -1) :
    Calls Try.prog 88 #[.pointer (some ⟨bt, 0, none⟩), .int .i64 x] w fun e w' => e = .returned (.tuple #[.int .i64 0, .bool false]) ∧ w' = w := by
  have k3 := above_any bt ba n S x w h
  rw [hu] at k3
  clear h hu
  go_enter Try.func88, Try.ntmps88
  go_wp2_with ((go_at_call 108; (with_reducible refine (k3).mono ?_); rintro e w' ⟨rfl, rfl⟩))
  go_ret2
  exact ⟨rfl, rfl⟩

def cutS (S : TS) (i j : Nat) : TS := (S.setKid i (decide (S.r i = j)) (-1)).setUp j (-1)

set_option maxHeartbeats 1000000 in
theorem cut_yes (bt ba n : Nat) (S : TS) (i j : Nat) (w : World) (h : TreesAt w bt ba n S) (hi : i < n) (hj : j < n) (hu : S.u j = i) :
    Calls Try.prog 88 #[.pointer (some ⟨bt, 0, none⟩), .int .i64 (j : Int)] w fun e w' => e = .returned (.tuple #[.int .i64 (i : Int), .bool true]) ∧ TreesAt w' bt ba n (cutS S i j) ∧ Upd [ba] w w' := by
  have hle := h.le
  have hbne : ba ≠ bt := fun e => h.ne e.symm
  have c0 := h.head.cell 0 (by omega)
  have d0 := h.row.cellAt (i * 3) (by omega) (treeCell0 S i)
  have d1 := h.row.cellAt (i * 3 + 1) (by omega) (treeCell1 S i)
  have d2 := h.row.cellAt (j * 3 + 2) (by omega) (treeCell2 S j)
  have e0 := h.row.free (i * 3)
  have e1 := h.row.free (i * 3 + 1)
  have e2 := h.row.free (j * 3 + 2)
  have k3 := above_any bt ba n S j w h
  rw [show upOf n S j = i by unfold upOf; rw [if_pos (by omega)]; simpa using hu] at k3
  have k4 := fun W (hW : TreesAt W bt ba n S) => kid_any bt ba n S i true W hW
  rw [show kidOf n S i true = S.r i by unfold kidOf TS.kid; rw [if_pos (by omega)]; simp] at k4
  have H := Lib.hid h
  have hi1 : ((i : Int) == -1) = false := by simp
  clear h
  by_cases hr : S.r i = j
  · have hb : (S.r i == (j : Int)) = true := by simpa using hr
    have ec : cutS S i j = (S.setKid i true (-1)).setUp j (-1) := by unfold cutS; rw [decide_eq_true hr]
    have EC := Lib.hid ec
    clear hr ec hu
    go_enter Try.func88, Try.ntmps88
    go_wp2_with ((go_at_call 108; (with_reducible refine (k3).mono ?_); rintro e w' ⟨rfl, rfl⟩))
    go_region_held3 (fun W => W.cell? ⟨bt, 0, none⟩ = some (.slice (some ⟨ba, 0, none⟩) n n)) (go_keep)
      (first | ((go_at_call 91; refine (side_any _ _).mono ?_; rintro e w' ⟨rfl, rfl⟩)) | ((go_at_call 70; refine (k4 _ (H.out.drew)).mono ?_; rintro e w' ⟨rfl, kd, rfl⟩)))
    go_wp2
    go_ret2
    exact ⟨rfl, by rw [EC.out]; exact ((H.out.drewN _).setKid i true (-1)).setUp j (-1), (((Upd.refl _ _).drewN _).setCell (Or.inl (by simp)) _).setCell (Or.inl (by simp)) _⟩
  · have hb : (S.r i == (j : Int)) = false := by simpa using hr
    have ec : cutS S i j = (S.setKid i false (-1)).setUp j (-1) := by unfold cutS; rw [decide_eq_false hr]
    have EC := Lib.hid ec
    clear hr ec hu
    go_enter Try.func88, Try.ntmps88
    go_wp2_with ((go_at_call 108; (with_reducible refine (k3).mono ?_); rintro e w' ⟨rfl, rfl⟩))
    go_region_held3 (fun W => W.cell? ⟨bt, 0, none⟩ = some (.slice (some ⟨ba, 0, none⟩) n n)) (go_keep)
      (first | ((go_at_call 91; refine (side_any _ _).mono ?_; rintro e w' ⟨rfl, rfl⟩)) | ((go_at_call 70; refine (k4 _ (H.out.drew)).mono ?_; rintro e w' ⟨rfl, kd, rfl⟩)))
    go_wp2
    go_ret2
    exact ⟨rfl, by rw [EC.out]; exact ((H.out.drewN _).setKid i false (-1)).setUp j (-1), (((Upd.refl _ _).drewN _).setCell (Or.inl (by simp)) _).setCell (Or.inl (by simp)) _⟩

def turnS (S : TS) (i : Nat) : TS := (S.setKid i false (S.r i)).setKid i true (S.l i)

theorem turn_no (bt ba n : Nat) (S : TS) (x : Int) (w : World) (h : TreesAt w bt ba n S) (hx : ¬ (0 ≤ x ∧ x < n)) :
    Calls Try.prog 101 #[.pointer (some ⟨bt, 0, none⟩), .int .i64 x] w fun e w' => e = .returned (.bool false) ∧ w' = w := by
  have k1 := has_any bt ba n S x w h false (by simpa using hx)
  clear h hx
  go_enter Try.func101, Try.ntmps101
  go_wp2_with ((go_at_call 69; (with_reducible refine (k1).mono ?_); rintro e w' ⟨rfl, rfl⟩))
  go_ret
  exact ⟨rfl, rfl⟩

set_option maxHeartbeats 1000000 in
theorem turn_yes (bt ba n : Nat) (S : TS) (i : Nat) (w : World) (h : TreesAt w bt ba n S) (hi : i < n) :
    Calls Try.prog 101 #[.pointer (some ⟨bt, 0, none⟩), .int .i64 (i : Int)] w fun e w' => e = .returned (.bool true) ∧ TreesAt w' bt ba n (turnS S i) ∧ Upd [ba] w w' := by
  have hle := h.le
  have c0 := h.head.cell 0 (by omega)
  have d0 := h.row.cellAt (i * 3) (by omega) (treeCell0 S i)
  have d1 := h.row.cellAt (i * 3 + 1) (by omega) (treeCell1 S i)
  have e0 := h.row.free (i * 3)
  have e1 := h.row.free (i * 3 + 1)
  have k1 := has_any bt ba n S i w h true (by simp [hi])
  have H := Lib.hid h
  clear h
  go_enter Try.func101, Try.ntmps101
  go_wp2_with ((go_at_call 69; (with_reducible refine (k1).mono ?_); rintro e w' ⟨rfl, rfl⟩))
  go_region
  go_wp2
  go_ret
  exact ⟨rfl, ((H.out.setKid i false (S.r i)).setKid i true (S.l i)).drew, (((Upd.refl _ _).setCell (Or.inl (by simp)) _).setCell (Or.inl (by simp)) _).drew⟩

end Go.Proofs.Ytechoojcgdjcdaa
