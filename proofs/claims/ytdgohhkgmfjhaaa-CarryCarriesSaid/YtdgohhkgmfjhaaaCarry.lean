/-
  The forests of package carry: what a block of them holds, and what its quiet functions tell. Conditions: those of each lemma.
-/
import Derived.Test.YtdgohhkgmfjhaaaWords
set_option linter.unusedVariables false
set_option linter.unusedSimpArgs false
namespace Go.Proofs.Ytdgohhkgmfjhaaa
open Go Go.RowKit

/-- Of each thing: the slice that its children lie in, the children, and what is above; -1 where there is none. -/
structure CS where
  v : Nat → Value
  k : Nat → List Int
  u : Nat → Int
def CS.none : CS := ⟨fun _ => .slice Option.none 0 0, fun _ => [], fun _ => -1⟩
def nodeCell (S : CS) (j : Nat) : Value := if j % 2 = 0 then S.v (j / 2) else .int .i64 (S.u (j / 2))
theorem nodeCell0 (S : CS) (x : Nat) : nodeCell S (x * 2) = S.v x := by unfold nodeCell; rw [if_pos (by omega), show x * 2 / 2 = x by omega]
theorem nodeCell1 (S : CS) (x : Nat) : nodeCell S (x * 2 + 1) = .int .i64 (S.u x) := by unfold nodeCell; rw [if_neg (by omega), show (x * 2 + 1) / 2 = x by omega]
/-- The blocks in which children lie. -/
def CS.blk (S : CS) (n : Nat) : List Nat := (List.range n).filterMap (fun x => (S.v x).ownBlock)
theorem CS.mem_blk (S : CS) (n g : Nat) : g ∈ S.blk n ↔ ∃ x, x < n ∧ (S.v x).ownBlock = some g := by unfold CS.blk; simp

structure ForestAt (w : World) (bt ba lo n : Nat) (S : CS) : Prop where
  head : RowAt w bt 69 1 (fun _ => .slice (some ⟨ba, 0, none⟩) n n)
  row : RowAt w ba 71 (n * 2) (nodeCell S)
  own : ∀ x, x < n → w.ownsRow lo 3 1 (S.v x) (S.k x).length (intsZ (S.k x))
  sep : ∀ x y, x < n → y < n → x ≠ y → ∀ g, (S.v x).ownBlock = some g → (S.v y).ownBlock ≠ some g
  ne : bt ≠ ba
  lt1 : bt < lo
  lt2 : ba < lo
  low : lo ≤ w.heap.size
  le : n ≤ 65536
  len : ∀ x, x < n → (S.k x).length ≤ n
theorem ForestAt.blk_lo {w : World} {bt ba lo n : Nat} {S : CS} (h : ForestAt w bt ba lo n S) {g : Nat} (hg : g ∈ S.blk n) : lo ≤ g ∧ g < w.heap.size := by
  obtain ⟨x, hx, he⟩ := (S.mem_blk n g).1 hg
  exact (h.own x hx).lt g he
theorem ForestAt.upd {w w' : World} {F : List Nat} {bt ba lo n : Nat} {S : CS} (h : ForestAt w bt ba lo n S) (hu : Upd F w w') (h1 : bt ∉ F) (h2 : ba ∉ F) (h3 : ∀ g, g ∈ S.blk n → g ∉ F) : ForestAt w' bt ba lo n S :=
  ⟨h.head.upd hu h1, h.row.upd hu h2, fun x hx => owns_upd (h.own x hx) hu (fun k hk => h3 k ((S.mem_blk n k).2 ⟨x, hx, hk⟩)), h.sep, h.ne, h.lt1, h.lt2, Nat.le_trans h.low hu.size, h.le, h.len⟩
theorem ForestAt.upd0 {w w' : World} {bt ba lo n : Nat} {S : CS} (h : ForestAt w bt ba lo n S) (hu : Upd [] w w') : ForestAt w' bt ba lo n S := h.upd hu (by simp) (by simp) (by simp)

theorem nodeInfo : (Try.prog.info? 71).map (fun i => (i.zero, i.size, i.bytes)) = some (some (.agg #[.slice none 0 0, .int .i64 0]), 2, 32) := by kernel_rfl

set_option maxHeartbeats 400000 in
theorem carryNew_no (n : Int) (w : World) (h : n < 0 ∨ 65536 < n) :
    Calls Try.prog 10 #[.int .i64 n] w fun e w' => e = .returned (.tuple #[.pointer none, .int .i64 31]) ∧ w' = w := by
  rcases h with h | h
  all_goals
    go_enter Try.func10, Try.ntmps10
    go_wp2
    go_ret2
    exact ⟨rfl, rfl⟩

set_option maxHeartbeats 400000 in
theorem carryNew_yes (n : Nat) (w : World) (h : n ≤ 65536) :
    Calls Try.prog 10 #[.int .i64 (n : Int)] w fun e w' => ∃ bt ba, e = .returned (.tuple #[.pointer (some ⟨bt, 0, none⟩), .int .i64 0]) ∧ ForestAt w' bt ba w'.heap.size n CS.none ∧ Upd [] w w' ∧ w.heap.size ≤ bt ∧ w.heap.size ≤ ba := by
  go_enter Try.func10, Try.ntmps10
  go_wp2_with (at_make; refine wpList_make_row rfl _ 67 rfl 71 (.agg #[.slice none 0 0, .int .i64 0]) 2 32 Try.underlying67 nodeInfo n rfl (by omega) (by unfold maxLen; omega) ?_; intro w1 hr1 hu1)
  have hlt := hr1.lt
  have hz : ∀ j, j < n * 2 → (madeCells (Value.agg #[.slice none 0 0, .int .i64 0]).cells (n * 2)).toList.getD j undef = if j % 2 = 0 then .slice none 0 0 else .int .i64 0 := fun j hj => by
    rw [show (Value.agg #[.slice none 0 0, .int .i64 0]).cells = #[Value.slice none 0 0, Value.int .i64 0] from rfl]
    unfold madeCells
    simp [List.getD_eq_getElem?_getD, hj]
    rcases (by omega : j % 2 = 0 ∨ j % 2 = 1) with h2 | h2 <;> simp [h2]
  go_loopw [21] (fun i wr => ∃ (k : Nat) (f : Nat → Value), k ≤ n ∧ i = .int .i64 k ∧ RowAt wr w1.heap.size 69 1 (fun _ => .slice (some ⟨w.heap.size, 0, none⟩) n n) ∧ RowAt wr w.heap.size 71 (n * 2) f ∧ (∀ j, j < n * 2 → f j = if j % 2 = 0 then .slice none 0 0 else .int .i64 (if j < k * 2 then -1 else 0)) ∧ Upd [] w wr) (fun i _ => n - (intOf i).toNat)
  case atStart => exact ⟨0, _, by omega, rfl, rowAt_new _ _ _ |>.ext (fun j hj => by simp at hj; subst hj; rfl), hr1.alloc _, fun j hj => by rw [hz j hj, if_neg (show ¬ j < 0 * 2 by omega)], hu1.alloc _⟩
  case round =>
    obtain ⟨k, f, hk, rfl, hH, hR, hf, hu⟩ := hrel
    have HZ := Lib.hid hz
    clear hz
    by_cases hkn : k < n
    · have c0 := hH.cell 0 (by omega)
      have d1 := hR.cell (k * 2 + 1) (by omega)
      have e1 := hR.free (k * 2 + 1)
      have HF := Lib.hid hf
      clear hf
      go_wp2
      go_roundw
      case rel =>
        refine ⟨k + 1, _, by omega, by go_num, hH.far _ _ (by simp; omega), hR.set _ _, fun j hj => ?_, hu.setCell (Or.inr (by simp)) _⟩
        by_cases hj1 : j = k * 2 + 1
        · subst hj1
          rw [if_pos rfl, if_neg (by omega), if_pos (by omega)]
        · rw [if_neg hj1, HF.out j hj]
          by_cases h2 : j % 2 = 0
          · rw [if_pos h2, if_pos h2]
          · rw [if_neg h2, if_neg h2]
            by_cases h3 : j < k * 2
            · rw [if_pos h3, if_pos (by omega)]
            · rw [if_neg h3, if_neg (by omega)]
      case measure => simp [intOf]; omega
    · obtain rfl : k = n := by omega
      go_wp2
      go_ret2
      exact ⟨_, _, rfl, ⟨hH, hR.ext (fun j hj => by rw [hf j hj, if_pos (show j < k * 2 by omega)]; rfl), fun x hx => World.ownsRow_nil _ _ _ _, fun x y _ _ _ g hg => by simp [CS.none, Value.ownBlock] at hg, by omega, hH.lt, hR.lt, Nat.le_refl _, h, fun x hx => Nat.zero_le _⟩, hu, hu1.size, Nat.le_refl _⟩

theorem has_any (bt ba lo n : Nat) (S : CS) (x : Int) (w : World) (h : ForestAt w bt ba lo n S) (b : Bool) (hb : b = decide (0 ≤ x ∧ x < n)) :
    Calls Try.prog 32 #[.pointer (some ⟨bt, 0, none⟩), .int .i64 x] w fun e w' => e = .returned (.bool b) ∧ w' = w := by
  have hle := h.le
  have c0 := h.head.cell 0 (by omega)
  clear h
  subst hb
  by_cases h0 : 0 ≤ x
  · by_cases h1 : x < n
    · go_enter Try.func32, Try.ntmps32
      go_wp2
      go_ret
      exact ⟨ret_bool (by simp [h0, h1]), rfl⟩
    · go_enter Try.func32, Try.ntmps32
      go_wp2
      go_ret
      exact ⟨ret_bool (by simp [h0, h1]), rfl⟩
  · go_enter Try.func32, Try.ntmps32
    go_wp2
    go_ret
    exact ⟨ret_bool (by simp; omega), rfl⟩
/-- Is it a thing above which there is none? -/
def rootB (n : Nat) (S : CS) (x : Int) : Bool := decide (0 ≤ x ∧ x < n) && S.u x.toNat == -1
def degOf (n : Nat) (S : CS) (x : Int) : Int := if 0 ≤ x ∧ x < n then (S.k x.toNat).length else 0
def upO (n : Nat) (S : CS) (x : Int) : Option Int := if 0 ≤ x ∧ x < n then (if S.u x.toNat = -1 then none else some (S.u x.toNat)) else none
def kidsOf (n : Nat) (S : CS) (x : Int) : List Int := if 0 ≤ x ∧ x < n then S.k x.toNat else []

set_option maxHeartbeats 400000 in
theorem root_any (bt ba lo n : Nat) (S : CS) (x : Int) (w : World) (h : ForestAt w bt ba lo n S) :
    Calls Try.prog 34 #[.pointer (some ⟨bt, 0, none⟩), .int .i64 x] w fun e w' => e = .returned (.bool (rootB n S x)) ∧ w' = w := by
  by_cases hx : 0 ≤ x ∧ x < n
  · obtain ⟨k, rfl⟩ : ∃ k : Nat, x = k := ⟨x.toNat, by omega⟩
    have hk : k < n := by omega
    have hle := h.le
    have c0 := h.head.cell 0 (by omega)
    have d1 := h.row.cellAt (k * 2 + 1) (by omega) (nodeCell1 S k)
    have k1 := has_any bt ba lo n S k w h true (by simp [hk])
    have e : rootB n S k = (S.u k == -1) := by unfold rootB; rw [decide_eq_true hx]; simp
    rw [e]
    clear h e hx
    generalize S.u k = u at *
    go_enter Try.func34, Try.ntmps34
    go_wp2_with (go_at_call 32; refine (k1).mono ?_; rintro e w' ⟨rfl, rfl⟩)
    go_ret
    exact ⟨rfl, rfl⟩
  · have k1 := has_any bt ba lo n S x w h false (by simpa using hx)
    have e : rootB n S x = false := by unfold rootB; rw [decide_eq_false hx]; rfl
    rw [e]
    clear h e hx
    go_enter Try.func34, Try.ntmps34
    go_wp2_with (go_at_call 32; refine (k1).mono ?_; rintro e w' ⟨rfl, rfl⟩)
    go_ret
    exact ⟨rfl, rfl⟩

set_option maxHeartbeats 400000 in
theorem degree_any (bt ba lo n : Nat) (S : CS) (x : Int) (w : World) (h : ForestAt w bt ba lo n S) :
    Calls Try.prog 12 #[.pointer (some ⟨bt, 0, none⟩), .int .i64 x] w fun e w' => e = .returned (.int .i64 (degOf n S x)) ∧ w' = w := by
  by_cases hx : 0 ≤ x ∧ x < n
  · obtain ⟨k, rfl⟩ : ∃ k : Nat, x = k := ⟨x.toNat, by omega⟩
    have hk : k < n := by omega
    have hle := h.le
    have c0 := h.head.cell 0 (by omega)
    obtain ⟨a, cap, hv, _⟩ := own_slice (h.own k hk)
    have d0 := h.row.cellAt (k * 2) (by omega) ((nodeCell0 S k).trans hv)
    have k1 := has_any bt ba lo n S k w h true (by simp [hk])
    have e : degOf n S k = ((S.k k).length : Int) := by unfold degOf; rw [if_pos hx]; simp
    rw [e]
    clear h e hx hv
    generalize (S.k k).length = u at *
    go_enter Try.func12, Try.ntmps12
    go_wp2_with (go_at_call 32; refine (k1).mono ?_; rintro e w' ⟨rfl, rfl⟩)
    go_ret
    exact ⟨rfl, rfl⟩
  · have k1 := has_any bt ba lo n S x w h false (by simpa using hx)
    have e : degOf n S x = 0 := by unfold degOf; rw [if_neg hx]
    rw [e]
    clear h e hx
    go_enter Try.func12, Try.ntmps12
    go_wp2_with (go_at_call 32; refine (k1).mono ?_; rintro e w' ⟨rfl, rfl⟩)
    go_ret
    exact ⟨rfl, rfl⟩

set_option maxHeartbeats 400000 in
theorem up_any (bt ba lo n : Nat) (S : CS) (x : Int) (w : World) (h : ForestAt w bt ba lo n S) :
    Calls Try.prog 11 #[.pointer (some ⟨bt, 0, none⟩), .int .i64 x] w fun e w' => e = .returned (.tuple #[.int .i64 (ov (upO n S x)), .bool (ob (upO n S x))]) ∧ w' = w := by
  by_cases hx : 0 ≤ x ∧ x < n
  · obtain ⟨k, rfl⟩ : ∃ k : Nat, x = k := ⟨x.toNat, by omega⟩
    have hk : k < n := by omega
    have hle := h.le
    have c0 := h.head.cell 0 (by omega)
    have d1 := h.row.cellAt (k * 2 + 1) (by omega) (nodeCell1 S k)
    have k1 := has_any bt ba lo n S k w h true (by simp [hk])
    have e : upO n S k = if S.u k = -1 then none else some (S.u k) := by unfold upO; rw [if_pos hx]; simp
    rw [e]
    clear h e hx
    generalize S.u k = u at *
    by_cases hu : u = -1
    · subst hu
      go_enter Try.func11, Try.ntmps11
      go_wp2_with (go_at_call 32; refine (k1).mono ?_; rintro e w' ⟨rfl, rfl⟩)
      go_ret2
      exact ⟨rfl, rfl⟩
    · have b1 : (u == -1) = false := by simpa using hu
      rw [if_neg hu]
      clear hu
      go_enter Try.func11, Try.ntmps11
      go_wp2_with (go_at_call 32; refine (k1).mono ?_; rintro e w' ⟨rfl, rfl⟩)
      go_ret2
      exact ⟨rfl, rfl⟩
  · have k1 := has_any bt ba lo n S x w h false (by simpa using hx)
    have e : upO n S x = none := by unfold upO; rw [if_neg hx]
    rw [e]
    clear h e hx
    go_enter Try.func11, Try.ntmps11
    go_wp2_with (go_at_call 32; refine (k1).mono ?_; rintro e w' ⟨rfl, rfl⟩)
    go_ret2
    exact ⟨rfl, rfl⟩
end Go.Proofs.Ytdgohhkgmfjhaaa
