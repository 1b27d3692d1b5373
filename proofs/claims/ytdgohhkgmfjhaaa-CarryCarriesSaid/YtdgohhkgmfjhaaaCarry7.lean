/-
  The order of the laws of layer 12, and what two roots are joined to. Conditions: those of each lemma.
-/
import Derived.Test.YtdgohhkgmfjhaaaCarry6
import Derived.Test.YtdgohhkgmfjhaaaCarryLink
set_option linter.unusedVariables false
set_option linter.unusedSimpArgs false
namespace Go.Proofs.Ytdgohhkgmfjhaaa
open Go Go.RowKit

def keyOf (zs : List Int) (x : Int) : Int := if 0 ≤ x ∧ x < zs.length then zs.getD x.toNat 0 else 0
def aheadB (zs : List Int) (a b : Int) : Bool := decide (keyOf zs a < keyOf zs b) || (keyOf zs a == keyOf zs b && decide (a < b))
/-- Keys that lie in a block below lo. -/
def KeysAt (w : World) (lo : Nat) (v : Value) (zs : List Int) : Prop :=
  ∃ a cap, v = .slice a zs.length cap ∧ zs.length ≤ 9223372036854775807 ∧ (0 < zs.length → ∃ b off, a = some ⟨b, off, none⟩ ∧ b < lo ∧ b < w.heap.size ∧ ∀ j, j < zs.length → w.cell? ⟨b, off + j, none⟩ = some (.int .i64 (zs.getD j 0)))
structure LesserAt (w : World) (kl bo : Nat) (v : Value) (zs : List Int) (asked : Nat) : Prop where
  row : RowAt w bo 37 2 (fun j => if j = 0 then v else .int .i64 (asked : Int))
  keys : KeysAt w kl v zs
  le : kl ≤ bo
theorem KeysAt.upd {w w' : World} {F : List Nat} {lo : Nat} {v : Value} {zs : List Int} (h : KeysAt w lo v zs) (hu : Upd F w w') (hF : ∀ g, g ∈ F → lo ≤ g) : KeysAt w' lo v zs := by
  obtain ⟨a, cap, rfl, hm, hp⟩ := h
  refine ⟨a, cap, rfl, hm, fun h0 => ?_⟩
  obtain ⟨b, off, rfl, hb, hs, hc⟩ := hp h0
  exact ⟨b, off, rfl, hb, Nat.lt_of_lt_of_le hs hu.size, fun j hj => by rw [hu.cell hs (fun hm => by have := hF _ hm; simp at this; omega)]; exact hc j hj⟩
theorem LesserAt.upd {w w' : World} {F : List Nat} {kl bo : Nat} {v : Value} {zs : List Int} {k : Nat} (h : LesserAt w kl bo v zs k) (hu : Upd F w w') (hF : ∀ g, g ∈ F → kl ≤ g ∧ g ≠ bo) : LesserAt w' kl bo v zs k :=
  ⟨h.row.upd hu (fun hm => (hF _ hm).2 rfl), h.keys.upd hu (fun g hg => (hF g hg).1), h.le⟩

set_option maxHeartbeats 400000 in
theorem key_any (w : World) (kl bo : Nat) (v : Value) (zs : List Int) (asked : Nat) (x : Int) (h : LesserAt w kl bo v zs asked) :
    Calls Try.prog 39 #[.pointer (some ⟨bo, 0, none⟩), .int .i64 x] w fun e w' => e = .returned (.int .i64 (keyOf zs x)) ∧ w' = w := by
  obtain ⟨a, cap, rfl, hm, hp⟩ := h.keys
  have c0 := h.row.cellAt 0 (by omega) rfl
  by_cases hx : 0 ≤ x ∧ x < zs.length
  · obtain ⟨k, rfl⟩ : ∃ k : Nat, x = k := ⟨x.toNat, by omega⟩
    have hk : k < zs.length := by omega
    obtain ⟨b, off, rfl, hb, hs, hc⟩ := hp (by omega)
    have d0 := hc k hk
    have e : keyOf zs k = zs.getD k 0 := by unfold keyOf; rw [if_pos hx]; simp
    rw [e]
    clear h hc hp e hx
    generalize zs.getD k 0 = y at *
    generalize zs.length = len at *
    go_enter Try.func39, Try.ntmps39
    go_wp2
    go_ret
    exact ⟨rfl, rfl⟩
  · have e : keyOf zs x = 0 := by unfold keyOf; rw [if_neg hx]
    rw [e]
    clear h hp e
    generalize zs.length = len at *
    by_cases h0 : x < 0
    · clear hx
      go_enter Try.func39, Try.ntmps39
      go_wp2
      go_ret
      exact ⟨rfl, rfl⟩
    · have h1 : (len : Int) ≤ x := by omega
      clear hx
      go_enter Try.func39, Try.ntmps39
      go_wp2
      go_ret
      exact ⟨rfl, rfl⟩

set_option maxHeartbeats 400000 in
theorem ahead_any (w : World) (kl bo : Nat) (v : Value) (zs : List Int) (asked : Nat) (x y : Int) (h : LesserAt w kl bo v zs asked) (ha : asked ≤ 1000000) :
    Calls Try.prog 16 #[.pointer (some ⟨bo, 0, none⟩), .int .i64 x, .int .i64 y] w fun e w' => e = .returned (.bool (aheadB zs x y)) ∧ LesserAt w' kl bo v zs (asked + 1) ∧ Upd [bo] w w' := by
  have c0 := h.row.cellAt 1 (by omega) (v := .int .i64 (asked : Int)) rfl
  have e0 := h.row.free 1
  have hu : Upd [bo] w (w.setCell ⟨bo, 1, none⟩ (.int .i64 ((asked : Int) + 1))) := (Upd.refl _ _).setCell (Or.inl (by simp)) _
  have h2 : LesserAt (w.setCell ⟨bo, 1, none⟩ (.int .i64 ((asked : Int) + 1))) kl bo v zs (asked + 1) :=
    ⟨(h.row.set 1 _).ext (fun j hj => by rcases (by omega : j = 0 ∨ j = 1) with rfl | rfl <;> simp), h.keys.upd hu (fun g hg => by have := h.le; simp at hg; omega), h.le⟩
  have k1 := key_any _ kl bo v zs (asked + 1) x h2
  have k2 := key_any _ kl bo v zs (asked + 1) y h2
  have H2 := Lib.hid h2
  unfold aheadB
  generalize keyOf zs x = kx at *
  generalize keyOf zs y = ky at *
  clear h h2
  by_cases h1 : kx < ky
  · go_enter Try.func16, Try.ntmps16
    go_wp2_with (first | (go_at_call 39; (with_reducible refine (k1).mono ?_); rintro e w9 ⟨rfl, hw9⟩; rw [hw9]; clear hw9 w9) | (go_at_call 39; (with_reducible refine (k2).mono ?_); rintro e w9 ⟨rfl, hw9⟩; rw [hw9]; clear hw9 w9))
    go_ret
    exact ⟨ret_bool (by simp [h1]), H2.out, hu⟩
  · by_cases h3 : kx = ky
    · subst h3
      by_cases h4 : x < y
      · go_enter Try.func16, Try.ntmps16
        go_wp2_with (first | (go_at_call 39; (with_reducible refine (k1).mono ?_); rintro e w9 ⟨rfl, hw9⟩; rw [hw9]; clear hw9 w9) | (go_at_call 39; (with_reducible refine (k2).mono ?_); rintro e w9 ⟨rfl, hw9⟩; rw [hw9]; clear hw9 w9))
        go_ret
        exact ⟨ret_bool (by simp [h4]), H2.out, hu⟩
      · go_enter Try.func16, Try.ntmps16
        go_wp2_with (first | (go_at_call 39; (with_reducible refine (k1).mono ?_); rintro e w9 ⟨rfl, hw9⟩; rw [hw9]; clear hw9 w9) | (go_at_call 39; (with_reducible refine (k2).mono ?_); rintro e w9 ⟨rfl, hw9⟩; rw [hw9]; clear hw9 w9))
        go_ret
        exact ⟨ret_bool (by simp [h4]), H2.out, hu⟩
    · have b1 : (kx == ky) = false := by simpa using h3
      have H3 := Lib.hid h3
      clear h3
      go_enter Try.func16, Try.ntmps16
      go_wp2_with (first | (go_at_call 39; (with_reducible refine (k1).mono ?_); rintro e w9 ⟨rfl, hw9⟩; rw [hw9]; clear hw9 w9) | (go_at_call 39; (with_reducible refine (k2).mono ?_); rintro e w9 ⟨rfl, hw9⟩; rw [hw9]; clear hw9 w9))
      go_ret
      exact ⟨ret_bool (by simp [H3.out]; try omega), H2.out, hu⟩

theorem nil_ahead (a : Addr) (w : World) : (nilAhead 227 35 (.pointer (some a)) "Ahead").run Try.prog w = .ok (some false) w := by kernel_rfl
theorem method_ahead (a : Addr) (w : World) : (method 227 35 (.pointer (some a)) "Ahead").run Try.prog w = .ok (16, .pointer (some a)) w := by kernel_rfl
/-- Of two roots the one that is ahead, and the other one. -/
def joinHi (zs : List Int) (a b : Nat) : Nat := if aheadB zs b a then b else a
def joinLo (zs : List Int) (a b : Nat) : Nat := if aheadB zs b a then a else b

/-- What keeps a forest and an order apart. -/
structure Apart (kl bo bt ba lo n : Nat) (S : CS) : Prop where
  b1 : bo ≠ bt
  b2 : bo ≠ ba
  b3 : bo ∉ S.blk n
  k1 : kl ≤ bt
  k2 : kl ≤ ba
  k3 : kl ≤ lo

set_option maxHeartbeats 1000000 in
theorem join_any (bt ba lo n kl bo : Nat) (S : CS) (zs : List Int) (vk : Value) (asked a b : Nat) (w : World) (h : ForestAt w bt ba lo n S) (hO : LesserAt w kl bo vk zs asked) (hk : asked ≤ 1000000)
    (ha : a < n) (hb : b < n) (hra : rootB n S a = true) (hrb : rootB n S b = true) (hne : a ≠ b) (hd : degOf n S a = degOf n S b) (hl1 : (S.k a).length + 1 ≤ n) (hl2 : (S.k b).length + 1 ≤ n)
    (hA : Apart kl bo bt ba lo n S) :
    Calls Try.prog 38 #[.pointer (some ⟨bt, 0, none⟩), .iface 35 (.pointer (some ⟨bo, 0, none⟩)), .int .i64 (a : Int), .int .i64 (b : Int)] w fun e w' =>
      ∃ v, e = .returned (.int .i64 (joinHi zs a b : Int)) ∧ ForestAt w' bt ba lo n (linkS S v (joinHi zs a b) (joinLo zs a b)) ∧ LesserAt w' kl bo vk zs (asked + 1) ∧ Upd (bo :: ba :: S.blk n) w w' ∧ (∀ g, g ∈ (linkS S v (joinHi zs a b) (joinLo zs a b)).blk n → g ∈ S.blk n ∨ w.heap.size ≤ g) := by
  have kA := ahead_any w kl bo vk zs asked b a hO hk
  have hm := fun w => method_ahead ⟨bo, 0, none⟩ w
  have hn := fun w => nil_ahead ⟨bo, 0, none⟩ w
  have hF := fun W (hW : Upd [bo] w W) => h.upd hW (by simp; exact Ne.symm hA.b1) (by simp; exact Ne.symm hA.b2) (fun g hg hm => by simp at hm; subst hm; exact hA.b3 hg)
  have kL1 := fun W (hW : Upd [bo] w W) => link_yes bt ba lo n S a b W (hF W hW) ha hb hra hrb hne hd hl1
  have kL2 := fun W (hW : Upd [bo] w W) => link_yes bt ba lo n S b a W (hF W hW) hb ha hrb hra (Ne.symm hne) hd.symm hl2
  have hS : ∀ g, g ∈ ba :: S.blk n → kl ≤ g ∧ g ≠ bo := fun g hg => by
    rcases List.mem_cons.1 hg with rfl | hg
    · exact ⟨hA.k2, Ne.symm hA.b2⟩
    · exact ⟨Nat.le_trans hA.k3 (h.blk_lo hg).1, fun e => by subst e; exact hA.b3 hg⟩
  have HS := Lib.hid hS
  clear hS hF h hO hA hd hra hrb
  unfold joinHi joinLo
  cases hab : aheadB zs b a with
  | true =>
    rw [hab] at kA
    rw [if_pos rfl, if_pos rfl]
    clear hab kL1
    go_enter Try.func38, Try.ntmps38
    go_wp2_with (first
      | ((go_at_call 16; (with_reducible refine (kA).mono ?_)); rintro e w1 ⟨rfl, hL1, hu1⟩)
      | ((go_at_call 44; (with_reducible refine (kL2 _ hu1).mono ?_)); rintro e w2 ⟨v2, rfl, hF2, hu2, hb2⟩))
    go_ret
    refine ⟨_, rfl, hF2, hL1.upd hu2 HS.out, (hu1.mono (by simp)).trans (hu2.mono (fun g hg => List.mem_cons_of_mem _ hg)), fun g hg => ?_⟩
    rcases hb2 g hg with h | h
    · exact Or.inl h
    · exact Or.inr (Nat.le_trans hu1.size h)
  | false =>
    rw [hab] at kA
    rw [if_neg (by simp), if_neg (by simp)]
    clear hab kL2
    go_enter Try.func38, Try.ntmps38
    go_wp2_with (first
      | ((go_at_call 16; (with_reducible refine (kA).mono ?_)); rintro e w1 ⟨rfl, hL1, hu1⟩)
      | ((go_at_call 44; (with_reducible refine (kL1 _ hu1).mono ?_)); rintro e w2 ⟨v2, rfl, hF2, hu2, hb2⟩))
    go_ret
    refine ⟨_, rfl, hF2, hL1.upd hu2 HS.out, (hu1.mono (by simp)).trans (hu2.mono (fun g hg => List.mem_cons_of_mem _ hg)), fun g hg => ?_⟩
    rcases hb2 g hg with h | h
    · exact Or.inl h
    · exact Or.inr (Nat.le_trans hu1.size h)
end Go.Proofs.Ytdgohhkgmfjhaaa
