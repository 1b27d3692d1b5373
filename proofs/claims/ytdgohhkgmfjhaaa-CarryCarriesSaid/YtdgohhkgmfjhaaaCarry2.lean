/-
  The forests of package carry: Kids, Row. Conditions: those of each lemma.
-/
import Derived.Test.YtdgohhkgmfjhaaaCarry
set_option linter.unusedVariables false
set_option linter.unusedSimpArgs false
namespace Go.Proofs.Ytdgohhkgmfjhaaa
open Go Go.RowKit

set_option maxHeartbeats 400000 in
theorem clone_any (w : World) (lo : Nat) (v : Value) (z : List Int) (h : LstAt w lo v z.length (intsZ z)) (hz : z.length ≤ 65536) :
    Calls Try.prog 33 #[v] w fun e w' => ∃ v', e = .returned v' ∧ LstAt w' w.heap.size v' z.length (intsZ z) ∧ Upd [] w w' := by
  have h0 := h
  obtain ⟨a, cap, rfl, hcp, hlc, hp⟩ := h.open
  have hl := intsZ_len z
  generalize hzz : intsZ z = zs at *
  have h1 : ∀ u ∈ zs, u.oneCell' = true := by rw [← hzz]; exact intsZ_one z
  generalize z.length = len at *
  clear hzz
  cases a with
  | none =>
    have hn : len = 0 := by
      rcases Nat.eq_zero_or_pos len with h | h
      · exact h
      · obtain ⟨g, hg, _⟩ := hp h; cases hg
    subst hn
    have hzs : zs = [] := List.eq_nil_of_length_eq_zero hl
    subst hzs
    have hs := fun (W : World) => Lib.run_eql_slice_nil (P := Try.prog) W 30 3 none 0 cap 0 0 Try.underlying30
    clear hp h h0
    go_enter Try.func33, Try.ntmps33
    go_wp2
    go_ret
    exact ⟨_, rfl, Or.inl ⟨rfl, rfl, rfl⟩, Upd.refl _ _⟩
  | some a =>
    have hs := fun (W : World) => Lib.run_eql_slice_nil (P := Try.prog) W 30 3 (some a) len cap 0 0 Try.underlying30
    have hL := h.upd ((Upd.refl [] w).alloc (.cells #[] 3)) (by simp)
    have hO := own_lit w [] 3 w.heap.size 1 0 rfl (Nat.le_refl _) (by unfold maxLen; omega)
    clear hp h h0
    go_enter Try.func33, Try.ntmps33
    go_wp2_with (at_builtin; refine wpList_append_lst rfl _ _ 30 rfl w.heap.size 3 (.int .i64 0) 1 8 Try.underlying30 intInfo rfl (by decide) _ _ _ rfl hO lo len zs _ rfl hL (by omega) h1 (by unfold maxLen; omega) (by omega) (by simp) ?_; intro v2 w2 ho2 hu2)
    go_ret
    have hu3 : Upd [w.heap.size] (w.alloc (.cells #[] 3)) w2 := hu2
    refine ⟨_, rfl, ?_, ((Upd.refl _ _).alloc _).joined hu3 (fun x hx => Or.inr (by simp at hx; omega))⟩
    have := LstAt.of_owns ho2
    simpa using this

set_option maxHeartbeats 400000 in
theorem kids_any (bt ba lo n : Nat) (S : CS) (x : Int) (w : World) (h : ForestAt w bt ba lo n S) :
    Calls Try.prog 13 #[.pointer (some ⟨bt, 0, none⟩), .int .i64 x] w fun e w' => ∃ v', e = .returned v' ∧ LstAt w' w.heap.size v' (kidsOf n S x).length (intsZ (kidsOf n S x)) ∧ Upd [] w w' := by
  by_cases hx : 0 ≤ x ∧ x < n
  · obtain ⟨k, rfl⟩ : ∃ k : Nat, x = k := ⟨x.toNat, by omega⟩
    have hk : k < n := by omega
    have hle := h.le
    have hln := h.len k hk
    have c0 := h.head.cell 0 (by omega)
    have d0 := h.row.cellAt (k * 2) (by omega) (nodeCell0 S k)
    have k1 := has_any bt ba lo n S k w h true (by simp [hk])
    have k2 := clone_any w lo (S.v k) (S.k k) (LstAt.of_owns (h.own k hk)) (by omega)
    have e : kidsOf n S k = S.k k := by unfold kidsOf; rw [if_pos hx]; simp
    rw [e]
    obtain ⟨a, cap, hv, _⟩ := own_slice (h.own k hk)
    rw [hv] at d0 k2
    clear h e hx hv
    generalize S.k k = l at *
    go_enter Try.func13, Try.ntmps13
    go_wp2_with (first | go_at_call 32; refine (k1).mono ?_; rintro e w' ⟨rfl, rfl⟩ | (go_at_call 33; (with_reducible refine (k2).mono ?_); rintro e w2 ⟨v2, rfl, h2, h3⟩))
    go_ret
    exact ⟨_, rfl, h2, h3⟩
  · have k1 := has_any bt ba lo n S x w h false (by simpa using hx)
    have e : kidsOf n S x = [] := by unfold kidsOf; rw [if_neg hx]
    rw [e]
    clear h e hx
    go_enter Try.func13, Try.ntmps13
    go_wp2_with (go_at_call 32; refine (k1).mono ?_; rintro e w' ⟨rfl, rfl⟩)
    go_ret
    exact ⟨_, rfl, Or.inl ⟨rfl, rfl, rfl⟩, Upd.refl _ _⟩

/-- Do the first j things of a row stand as they should? -/
def rowOk (n : Nat) (S : CS) (l : List Int) (i : Nat) : Bool := rootB n S (l.getD i 0) && (i == 0 || decide (degOf n S (l.getD (i - 1) 0) < degOf n S (l.getD i 0)))
def rowTo (n : Nat) (S : CS) (l : List Int) (j : Nat) : Bool := (List.range j).all (rowOk n S l)
theorem rowTo_succ (n : Nat) (S : CS) (l : List Int) (j : Nat) : rowTo n S l (j + 1) = (rowTo n S l j && rowOk n S l j) := by
  unfold rowTo; rw [List.range_succ, List.all_append]; simp
theorem rowTo_no (n : Nat) (S : CS) (l : List Int) (j : Nat) (h : rowTo n S l j = true) (hj : rowOk n S l j = false) (m : Nat) (hm : j < m) : rowTo n S l m = false := by
  unfold rowTo
  rw [List.all_eq_false]
  exact ⟨j, by simp [hm], by simp [hj]⟩
def rowB (n : Nat) (S : CS) (l : List Int) : Bool := rowTo n S l l.length

set_option maxHeartbeats 1000000 in
theorem row_any (bt ba lo n lo2 : Nat) (S : CS) (v : Value) (l : List Int) (w : World) (h : ForestAt w bt ba lo n S) (hv : LstAt w lo2 v l.length (intsZ l)) :
    Calls Try.prog 14 #[.pointer (some ⟨bt, 0, none⟩), v] w fun e w' => e = .returned (.bool (rowB n S l)) ∧ w' = w := by
  obtain ⟨a, cap, rfl, hcp, hlc, hp⟩ := hv.open
  have HP := Lib.hid hp
  clear hp hv
  unfold rowB
  generalize hlen : l.length = len at *
  have HLEN := Lib.hid hlen
  clear hlen
  have kR := fun x => root_any bt ba lo n S x w h
  have kD := fun x => degree_any bt ba lo n S x w h
  clear h
  go_enter Try.func14, Try.ntmps14
  go_wp2
  go_loop [9] (fun i => ∃ k : Nat, k ≤ len ∧ i = .int .i64 (k : Int) ∧ rowTo n S l k = true) (fun i => len - (intOf i).toNat)
  case atStart => exact ⟨0, by omega, rfl, rfl⟩
  case round =>
    obtain ⟨k, hk, rfl, ht⟩ := hrel
    by_cases hlt : k < len
    · obtain ⟨g, rfl, _, _, hx⟩ := HP.out (by omega)
      have c1 := hx k (.int .i64 (l.getD k 0)) (by unfold intsZ; simp [List.getD_eq_getElem?_getD, HLEN.out, hlt])
      have c2 : 0 < k → w.cell? ⟨g, k - 1, none⟩ = some (.int .i64 (l.getD (k - 1) 0)) := fun hk0 => by
        have hk1 : k - 1 < l.length := by rw [HLEN.out]; omega
        exact hx (k - 1) (.int .i64 (l.getD (k - 1) 0)) (by unfold intsZ; simp [List.getD_eq_getElem?_getD, hk1])
      have hsu := rowTo_succ n S l k
      have hno := rowTo_no n S l k ht
      rw [ht, Bool.true_and] at hsu
      unfold rowOk at hsu hno
      have HS := Lib.hid hsu
      have HN := Lib.hid hno
      have k1 := kR (l.getD k 0)
      have k2 := kD (l.getD k 0)
      have k3 := kD (l.getD (k - 1) 0)
      clear hx hsu hno ht kR kD
      generalize l.getD k 0 = x at *
      generalize l.getD (k - 1) 0 = y at *
      generalize rootB n S x = b at *
      generalize degOf n S x = d at *
      generalize degOf n S y = d2 at *
      cases b with
      | false =>
        go_wp2_with (go_at_call 34; refine (k1).mono ?_; rintro e w' ⟨rfl, rfl⟩)
        go_ret
        exact ⟨ret_bool (HN.out rfl _ hlt).symm, rfl⟩
      | true =>
        by_cases hk0 : k = 0
        · subst hk0
          clear c2
          go_wp2_with (go_at_call 34; refine (k1).mono ?_; rintro e w' ⟨rfl, rfl⟩)
          go_round
          case rel => exact ⟨1, by omega, rfl, HS.out⟩
          case measure => simp [intOf]; omega
        · have c3 := c2 (by omega)
          have hk1 : 1 ≤ k := by omega
          clear c2
          obtain ⟨k', rfl⟩ : ∃ k', k = k' + 1 := ⟨k - 1, by omega⟩
          simp only [Nat.add_sub_cancel] at c3
          by_cases hd : d2 < d
          · have hd' : ¬ (d ≤ d2) := by omega
            go_wp2_with (first | (go_at_call 34; (with_reducible refine (k1).mono ?_); rintro e w' ⟨rfl, rfl⟩) | (go_at_call 12; (with_reducible refine (k3).mono ?_); rintro e w' ⟨rfl, rfl⟩) | (go_at_call 12; (with_reducible refine (k2).mono ?_); rintro e w' ⟨rfl, rfl⟩))
            go_round
            case rel => exact ⟨k' + 1 + 1, by omega, by go_num, by rw [HS.out]; simp [hd]⟩
            case measure => simp [intOf]; omega
          · have hd' : d ≤ d2 := by omega
            go_wp2_with (first | (go_at_call 34; (with_reducible refine (k1).mono ?_); rintro e w' ⟨rfl, rfl⟩) | (go_at_call 12; (with_reducible refine (k3).mono ?_); rintro e w' ⟨rfl, rfl⟩) | (go_at_call 12; (with_reducible refine (k2).mono ?_); rintro e w' ⟨rfl, rfl⟩))
            go_ret
            exact ⟨ret_bool (HN.out (by simp; omega) _ hlt).symm, rfl⟩
    · obtain rfl : k = len := by omega
      go_wp2
      go_ret
      exact ⟨by first | rfl | exact ret_bool ht.symm, rfl⟩
end Go.Proofs.Ytdgohhkgmfjhaaa
