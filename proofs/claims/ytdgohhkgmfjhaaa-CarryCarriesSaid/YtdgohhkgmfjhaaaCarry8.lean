/-
  The forests of package carry, and rows that come in wherever they lie: Row, Index, Contains, and whether one of a row is in another one. Conditions: those of each lemma.
-/
import Derived.Test.YtdgohhkgmfjhaaaCarry7
import Derived.Test.YtdgohhkgmfjhaaaOff
set_option linter.unusedVariables false
set_option linter.unusedSimpArgs false
namespace Go.Proofs.Ytdgohhkgmfjhaaa
open Go Go.RowKit

set_option maxHeartbeats 1000000 in
theorem row_sl (bt ba lo n : Nat) (S : CS) (v : Value) (l : List Int) (w : World) (h : ForestAt w bt ba lo n S) (F : List Nat) (hv : SlI w F v l) :
    Calls Try.prog 14 #[.pointer (some ⟨bt, 0, none⟩), v] w fun e w' => e = .returned (.bool (rowB n S l)) ∧ w' = w := by
  obtain ⟨a, cap, rfl, hlc, hcp, hp⟩ := hv
  have HP := Lib.hid hp
  clear hp
  unfold rowB
  generalize hlen : l.length = len at *
  have HLEN := Lib.hid hlen
  clear hlen
  have kR := fun x => root_any bt ba lo n S x w h
  have kD := fun x => degree_any bt ba lo n S x w h
  clear h
  go_enter Try.func14, Try.ntmps14
  go_wp2
  go_loop [9] (fun i => ∃ k : Nat, k ≤ len ∧ i = .int .i64 (k : Int) ∧ rowTo n S l k = true) (fun i => len - (intOf i).toNat)
  case atStart => exact ⟨0, by omega, rfl, rfl⟩
  case round =>
    obtain ⟨k, hk, rfl, ht⟩ := hrel
    by_cases hlt : k < len
    · obtain ⟨g, off, rfl, _, _, c1⟩ := HP.out k (l.getD k 0) (by simp [List.getD_eq_getElem?_getD, HLEN.out, hlt])
      have c2 : 0 < k → w.cell? ⟨g, off + (k - 1), none⟩ = some (.int .i64 (l.getD (k - 1) 0)) := fun hk0 => by
        have hk1 : k - 1 < l.length := by rw [HLEN.out]; omega
        obtain ⟨g2, off2, he, _, _, c⟩ := HP.out (k - 1) (l.getD (k - 1) 0) (by simp [List.getD_eq_getElem?_getD, hk1])
        simp only [Option.some.injEq, Addr.mk.injEq, and_true] at he
        obtain ⟨rfl, rfl⟩ := he
        exact c
      have hsu := rowTo_succ n S l k
      have hno := rowTo_no n S l k ht
      rw [ht, Bool.true_and] at hsu
      unfold rowOk at hsu hno
      have HS := Lib.hid hsu
      have HN := Lib.hid hno
      have k1 := kR (l.getD k 0)
      have k2 := kD (l.getD k 0)
      have k3 := kD (l.getD (k - 1) 0)
      clear hsu hno ht kR kD
      generalize l.getD k 0 = x at *
      generalize l.getD (k - 1) 0 = y at *
      generalize rootB n S x = b at *
      generalize degOf n S x = d at *
      generalize degOf n S y = d2 at *
      cases b with
      | false =>
        go_wp2_with (go_at_call 34; refine (k1).mono ?_; rintro e w' ⟨rfl, rfl⟩)
        go_ret
        exact ⟨ret_bool (HN.out rfl _ hlt).symm, rfl⟩
      | true =>
        by_cases hk0 : k = 0
        · subst hk0
          clear c2
          rw [Nat.add_zero] at c1
          go_wp2_with (go_at_call 34; refine (k1).mono ?_; rintro e w' ⟨rfl, rfl⟩)
          go_round
          case rel => exact ⟨1, by omega, rfl, HS.out⟩
          case measure => simp [intOf]; omega
        · have c3 := c2 (by omega)
          have hk1 : 1 ≤ k := by omega
          clear c2
          obtain ⟨k', rfl⟩ : ∃ k', k = k' + 1 := ⟨k - 1, by omega⟩
          simp only [Nat.add_sub_cancel] at c3
          by_cases hd : d2 < d
          · have hd' : ¬ (d ≤ d2) := by omega
            go_wp2_with (first | (go_at_call 34; (with_reducible refine (k1).mono ?_); rintro e w' ⟨rfl, rfl⟩) | (go_at_call 12; (with_reducible refine (k3).mono ?_); rintro e w' ⟨rfl, rfl⟩) | (go_at_call 12; (with_reducible refine (k2).mono ?_); rintro e w' ⟨rfl, rfl⟩))
            go_round
            case rel => exact ⟨k' + 1 + 1, by omega, by go_num, by rw [HS.out]; simp [hd]⟩
            case measure => simp [intOf]; omega
          · have hd' : d ≤ d2 := by omega
            go_wp2_with (first | (go_at_call 34; (with_reducible refine (k1).mono ?_); rintro e w' ⟨rfl, rfl⟩) | (go_at_call 12; (with_reducible refine (k3).mono ?_); rintro e w' ⟨rfl, rfl⟩) | (go_at_call 12; (with_reducible refine (k2).mono ?_); rintro e w' ⟨rfl, rfl⟩))
            go_ret
            exact ⟨ret_bool (HN.out (by simp; omega) _ hlt).symm, rfl⟩
    · obtain rfl : k = len := by omega
      go_wp2
      go_ret
      exact ⟨by first | rfl | exact ret_bool ht.symm, rfl⟩
set_option maxHeartbeats 1000000 in
theorem index_sl (w : World) (F : List Nat) (v : Value) (l : List Int) (x : Int) (h : SlI w F v l) :
    Calls Try.prog 40 #[v, .int .i64 x] w fun e w' => e = .returned (.int .i64 (idxOf l x)) ∧ w' = w := by
  obtain ⟨a, cap, rfl, hlc, hcp, hp⟩ := h
  have HP := Lib.hid hp
  clear hp
  generalize hlen : l.length = len at *
  have HLEN := Lib.hid hlen
  clear hlen
  go_enter Try.func40, Try.ntmps40
  go_wp2
  go_loop [8] (fun i => ∃ q : Nat, q ≤ len ∧ i = .int .i64 (q : Int) ∧ x ∉ l.take q) (fun i => len - (intOf i).toNat)
  case atStart => exact ⟨0, by omega, rfl, by simp⟩
  case round =>
    obtain ⟨q, hq, rfl, hn⟩ := hrel
    by_cases hlt : q < len
    · obtain ⟨y, hyy⟩ : ∃ y, l[q]? = some y := ⟨l[q]'(by rw [HLEN.out]; exact hlt), by simp⟩
      obtain ⟨gb, off, rfl, _, _, hc⟩ := HP.out q y hyy
      by_cases hxy : x = y
      · subst hxy
        have hi := idx_here l x q hn hyy
        have HI := Lib.hid hi
        clear hn hyy hi
        go_wp2
        go_ret
        exact ⟨ret_int HI.out.symm, rfl⟩
      · have b1 : (x == y) = false := by simpa using hxy
        have hn2 : x ∉ l.take (q + 1) := by rw [List.take_add_one, hyy]; simp; exact ⟨hn, hxy⟩
        have HN2 := Lib.hid hn2
        clear hn hyy hn2 hxy
        go_wp2
        go_round
        case rel => exact ⟨q + 1, by omega, by go_num, HN2.out⟩
        case measure => simp [intOf]; omega
    · obtain rfl : q = len := by omega
      rw [List.take_of_length_le (by rw [HLEN.out]; omega)] at hn
      have HI := Lib.hid (idx_none l x hn)
      clear hn
      go_wp2
      go_ret
      exact ⟨ret_int HI.out.symm, rfl⟩

theorem contains_sl (w : World) (F : List Nat) (v : Value) (l : List Int) (x : Int) (h : SlI w F v l) :
    Calls Try.prog 37 #[v, .int .i64 x] w fun e w' => e = .returned (.bool (decide (x ∈ l))) ∧ w' = w := by
  have k1 := index_sl w F v l x h
  obtain ⟨a, cap, rfl, _⟩ := h
  by_cases hx : x ∈ l
  · obtain ⟨i, hi, he, _⟩ := idx_mem l x hx
    rw [he] at k1
    go_enter Try.func37, Try.ntmps37
    go_wp2_with ((go_at_call 40; (with_reducible refine (k1).mono ?_); rintro e w9 ⟨rfl, hw9⟩; rw [hw9]; clear hw9 w9))
    go_ret
    exact ⟨ret_bool (by simp [hx]), rfl⟩
  · rw [idx_none l x hx] at k1
    go_enter Try.func37, Try.ntmps37
    go_wp2_with ((go_at_call 40; (with_reducible refine (k1).mono ?_); rintro e w9 ⟨rfl, hw9⟩; rw [hw9]; clear hw9 w9))
    go_ret
    exact ⟨ret_bool (by simp [hx]), rfl⟩

theorem clos_any (w : World) (F : List Nat) (B7 : Nat) (v : Value) (l : List Int) (x : Int) (h : SlI w F v l) (hr : RowAt w B7 30 1 (fun _ => v)) :
    Calls Try.prog 36 #[.int .i64 x, .pointer (some ⟨B7, 0, none⟩)] w fun e w' => e = .returned (.bool (decide (x ∈ l))) ∧ w' = w := by
  have k1 := contains_sl w F v l x h
  have c0 := hr.cell 0 (by omega)
  obtain ⟨a, cap, rfl, _⟩ := h
  go_enter Try.func36, Try.ntmps36
  go_wp2_with ((go_at_call 37; (with_reducible refine (k1).mono ?_); rintro e w9 ⟨rfl, hw9⟩; rw [hw9]; clear hw9 w9))
  go_ret
  exact ⟨rfl, rfl⟩
set_option maxHeartbeats 1000000 in
/-- Where the first one of a row is that is in another one: the sign of it. -/
theorem indexf_any (w : World) (F : List Nat) (B7 : Nat) (va v : Value) (A l : List Int) (ha : SlI w F va A) (h : SlI w F v l) (hr : RowAt w B7 30 1 (fun _ => v)) :
    Calls Try.prog 58 #[va, .func (Fn.func 36) #[] #[.pointer (some ⟨B7, 0, none⟩)]] w fun e w' => (∃ i : Int, e = .returned (.int .i64 i) ∧ decide (0 ≤ i) = A.any (fun x => decide (x ∈ l))) ∧ w' = w := by
  have kC := fun x => clos_any w F B7 v l x h hr
  clear h hr
  obtain ⟨a, cap, rfl, hlc, hcp, hp⟩ := ha
  have HP := Lib.hid hp
  clear hp
  generalize hlen : A.length = len at *
  have HLEN := Lib.hid hlen
  clear hlen
  go_enter Try.func58, Try.ntmps58
  go_wp2
  go_loop [8] (fun i => ∃ q : Nat, q ≤ len ∧ i = .int .i64 (q : Int) ∧ (A.take q).any (fun x => decide (x ∈ l)) = false) (fun i => len - (intOf i).toNat)
  case atStart => exact ⟨0, by omega, rfl, by simp⟩
  case round =>
    obtain ⟨q, hq, rfl, hn⟩ := hrel
    by_cases hlt : q < len
    · obtain ⟨y, hyy⟩ : ∃ y, A[q]? = some y := ⟨A[q]'(by rw [HLEN.out]; exact hlt), by simp⟩
      obtain ⟨gb, off, rfl, _, _, hc⟩ := HP.out q y hyy
      have k1 := kC y
      by_cases hy : y ∈ l
      · rw [decide_eq_true hy] at k1
        have hfin : A.any (fun x => decide (x ∈ l)) = true := List.any_eq_true.2 ⟨y, List.mem_of_getElem? hyy, by simpa using hy⟩
        have HF := Lib.hid hfin
        clear hn hyy hy kC hfin
        go_wp2_with ((go_at_call 36; (with_reducible refine (k1).mono ?_); rintro e w9 ⟨rfl, hw9⟩; rw [hw9]; clear hw9 w9))
        go_ret
        exact ⟨⟨_, rfl, by rw [HF.out]; simp⟩, rfl⟩
      · rw [decide_eq_false hy] at k1
        have hn2 : (A.take (q + 1)).any (fun x => decide (x ∈ l)) = false := by rw [List.take_add_one, hyy, List.any_append, hn]; simpa using hy
        have HN2 := Lib.hid hn2
        clear hn hyy hn2 hy kC
        go_wp2_with ((go_at_call 36; (with_reducible refine (k1).mono ?_); rintro e w9 ⟨rfl, hw9⟩; rw [hw9]; clear hw9 w9))
        go_round
        case rel => exact ⟨q + 1, by omega, by go_num, HN2.out⟩
        case measure => simp [intOf]; omega
    · obtain rfl : q = len := by omega
      rw [List.take_of_length_le (by rw [HLEN.out]; omega)] at hn
      have HN := Lib.hid hn
      clear hn kC
      go_wp2
      go_ret
      exact ⟨⟨_, rfl, by rw [HN.out]; rfl⟩, rfl⟩
theorem containsf_any (w : World) (F : List Nat) (B7 : Nat) (va v : Value) (A l : List Int) (ha : SlI w F va A) (h : SlI w F v l) (hr : RowAt w B7 30 1 (fun _ => v)) :
    Calls Try.prog 35 #[va, .func (Fn.func 36) #[] #[.pointer (some ⟨B7, 0, none⟩)]] w fun e w' => e = .returned (.bool (A.any (fun x => decide (x ∈ l)))) ∧ w' = w := by
  have k1 := indexf_any w F B7 va v A l ha h hr
  generalize A.any (fun x => decide (x ∈ l)) = b at *
  obtain ⟨a, cap, rfl, _⟩ := ha
  clear h hr
  go_enter Try.func35, Try.ntmps35
  go_wp2_with (go_at_call 58; (with_reducible refine (k1).mono ?_); rintro e w9 ⟨⟨i, rfl, hi⟩, hw9⟩; rw [hw9]; clear hw9 w9; have HI := Lib.hid hi; clear hi)
  go_ret
  exact ⟨ret_bool (by first | exact HI.out | (rw [← HI.out]; simp)), rfl⟩
end Go.Proofs.Ytdgohhkgmfjhaaa
