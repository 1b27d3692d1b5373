/-
  The meter of steps: what Count, Steps and the document's Add do, and the law that counts one behind the other. Conditions: a meter holds between 0 and 2 to the 62.
-/
import Derived.Test.YtdgfibcbnlkbpaaGauge
set_option linter.unusedVariables false
set_option linter.unusedSimpArgs false
namespace Go.Proofs.Ytdgfibcbnlkbpaa
open Go.RowKit Go.ChangeShapes

def addS (s n : Int) : Int := if n ≤ 0 then s else if 4611686018427387904 - s < n then 4611686018427387904 else s + n
theorem addS_bd {s n : Int} (h0 : 0 ≤ s) (h1 : s ≤ 4611686018427387904) : 0 ≤ addS s n ∧ addS s n ≤ 4611686018427387904 := by
  unfold addS; split; omega; split <;> omega

theorem count_neg (p : Addr) (s n : Int) (w : World) (hn : n ≤ 0) :
    Calls Try.prog 17 #[.pointer (some p), .int .i64 n] w fun e w' => e = .returned (.tuple #[]) ∧ w' = w := by
  go_enter Try.func17, Try.ntmps17
  go_wp2
  go_end0
  exact ⟨rfl, rfl⟩

theorem count_pos (p : Addr) (s n : Int) (w : World) (hn : 0 < n) (hn2 : n ≤ 9223372036854775807) (h0 : 0 ≤ s) (h1 : s ≤ 4611686018427387904)
    (hc : w.cell? p = some (.int .i64 s)) (hf : w.frozen? p = false) :
    Calls Try.prog 17 #[.pointer (some p), .int .i64 n] w fun e w' => e = .returned (.tuple #[]) ∧ w' = w.setCell p (.int .i64 (addS s n)) := by
  by_cases h : 4611686018427387904 - s < n
  · have e : addS s n = 4611686018427387904 := by unfold addS; rw [if_neg (by omega), if_pos h]
    rw [e]
    clear e
    go_enter Try.func17, Try.ntmps17
    go_wp2
    go_end0
    exact ⟨rfl, rfl⟩
  · have e : addS s n = s + n := by unfold addS; rw [if_neg (by omega), if_neg h]
    rw [e]
    clear e
    go_enter Try.func17, Try.ntmps17
    go_wp2
    go_end0
    exact ⟨rfl, rfl⟩

theorem steps_any (p : Addr) (s : Int) (w : World) (hc : w.cell? p = some (.int .i64 s)) :
    Calls Try.prog 19 #[.pointer (some p)] w fun e w' => e = .returned (.int .i64 s) ∧ w' = w := by
  go_enter Try.func19, Try.ntmps19
  go_wp2
  go_ret
  exact ⟨rfl, rfl⟩

theorem radd_any (s n : Int) (w : World) (h0 : 0 ≤ s) (h1 : s ≤ 4611686018427387904) (hn2 : n ≤ 9223372036854775807) :
    Calls Try.prog 18 #[.int .i64 s, .int .i64 n] w fun e w' => e = .returned (.int .i64 (addS s n)) ∧ w' = w := by
  go_enter Try.func18, Try.ntmps18
  go_wp2
  all_goals
    go_ret
    exact ⟨ret_int (by first | (unfold addS; split; omega; split <;> omega) | (unfold addS; rw [if_pos (by omega)])), rfl⟩

set_option maxHeartbeats 400000 in
theorem counts_long (a : Option Addr) (len cap : Nat) (w : World) (h : 300 < len) (hm : len ≤ 9223372036854775807) :
    Calls Try.prog 4 #[.slice a len cap] w fun e w' => e = .returned (.bool true) ∧ Upd [] w w' := by
  go_enter Try.func4, Try.ntmps4
  go_wp2_with (go_at_call 12; refine (galive_any _).mono ?_; rintro e w' ⟨rfl, hb⟩; have hq : Upd [] (w) w' := (by first | exact hb | (apply Upd.trans; rotate_left; assumption; assumption)))
  go_ret
  exact ⟨rfl, by (repeat (first | assumption | exact Upd.refl _ _ | refine Upd.alloc ?_ _ | refine Upd.drew ?_ | (apply Upd.trans; rotate_left; assumption)))⟩

set_option maxHeartbeats 400000 in
theorem counts_none (a : Option Addr) (cap : Nat) (w : World) :
    Calls Try.prog 4 #[.slice a 0 cap] w fun e w' => e = .returned (.bool true) ∧ Upd [] w w' := by
  go_enter Try.func4, Try.ntmps4
  go_wp2_with (go_at_call 12; refine (galive_any _).mono ?_; rintro e w1 ⟨rfl, hq⟩)
  go_loopw [4, 14] (fun s i wr => i = .int .i64 0 ∧ s = .int .i64 0 ∧ wr.cell? ⟨w1.heap.size, 0, none⟩ = some (.int .i64 0) ∧ Upd [] w wr) (fun _ _ _ => 0)
  case atStart => exact ⟨rfl, rfl, by simp, hq.alloc _⟩
  case round =>
    obtain ⟨rfl, rfl, hcell, hu⟩ := hrel
    go_wp2_with (go_at_call 19; refine (steps_any _ 0 _ hcell).mono ?_; rintro e w' ⟨rfl, rfl⟩)
    go_ret
    exact ⟨rfl, hu⟩

set_option maxHeartbeats 400000 in
theorem counts_some (b off len cap : Nat) (zs : List Int) (w : World) (hz : zs.length = len) (h : len ≤ 300) (hp : 0 < len) (hb : b < w.heap.size)
    (hc : ∀ j, j < len → w.cell? ⟨b, off + j, none⟩ = some (.int .i64 (zs.getD j 0))) (hw : ∀ n ∈ zs, -9223372036854775808 ≤ n ∧ n ≤ 9223372036854775807) :
    Calls Try.prog 4 #[.slice (some ⟨b, off, none⟩) len cap] w fun e w' => e = .returned (.bool true) ∧ Upd [] w w' := by
  have hH := Lib.hid hz
  clear hz
  have HC := Lib.hid hc
  clear hc
  go_enter Try.func4, Try.ntmps4
  go_wp2_with (go_at_call 12; refine (galive_any _).mono ?_; rintro e w1 ⟨rfl, hq⟩)
  have hsz := hq.size
  go_loopw [4, 14] (fun s i wr => ∃ (k : Nat) (st : Int), k ≤ len ∧ 0 ≤ st ∧ st ≤ 4611686018427387904 ∧ i = .int .i64 k ∧ s = .int .i64 st ∧ wr.cell? ⟨w1.heap.size, 0, none⟩ = some (.int .i64 st) ∧ wr.frozen? ⟨w1.heap.size, 0, none⟩ = false ∧ Upd [] w wr) (fun _ i _ => len - (intOf i).toNat)
  case atStart => exact ⟨0, 0, by omega, by omega, by omega, rfl, rfl, by simp, by simp, hq.alloc _⟩
  case round =>
    obtain ⟨k, st, hk, h0, h1, rfl, rfl, hcell, hfz, hu⟩ := hrel
    have hbd := addS_bd (n := zs.getD k 0) h0 h1
    by_cases hlt : k < len
    · have hx : wr.cell? ⟨b, off + k, none⟩ = some (.int .i64 (zs.getD k 0)) := hu.was (HC.out k hlt)
      have hn := hw (zs.getD k 0) (by rw [List.getD_eq_getElem?_getD, List.getElem?_eq_getElem (by rw [hH.out]; exact hlt)]; exact List.getElem_mem _)
      generalize zs.getD k 0 = n at hx hn hbd
      by_cases hpos : 0 < n
      · have hU := hu.setCell (p := ⟨w1.heap.size, 0, none⟩) (Or.inr (by simpa using hsz)) (.int .i64 (addS st n))
        go_wp2_with (first | (go_at_call 17; refine (count_pos _ st n _ hpos hn.2 h0 h1 hcell hfz).mono ?_; rintro e w' ⟨rfl, rfl⟩) | (go_at_call 18; refine (radd_any _ _ _ h0 h1 hn.2).mono ?_; rintro e w' ⟨rfl, rfl⟩) | (go_at_call 19; refine (steps_any _ (addS st n) _ (World.cell?_setCell_same _ _ _ hcell)).mono ?_; rintro e w' ⟨rfl, rfl⟩))
        go_roundw
        case rel => exact ⟨k + 1, addS st n, by omega, hbd.1, hbd.2, by go_num, rfl, World.cell?_setCell_same _ _ _ hcell, by simp [hfz], hU⟩
        case measure => simp [intOf]; omega
      · have e : addS st n = st := by unfold addS; rw [if_pos (by omega)]
        have he := Lib.hid e
        clear e
        go_wp2_with (first | (go_at_call 17; refine (count_neg _ st n _ (by omega)).mono ?_; rintro e w' ⟨rfl, rfl⟩) | (go_at_call 18; refine (radd_any _ _ _ h0 h1 hn.2).mono ?_; rintro e w' ⟨rfl, rfl⟩; rw [he.out]) | (go_at_call 19; refine (steps_any _ st _ hcell).mono ?_; rintro e w' ⟨rfl, rfl⟩))
        go_roundw
        case rel => exact ⟨k + 1, st, by omega, h0, h1, by go_num, rfl, hcell, hfz, hu⟩
        case measure => simp [intOf]; omega
    · go_wp2_with (go_at_call 19; refine (steps_any _ st _ hcell).mono ?_; rintro e w' ⟨rfl, rfl⟩)
      go_ret
      exact ⟨rfl, hu⟩

theorem gaugeCounts_any (v : Value) (zs : List Int) (w : World) (h : IsInts .i64 w v zs) :
    Calls Try.prog 4 #[v] w fun e w' => e = .returned (.bool true) ∧ Upd [] w w' := by
  obtain ⟨⟨a, cap, rfl, hm, hc⟩, hw⟩ := h
  unfold maxLen at hm
  by_cases h1 : 300 < zs.length
  · exact counts_long a _ cap w h1 hm
  · by_cases h2 : zs.length = 0
    · rw [h2]; exact counts_none a cap w
    · obtain ⟨b, off, rfl, hb, hcc⟩ := hc (by omega)
      exact counts_some b off _ cap zs w rfl (by omega) (by omega) hb (by simpa using hcc) (fun n hn => bounds_i64 (hw n hn))

end Go.Proofs.Ytdgfibcbnlkbpaa
