/-
  All kinds of heaps, told by the program and by the document: one list of 22; and the law that says so. Conditions: none.
-/
import Derived.Test.YtdgfibcbnlkbpaaGauge
import Derived.Test.YtdgfibcbnlkbpaaOwn
set_option linter.unusedVariables false
set_option linter.unusedSimpArgs false
namespace Go.Proofs.Ytdgfibcbnlkbpaa
open Go Go.RowKit

def allKD : List (Int × Int) := (List.range 8).flatMap (fun (i : Nat) => (List.range 17).map fun (d : Nat) => ((i : Int) + 1, (d : Int)))
def okKD (p : Int × Int) : Bool := decide (chk p.1 p.2 = 0)
def kdCells (l : List (Int × Int)) : List Value := l.flatMap (fun p => [.int .i64 p.1, .int .i64 p.2])
def kdUpto (t : Nat) : List (Int × Int) := (allKD.take t).filter okKD
def kdList : List (Int × Int) := (1, 0) :: ((List.range 15).map fun (d : Nat) => ((2 : Int), (d : Int) + 2)) ++ ((List.range 6).map fun (k : Nat) => ((k : Int) + 3, (0 : Int)))

theorem kdUpto_all : kdUpto 136 = kdList := by decide +kernel
theorem kd_at (i d : Nat) (hi : i < 8) (hd : d < 17) : allKD[i * 17 + d]? = some ((i : Int) + 1, (d : Int)) := by
  have : ∀ i : Fin 8, ∀ d : Fin 17, allKD[i.val * 17 + d.val]? = some ((i.val : Int) + 1, (d.val : Int)) := by decide +kernel
  exact this ⟨i, hi⟩ ⟨d, hd⟩
theorem kdUpto_succ (i d : Nat) (hi : i < 8) (hd : d < 17) : kdUpto (i * 17 + d + 1) = kdUpto (i * 17 + d) ++ (if chk ((i : Int) + 1) d = 0 then [((i : Int) + 1, (d : Int))] else []) := by
  unfold kdUpto
  have h := kd_at i d hi hd
  rw [List.take_add_one, h]
  simp only [Option.toList, List.filter_append]
  congr 1
  by_cases hc : chk ((i : Int) + 1) d = 0 <;> simp [okKD, hc]
theorem kdUpto_len (t : Nat) : (kdUpto t).length ≤ 136 := by
  unfold kdUpto
  have h1 := List.length_filter_le okKD (allKD.take t)
  have h2 : (allKD.take t).length ≤ 136 := by rw [List.length_take]; have : allKD.length = 136 := by decide +kernel
                                              omega
  omega
theorem kdCells_append (a b : List (Int × Int)) : kdCells (a ++ b) = kdCells a ++ kdCells b := by unfold kdCells; rw [List.flatMap_append]
theorem kdCells_len (a : List (Int × Int)) : (kdCells a).length = a.length * 2 := by
  induction a with
  | nil => rfl
  | cons x r ih => simp only [kdCells, List.flatMap_cons, List.length_append] at *; simp [ih]; omega

theorem cfgInfo : (Try.prog.info? 23).map (fun i => (i.zero, i.size, i.bytes)) = some (some (.agg #[.int .i64 0, .int .i64 0]), 2, 16) := by kernel_rfl

set_option maxHeartbeats 1000000 in
theorem kinds_any (w : World) : Calls Try.prog 20 #[] w fun e w' => ∃ v, e = .returned v ∧ w'.ownsRow w.heap.size 23 2 v 22 (kdCells kdList) ∧ Upd [] w w' := by
  go_enter Try.func20, Try.ntmps20
  go_wp2
  go_loopw [1, 2] (fun o k wr => ∃ i : Nat, i ≤ 8 ∧ k = .int .i64 ((i : Int) + 1) ∧ wr.ownsRow w.heap.size 23 2 o (kdUpto (i * 17)).length (kdCells (kdUpto (i * 17))) ∧ Upd [] w wr) (fun _ k _ => 9 - (intOf k).toNat)
  case atStart => exact ⟨0, by omega, rfl, World.ownsRow_nil _ _ _ _, Upd.refl _ _⟩
  case round =>
    obtain ⟨i, hi, rfl, hown, hu⟩ := hrel
    by_cases hlt : i < 8
    · obtain ⟨wo, rfl⟩ : ∃ wo : World, wo = wr := ⟨_, rfl⟩
      have hdec : decide ((i : Int) + 1 ≤ 8) = true := decide_eq_true (by omega)
      go_wp2
      go_loopw [1, 9] (fun o k wr => ∃ d : Nat, d ≤ 17 ∧ k = .int .i64 (d : Int) ∧ wr.ownsRow w.heap.size 23 2 o (kdUpto (i * 17 + d)).length (kdCells (kdUpto (i * 17 + d))) ∧ Upd [] w wr) (fun _ k _ => 17 - (intOf k).toNat)
      case atStart => exact ⟨0, by omega, rfl, hown, hu⟩
      case round =>
        obtain ⟨d, hd, rfl, hown, hu⟩ := hrel
        by_cases hdl : d < 17
        · have hs := kdUpto_succ i d hlt hdl
          have hl := kdUpto_len (i * 17 + d)
          by_cases hc : chk ((i : Int) + 1) d = 0
          · rw [if_pos hc] at hs
            have HS := Lib.hid hs
            clear hs
            have c0 : ∀ W, Upd [] (wr.alloc (.cells #[.int .i64 ((i : Int) + 1), .int .i64 (d : Int)] 23)) W → W.cell? ⟨wr.heap.size, 0, none⟩ = some (.int .i64 ((i : Int) + 1)) := fun W hq => hq.was (by simp)
            have c1 : ∀ W, Upd [] (wr.alloc (.cells #[.int .i64 ((i : Int) + 1), .int .i64 (d : Int)] 23)) W → W.cell? ⟨wr.heap.size, 1, none⟩ = some (.int .i64 (d : Int)) := fun W hq => hq.was (by simp)
            go_wp2_with (first
              | (go_at_call 13; refine (check_any _ _ _).mono ?_; rintro e w1 ⟨rfl, hq⟩)
              | (at_builtin; refine wpList_append_one rfl _ _ 36 rfl w.heap.size 23 (.agg #[.int .i64 0, .int .i64 0]) 2 16 Try.underlying36 cfgInfo rfl (by decide) _ _ _ rfl (owns_upd (hown.alloc (.cells #[.int .i64 ((i : Int) + 1), .int .i64 (d : Int)] 23)) hq (by simp)) [.int .i64 ((i : Int) + 1), .int .i64 (d : Int)] rfl (by simp [Value.oneCell']) rfl (by unfold maxLen; omega) (by omega) ((hu.alloc _).trans hq).size ?_; intro v' w2 hown2 hu2))
            have hu3 := ((hu.alloc _).trans hq).own (owns_upd (hown.alloc (.cells #[.int .i64 ((i : Int) + 1), .int .i64 (d : Int)] 23)) hq (by simp)) (Nat.le_refl _) hu2
            go_roundw
            case rel => exact ⟨d + 1, by omega, by go_num, by rw [show i * 17 + (d + 1) = i * 17 + d + 1 by omega, HS.out, kdCells_append, List.length_append]; exact hown2, hu3⟩
            case measure => simp [intOf]; omega
          · rw [if_neg hc] at hs
            have HS := Lib.hid hs
            clear hs
            go_wp2_with (go_at_call 13; refine (check_any _ _ _).mono ?_; rintro e w1 ⟨rfl, hq⟩)
            go_roundw
            case rel => exact ⟨d + 1, by omega, by go_num, by rw [show i * 17 + (d + 1) = i * 17 + d + 1 by omega, HS.out, List.append_nil]; exact owns_upd (hown.alloc _) hq (by simp), (hu.alloc _).trans hq⟩
            case measure => simp [intOf]; omega
        · obtain rfl : d = 17 := by omega
          go_wp2
          go_roundw
          case rel => exact ⟨i + 1, by omega, by go_num, by rw [show (i + 1) * 17 = i * 17 + 17 by omega]; exact hown, hu⟩
          case measure => simp [intOf]; omega
    · obtain rfl : i = 8 := by omega
      go_wp2
      go_ret
      refine ⟨_, rfl, ?_, hu⟩
      have e1 : kdUpto (8 * 17) = kdList := kdUpto_all
      have e2 : kdList.length = 22 := by decide +kernel
      rw [e1, e2] at hown
      exact hown

set_option maxHeartbeats 1000000 in
theorem rkinds_any (w : World) : Calls Try.prog 21 #[] w fun e w' => ∃ v, e = .returned v ∧ w'.ownsRow w.heap.size 23 2 v 22 (kdCells kdList) ∧ Upd [] w w' := by
  have e1 : (1 :: List.range 0) = [1] := rfl
  clear e1
  go_enter Try.func21, Try.ntmps21
  go_wp2
  go_loopw [1, 2] (fun o k wr => ∃ i : Nat, i ≤ 15 ∧ k = .int .i64 ((i : Int) + 2) ∧ wr.ownsRow w.heap.size 23 2 o (i + 1) (kdCells (kdList.take (i + 1))) ∧ Upd [] w wr) (fun _ k _ => 17 - (intOf k).toNat)
  case atStart =>
    refine ⟨0, by omega, rfl, ⟨rfl, .inr ⟨_, 1, #[.int .i64 1, .int .i64 0], rfl, Nat.le_refl _, ?_, by omega, by unfold maxLen; omega, rfl, rfl⟩⟩, (Upd.refl _ _).alloc _⟩
    show (w.heap.push _)[w.heap.size]? = _
    simp
  case round =>
    obtain ⟨i, hi, rfl, hown, hu⟩ := hrel
    by_cases hlt : i < 15
    · have hs : kdCells (kdList.take (i + 1 + 1)) = kdCells (kdList.take (i + 1)) ++ [.int .i64 2, .int .i64 ((i : Int) + 2)] := by
        rw [List.take_add_one, kdCells_append]
        congr 1
        have : ∀ i : Fin 15, kdList[i.val + 1]? = some (2, (i.val : Int) + 2) := by decide +kernel
        rw [this ⟨i, hlt⟩]; rfl
      have HS := Lib.hid hs
      clear hs
      go_wp2_with (at_builtin; refine wpList_append_one rfl _ _ 36 rfl w.heap.size 23 (.agg #[.int .i64 0, .int .i64 0]) 2 16 Try.underlying36 cfgInfo rfl (by decide) _ _ _ rfl hown [.int .i64 2, .int .i64 ((i : Int) + 2)] rfl (by simp [Value.oneCell']) rfl (by unfold maxLen; omega) (by omega) hu.size ?_; intro v' w2 hown2 hu2)
      have hu3 := hu.own hown (Nat.le_refl _) hu2
      go_roundw
      case rel => exact ⟨i + 1, by omega, by go_num, by rw [HS.out]; exact hown2, hu3⟩
      case measure => simp [intOf]; omega
    · have hdec : decide ((i : Int) + 2 ≤ 16) = false := decide_eq_false (by omega)
      have h15 : i = 15 := by omega
      rw [h15] at hown
      have H15 := Lib.hid h15
      clear h15
      go_wp2
      go_loopw [1, 3] (fun o k wr => ∃ i : Nat, i ≤ 6 ∧ k = .int .i64 ((i : Int) + 3) ∧ wr.ownsRow w.heap.size 23 2 o (i + 16) (kdCells (kdList.take (i + 16))) ∧ Upd [] w wr) (fun _ k _ => 9 - (intOf k).toNat)
      case atStart => exact ⟨0, by omega, rfl, hown, hu⟩
      case round =>
        obtain ⟨i, hi, rfl, hown, hu⟩ := hrel
        by_cases hlt : i < 6
        · have hs : kdCells (kdList.take (i + 16 + 1)) = kdCells (kdList.take (i + 16)) ++ [.int .i64 ((i : Int) + 3), .int .i64 0] := by
            rw [List.take_add_one, kdCells_append]
            congr 1
            have : ∀ i : Fin 6, kdList[i.val + 16]? = some ((i.val : Int) + 3, 0) := by decide +kernel
            rw [this ⟨i, hlt⟩]; rfl
          have HS := Lib.hid hs
          clear hs
          go_wp2_with (at_builtin; refine wpList_append_one rfl _ _ 36 rfl w.heap.size 23 (.agg #[.int .i64 0, .int .i64 0]) 2 16 Try.underlying36 cfgInfo rfl (by decide) _ _ _ rfl hown [.int .i64 ((i : Int) + 3), .int .i64 0] rfl (by simp [Value.oneCell']) rfl (by unfold maxLen; omega) (by omega) hu.size ?_; intro v' w2 hown2 hu2)
          have hu3 := hu.own hown (Nat.le_refl _) hu2
          go_roundw
          case rel => exact ⟨i + 1, by omega, by go_num, by rw [show i + 1 + 16 = i + 16 + 1 by omega, HS.out]; exact hown2, hu3⟩
          case measure => simp [intOf]; omega
        · obtain rfl : i = 6 := by omega
          go_wp2
          go_ret
          refine ⟨_, rfl, ?_, hu⟩
          have e2 : kdList.take (6 + 16) = kdList := by decide +kernel
          rw [e2] at hown
          exact hown

theorem kd_cells (k : Nat) (hk : k < 22) : ∃ a b : Int, (kdCells kdList)[k * 2]? = some (.int .i64 a) ∧ (kdCells kdList)[k * 2 + 1]? = some (.int .i64 b) := by
  have hl : kdList.length = 22 := by decide +kernel
  obtain ⟨⟨a, b⟩, hp⟩ : ∃ p : Int × Int, kdList[k]? = some p := ⟨kdList[k]'(by omega), by simp⟩
  have gen : ∀ (l : List (Int × Int)) (k : Nat), l[k]? = some (a, b) → (kdCells l)[k * 2]? = some (.int .i64 a) ∧ (kdCells l)[k * 2 + 1]? = some (.int .i64 b) := by
    intro l
    induction l with
    | nil => intro k h; simp at h
    | cons x r ih =>
      intro k h
      cases k with
      | zero => simp at h; subst h; exact ⟨rfl, rfl⟩
      | succ k =>
        have := ih k (by simpa using h)
        have e1 : (k + 1) * 2 = k * 2 + 2 := by omega
        rw [e1]
        simpa [kdCells] using this
  exact ⟨a, b, gen _ _ hp⟩

set_option maxHeartbeats 1000000 in
theorem gaugeNames_any (w : World) : Calls Try.prog 5 #[] w fun e w' => e = .returned (.bool true) ∧ Upd [] w w' := by
  have ck1 : chk 9 0 = 21 := by decide
  have ck2 : chk 2 17 = 22 := by decide
  go_enter Try.func5, Try.ntmps5
  go_wp2_with (first
    | (go_at_call 20; refine (kinds_any _).mono ?_; rintro e w1 ⟨v1, rfl, ho1, hu1⟩)
    | (go_at_call 21; refine (rkinds_any _).mono ?_; rintro e w2 ⟨v2, rfl, ho2, hu2⟩; obtain ⟨g1, c1, rfl, hg1, hl1, hn1, hc1, hx1, hf1⟩ := own_shape (owns_upd ho1 hu2 (by simp)) (by omega); obtain ⟨g2, c2, rfl, hg2, hl2, hn2, hc2, hx2, hf2⟩ := own_shape ho2 (by omega)))
  have hs1 := hu1.size
  have hs2 := hu2.size
  go_loopw [13] (fun i wr => ∃ k : Nat, k ≤ 22 ∧ i = .int .i64 k ∧ Upd [] w2 wr) (fun i _ => 22 - (intOf i).toNat)
  case atStart => exact ⟨0, by omega, rfl, Upd.refl _ _⟩
  case round =>
    obtain ⟨k, hk, rfl, hu⟩ := hrel
    by_cases hlt : k < 22
    · obtain ⟨a, b, ha, hb⟩ := kd_cells k hlt
      have x1 : wr.cell? ⟨g1, k * 2, none⟩ = some (.int .i64 a) := hu.was (hx1 _ _ ha)
      have x2 : wr.cell? ⟨g1, k * 2 + 1, none⟩ = some (.int .i64 b) := hu.was (hx1 _ _ hb)
      have y1 : wr.cell? ⟨g2, k * 2, none⟩ = some (.int .i64 a) := hu.was (hx2 _ _ ha)
      have y2 : wr.cell? ⟨g2, k * 2 + 1, none⟩ = some (.int .i64 b) := hu.was (hx2 _ _ hb)
      clear ha hb hx1 hx2 hf1 hf2 ho1 ho2
      go_wp2
      go_quiet (fail)
      go_wp2
      go_roundw
      case rel => exact ⟨k + 1, by omega, by go_num, hu.drewN _⟩
      case measure => simp [intOf]; omega
    · have hu3 := (hu1.trans hu2).trans hu
      clear hx1 hx2 hf1 hf2 ho1 ho2
      go_wp2_with (first | (go_at_call 12; refine (galive_any _).mono ?_; rintro e w' ⟨rfl, hb⟩; have hq : Upd [] (wr) w' := (by first | exact hb | (apply Upd.trans; rotate_left; assumption; assumption))) | (go_at_call 13; refine (check_any _ _ _).mono ?_; rintro e w' ⟨rfl, hb⟩; have hq : Upd [] (wr) w' := (by first | exact hb | (apply Upd.trans; rotate_left; assumption; assumption))))
      go_ret
      exact ⟨rfl, by (repeat (first | assumption | exact Upd.refl _ _ | refine Upd.alloc ?_ _ | refine Upd.drew ?_ | (apply Upd.trans; rotate_left; assumption)))⟩

end Go.Proofs.Ytdgfibcbnlkbpaa
