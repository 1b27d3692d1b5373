/-
  The law on all that is hung, cut and turned in layer 9: its walk. Conditions: arguments that came in.
-/
import Derived.Test.YtdgfibcbnlkbpaaActs
import Derived.Test.YtdgfibcbnlkbpaaSpineAll
set_option linter.unusedVariables false
set_option linter.unusedSimpArgs false
namespace Go.Proofs.Ytdgfibcbnlkbpaa
open Go Go.RowKit

set_option maxHeartbeats 2000000 in
theorem runs_long (n : Nat) (a : Option Addr) (len cap : Nat) (w : World) (hn : n < 256) (hl : 60 < len) (hm : len ≤ 9223372036854775807) :
    Calls Try.prog 11 #[.int .u8 (n : Int), .slice a len cap] w fun e w' => e = .returned (.bool true) ∧ Upd [] w w' := by
  obtain ⟨k, hk, hk2⟩ : ∃ k : Nat, (n : Int) % 24 = k ∧ k < 24 := ⟨n % 24, by omega, by omega⟩
  have kN := fun W => spineNew_yes k W (by omega)
  go_enter Try.func11, Try.ntmps11
  go_wp2_with (first
    | ((go_at_call 28; (with_reducible refine (salive_any _).mono ?_)); rintro e w1 ⟨rfl, hu1⟩)
    | ((go_at_call 29; (with_reducible refine (kN _).mono ?_)); rintro e w2 ⟨bt, ba, rfl, hT2, hu2, hb1, hb2⟩))
  go_ret
  exact ⟨by first | rfl | exact ret_bool (by simp; omega), by (repeat (first | assumption | exact Upd.refl _ _ | refine Upd.alloc ?_ _ | refine Upd.drew ?_ | refine Upd.drewN ?_ _ | refine Upd.setCell ?_ (Or.inr (by first | (simp; done) | (simp; omega))) _ | (apply Upd.trans; rotate_left; assumption)))⟩

/-- What holds ahead of each round of the laws' loops on acts. -/
def RunsI (bt ba k B8 : Nat) (w wr : World) : Prop := ∃ (S : TS) (l : List Hg) (a1 : Option Addr) (n1 c1 : Nat), TreesAt wr bt ba k S ∧ Rel k S l ∧ LstAt wr (B8 + 1) (.slice a1 n1 c1) l.length (hgCells l) ∧
  RowAt wr B8 52 2 (fun q => [Value.int .i64 (k : Int), .slice a1 n1 c1].getD q undef) ∧ Upd [] w wr ∧ B8 < wr.heap.size

set_option maxHeartbeats 4000000 in
theorem runs_ok (n : Nat) (v : Value) (len : Nat) (kd p x : Nat → Int) (r : Nat → Bool) (w : World) (hn : n < 256) (hl : len ≤ 60) (hA : ActsAt w v len kd p x r) :
    Calls Try.prog 11 #[.int .u8 (n : Int), v] w fun e w' => e = .returned (.bool true) ∧ Upd [] w w' := by
  obtain ⟨k, hk, hk2⟩ : ∃ k : Nat, (n : Int) % 24 = k ∧ k < 24 := ⟨n % 24, by omega, by omega⟩
  have kN := fun W => spineNew_yes k W (by omega)
  obtain ⟨a, cap, rfl, _, hp⟩ := hA
  have HP := Lib.hid hp
  clear hp
  go_enter Try.func11, Try.ntmps11
  go_wp2_with (first
    | ((go_at_call 28; (with_reducible refine (salive_any _).mono ?_)); rintro e w1 ⟨rfl, hu1⟩)
    | ((go_at_call 29; (with_reducible refine (kN _).mono ?_)); rintro e w2 ⟨bt, ba, rfl, hT2, hu2, hb1, hb2⟩))
  have hb3 := hT2.row.lt
  have hb4 := hT2.head.lt
  have hu0 : Upd [] w w2 := hu1.trans hu2
  have hrow := rowAt_new w2 [.int .i64 (k : Int), .slice none 0 0] 52
  have hI0 : RunsI bt ba k w2.heap.size w (w2.alloc (.cells #[.int .i64 (k : Int), .slice none 0 0] 52)) :=
    ⟨TS.none, [], none, 0, 0, hT2.upd ((Upd.refl [] _).alloc _) (by simp) (by simp), rel_none k, Or.inl ⟨rfl, rfl, rfl⟩, hrow, hu0.alloc _, by simp⟩
  have hw1 := hu1.size
  have hw12 := hu2.size
  clear hT2 hrow hu0 hu1 hu2 hk kN
  generalize w2.heap.size = B8 at *
  go_loopw [42] (fun i wr => ∃ j : Nat, j ≤ len ∧ i = .int .i64 j ∧ RunsI bt ba k B8 w wr) (fun i _ => len - (intOf i).toNat)
  case atStart => exact ⟨0, by omega, rfl, hI0⟩
  case round =>
    obtain ⟨j, hj, rfl, hI⟩ := hrel
    by_cases hlt : j < len
    · obtain ⟨S, l, a1, n1, c1, hT, hR, hL, hrow, hu, hsz⟩ := hI
      obtain ⟨b, off, rfl, hbw, hx⟩ := HP.out (by omega)
      obtain ⟨x0, x1, x2, x3⟩ := hx j hlt
      have y0 := hu.was x0
      have y1 := hu.was x1
      have y2 := hu.was x2
      have y3 := hu.was x3
      clear hx x0 x1 x2 x3
      have hbab : ba < B8 := hb3
      have hbtb : bt < B8 := hb4
      have g0 := hrow.cellAt 0 (by omega) rfl
      have g1 := hrow.cellAt 1 (by omega) rfl
      have kD := do_any bt ba k (B8 + 1) S l (.slice a1 n1 c1) (wr.alloc (.cells #[.int .i64 (kd j), .int .i64 (p j), .int .i64 (x j), .bool (r j)] 54)) (kd j) (p j) (x j) (r j) (hT.upd ((Upd.refl [] _).alloc _) (by simp) (by simp)) hR (hL.upd ((Upd.refl [] _).alloc _) (by simp)) (by omega) (by simp; omega) (by omega)
      have HS : Hid (∀ v3 S3 l3 a3 n3 c3 w3, v3 = Value.slice a3 n3 c3 → TreesAt w3 bt ba k S3 → Rel k S3 l3 → LstAt w3 (B8 + 1) v3 l3.length (hgCells l3) → B8 < w3.heap.size → ∀ W, Upd [] (((w3.setCell ⟨B8, 0, none⟩ (.int .i64 (k : Int))).setCell ⟨B8, 1, none⟩ (.slice a3 n3 c3)).alloc (.cells #[.int .i64 (k : Int), .slice a3 n3 c3] 52)) W → ∀ z : Int, Calls Try.prog 41 #[.pointer (some ⟨bt, 0, none⟩), .agg #[.int .i64 (k : Int), .slice a3 n3 c3], .int .i64 z] W (fun e w' => e = .returned (.bool true) ∧ Upd [] W w')) := by
        intro v3 S3 l3 a3 n3 c3 w3 e3 h1 h2 h3 h4 W hW z
        subst e3
        have hu : Upd [B8] w3 W := ((((Upd.refl [B8] w3).setCell (Or.inl (by simp)) _).setCell (Or.inl (by simp)) _).alloc _).then hW
        exact same_law bt ba k (B8 + 1) S3 l3 (.slice a3 n3 c3) W z (h1.upd hu (by simp; omega) (by simp; omega)) h2 (h3.upd hu (fun q hq => Or.inl (by simp at hq; omega))) (by omega)
      go_wp2_with (first
        | ((go_at_call 36; (with_reducible refine kD.mono ?_)); rintro e w3 ⟨v3, S3, l3, rfl, hT3, hR3, hL3, hU3⟩; obtain ⟨a3, c3, e3, _⟩ := hL3.open; generalize hn3 : l3.length = n3 at e3; (have HS3 := Lib.hid (fun W hW z => HS.out v3 S3 l3 a3 n3 c3 w3 e3 hT3 hR3 hL3 (by have := hU3.size; simp at this; omega) W hW z)); (have HE3 := Lib.hid e3); (have HN3 := Lib.hid hn3); subst e3; clear hn3; have row3 := hrow.upd ((Upd.refl [ba] wr).alloc _ |>.trans hU3) (by simp; omega); have q0 := row3.cellAt 0 (by omega) rfl; have q1 := row3.cellAt 1 (by omega) rfl; have q2 := row3.free 0; have q3 := row3.free 1; have sz3 : wr.heap.size < w3.heap.size := by { have := hU3.size; simp at this; omega }; have m1 : w3.cell? ⟨wr.heap.size, 1, none⟩ = some (.int .i64 (p j)) := by { rw [hU3.cell (by simp) (by simp; omega)]; simp }; have m2 : w3.cell? ⟨wr.heap.size, 2, none⟩ = some (.int .i64 (x j)) := by { rw [hU3.cell (by simp) (by simp; omega)]; simp }; have hne : wr.heap.size ≠ B8 := (by omega); have hne2 : B8 ≠ wr.heap.size := (by omega); have hlt3 : B8 < w3.heap.size := (by omega))
        | ((go_at_call 41; (with_reducible refine (HS3.out _ (Upd.refl [] _) (x j)).mono ?_)); rintro e w6 ⟨rfl, hb6⟩; have row6 := ((((row3.set 0 (.int .i64 (k : Int))).set 1 (.slice a3 n3 c3)).upd ((Upd.refl [] _).alloc _) (by simp)).upd hb6 (by simp)); have n0 : w6.cell? ⟨B8, 0, none⟩ = some (.int .i64 (k : Int)) := row6.cellAt 0 (by omega) (by simp); have n1 : w6.cell? ⟨B8, 1, none⟩ = some (.slice a3 n3 c3) := row6.cellAt 1 (by omega) (by simp); have hu36 : Upd [B8] w3 w6 := ((((Upd.refl [B8] w3).setCell (Or.inl (by simp)) _).setCell (Or.inl (by simp)) _).alloc _).then hb6; have n2 : w6.cell? ⟨wr.heap.size, 1, none⟩ = some (.int .i64 (p j)) := by { rw [hu36.cell (by simp; omega) (by simp; omega)]; exact m1 })
        | ((go_at_call 41; (with_reducible refine (HS3.out _ hb6 (p j)).mono ?_)); rintro e w7 ⟨rfl, hb7⟩))
      go_roundw
      case rel =>
        have hu57 := hb6.trans hb7
        have hu37 : Upd [B8] w3 w7 := ((((Upd.refl [B8] w3).setCell (Or.inl (by simp)) _).setCell (Or.inl (by simp)) _).alloc _).then hu57
        have hur3 : Upd [ba] wr w3 := (Upd.refl [ba] wr).alloc _ |>.trans hU3
        refine ⟨j + 1, by omega, by go_num, S3, l3, a3, n3, c3, hT3.upd hu37 (by simp; omega) (by simp; omega), hR3, ?_, ?_, ?_, ?_⟩
        · have h1 : LstAt w3 (B8 + 1) (.slice a3 n3 c3) l3.length (hgCells l3) := hL3
          exact h1.upd hu37 (fun q hq => Or.inl (by simp at hq; omega))
        · exact ((((row3.set 0 (.int .i64 (k : Int))).set 1 (.slice a3 n3 c3)).upd ((Upd.refl [] _).alloc _) (by simp)).upd hu57 (by simp)).ext (fun q hq => by
            rcases (show q = 0 ∨ q = 1 by omega) with rfl | rfl <;> simp)
        · exact (hu.joined hur3 (fun q hq => Or.inr (by simp at hq; omega))).joined hu37 (fun q hq => Or.inr (by simp at hq; omega))
        · have := hu37.size; omega
      case measure => simp [intOf]; omega
    · obtain rfl : j = len := by omega
      obtain ⟨S, l, a1, n1, c1, hT, hR, hL, hrow, hu, hsz⟩ := hI
      obtain ⟨W1, hW1⟩ : ∃ W1, W1 = wr := ⟨_, rfl⟩
      subst hW1
      have r0 : ∀ W, Upd [] W1 W → W.cell? ⟨B8, 0, none⟩ = some (.int .i64 (k : Int)) := fun W h => (hrow.upd h (by simp)).cellAt 0 (by omega) rfl
      have r1 : ∀ W, Upd [] W1 W → W.cell? ⟨B8, 1, none⟩ = some (.slice a1 n1 c1) := fun W h => (hrow.upd h (by simp)).cellAt 1 (by omega) rfl
      have HT := Lib.hid (fun W (h : Upd [] W1 W) => hT.upd h (by simp) (by simp))
      have HL := Lib.hid (fun W (h : Upd [] W1 W) => hL.upd h (by simp))
      clear hT hL hrow HP hlt
      go_wp2
      go_loopw [13] (fun i wq => ∃ z : Nat, z ≤ k ∧ i = .int .i64 z ∧ Upd [] W1 wq) (fun i _ => k - (intOf i).toNat)
      case atStart => exact ⟨0, by omega, rfl, Upd.refl _ _⟩
      case round =>
        obtain ⟨z, hz, rfl, hq⟩ := hrel
        by_cases hzk : z < k
        · have kSm := fun W (h : Upd [] W1 W) => same_law bt ba k (B8 + 1) S l (.slice a1 n1 c1) W z (HT.out W h) hR (HL.out W h) (by omega)
          have kA := fun W (h : Upd [] W1 W) => all_law bt ba k S l z W (HT.out W h) hR (by omega) (by have := allL_len hR.snd z (by omega); omega)
          have kRA := fun W (h : Upd [] W1 W) => rall_any k (.slice a1 n1 c1) l (B8 + 1) (by omega) k z W (by omega) (HL.out W h) (by have := allL_len hR.snd z (by omega); omega)
          have kSp := fun W (h : Upd [] W1 W) => spine_law bt ba k S l z W (HT.out W h) hR (by omega) (by omega)
          have kRS := fun W (h : Upd [] W1 W) => rspine_any W (B8 + 1) k z (.slice a1 n1 c1) l (HL.out W h) (by omega)
          generalize allL k l k z = ZA at *
          generalize spineL k l k z = ZS at *
          go_wp2
          go_region_held3 (fun W => Upd [] W1 W) (first | assumption | (refine Upd.drew ?_; first | assumption | exact Upd.refl _ _) | (apply Upd.trans; rotate_left; assumption; assumption))
            (first
              | ((go_at_call 41; (with_reducible refine (kSm _ hq.drew).mono ?_)); rintro e w1 ⟨rfl, hb1⟩; have hq1 : Upd [] W1 w1 := hq.drew.trans hb1)
              | ((go_at_call 34; (with_reducible refine (kA _ hq1).mono ?_)); rintro e w2 ⟨v2, rfl, ho2, hb2⟩; have hq2 : Upd [] W1 w2 := hq1.trans hb2)
              | ((go_at_call 42; (with_reducible refine (kRA _ hq2).mono ?_)); rintro e w3 ⟨v3, rfl, ho3, hb3⟩; have hq3 : Upd [] W1 w3 := hq2.trans hb3)
              | ((go_at_call 40; (with_reducible refine (rsame_true _ 0 v2 v3 ZA (((LstAt.of_owns ho2).mono (Nat.zero_le _)).upd hb3 (by simp)) (ho3.lst.mono (Nat.zero_le _))).mono ?_)); rintro e w4 ⟨rfl, k4, rfl⟩; have hq4 := hq3.drewN k4)
              | ((go_at_call 35; (with_reducible refine (kSp _ hq4).mono ?_)); rintro e w5 ⟨v5, rfl, ho5, hb5⟩; have hq5 : Upd [] W1 w5 := hq4.trans hb5)
              | ((go_at_call 43; (with_reducible refine (kRS _ hq5).mono ?_)); rintro e w6 ⟨v6, rfl, ho6, hb6⟩; have hq6 : Upd [] W1 w6 := hq5.trans hb6)
              | ((go_at_call 40; (with_reducible refine (rsame_true _ 0 v5 v6 ZS (((LstAt.of_owns ho5).mono (Nat.zero_le _)).upd hb6 (by simp)) (ho6.lst.mono (Nat.zero_le _))).mono ?_)); rintro e w7 ⟨rfl, k7, rfl⟩; have hq7 := hq6.drewN k7))
          go_wp2
          go_roundw
          case rel => exact ⟨z + 1, by omega, by go_num, by (repeat (first | assumption | exact Upd.refl _ _ | refine Upd.alloc ?_ _ | refine Upd.drew ?_ | refine Upd.drewN ?_ _ | refine Upd.setCell ?_ (Or.inr (by first | (simp; done) | (simp; omega))) _ | (apply Upd.trans; rotate_left; assumption)))⟩
          case measure => simp [intOf]; omega
        · go_wp2
          go_ret
          exact ⟨rfl, hu.trans hq⟩
theorem runs_any (n : Int) (v : Value) (len : Nat) (kd p x : Nat → Int) (r : Nat → Bool) (w : World) (hn : (Lit.int .u8 n).wf = true) (hA : ActsAt w v len kd p x r) :
    Calls Try.prog 11 #[.int .u8 n, v] w fun e w' => e = .returned (.bool true) ∧ Upd [] w w' := by
  have hb : 0 ≤ n ∧ n < 256 := by simp [Lit.wf, IntKind.min, IntKind.max, IntKind.signed, IntKind.bits] at hn; omega
  obtain ⟨m, rfl⟩ : ∃ m : Nat, n = m := ⟨n.toNat, by omega⟩
  by_cases hl : len ≤ 60
  · exact runs_ok m v len kd p x r w (by omega) hl hA
  · obtain ⟨a, cap, rfl, hm, _⟩ := hA
    exact runs_long m a len cap w (by omega) (by omega) (by unfold maxLen at hm; omega)

end Go.Proofs.Ytdgfibcbnlkbpaa
