/-
  The law on what is cut and hung again where it was in layer 9: its walk. Conditions: arguments that came in.
-/
import Derived.Test.YtdgfibcbnlkbpaaSpineRuns
import Derived.Test.YtdgfibcbnlkbpaaSpineBackP
set_option linter.unusedVariables false
set_option linter.unusedSimpArgs false
namespace Go.Proofs.Ytdgfibcbnlkbpaa
open Go Go.RowKit

set_option maxRecDepth 100000 in
set_option maxHeartbeats 2000000 in
theorem back_long (n : Nat) (a : Option Addr) (len cap : Nat) (w : World) (xx : Int) (hn : n < 256) (hl : 60 < len) (hm : len ≤ 9223372036854775807) :
    Calls Try.prog 10 #[.int .u8 (n : Int), .slice a len cap, .int .i64 xx] w fun e w' => e = .returned (.bool true) ∧ Upd [] w w' := by
  obtain ⟨k, hk, hk2⟩ : ∃ k : Nat, (n : Int) % 24 = k ∧ k < 24 := ⟨n % 24, by omega, by omega⟩
  have kN := fun W => spineNew_yes k W (by omega)
  go_enter Try.func10, Try.ntmps10
  go_wp2_with (first
    | ((go_at_call 28; (with_reducible refine (salive_any _).mono ?_)); rintro e w1 ⟨rfl, hu1⟩)
    | ((go_at_call 29; (with_reducible refine (kN _).mono ?_)); rintro e w2 ⟨bt, ba, rfl, hT2, hu2, hb1, hb2⟩))
  go_ret
  exact ⟨by first | rfl | exact ret_bool (by simp; omega), by (repeat (first | assumption | exact Upd.refl _ _ | refine Upd.alloc ?_ _ | refine Upd.drew ?_ | refine Upd.drewN ?_ _ | refine Upd.setCell ?_ (Or.inr (by first | (simp; done) | (simp; omega))) _ | (apply Upd.trans; rotate_left; assumption)))⟩

set_option maxRecDepth 100000 in
set_option maxHeartbeats 4000000 in
theorem back_ok (n : Nat) (v : Value) (len : Nat) (kd p x : Nat → Int) (r : Nat → Bool) (w : World) (xx : Int) (hn : n < 256) (hl : len ≤ 60) (hA : ActsAt w v len kd p x r) :
    Calls Try.prog 10 #[.int .u8 (n : Int), v, .int .i64 xx] w fun e w' => e = .returned (.bool true) ∧ Upd [] w w' := by
  obtain ⟨k, hk, hk2⟩ : ∃ k : Nat, (n : Int) % 24 = k ∧ k < 24 := ⟨n % 24, by omega, by omega⟩
  have kN := fun W => spineNew_yes k W (by omega)
  obtain ⟨a, cap, rfl, _, hp⟩ := hA
  have HP := Lib.hid hp
  clear hp
  go_enter Try.func10, Try.ntmps10
  go_wp2_with (first
    | ((go_at_call 28; (with_reducible refine (salive_any _).mono ?_)); rintro e w1 ⟨rfl, hu1⟩)
    | ((go_at_call 29; (with_reducible refine (kN _).mono ?_)); rintro e w2 ⟨bt, ba, rfl, hT2, hu2, hb1, hb2⟩))
  have hb3 := hT2.row.lt
  have hb4 := hT2.head.lt
  have hu0 : Upd [] w w2 := hu1.trans hu2
  have hrow := rowAt_new w2 [.int .i64 (k : Int), .slice none 0 0] 52
  have hI0 : RunsI bt ba k w2.heap.size w (w2.alloc (.cells #[.int .i64 (k : Int), .slice none 0 0] 52)) :=
    ⟨TS.none, [], none, 0, 0, hT2.upd ((Upd.refl [] _).alloc _) (by simp) (by simp), rel_none k, Or.inl ⟨rfl, rfl, rfl⟩, hrow, hu0.alloc _, by simp⟩
  have hw1 := hu1.size
  have hw12 := hu2.size
  clear hT2 hrow hu0 hu1 hu2 hk kN
  generalize w2.heap.size = B8 at *
  go_loopw [53] (fun i wr => ∃ j : Nat, j ≤ len ∧ i = .int .i64 j ∧ RunsI bt ba k B8 w wr) (fun i _ => len - (intOf i).toNat)
  case atStart => exact ⟨0, by omega, rfl, hI0⟩
  case round =>
    obtain ⟨j, hj, rfl, hI⟩ := hrel
    by_cases hlt : j < len
    · obtain ⟨S, l, a1, n1, c1, hT, hR, hL, hrow, hu, hsz⟩ := hI
      obtain ⟨b, off, rfl, hbw, hx⟩ := HP.out (by omega)
      obtain ⟨x0, x1, x2, x3⟩ := hx j hlt
      have y0 := hu.was x0
      have y1 := hu.was x1
      have y2 := hu.was x2
      have y3 := hu.was x3
      clear hx x0 x1 x2 x3
      have hbab : ba < B8 := hb3
      have hbtb : bt < B8 := hb4
      have g0 := hrow.cellAt 0 (by omega) rfl
      have g1 := hrow.cellAt 1 (by omega) rfl
      have kD := do_any bt ba k (B8 + 1) S l (.slice a1 n1 c1) (wr.alloc (.cells #[.int .i64 (kd j), .int .i64 (p j), .int .i64 (x j), .bool (r j)] 54)) (kd j) (p j) (x j) (r j) (hT.upd ((Upd.refl [] _).alloc _) (by simp) (by simp)) hR (hL.upd ((Upd.refl [] _).alloc _) (by simp)) (by omega) (by simp; omega) (by omega)
      go_wp2_with (
        ((go_at_call 36; (with_reducible refine kD.mono ?_)); rintro e w3 ⟨v3, S3, l3, rfl, hT3, hR3, hL3, hU3⟩; obtain ⟨a3, c3, e3, _⟩ := hL3.open; generalize hn3 : l3.length = n3 at e3; (have HN3 := Lib.hid hn3); subst e3; clear hn3; have row3 := hrow.upd ((Upd.refl [ba] wr).alloc _ |>.trans hU3) (by simp; omega); have q0 := row3.cellAt 0 (by omega) rfl; have q1 := row3.cellAt 1 (by omega) rfl; have q2 := row3.free 0; have q3 := row3.free 1; have sz3 : wr.heap.size < w3.heap.size := by { have := hU3.size; simp at this; omega }; have hlt3 : B8 < w3.heap.size := (by omega)))
      go_roundw
      case rel =>
        have hu37 : Upd [B8] w3 (((w3.setCell ⟨B8, 0, none⟩ (.int .i64 (k : Int))).setCell ⟨B8, 1, none⟩ (.slice a3 n3 c3)).alloc (.cells #[.int .i64 (k : Int), .slice a3 n3 c3] 52)) := ((((Upd.refl [B8] w3).setCell (Or.inl (by simp)) _).setCell (Or.inl (by simp)) _).alloc _)
        have hur3 : Upd [ba] wr w3 := (Upd.refl [ba] wr).alloc _ |>.trans hU3
        refine ⟨j + 1, by omega, by go_num, S3, l3, a3, n3, c3, hT3.upd hu37 (by simp; omega) (by simp; omega), hR3, ?_, ?_, ?_, ?_⟩
        · have h1 : LstAt w3 (B8 + 1) (.slice a3 n3 c3) l3.length (hgCells l3) := hL3
          exact h1.upd hu37 (fun q hq => Or.inl (by simp at hq; omega))
        · exact ((((row3.set 0 (.int .i64 (k : Int))).set 1 (.slice a3 n3 c3)).upd ((Upd.refl [] _).alloc _) (by simp))).ext (fun q hq => by
            rcases (show q = 0 ∨ q = 1 by omega) with rfl | rfl <;> simp)
        · exact (hu.joined hur3 (fun q hq => Or.inr (by simp at hq; omega))).joined hu37 (fun q hq => Or.inr (by simp at hq; omega))
        · have := hu37.size; omega
      case measure => simp [intOf]; omega
    · obtain rfl : j = len := by omega
      obtain ⟨S, l, a1, n1, c1, hT, hR, hL, hrow, hu, hsz⟩ := hI
      clear hL hrow HP hlt
      obtain ⟨W1, hW1⟩ : ∃ W1, W1 = wr := ⟨_, rfl⟩
      subst hW1
      have hba : w.heap.size ≤ ba := by omega
      have kU := up_law bt ba k S l xx W1 hT hR
      cases hq : upL l xx with
      | none =>
        rw [hq] at kU
        rw [show ov none = 0 from rfl, show ob none = false from rfl] at kU
        clear hT hR hq
        go_wp2_with (first
          | ((go_at_call 32; (with_reducible refine kU.mono ?_)); rintro e w2 ⟨rfl, n2, rfl⟩))
        go_ret
        exact ⟨rfl, hu.drewN _⟩
      | some pp =>
        rw [hq] at kU
        obtain ⟨rr, hmem⟩ := up_mem hq
        have hs := hR.snd
        obtain ⟨hp0, hpk, hx0, hxk⟩ := hs.rng _ hmem
        simp only at hp0 hpk hx0 hxk
        obtain ⟨i, rfl⟩ := Int.eq_ofNat_of_zero_le hp0
        obtain ⟨y, rfl⟩ := Int.eq_ofNat_of_zero_le hx0
        rw [show ov (some (i : Int)) = (i : Int) from rfl, show ob (some (i : Int)) = true from rfl] at kU
        have hi : i < k := by omega
        have hy : y < k := by omega
        have huy : S.u y = (i : Int) := by rw [hR.up y hy, hq]; rfl
        have hne : i ≠ y := by
          obtain ⟨d, hd⟩ := hs.acyc
          have := hd _ hmem
          intro e; subst e; simp at this
        have hk1 : kidL l (i : Int) rr = some (y : Int) := hs.mem_kid hmem
        have hRc := hR.cut hi hy huy
        have hkc : kidL (cutL l y) (i : Int) rr = none := by rw [kidL_cut hs, if_pos hk1]
        have huc : upL (cutL l y) (y : Int) = none := by rw [upL_cut, if_pos rfl]
        have hRh := hRc.hang hi hy hne huc hkc (cut_above hs hmem)
        have hRt : Rel k (turnS (turnS (hangS (cutS S i y) i y rr) i) i) (backL l i y rr) := (hRh.turn hi).turn hi
        have hsu : (cutS S i y).u y = -1 := by rw [hRc.up y hy, huc]; rfl
        have hsk : (cutS S i y).kid rr i = -1 := by rw [hRc.kid i hi rr, hkc]; rfl
        have hno : hangOk k (hangS (cutS S i y) i y rr) i y rr = false := hangOk_no (fun h => by
          have h1 := h.2.2.2.2.2.1
          rw [show ((y : Int)).toNat = y by omega, hRh.up y hy, upL_snoc, huc] at h1
          simp at h1
          try omega)
        have hrr := rootL_rng hs y (by omega)
        have hbl := back_len hs hq (by omega)
        have kR := fun W (h : TreesAt W bt ba k S) => root_law bt ba k S l y W h hR (by omega)
        have kRt := fun W (h : TreesAt W bt ba k S) => right_law bt ba k S l i W h hR
        have kC := fun W (h : TreesAt W bt ba k S) => cut_yes bt ba k S i y W h hi hy huy
        have kH := fun W (h : TreesAt W bt ba k (cutS S i y)) => hang_yes bt ba k (cutS S i y) i y rr W h hi hy hne hsu hsk
        have kHn := fun W (h : TreesAt W bt ba k (hangS (cutS S i y) i y rr)) => hang_no bt ba k (hangS (cutS S i y) i y rr) i y rr W h hno
        have kT1 := fun W (h : TreesAt W bt ba k (hangS (cutS S i y) i y rr)) => turn_yes bt ba k (hangS (cutS S i y) i y rr) i W h hi
        have kT2 := fun W (h : TreesAt W bt ba k (turnS (hangS (cutS S i y) i y rr) i)) => turn_yes bt ba k (turnS (hangS (cutS S i y) i y rr) i) i W h hi
        generalize rootL l k (y : Int) = ro at *
        obtain ⟨ri, rfl⟩ := Int.eq_ofNat_of_zero_le hrr.1
        have hl1 := allL_len hs ri hrr
        have hl2 := allL_len hRc.snd y (by omega)
        have hl3 := allL_len hRc.snd ri hrr
        have kA1 := fun W (h : TreesAt W bt ba k S) => all_law bt ba k S l ri W h hR hrr (by omega)
        have kA2 := fun W (h : TreesAt W bt ba k (cutS S i y)) => all_law bt ba k (cutS S i y) (cutL l y) y W h hRc (by omega) (by omega)
        have kA3 := fun W (h : TreesAt W bt ba k (cutS S i y)) => all_law bt ba k (cutS S i y) (cutL l y) ri W h hRc hrr (by omega)
        have kA4 := fun W (h : TreesAt W bt ba k (turnS (turnS (hangS (cutS S i y) i y rr) i) i)) (h2 : (allL k (backL l i y rr) k ri).length ≤ 65536) => all_law bt ba k (turnS (turnS (hangS (cutS S i y) i y rr) i) i) (backL l i y rr) ri W h hRt hrr h2
        rw [allL_congr (back_kid hs hmem)] at kA4
        have hl4 : (allL k l k (ri : Int)).length ≤ 65536 := by omega
        have kB : (ob (kidL l (i : Int) true) = true ∧ (ov (kidL l (i : Int) true) == (y : Int)) = true ∧ rr = true) ∨ (ob (kidL l (i : Int) true) = true ∧ (ov (kidL l (i : Int) true) == (y : Int)) = false ∧ rr = false) ∨ (ob (kidL l (i : Int) true) = false ∧ rr = false) := by
          cases rr with
          | true => rw [hk1]; simp [ob, ov]
          | false =>
            cases hq2 : kidL l (i : Int) true with
            | none => simp [ob]
            | some z =>
              refine Or.inr (Or.inl ⟨rfl, ?_, rfl⟩)
              simp only [ov, Option.getD_some, beq_eq_false_iff_ne, ne_eq]
              intro e
              subst e
              have := one_x hs (kid_mem hq2) hmem rfl
              simp at this
        generalize ob (kidL l (i : Int) true) = kb at *
        generalize ov (kidL l (i : Int) true) = kv at *
        generalize turnS (turnS (hangS (cutS S i y) i y rr) i) i = S4 at *
        generalize turnS (hangS (cutS S i y) i y rr) i = S3 at *
        generalize hangS (cutS S i y) i y rr = S2 at *
        generalize cutS S i y = S1 at *
        generalize allL k l k (ri : Int) = ZR at *
        generalize allL k (cutL l y) k (y : Int) = ZX at *
        generalize allL k (cutL l y) k (ri : Int) = ZP at *
        generalize hnr : ZR.length = nR at *
        generalize hnx : ZX.length = nX at *
        generalize hnp : ZP.length = nP at *
        have HNR := Lib.hid hnr
        have hsum : ((nX : Int) + (nP : Int) != (nR : Int)) = false := by simp; omega
        have hba2 : w.heap.size ≤ ba := hba
        have hbaW : ba < W1.heap.size := hT.row.lt
        have HR := Lib.hid hR
        clear hnr hnx hnp hsu hsk hno hRh hRt hRc hmem hq huy hk1 hkc huc hR hs hbl
        rcases kB with ⟨rfl, kb2, rfl⟩ | ⟨rfl, kb2, rfl⟩ | ⟨rfl, rfl⟩
        all_goals
          go_wp2_with (first
            | ((go_at_call 32; (with_reducible refine kU.mono ?_)); rintro e w2 ⟨rfl, n2, rfl⟩; have hT2 := hT.drewN n2; have hq2 : Upd [] W1 (W1.drewN n2) := (Upd.refl _ _).drewN n2)
            | ((go_at_call 33; (with_reducible refine (kR _ hT2).mono ?_)); rintro e w2 ⟨rfl, rfl⟩)
            | ((go_at_call 34; (with_reducible refine (kA1 _ hT2).mono ?_)); rintro e w3 ⟨v3, rfl, ho3, hb3⟩; obtain ⟨a3, c3, rfl, hc3⟩ := own_slice ho3; have hT3 := hT2.upd hb3 (by simp) (by simp); have hq3 := hq2.trans hb3)
            | ((go_at_call 31; (with_reducible refine (kRt _ hT3).mono ?_)); rintro e w4 ⟨rfl, n4, rfl⟩; have hT4 := hT3.drewN n4)
            | ((go_at_call 37; (with_reducible refine (kC _ hT4).mono ?_)); rintro e w5 ⟨rfl, hT5, hu5⟩)
            | ((go_at_call 34; (with_reducible refine (kA2 _ hT5).mono ?_)); rintro e w6 ⟨v6, rfl, ho6, hb6⟩; obtain ⟨a6, c6, rfl, hc6⟩ := own_slice ho6; have hT6 := hT5.upd hb6 (by simp) (by simp))
            | ((go_at_call 34; (with_reducible refine (kA3 _ hT6).mono ?_)); rintro e w7 ⟨v7, rfl, ho7, hb7⟩; obtain ⟨a7, c7, rfl, hc7⟩ := own_slice ho7; have hT7 := hT6.upd hb7 (by simp) (by simp))
            | ((go_at_call 38; (with_reducible refine (kH _ hT7).mono ?_)); rintro e w8 ⟨rfl, hT8, hu8⟩)
            | ((go_at_call 38; (with_reducible refine (kHn _ hT8).mono ?_)); rintro e w9 ⟨rfl, n9, rfl⟩; have hT9 := hT8.drewN n9)
            | ((go_at_call 39; (with_reducible refine (kT1 _ hT9).mono ?_)); rintro e w10 ⟨rfl, hT10, hu10⟩)
            | ((go_at_call 39; (with_reducible refine (kT2 _ hT10).mono ?_)); rintro e w11 ⟨rfl, hT11, hu11⟩)
            | ((go_at_call 34; (with_reducible refine (kA4 _ hT11 hl4).mono ?_)); rintro e w12 ⟨v12, rfl, ho12, hb12⟩; obtain ⟨a12, c12, rfl, hc12⟩ := own_slice ho12)
            | ((go_at_call 40; (with_reducible refine (rsame_true _ 0 (.slice a12 nR c12) (.slice a3 nR c3) ZR (by rw [HNR.out]; exact (LstAt.of_owns ho12).mono (Nat.zero_le _)) (by rw [HNR.out]; exact ((LstAt.of_owns ho3).upd ((((((((((Upd.refl [ba] w3).drewN n4).trans hu5).then hb6).then hb7).trans hu8).drewN n9).trans hu10).trans hu11).then hb12) (fun q hq => Or.inl (by simp at hq; simp; omega))).mono (Nat.zero_le _))).mono ?_)); rintro e w13 ⟨rfl, n13, rfl⟩))
          go_ret
          exact ⟨rfl, (((hu.drewN n2).trans hb3).joined ((((((((((Upd.refl [ba] w3).drewN n4).trans hu5).then hb6).then hb7).trans hu8).drewN n9).trans hu10).trans hu11).then hb12) (fun q hq => Or.inr (by simp at hq; omega))).drewN n13⟩

theorem back_any (n : Int) (v : Value) (xx : Int) (len : Nat) (kd p x : Nat → Int) (r : Nat → Bool) (w : World) (hn : (Lit.int .u8 n).wf = true) (hA : ActsAt w v len kd p x r) :
    Calls Try.prog 10 #[.int .u8 n, v, .int .i64 xx] w fun e w' => e = .returned (.bool true) ∧ Upd [] w w' := by
  have hb : 0 ≤ n ∧ n < 256 := by simp [Lit.wf, IntKind.min, IntKind.max, IntKind.signed, IntKind.bits] at hn; omega
  obtain ⟨m, rfl⟩ : ∃ m : Nat, n = m := ⟨n.toNat, by omega⟩
  by_cases hl : len ≤ 60
  · exact back_ok m v len kd p x r w xx (by omega) hl hA
  · obtain ⟨a, cap, rfl, hm, _⟩ := hA
    exact back_long m a len cap w xx (by omega) (by omega) (by unfold maxLen at hm; omega)

end Go.Proofs.Ytdgfibcbnlkbpaa
