/-
  The law on the parts of what is hung, cut and turned in layer 9: its walk. Conditions: arguments that came in.
-/
import Derived.Test.YtdgfibcbnlkbpaaSpineRuns
import Derived.Test.YtdgfibcbnlkbpaaSpineAllB
set_option linter.unusedVariables false
set_option linter.unusedSimpArgs false
namespace Go.Proofs.Ytdgfibcbnlkbpaa
open Go Go.RowKit

theorem take_snoc' {α : Type} {l : List α} {q : Nat} {y : α} (h : l[q]? = some y) : l.take (q + 1) = l.take q ++ [y] := by
  rw [List.take_add_one, h]; rfl
theorem take_not {l : List Int} {q : Nat} {y : Int} (hn : l.Nodup) (h : l[q]? = some y) : y ∉ l.take q := by
  intro hm
  have h2 := (List.take_append_drop q l) ▸ hn
  rw [List.nodup_append] at h2
  refine h2.2.2 y hm y ?_ rfl
  have : (l.drop q)[0]? = some y := by rw [List.getElem?_drop]; simpa using h
  exact List.mem_of_getElem? this

set_option maxHeartbeats 2000000 in
theorem parts_long (n : Nat) (a : Option Addr) (len cap : Nat) (w : World) (hn : n < 256) (hl : 60 < len) (hm : len ≤ 9223372036854775807) :
    Calls Try.prog 9 #[.int .u8 (n : Int), .slice a len cap] w fun e w' => e = .returned (.bool true) ∧ Upd [] w w' := by
  obtain ⟨k, hk, hk2⟩ : ∃ k : Nat, (n : Int) % 24 = k ∧ k < 24 := ⟨n % 24, by omega, by omega⟩
  have kN := fun W => spineNew_yes k W (by omega)
  go_enter Try.func9, Try.ntmps9
  go_wp2_with (first
    | ((go_at_call 28; (with_reducible refine (salive_any _).mono ?_)); rintro e w1 ⟨rfl, hu1⟩)
    | ((go_at_call 29; (with_reducible refine (kN _).mono ?_)); rintro e w2 ⟨bt, ba, rfl, hT2, hu2, hb1, hb2⟩))
  go_ret
  exact ⟨by first | rfl | exact ret_bool (by simp; omega), by (repeat (first | assumption | exact Upd.refl _ _ | refine Upd.alloc ?_ _ | refine Upd.drew ?_ | refine Upd.drewN ?_ _ | refine Upd.setCell ?_ (Or.inr (by first | (simp; done) | (simp; omega))) _ | (apply Upd.trans; rotate_left; assumption)))⟩

set_option maxRecDepth 100000 in
set_option maxHeartbeats 4000000 in
theorem parts_ok (n : Nat) (v : Value) (len : Nat) (kd p x : Nat → Int) (r : Nat → Bool) (w : World) (hn : n < 256) (hl : len ≤ 60) (hA : ActsAt w v len kd p x r) :
    Calls Try.prog 9 #[.int .u8 (n : Int), v] w fun e w' => e = .returned (.bool true) ∧ Upd [] w w' := by
  obtain ⟨k, hk, hk2⟩ : ∃ k : Nat, (n : Int) % 24 = k ∧ k < 24 := ⟨n % 24, by omega, by omega⟩
  have kN := fun W => spineNew_yes k W (by omega)
  obtain ⟨a, cap, rfl, _, hp⟩ := hA
  have HP := Lib.hid hp
  clear hp
  go_enter Try.func9, Try.ntmps9
  go_wp2_with (first
    | ((go_at_call 28; (with_reducible refine (salive_any _).mono ?_)); rintro e w1 ⟨rfl, hu1⟩)
    | ((go_at_call 29; (with_reducible refine (kN _).mono ?_)); rintro e w2 ⟨bt, ba, rfl, hT2, hu2, hb1, hb2⟩))
  have hb3 := hT2.row.lt
  have hb4 := hT2.head.lt
  have hu0 : Upd [] w w2 := hu1.trans hu2
  have hrow := rowAt_new w2 [.int .i64 (k : Int), .slice none 0 0] 52
  have hI0 : RunsI bt ba k w2.heap.size w (w2.alloc (.cells #[.int .i64 (k : Int), .slice none 0 0] 52)) :=
    ⟨TS.none, [], none, 0, 0, hT2.upd ((Upd.refl [] _).alloc _) (by simp) (by simp), rel_none k, Or.inl ⟨rfl, rfl, rfl⟩, hrow, hu0.alloc _, by simp⟩
  have hw1 := hu1.size
  have hw12 := hu2.size
  clear hT2 hrow hu0 hu1 hu2 hk kN
  generalize w2.heap.size = B8 at *
  go_loopw [51] (fun i wr => ∃ j : Nat, j ≤ len ∧ i = .int .i64 j ∧ RunsI bt ba k B8 w wr) (fun i _ => len - (intOf i).toNat)
  case atStart => exact ⟨0, by omega, rfl, hI0⟩
  case round =>
    obtain ⟨j, hj, rfl, hI⟩ := hrel
    by_cases hlt : j < len
    · obtain ⟨S, l, a1, n1, c1, hT, hR, hL, hrow, hu, hsz⟩ := hI
      obtain ⟨b, off, rfl, hbw, hx⟩ := HP.out (by omega)
      obtain ⟨x0, x1, x2, x3⟩ := hx j hlt
      have y0 := hu.was x0
      have y1 := hu.was x1
      have y2 := hu.was x2
      have y3 := hu.was x3
      clear hx x0 x1 x2 x3
      have hbab : ba < B8 := hb3
      have hbtb : bt < B8 := hb4
      have g0 := hrow.cellAt 0 (by omega) rfl
      have g1 := hrow.cellAt 1 (by omega) rfl
      have kD := do_any bt ba k (B8 + 1) S l (.slice a1 n1 c1) (wr.alloc (.cells #[.int .i64 (kd j), .int .i64 (p j), .int .i64 (x j), .bool (r j)] 54)) (kd j) (p j) (x j) (r j) (hT.upd ((Upd.refl [] _).alloc _) (by simp) (by simp)) hR (hL.upd ((Upd.refl [] _).alloc _) (by simp)) (by omega) (by simp; omega) (by omega)
      go_wp2_with (
        ((go_at_call 36; (with_reducible refine kD.mono ?_)); rintro e w3 ⟨v3, S3, l3, rfl, hT3, hR3, hL3, hU3⟩; obtain ⟨a3, c3, e3, _⟩ := hL3.open; generalize hn3 : l3.length = n3 at e3; (have HN3 := Lib.hid hn3); subst e3; clear hn3; have row3 := hrow.upd ((Upd.refl [ba] wr).alloc _ |>.trans hU3) (by simp; omega); have q0 := row3.cellAt 0 (by omega) rfl; have q1 := row3.cellAt 1 (by omega) rfl; have q2 := row3.free 0; have q3 := row3.free 1; have sz3 : wr.heap.size < w3.heap.size := by { have := hU3.size; simp at this; omega }; have hlt3 : B8 < w3.heap.size := (by omega)))
      go_roundw
      case rel =>
        have hu37 : Upd [B8] w3 (((w3.setCell ⟨B8, 0, none⟩ (.int .i64 (k : Int))).setCell ⟨B8, 1, none⟩ (.slice a3 n3 c3)).alloc (.cells #[.int .i64 (k : Int), .slice a3 n3 c3] 52)) := ((((Upd.refl [B8] w3).setCell (Or.inl (by simp)) _).setCell (Or.inl (by simp)) _).alloc _)
        have hur3 : Upd [ba] wr w3 := (Upd.refl [ba] wr).alloc _ |>.trans hU3
        refine ⟨j + 1, by omega, by go_num, S3, l3, a3, n3, c3, hT3.upd hu37 (by simp; omega) (by simp; omega), hR3, ?_, ?_, ?_, ?_⟩
        · have h1 : LstAt w3 (B8 + 1) (.slice a3 n3 c3) l3.length (hgCells l3) := hL3
          exact h1.upd hu37 (fun q hq => Or.inl (by simp at hq; omega))
        · exact ((((row3.set 0 (.int .i64 (k : Int))).set 1 (.slice a3 n3 c3)).upd ((Upd.refl [] _).alloc _) (by simp))).ext (fun q hq => by
            rcases (show q = 0 ∨ q = 1 by omega) with rfl | rfl <;> simp)
        · exact (hu.joined hur3 (fun q hq => Or.inr (by simp at hq; omega))).joined hu37 (fun q hq => Or.inr (by simp at hq; omega))
        · have := hu37.size; omega
      case measure => simp [intOf]; omega
    · obtain rfl : j = len := by omega
      obtain ⟨S, l, a1, n1, c1, hT, hR, hL, hrow, hu, hsz⟩ := hI
      clear hL hrow HP hlt
      obtain ⟨W1, hW1⟩ : ∃ W1, W1 = wr := ⟨_, rfl⟩
      subst hW1
      have hR' := Lib.hid hR
      have hs := hR.snd
      go_wp2_with (at_make; refine wpList_make_row rfl _ 29 rfl 3 (.int .i64 0) 1 8 Try.underlying29 intInfo k rfl (by omega) (by unfold maxLen; omega) ?_; intro W2 hr2 hu2)
      have hs0 : RowAt W2 W1.heap.size 3 (k * 1) (fun y => .int .i64 (if rootL l k (y : Int) < (0 : Int) then 1 else 0)) := hr2.ext (fun y hy => by
        have hb := rootL_rng hs (y : Int) (by omega)
        rw [if_neg (by omega), show (Value.int .i64 0).cells = #[Value.int .i64 0] from rfl, Nat.mul_one, toList_madeCells_one]
        have : y < k := by omega
        simp [this])
      have hB9 : W1.heap.size < W2.heap.size := hr2.lt
      have HT := Lib.hid (fun W (h : Upd [W1.heap.size] W2 W) => (hT.upd hu2 (by simp) (by simp)).upd h (by have := hT.head.lt; simp; omega) (by have := hT.row.lt; simp; omega))
      have HU := Lib.hid (hu.trans hu2)
      have HW : w.heap.size ≤ W1.heap.size := hu.size
      clear hT hr2
      generalize W1.heap.size = B9 at *
      go_loopw [14] (fun i wq => ∃ z : Nat, z ≤ k ∧ i = .int .i64 z ∧ RowAt wq B9 3 (k * 1) (fun y => .int .i64 (if rootL l k (y : Int) < (z : Int) then 1 else 0)) ∧ Upd [B9] W2 wq) (fun i _ => k - (intOf i).toNat)
      case atStart => exact ⟨0, by omega, rfl, hs0, Upd.refl _ _⟩
      case round =>
        obtain ⟨z, hz, rfl, hrz, hq⟩ := hrel
        by_cases hzk : z < k
        · have kR := fun W (h : Upd [B9] W2 W) => root_law bt ba k S l z W (HT.out W h) hR'.out (by omega)
          by_cases hroot : rootL l k (z : Int) = z
          · rw [hroot] at kR
            have kA := fun W (h : Upd [B9] W2 W) => all_law bt ba k S l z W (HT.out W h) hR'.out (by omega) (by have := allL_len hs z (by omega); omega)
            have hmem := fun y => all_root hs (z : Int) y (by omega) hroot
            have hnd := allL_nodup hs k (z : Int)
            generalize allL k l k (z : Int) = ZA at *
            have HM := Lib.hid hmem
            have HN := Lib.hid hnd
            clear hmem hnd hroot hs0
            obtain ⟨W5, hW5⟩ : ∃ W5, W5 = wr := ⟨_, rfl⟩
            subst hW5
            go_wp2_with (first
              | ((go_at_call 33; (with_reducible refine (kR _ hq).mono ?_)); rintro e w1 ⟨rfl, rfl⟩)
              | ((go_at_call 34; (with_reducible refine (kA _ hq).mono ?_)); rintro e w2 ⟨v2, rfl, ho2, hb2⟩; obtain ⟨a2, c2, rfl, _, _, hp2⟩ := (LstAt.of_owns ho2).open; generalize hl2 : ZA.length = len2 at *; have HL2 := Lib.hid hl2; have HP2 := Lib.hid hp2; clear hl2 hp2 ho2))
            have hb9 : w1.heap.size ≤ w2.heap.size := hb2.size
            have hB95 : B9 < w1.heap.size := hrz.lt
            have hrz2 := hrz.upd hb2 (by simp)
            have hq2 := hq.then hb2
            clear hrz
            obtain ⟨W6, hW6⟩ : ∃ W6, W6 = w2 := ⟨_, rfl⟩
            subst hW6
            go_loopw [88] (fun i wi => ∃ q : Nat, q ≤ len2 ∧ i = .int .i64 q ∧ RowAt wi B9 3 (k * 1) (fun y => .int .i64 (if rootL l k (y : Int) < (z : Int) ∨ (y : Int) ∈ ZA.take q then 1 else 0)) ∧ Upd [B9] W6 wi) (fun i _ => len2 - (intOf i).toNat)
            case atStart => exact ⟨0, by omega, rfl, hrz2.ext (fun y hy => by simp), Upd.refl _ _⟩
            case round =>
              obtain ⟨q, hq1, rfl, hrow, hui⟩ := hrel
              by_cases hql : q < len2
              · obtain ⟨g, rfl, hg1, hg2, hx⟩ := HP2.out (by omega)
                obtain ⟨y, hyy⟩ : ∃ y, ZA[q]? = some y := ⟨ZA[q]'(by rw [HL2.out]; exact hql), by simp⟩
                obtain ⟨⟨hy0, hyk⟩, hyr⟩ := (HM.out y).1 (List.mem_of_getElem? hyy)
                obtain ⟨Y, rfl⟩ := Int.eq_ofNat_of_zero_le hy0
                have hYk : Y < k := by omega
                have hc := hx q (.int .i64 (Y : Int)) (by unfold intsZ; rw [List.getElem?_map, hyy]; rfl)
                have hc2 : wr.cell? ⟨g, q, none⟩ = some (.int .i64 (Y : Int)) := by rw [hui.cell hg2 (by simp; omega)]; exact hc
                have hnt : (Y : Int) ∉ ZA.take q := take_not HN.out hyy
                have hd := hrow.cellAt (v := .int .i64 0) Y (by omega) (by rw [if_neg (fun h => by rcases h with h | h; (rw [hyr] at h; omega); exact hnt h)])
                have hf := hrow.free Y
                have hts := take_snoc' hyy
                have HTS := Lib.hid hts
                have HYR := Lib.hid hyr
                have kR2 := root_law bt ba k S l Y (wr.setCell ⟨B9, Y, none⟩ (.int .i64 1)) (HT.out _ ((hq2.trans hui).setCell (Or.inl (by simp)) _)) hR'.out (by omega)
                rw [hyr] at kR2
                clear hx hyy hc hnt hts hyr kR kA hy0
                go_wp2_with ((go_at_call 33; (with_reducible refine kR2.mono ?_)); rintro e w1 ⟨rfl, rfl⟩)
                go_roundw
                case rel =>
                  refine ⟨q + 1, by omega, by go_num, (hrow.set _ _).ext (fun j hj => ?_), hui.setCell (Or.inl (by simp)) _⟩
                  rw [HTS.out]
                  by_cases hjY : j = Y
                  · subst hjY; simp
                  · rw [if_neg hjY]
                    have : (j : Int) ≠ (Y : Int) := by omega
                    simp [this]
                case measure => simp [intOf]; omega
              · obtain rfl : q = len2 := by omega
                have htl : ZA.take q = ZA := List.take_of_length_le (by rw [HL2.out]; omega)
                rw [htl] at hrow
                have hq3 := hq2.trans hui
                clear kR kA htl
                go_wp2
                go_roundw
                case rel =>
                  refine ⟨z + 1, by omega, by go_num, hrow.ext (fun y hy => ?_), hq3⟩
                  have hm := HM.out (y : Int)
                  by_cases h1 : rootL l k (y : Int) < (z : Int)
                  · rw [if_pos (Or.inl h1), if_pos (by omega)]
                  · by_cases h2 : rootL l k (y : Int) = (z : Int)
                    · rw [if_pos (Or.inr (hm.2 ⟨⟨by omega, by omega⟩, h2⟩)), if_pos (by omega)]
                    · rw [if_neg (fun h => by rcases h with h | h; exact h1 h; exact h2 (hm.1 h).2), if_neg (by omega)]
                case measure => simp [intOf]; omega
          ·
            have b1 : (rootL l k (z : Int) != z) = true := by simpa using hroot
            have hz' := Lib.hid hroot
            clear hroot
            go_wp2_with ((go_at_call 33; (with_reducible refine (kR _ hq).mono ?_)); rintro e w1 ⟨rfl, rfl⟩)
            go_roundw
            case rel =>
              refine ⟨z + 1, by omega, by go_num, hrz.ext (fun y hy => ?_), hq⟩
              have hi := root_idem hs (y : Int) (by omega)
              have : rootL l k (y : Int) ≠ z := fun h => hz'.out (by rw [← h]; exact hi)
              by_cases hlt : rootL l k (y : Int) < (z : Int)
              · rw [if_pos hlt, if_pos (by omega)]
              · rw [if_neg hlt, if_neg (by omega)]
            case measure => simp [intOf]; omega
        · obtain rfl : z = k := by omega
          have hall : ∀ c, c < z → wr.cell? ⟨B9, c, none⟩ = some (.int .i64 1) := fun c hc => hrz.cellAt c (by omega) (by
            have hb := rootL_rng hs (c : Int) (by omega)
            rw [if_pos (by omega)])
          have HA := Lib.hid hall
          have hfin := HU.out.joined hq (fun x hx => Or.inr (by simp at hx; omega))
          clear hall hrz
          obtain ⟨W7, hW7⟩ : ∃ W7, W7 = wr := ⟨_, rfl⟩
          subst hW7
          go_wp2
          go_loopw [117] (fun i wi => ∃ c : Nat, c ≤ z ∧ i = .int .i64 c ∧ wi = W7) (fun i _ => z - (intOf i).toNat)
          case atStart => exact ⟨0, by omega, rfl, rfl⟩
          case round =>
            obtain ⟨c, hc, rfl, rfl⟩ := hrel
            by_cases hcz : c < z
            · have hcc := HA.out c hcz
              go_wp2
              go_roundw
              case rel => exact ⟨c + 1, by omega, by go_num, by first | rfl | trivial⟩
              case measure => simp [intOf]; omega
            · obtain rfl : c = z := by omega
              go_wp2
              go_ret
              exact ⟨rfl, hfin⟩

theorem parts_any (n : Int) (v : Value) (len : Nat) (kd p x : Nat → Int) (r : Nat → Bool) (w : World) (hn : (Lit.int .u8 n).wf = true) (hA : ActsAt w v len kd p x r) :
    Calls Try.prog 9 #[.int .u8 n, v] w fun e w' => e = .returned (.bool true) ∧ Upd [] w w' := by
  have hb : 0 ≤ n ∧ n < 256 := by simp [Lit.wf, IntKind.min, IntKind.max, IntKind.signed, IntKind.bits] at hn; omega
  obtain ⟨m, rfl⟩ : ∃ m : Nat, n = m := ⟨n.toNat, by omega⟩
  by_cases hl : len ≤ 60
  · exact parts_ok m v len kd p x r w (by omega) hl hA
  · obtain ⟨a, cap, rfl, hm, _⟩ := hA
    exact parts_long m a len cap w (by omega) (by omega) (by unfold maxLen at hm; omega)

end Go.Proofs.Ytdgfibcbnlkbpaa
