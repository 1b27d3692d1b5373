/-
  The law on whatever is linked, split and lifted: its walk. Conditions: arguments that came in.
-/
import Derived.Test.YtdgohhkgmfjhaaaCarryPlay
set_option linter.unusedVariables false
set_option linter.unusedSimpArgs false
namespace Go.Proofs.Ytdgohhkgmfjhaaa
open Go Go.RowKit

open Go.ChangeShapes Go.ChangeAt Go.WideShapes in
theorem sli_of_trod {H : Type} {enc : TypeId × Value → H} {P : Program} {W : World} {T E : TypeId} {v : Value} {d : DataW H} {p : List MemPlace} {base : Nat} {sp : Nat → Bool}
    (hT : P.underlying T = some (.slice E)) (hE : P.underlying E = some (.int .i64)) (hc : P.cellsOf E = 1) (ho : Value.okWide P W .any base T v) (h : DataW.Trod enc P W 0 sp true T v d p) : ∃ zs, SlI W [] v zs := by
  obtain ⟨a, len, cap, rfl⟩ := okWide_slice hT ho
  obtain ⟨fuel, hf⟩ := h
  rcases open_ints hT hE hc hf with ⟨hcs, _⟩ | ⟨x, l, c, zs, hcs, _, hl, hm, hz, _, hcell, hwz⟩
  · simp [Value.cells] at hcs
    obtain ⟨rfl, rfl, rfl⟩ := hcs
    exact ⟨[], SlI.nil _ _⟩
  · simp [Value.cells] at hcs
    obtain ⟨rfl, rfl, rfl⟩ := hcs
    have hlz : len ≤ zs.length := by rw [hz]; split <;> omega
    have ht : (zs.take len).length = len := by simp; omega
    refine ⟨zs.take len, some x, cap, by rw [ht], by rw [ht]; omega, by unfold maxLen at hm; omega, fun j u hj => ?_⟩
    have hjl : j < len := by have := (List.getElem?_eq_some_iff.1 hj).1; rwa [ht] at this
    obtain ⟨b, off, rfl, hcc⟩ := ints_at hcell (by omega)
    have hcj := hcc j (by omega)
    refine ⟨b, off, rfl, World.block_lt_of_cell? W _ hcj, by simp, ?_⟩
    rw [List.getElem?_take, if_pos hjl] at hj
    rw [hcj]
    have : zs.getD j 0 = u := by rw [List.getD_eq_getElem?_getD, hj]; rfl
    first | rw [this] | (rw [hj]; rfl) | (simp [hj])

theorem Acts3.upd0 {w w' : World} {v : Value} {len : Nat} {kd p x : Nat → Int} (h : Acts3 w v len kd p x) (hu : Upd [] w w') : Acts3 w' v len kd p x := by
  obtain ⟨a, cap, rfl, hm, hp⟩ := h
  refine ⟨a, cap, rfl, hm, fun h0 => ?_⟩
  obtain ⟨b, off, rfl, hb, hc⟩ := hp h0
  exact ⟨b, off, rfl, Nat.lt_of_lt_of_le hb hu.size, fun j hj => by
    obtain ⟨h1, h2, h3⟩ := hc j hj
    exact ⟨hu.was h1, hu.was h2, hu.was h3⟩⟩
theorem row_same {n : Nat} {S : CS} {Z : List (List Int)} (R : RelZ n S.f Z) (ok : FOk n S.f) (l : List Int) : rowToG (rootZ Z) (degZ Z) l l.length = rowB n S l := by
  have e1 : rootZ Z = rootB n S := funext (fun x => by rw [rel_root R ok]; rfl)
  have e2 : degZ Z = degOf n S := funext (fun x => by unfold degZ; rw [rel_kids R, deg_kids])
  rw [e1, e2]; rfl

set_option maxRecDepth 100000 in
set_option maxHeartbeats 2000000 in
theorem cruns_long (n : Nat) (a : Option Addr) (len cap : Nat) (a2 : Option Addr) (len2 cap2 : Nat) (w : World) (hn : n < 256) (hm : len ≤ 9223372036854775807) (hm2 : len2 ≤ 9223372036854775807) (h : 60 < len ∨ (len ≤ 60 ∧ 30 < len2)) :
    Calls Try.prog 6 #[.int .u8 (n : Int), .slice a len cap, .slice a2 len2 cap2] w fun e w' => e = .returned (.bool true) ∧ Upd [] w w' := by
  obtain ⟨k, hk, hk2⟩ : ∃ k : Nat, (n : Int) % 24 = k ∧ k < 24 := ⟨n % 24, by omega, by omega⟩
  have kN := fun W => carryNew_yes k W (by omega)
  rcases h with h | ⟨h, h'⟩
  all_goals
    go_enter Try.func6, Try.ntmps6
    go_wp2_with (first
      | ((go_at_call 9; (with_reducible refine (calive_any _).mono ?_)); rintro e w1 ⟨rfl, hu1⟩)
      | ((go_at_call 10; (with_reducible refine (kN _).mono ?_)); rintro e w2 ⟨bt, ba, rfl, hT2, hu2, hb1, hb2⟩))
    go_ret
    exact ⟨by first | rfl | exact ret_bool (by simp; omega), by (repeat (first | assumption | exact Upd.refl _ _ | refine Upd.alloc ?_ _ | refine Upd.drew ?_ | refine Upd.drewN ?_ _ | refine Upd.setCell ?_ (Or.inr (by first | (simp; done) | (simp; omega))) _ | (apply Upd.trans; rotate_left; assumption)))⟩

set_option maxRecDepth 100000 in
set_option maxHeartbeats 4000000 in
theorem cruns_ok (n : Nat) (va vl : Value) (len : Nat) (kd p x : Nat → Int) (l : List Int) (w : World) (hn : n < 256) (hl : len ≤ 60) (hA : Acts3 w va len kd p x) (hL : SlI w [] vl l) (hl2 : l.length ≤ 30) :
    Calls Try.prog 6 #[.int .u8 (n : Int), va, vl] w fun e w' => e = .returned (.bool true) ∧ Upd [] w w' := by
  obtain ⟨k, hk, hk2⟩ : ∃ k : Nat, (n : Int) % 24 = k ∧ k < 24 := ⟨n % 24, by omega, by omega⟩
  have kN := fun W => carryNew_yes k W (by omega)
  have hA0 := hA
  obtain ⟨a, cap, rfl, _, hp⟩ := hA
  obtain ⟨a2, cap2, rfl, _⟩ := hL.shape'
  have kP := fun W bt ba lo (hu : Upd [] w W) (hF : ForestAt W bt ba lo k CS.none) (ht : bt < W.heap.size) (h1 : w.heap.size ≤ ba) (h2 : w.heap.size ≤ lo) => play_any W bt ba lo k _ len kd p x hF ht (hA0.upd0 hu) hl (fun h0 a' c' b off he => by
    obtain ⟨b', off', rfl, hb, _⟩ := hp h0
    cases he
    omega)
  have HP := Lib.hid kP
  have HL := Lib.hid hL
  clear hp hA0 kP hL
  go_enter Try.func6, Try.ntmps6
  go_wp2_with (first
    | ((go_at_call 9; (with_reducible refine (calive_any _).mono ?_)); rintro e w1 ⟨rfl, hu1⟩)
    | ((go_at_call 10; (with_reducible refine (kN _).mono ?_)); rintro e w2 ⟨bt, ba, rfl, hT2, hu2, hb1, hb2⟩; have hz1 := hu1.size; have hz2 := hu2.size; have hbt := hT2.head.lt; have kPP := HP.out _ bt ba _ (hu1.trans hu2) hT2 hbt (by omega) (by omega))
    | ((go_at_call 22; (with_reducible refine (kPP).mono ?_)); rintro e w3 ⟨S, v3, Z, rfl, hT3, hu3⟩; have hup : Upd [] w w3 := (hu1.trans hu2).joined hu3 (fun g hg => Or.inr (by simp at hg; omega)); obtain ⟨az, cz, hvz, _⟩ := hT3.z.shape; subst hvz; have kR1 := row_sl bt ba _ k S _ l w3 hT3.f [] (HL.out.upd hup (by simp)); have kR2 := zrow_any w3 _ [] _ _ Z l hT3.z (HL.out.upd hup (by simp)); rw [row_same hT3.r hT3.ok] at kR2; generalize rowB k S l = rb at *)
    | (go_at_call 14; (with_reducible refine (kR1).mono ?_); rintro e w9 ⟨rfl, hw9⟩; rw [hw9]; clear hw9 w9)
    | ((go_at_call 23; (with_reducible refine (kR2).mono ?_)); rintro e w4 ⟨rfl, n4, rfl⟩))
  have h4 : Upd [] w3 (w3.drewN n4) := (Upd.refl _ _).drewN _
  have hcu := rel_cube hT3.r hT3.ok
  have hZn := hT3.r.1
  have kS := fun W (h : Upd [] w3 W) y => csame_any W bt ba _ k S _ Z y (hT3.upd0 h)
  have kC := fun W (h : Upd [] w3 W) (y : Nat) (hy : y < k) => zcube_yes _ _ Z W ((hT3.upd0 h).z) hcu k (by omega) y (by rw [hZn]; exact hy)
  have HS := Lib.hid kS
  have HC := Lib.hid kC
  clear kS kC hcu hZn kR1 kR2 kPP hT3
  generalize w3.drewN n4 = W4 at *
  go_loopw [12] (fun s12 wr => ∃ y : Nat, y ≤ k ∧ s12 = .int .i64 (y : Int) ∧ Upd [] w3 wr) (fun s12 _ => k - (intOf s12).toNat)
  case atStart => exact ⟨0, by omega, rfl, h4⟩
  case round =>
    obtain ⟨y, hy, rfl, hU⟩ := hrel
    by_cases hyk : y < k
    · have k1 := HS.out wr hU y
      have k2 := fun W (h : Upd [] w3 W) => HC.out W h y hyk
      go_wp2_with (first
        | ((go_at_call 24; (with_reducible refine (k1).mono ?_)); rintro e w5 ⟨rfl, hu5⟩; have hU5 := hU.trans hu5)
        | (go_at_call 20; (with_reducible refine (k2 _ hU5).mono ?_); rintro e w9 ⟨rfl, hw9⟩; rw [hw9]; clear hw9 w9))
      go_roundw
      case rel => exact ⟨y + 1, by omega, by go_num, hU5⟩
      case measure => simp [intOf]; omega
    · obtain rfl : y = k := by omega
      go_wp2
      go_ret
      exact ⟨rfl, hup.trans hU⟩
theorem cruns_any (n : Int) (va vl : Value) (len : Nat) (kd p x : Nat → Int) (l : List Int) (w : World) (hn : (Lit.int .u8 n).wf = true) (hA : Acts3 w va len kd p x) (hL : SlI w [] vl l) :
    Calls Try.prog 6 #[.int .u8 n, va, vl] w fun e w' => e = .returned (.bool true) ∧ Upd [] w w' := by
  have hb : 0 ≤ n ∧ n < 256 := by simp [Lit.wf, IntKind.min, IntKind.max, IntKind.signed, IntKind.bits] at hn; omega
  obtain ⟨m, rfl⟩ : ∃ m : Nat, n = m := ⟨n.toNat, by omega⟩
  have hA' := hA
  have hL' := hL
  obtain ⟨a, cap, rfl, hm, _⟩ := hA'
  obtain ⟨a2, cap2, rfl, h1, h2, _⟩ := hL'
  unfold maxLen at hm
  by_cases hl : len ≤ 60
  · by_cases hl2 : l.length ≤ 30
    · exact cruns_ok m _ _ len kd p x l w (by omega) hl hA hL hl2
    · exact cruns_long m a len cap a2 _ cap2 w (by omega) hm (by omega) (Or.inr ⟨hl, by omega⟩)
  · exact cruns_long m a len cap a2 _ cap2 w (by omega) hm (by omega) (Or.inl (by omega))
end Go.Proofs.Ytdgohhkgmfjhaaa
