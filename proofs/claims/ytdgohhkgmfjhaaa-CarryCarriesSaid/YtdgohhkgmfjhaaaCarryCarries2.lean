/-
  The law on two rows of roots that become one: all arguments. Conditions: arguments that came in.
-/
import Derived.Test.YtdgohhkgmfjhaaaCarryCarries
set_option linter.unusedVariables false
set_option linter.unusedSimpArgs false
namespace Go.Proofs.Ytdgohhkgmfjhaaa
open Go Go.RowKit

open Go.ChangeShapes Go.ChangeAt Go.WideShapes in
theorem sli_of_cell {H : Type} {enc : TypeId × Value → H} {P : Program} {W : World} {T E : TypeId} {v : Value} {y : DataW H × List MemPlace} {m : Nat} {sp : Nat → Bool} {base : Nat}
    (hT : P.underlying T = some (.slice E)) (hE : P.underlying E = some (.int .i64)) (hc : P.cellsOf E = 1) (hf : DataW.trod enc P W base sp true m T [v] = some y) : ∃ zs, SlI W [] v zs := by
  rcases open_ints hT hE hc hf with ⟨hcs, _⟩ | ⟨x, l, c, zs, hcs, _, hl, hm, hz, _, hcell, hwz⟩
  · simp at hcs
    subst hcs
    exact ⟨[], SlI.nil _ _⟩
  · simp at hcs
    subst hcs
    have hlz : l ≤ zs.length := by rw [hz]; split <;> omega
    have ht : (zs.take l).length = l := by simp; omega
    refine ⟨zs.take l, some x, c, by rw [ht], by rw [ht]; omega, by unfold maxLen at hm; omega, fun j u hj => ?_⟩
    have hjl : j < l := by have := (List.getElem?_eq_some_iff.1 hj).1; rwa [ht] at this
    obtain ⟨b, off, rfl, hcc⟩ := ints_at hcell (by omega)
    have hcj := hcc j (by omega)
    refine ⟨b, off, rfl, World.block_lt_of_cell? W _ hcj, by simp, ?_⟩
    rw [List.getElem?_take, if_pos hjl] at hj
    rw [hcj]
    have : zs.getD j 0 = u := by rw [List.getD_eq_getElem?_getD, hj]; rfl
    first | rw [this] | (rw [hj]; rfl) | (simp [hj])
theorem list2 {α : Type} (l : List α) (h : l.length = 2) : ∃ a b, l = [a, b] := by
  match l, h with
  | [a, b], _ => exact ⟨a, b, rfl⟩
set_option maxRecDepth 100000 in
open Go.ChangeShapes Go.ChangeAt Go.WideShapes in
theorem two_of_trod {H : Type} {enc : TypeId × Value → H} {W : World} {v : Value} {d : DataW H} {p : List MemPlace} {base : Nat} {sp : Nat → Bool}
    (ho : Value.okWide Try.prog W .any base 55 v) (h : DataW.Trod enc Try.prog W 0 sp true 55 v d p) : ∃ v1 v2 A B, v = .agg #[v1, v2] ∧ SlI W [] v1 A ∧ SlI W [] v2 B := by
  obtain ⟨cs, rfl, hsz, _⟩ : ∃ cs, v = .agg cs ∧ cs.size = Try.prog.cellsOf 55 ∧ Row.okWide Try.prog W .any base 55 cs := by
    simpa [Value.okWide, Try.underlying55] using ho
  have hc2 : Try.prog.cellsOf 55 = 2 := by kernel_rfl
  have hc1 : Try.prog.cellsOf 30 = 1 := by kernel_rfl
  rw [hc2] at hsz
  obtain ⟨l⟩ := cs
  obtain ⟨c0, c1, rfl⟩ := list2 l hsz
  obtain ⟨fuel, hf⟩ := h
  obtain ⟨xs, m, _, _, _, hl, hel⟩ := DataW.trod_array Try.underlying55 hf
  match xs, hl with
  | [x0, x1], _ =>
    have f0 := hel 0 (by omega)
    have f1 := hel 1 (by omega)
    rw [hc1] at f0 f1
    obtain ⟨A, sA⟩ := sli_of_cell Try.underlying30 Try.underlying3 (by kernel_rfl) (show DataW.trod enc Try.prog W 0 sp true m 30 [c0] = some x0 from f0)
    obtain ⟨B, sB⟩ := sli_of_cell Try.underlying30 Try.underlying3 (by kernel_rfl) (show DataW.trod enc Try.prog W 0 sp true m 30 [c1] = some x1 from f1)
    exact ⟨c0, c1, A, B, rfl, sA, sB⟩

set_option maxRecDepth 100000 in
set_option maxHeartbeats 4000000 in
theorem ccar_long (a0 : Option Addr) (n c0 : Nat) (a : Option Addr) (len cap : Nat) (a1 : Option Addr) (la c1 : Nat) (a2 : Option Addr) (lb c2 : Nat) (w : World) (hn : n ≤ 9223372036854775807) (hm : len ≤ 9223372036854775807) (h1 : la ≤ 9223372036854775807) (h2 : lb ≤ 9223372036854775807)
    (h : 60 < len ∨ (len ≤ 60 ∧ 24 < n) ∨ (len ≤ 60 ∧ n ≤ 24 ∧ 30 < la) ∨ (len ≤ 60 ∧ n ≤ 24 ∧ la ≤ 30 ∧ 30 < lb)) :
    Calls Try.prog 7 #[.slice a0 n c0, .slice a len cap, .agg #[.slice a1 la c1, .slice a2 lb c2]] w fun e w' => e = .returned (.bool true) ∧ Upd [] w w' := by
  have hw0 : Upd [] w (w.alloc (.cells #[.slice a1 la c1, .slice a2 lb c2] 55)) := (Upd.refl _ _).alloc _
  have r0 : ∀ W, Upd [] (w.alloc (.cells #[.slice a1 la c1, .slice a2 lb c2] 55)) W → W.cell? ⟨w.heap.size, 0, none⟩ = some (.slice a1 la c1) := fun W h => h.was (by simp)
  have r1 : ∀ W, Upd [] (w.alloc (.cells #[.slice a1 la c1, .slice a2 lb c2] 55)) W → W.cell? ⟨w.heap.size, 1, none⟩ = some (.slice a2 lb c2) := fun W h => h.was (by simp)
  have R0 := Lib.hid r0
  have R1 := Lib.hid r1
  clear r0 r1
  by_cases hbig : n ≤ 65536
  · have kN := fun W => carryNew_yes n W hbig
    rcases h with h | ⟨h, h'⟩ | ⟨h, h', h''⟩ | ⟨h, h', h'', h'''⟩
    all_goals
      go_enter Try.func7, Try.ntmps7
      go_wp2_with (first
        | ((go_at_call 9; (with_reducible refine (calive_any _).mono ?_)); rintro e w1 ⟨rfl, hu1⟩)
        | ((go_at_call 10; (with_reducible refine (kN _).mono ?_)); rintro e w2 ⟨bt, ba, rfl, hF2, hu2, hb1, hb2⟩; have hbx := hu1.trans hu2; have q0 := R0.out _ hbx; have q1 := R1.out _ hbx))
      go_ret
      exact ⟨rfl, hw0.trans hbx⟩
  · have kN := fun W => carryNew_no n W (Or.inr (by omega))
    have hn24 : (24 : Int) < n := by omega
    rcases h with h | ⟨h, h'⟩ | ⟨h, h', h''⟩ | ⟨h, h', h'', h'''⟩
    · go_enter Try.func7, Try.ntmps7
      go_wp2_with (first
        | ((go_at_call 9; (with_reducible refine (calive_any _).mono ?_)); rintro e w1 ⟨rfl, hu1⟩)
        | ((go_at_call 10; (with_reducible refine (kN _).mono ?_)); rintro e w2 ⟨rfl, hw2⟩; rw [hw2]; clear hw2 w2; have q0 := R0.out _ hu1; have q1 := R1.out _ hu1))
      go_ret
      exact ⟨rfl, hw0.trans hu1⟩
    · go_enter Try.func7, Try.ntmps7
      go_wp2_with (first
        | ((go_at_call 9; (with_reducible refine (calive_any _).mono ?_)); rintro e w1 ⟨rfl, hu1⟩)
        | ((go_at_call 10; (with_reducible refine (kN _).mono ?_)); rintro e w2 ⟨rfl, hw2⟩; rw [hw2]; clear hw2 w2; have q0 := R0.out _ hu1; have q1 := R1.out _ hu1))
      go_ret
      exact ⟨rfl, hw0.trans hu1⟩
    · omega
    · omega
theorem ccar_any (v0 va v1 v2 : Value) (zs : List Int) (len : Nat) (kd p x : Nat → Int) (A B : List Int) (w : World) (h0 : IsInts .i64 w v0 zs) (hA : Acts3 w va len kd p x) (s1 : SlI w [] v1 A) (s2 : SlI w [] v2 B) :
    Calls Try.prog 7 #[v0, va, .agg #[v1, v2]] w fun e w' => e = .returned (.bool true) ∧ Upd [] w w' := by
  obtain ⟨⟨a0, c0, rfl, hm0, hc0⟩, _⟩ := h0
  unfold maxLen at hm0
  by_cases hok : len ≤ 60 ∧ zs.length ≤ 24 ∧ A.length ≤ 30 ∧ B.length ≤ 30
  · exact ccar_ok _ va v1 v2 zs len kd p x A B w ⟨a0, c0, rfl, hm0, fun hp => by
      obtain ⟨b, off, rfl, hb, hcc⟩ := hc0 hp
      exact ⟨b, off, rfl, hb, hb, fun j hj => hcc j (by omega)⟩⟩ hok.2.1 hA hok.1 s1 s2 hok.2.2.1 hok.2.2.2
  · obtain ⟨a, cap, rfl, hm, _⟩ := hA
    obtain ⟨a1, c1, rfl, h1, h1', _⟩ := s1
    obtain ⟨a2, c2, rfl, h2, h2', _⟩ := s2
    unfold maxLen at hm
    exact ccar_long a0 _ c0 a len cap a1 _ c1 a2 _ c2 w hm0 hm (by omega) (by omega) (by omega)
end Go.Proofs.Ytdgohhkgmfjhaaa
