/-
  Leftist heaps: Min. Conditions: those of each lemma.
-/
import Derived.Test.YtechoojcgdjcdaaLf8
set_option linter.unusedVariables false
set_option linter.unusedSimpArgs false
namespace Go.Proofs.Ytechoojcgdjcdaa
open Go Go.RowKit

theorem TrI.first {A : NS} {S : TS} {tops : List Int} {tr : Nat → BT} (h : TrI A S tops tr) {g : Nat} (hg : 0 < lenN A g) : ∃ m : Nat, (tr g).root = m ∧ minN A g = some m := by
  obtain ⟨x, hx, hi, h0⟩ := lenN_pos.1 hg
  have hxm : x ∈ (tr g).nodes := (h.mem g x).2 ⟨by omega, hx, hi⟩
  cases ht : tr g with
  | nil => rw [ht] at hxm; cases hxm
  | node m l r =>
    have hm := (h.mem g m).1 (by rw [ht]; simp [BT.nodes])
    have hH := h.heap g
    rw [ht] at hH
    refine ⟨m, rfl, (minN_some h0).2 ⟨hm.2.1, hm.2.2, fun y hy hyi => ?_⟩⟩
    have hym := (h.mem g y).2 ⟨by omega, hy, hyi⟩
    rw [ht] at hym
    simp only [BT.nodes, List.mem_cons, List.mem_append] at hym
    rcases hym with e | e | e
    · exact Or.inl e
    · exact Or.inr (hH.1 y e)
    · exact Or.inr (hH.2.1 y e)
section
variable {w : World} {B : LB} {F : List Nat} {gt ct : Nat} {A : NS} {st : Nat} {tr : Nat → BT}
theorem lmin_none (h : LfAt w B F gt ct A st tr) (x : Int) (hx : -9223372036854775808 ≤ x ∧ x ≤ 9223372036854775807) (hn : lenN A x = 0) :
    Calls Try.prog 137 #[.pointer (some ⟨B.n0, 0, none⟩), .int .i64 x] w fun e w' => e = .returned (.tuple #[.int .i64 0, .bool false]) ∧ w' = w := by
  obtain ⟨S, rk, tops, hM, -, -, -⟩ := h
  have k := clen_any hM.cells x hx
  rw [hn] at k
  have h0 := hM.h0
  clear hM hn
  go_enter Try.func137, Try.ntmps137
  go_wp2_with (first | (go_at_call 20; (with_reducible refine (k).mono ?_); rintro e w9 ⟨rfl, hw9⟩; rw [hw9]; clear hw9 w9))
  go_ret2
  exact ⟨rfl, rfl⟩
set_option maxHeartbeats 1000000 in
theorem lmin_some (h : LfAt w B F gt ct A st tr) (g : Nat) (hn : 0 < lenN A g) :
    Calls Try.prog 137 #[.pointer (some ⟨B.n0, 0, none⟩), .int .i64 (g : Int)] w fun e w' => ∃ m : Nat, minN A g = some m ∧ (tr g).root = m ∧ e = .returned (.tuple #[.int .i64 (m : Int), .bool true]) ∧ w' = w := by
  obtain ⟨S, rk, tops, hM, hI, -, -⟩ := h
  obtain ⟨m, hm, hf⟩ := hI.first hn
  obtain ⟨x, hx, hi, h0⟩ := lenN_pos.1 hn
  have ok := hM.cells.ok
  have hgl : g < A.hs.length := by have := (ok.nat x hx).2; omega
  have hAh := ok.h1
  have k := clen_any hM.cells (g : Int) (by omega)
  have hh0 := hM.h0
  have h3 := hM.h3
  have d := hM.topI.cell g (by rw [hM.topn]; exact hgl)
  rw [hI.top g hgl, hm] at d
  have htl : g < tops.length := by rw [hM.topn]; exact hgl
  generalize hl : lenN A (g : Int) = n at *
  have hb : ((n : Int) == 0) = false := by simp; omega
  have HF := Lib.hid (And.intro hf hm)
  clear hM hI hm hf hx hi h0 ok hl
  go_enter Try.func137, Try.ntmps137
  go_wp2_with (first | (go_at_call 20; (with_reducible refine (k).mono ?_); rintro e w9 ⟨rfl, hw9⟩; rw [hw9]; clear hw9 w9))
  go_ret2
  exact ⟨m, HF.out.1, HF.out.2, rfl, rfl⟩
end
end Go.Proofs.Ytechoojcgdjcdaa
