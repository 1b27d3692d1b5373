/-
  Leftist heaps: New, Rank, Min. Conditions: those of each lemma.
-/
import Derived.Test.YtechoojcgdjcdaaLf6
set_option linter.unusedVariables false
set_option linter.unusedSimpArgs false
namespace Go.Proofs.Ytechoojcgdjcdaa
open Go Go.RowKit

theorem trI_new (n : Nat) : TrI (NS.new n) TS.none [-1] (fun _ => BT.nil) := by
  refine ⟨fun h hh => ?_, fun h => rfl, fun h x => ?_, fun h => List.nodup_nil, fun h => trivial, fun x hx _ => ⟨rfl, rfl, rfl⟩⟩
  · have : h = 0 := by simp [NS.new] at hh; exact hh
    subst this; rfl
  · rw [NS.new_c]
    simp only [BT.nodes, List.not_mem_nil, false_iff, Cl.z]
    omega
theorem madeInts (n j : Nat) (hj : j < n) : (madeCells #[Value.int .i64 0] (n * 1)).toList.getD j undef = .int .i64 0 := by
  rw [List.getD_eq_getElem?_getD, List.getElem?_eq_getElem (by simp [madeCells]; omega)]
  simp [madeCells, Nat.mod_one]
theorem lnew_no (n : Int) (w : World) (h : n < 0 ∨ 65536 < n) :
    Calls Try.prog 16 #[.int .i64 n] w fun e w' => e = .returned (.tuple #[.pointer none, .int .i64 31]) ∧ w' = w := by
  have k := cnew_no n w h
  go_enter Try.func16, Try.ntmps16
  go_wp2_with (first
    | ((go_at_call 41; (with_reducible refine (k).mono ?_)); rintro e w1 ⟨rfl, h1⟩; rw [h1]; clear h1 w1))
  go_ret2
  exact ⟨rfl, rfl⟩
set_option maxHeartbeats 4000000 in
theorem lnew_yes (n : Nat) (w : World) (h : n ≤ 65536) :
    Calls Try.prog 16 #[.int .i64 (n : Int)] w fun e w' => ∃ B F gt, e = .returned (.tuple #[.pointer (some ⟨B.n0, 0, none⟩), .int .i64 0]) ∧ LfAt w' B F gt 1 (NS.new n) 0 (fun _ => .nil) ∧ Upd [] w w' ∧ ∀ x, x ∈ B.blk F gt → w.heap.size ≤ x := by
  go_enter Try.func16, Try.ntmps16
  go_wp2_with (first
    | ((go_at_call 41; (with_reducible refine (cnew_yes n _ h).mono ?_)); rintro e w1 ⟨c, F, rfl, hC, hu1, hF⟩)
    | ((go_at_call 42; (with_reducible refine (spineNew_yes n _ h).mono ?_)); rintro e w2 ⟨bt, ba, rfl, hT, hu2, hb1, hb2⟩)
    | (at_make; refine wpList_make_row rfl _ 30 rfl 3 (.int .i64 0) 1 8 Try.underlying30 intInfo n rfl (by omega) (by unfold maxLen; omega) ?_; intro w3 hr3 hu3))
  go_ret2
  have hcs : (NS.new n).cs.length = n := by simp [NS.new]
  have l1 := hu1.size
  have l2 := hu2.size
  have l3 := hu3.size
  have l4 := hr3.lt
  have l5 := hT.head.lt
  have l6 := hT.row.lt
  have l7 := hC.lt
  have lc := l7 c hC.mem
  have e3 : ((w3.alloc (.cells #[.int .i64 (-1)] 3)).heap.size) = w3.heap.size + 1 := by rw [World.size_alloc]
  have hv : Upd [] w3 (w3.alloc (.cells #[.int .i64 (-1)] 3)) := (Upd.refl _ _).alloc _
  have hw : Upd [] w3 ((w3.alloc (.cells #[.int .i64 (-1)] 3)).alloc (.cells #[.pointer (some ⟨c, 0, none⟩), .pointer (some ⟨bt, 0, none⟩), .slice (some ⟨w2.heap.size, 0, none⟩) n n, .slice (some ⟨w3.heap.size, 0, none⟩) 1 1] 32)) := hv.alloc _
  have hh := rowAt_new (w3.alloc (.cells #[.int .i64 (-1)] 3)) [.pointer (some ⟨c, 0, none⟩), .pointer (some ⟨bt, 0, none⟩), .slice (some ⟨w2.heap.size, 0, none⟩) n n, .slice (some ⟨w3.heap.size, 0, none⟩) 1 1] 32
  rw [e3] at hh
  have hi : IZ (w3.alloc (.cells #[.int .i64 (-1)] 3)) w3.heap.size 1 [-1] := IZ.lit w3 [-1] (by simp)
  have hF' : ∀ x, x ∈ F → x < w1.heap.size := l7
  have hnF : ∀ x, w1.heap.size ≤ x → x ∉ F := fun x hx hm => by have := hF' x hm; omega
  refine ⟨⟨w3.heap.size + 1, c, bt, ba, w2.heap.size⟩, F, w3.heap.size, rfl, ⟨TS.none, fun _ => 0, [-1], ⟨by rw [hcs]; exact hh, ((hC.upd0 hu2).upd0 hu3).upd0 hw, by rw [hcs]; exact (hT.upd hu3 (by simp) (by simp)).upd hw (by simp) (by simp), ?_, hi.upd ((Upd.refl [] _).alloc _) (by simp), rfl, ⟨hnF _ (by first | omega | (simp only; omega)), hnF _ (by first | omega | (simp only; omega)), hnF _ (by first | omega | (simp only; omega)), hnF _ (by first | omega | (simp only; omega)), hnF _ (by first | omega | (simp only; omega))⟩, ⟨⟨by simp only; omega, by simp only; omega, by simp only; omega, by simp only; omega⟩, by simp only; omega, by simp only; omega, by simp only; omega, by simp only; omega, by simp only; omega⟩⟩, trI_new n, fun _ => trivial, fun _ => trivial⟩, ((hu1.trans hu2).trans hu3).trans hw, fun x hx => ?_⟩
  · rw [hcs]
    have := hr3.upd hw (by simp)
    rw [Nat.mul_one] at this
    refine this.ext (fun j hj => ?_)
    have hz : (Value.int .i64 0).cells = #[.int .i64 0] := rfl
    have e := madeInts n j hj
    rw [Nat.mul_one] at e
    rw [hz, e]; rfl
  · simp only [LB.blk, List.mem_cons] at hx
    rcases hx with rfl | rfl | rfl | rfl | rfl | hx
    · omega
    · omega
    · omega
    · omega
    · omega
    · exact hF x hx
section
variable {w : World} {B : LB} {F : List Nat} {gt ct : Nat} {A : NS} {st : Nat} {tr : Nat → BT}
/-- The rank of a thing, by its tree. -/
def rankT : BT → Nat → Nat
  | .nil, _ => 0
  | .node x l r, y => if y = x then r.rank + 1 else if y ∈ l.nodes then rankT l y else rankT r y
theorem RkOk.rankT {rk : Nat → Nat} : ∀ {t : BT} {y : Nat}, RkOk rk t → y ∈ t.nodes → rk y = Go.Proofs.Ytechoojcgdjcdaa.rankT t y
  | .nil, _, _, h => by cases h
  | .node x l r, y, h, hy => by
    unfold Go.Proofs.Ytechoojcgdjcdaa.rankT
    by_cases e : y = x
    · rw [if_pos e, e]; exact h.1
    · rw [if_neg e]
      by_cases hl : y ∈ l.nodes
      · rw [if_pos hl]; exact RkOk.rankT h.2.1 hl
      · rw [if_neg hl]
        simp only [BT.nodes, List.mem_cons, List.mem_append] at hy
        exact RkOk.rankT h.2.2 ((hy.resolve_left e).resolve_left hl)
theorem lrank_no (h : LfAt w B F gt ct A st tr) (x : Int) (hx : inN A x = false) :
    Calls Try.prog 30 #[.pointer (some ⟨B.n0, 0, none⟩), .int .i64 x] w fun e w' => e = .returned (.int .i64 0) ∧ w' = w := by
  obtain ⟨S, rk, tops, hM, -, -, -⟩ := h
  have k := chome_no hM.cells x hx
  have h0 := hM.h0
  clear hM
  go_enter Try.func30, Try.ntmps30
  go_wp2_with (first | (go_at_call 54; (with_reducible refine (k).mono ?_); rintro e w9 ⟨rfl, hw9⟩; rw [hw9]; clear hw9 w9))
  go_ret
  exact ⟨rfl, rfl⟩
set_option maxHeartbeats 1000000 in
theorem lrank_yes (h : LfAt w B F gt ct A st tr) (x g : Nat) (hx : x ∈ (tr g).nodes) :
    Calls Try.prog 30 #[.pointer (some ⟨B.n0, 0, none⟩), .int .i64 (x : Int)] w fun e w' => e = .returned (.int .i64 (rankT (tr g) x : Int)) ∧ LfAt w' B F gt ct A st tr ∧ Upd F w w' := by
  obtain ⟨S, rk, tops, hM, hI, hL, hR⟩ := h
  have hm := (hI.mem g x).1 hx
  have hin : inN A (x : Int) = true := (inN_nat A x).2 ⟨hm.2.1, by omega⟩
  have k := chome_yes hM.cells x hin
  have h0 := hM.h0
  have hrk := (hR g).rankT hx
  have hxl := hm.2.1
  have hA := hM.cells.ok.c1
  have HM := Lib.hid hM
  have HI := Lib.hid (And.intro hI (And.intro hL hR))
  have HK := Lib.hid hrk
  clear hM hI hL hR hm hin hx hrk
  go_enter Try.func30, Try.ntmps30
  go_wp2_with (first | ((go_at_call 54; (with_reducible refine (k).mono ?_)); rintro e w1 ⟨rfl, hC, hu⟩; (have hM1 := HM.out.setC hu hC (fun y hy => Or.inl hy) rfl rfl); (have h2 := hM1.h2); (have d := hM1.ranks.cell x hxl)))
  go_ret
  exact ⟨by first | rfl | (rw [HK.out]; rfl), ⟨S, rk, tops, hM1, HI.out⟩, hu⟩
end
end Go.Proofs.Ytechoojcgdjcdaa
