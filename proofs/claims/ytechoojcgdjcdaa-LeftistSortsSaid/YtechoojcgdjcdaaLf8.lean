/-
  Leftist heaps: Make, Min. Conditions: those of each lemma.
-/
import Derived.Test.YtechoojcgdjcdaaLf7
set_option linter.unusedVariables false
set_option linter.unusedSimpArgs false
namespace Go.Proofs.Ytechoojcgdjcdaa
open Go Go.RowKit

/-- One heap more has an empty tree. -/
theorem TrI.make {A : NS} {S : TS} {tops : List Int} {tr : Nat → BT} (h : TrI A S tops tr) (ok : A.Ok) (hn : tops.length = A.hs.length) (hl : ¬ 65536 < A.hs.length) : TrI (makeN A) S (tops ++ [-1]) tr := by
  have hc : (makeN A).cs = A.cs := by unfold makeN; rw [if_neg hl]
  have hh : (makeN A).hs = A.hs ++ [true] := by unfold makeN; rw [if_neg hl]
  have hcc : ∀ x, (makeN A).c x = A.c x := fun x => by unfold NS.c; rw [hc]
  refine h.next (by rw [hc]) (fun _ => True) (fun g _ => ⟨rfl, fun x _ => ⟨⟨rfl, rfl, rfl⟩, hcc x⟩⟩) (fun g _ x _ _ => by rw [hcc]) (fun g hg => absurd trivial hg) (fun g hg => ?_) (fun x hx h0 => h.free x hx (by rw [hcc] at h0; exact h0))
  rw [hh, List.length_append, List.length_singleton] at hg
  by_cases e : g < A.hs.length
  · rw [List.getD_eq_getElem?_getD, List.getElem?_append_left (by omega), ← List.getD_eq_getElem?_getD]; exact h.top g e
  · have e2 : g = tops.length := by omega
    have hnil : tr g = .nil := by
      cases ht : tr g with
      | nil => rfl
      | node x l r =>
        have hm := (h.mem g x).1 (by rw [ht]; simp [BT.nodes])
        have := (ok.nat x hm.2.1).2
        omega
    rw [List.getD_eq_getElem?_getD, e2, List.getElem?_append_right (Nat.le_refl _)]
    rw [← e2, hnil]
    simp [BT.root]
section
variable {w : World} {B : LB} {F : List Nat} {gt ct : Nat} {A : NS} {st : Nat} {tr : Nat → BT}
set_option maxHeartbeats 4000000 in
theorem lmake_no (h : LfAt w B F gt ct A st tr) (hl : 65536 < A.hs.length) :
    Calls Try.prog 39 #[.pointer (some ⟨B.n0, 0, none⟩)] w fun e w' => e = .returned (.int .i64 0) ∧ Goes (B.blk F gt) w w' (fun F' => ∃ F1, F' = B.blk F1 gt ∧ LfAt w' B F1 gt ct A st tr) := by
  obtain ⟨S, rk, tops, hM, hI⟩ := h
  have k := cmake_any hM.cells
  have e1 : makeV A = 0 := by unfold makeV; rw [if_pos hl]
  have e2 : makeN A = A := by unfold makeN; rw [if_pos hl]
  rw [e1, e2] at k
  have h0 := hM.h0
  have HM := Lib.hid hM
  have HI := Lib.hid hI
  clear hM hI e1 e2
  go_enter Try.func39, Try.ntmps39
  go_wp2_with (first | ((go_at_call 57; (with_reducible refine (k).mono ?_)); rintro e w1 ⟨rfl, F1, hC, hu, hF⟩))
  go_ret
  exact ⟨rfl, B.blk F1 gt, ⟨F1, rfl, S, rk, tops, HM.out.setC hu hC hF rfl rfl, HI.out⟩, hu.mono (fun y hy => by simp [LB.blk, hy]), fun x hx => by
    simp only [LB.blk, List.mem_cons] at hx ⊢
    rcases hx with rfl | rfl | rfl | rfl | rfl | hx
    · simp
    · simp
    · simp
    · simp
    · simp
    · rcases hF x hx with h | h
      · simp [h]
      · exact Or.inr h⟩
set_option maxHeartbeats 8000000 in
theorem lmake_yes (h : LfAt w B F gt ct A st tr) (hl : ¬ 65536 < A.hs.length) :
    Calls Try.prog 39 #[.pointer (some ⟨B.n0, 0, none⟩)] w fun e w' => e = .returned (.int .i64 (A.hs.length : Int)) ∧ Goes (B.blk F gt) w w' (fun F' => ∃ F1 gt1 ct1, F' = B.blk F1 gt1 ∧ LfAt w' B F1 gt1 ct1 (makeN A) st tr) := by
  obtain ⟨S, rk, tops, hM, hI, hL, hR⟩ := h
  have k := cmake_any hM.cells
  have e1 : makeV A = A.hs.length := by unfold makeV; rw [if_neg hl]
  rw [e1] at k
  have hcs : (makeN A).cs.length = A.cs.length := by unfold makeN; rw [if_neg hl]
  have hhs : (makeN A).hs.length = A.hs.length + 1 := by unfold makeN; rw [if_neg hl]; simp
  have hI2 := hI.make hM.cells.ok hM.topn hl
  have h0 := hM.h0
  have hh0 := hM.cells.ok.h0
  have HTN := Lib.hid hM.topn
  have htb : tops.length ≤ 65536 := by rw [hM.topn]; omega
  have HM := Lib.hid hM
  have HI := Lib.hid (And.intro hI2 (And.intro hL hR))
  clear hM hI hL hR e1 hI2
  go_enter Try.func39, Try.ntmps39
  go_wp2_with (first
    | ((go_at_call 57; (with_reducible refine (k).mono ?_)); rintro e w1 ⟨rfl, F1, hC, hu, hF⟩; (have d3 := hu.kept HM.out.h3 HM.out.sepF.1); (have f3 := hu.keptF HM.out.h3 HM.out.sepF.1 (HM.out.head.free 3)); (have ho1 := (HM.out.topI.upd hu HM.out.sepF.2.2.2.2).own); (have g0 : B.n0 ≠ gt := HM.out.sep.1.2.2.2); (have gl := (HM.out.topI.upd hu HM.out.sepF.2.2.2.2).lt))
    | ((at_builtin; refine wpList_append_sep rfl _ _ 30 rfl 0 3 (.int .i64 0) 1 8 Try.underlying30 intInfo rfl (by decide) _ _ _ rfl (ho1) [.int .i64 (-1)] rfl (by simp [Value.oneCell']) (by first | rfl | (rw [World.size_alloc]; rfl)) (by unfold maxLen; omega) (by omega) ((by omega)) ?_; intro v2 w2 ho2 hu2 hsep2); (have hu2 : Upd [gt] w1 w2 := hu2); obtain ⟨gt1, ct1, ev, hI2, -⟩ := IZ.of_own (l := tops ++ [-1]) (by rw [intsZ_append, List.length_append]; exact ho2) (by simp); rw [List.length_append, List.length_singleton] at ev; subst ev; (have d4 := hu2.kept d3 (by simp; omega)); (have f4 := hu2.keptF d3 (by simp; omega) f3)))
  go_ret
  have hM := HM.out
  have hlt := hM.lt
  have f := hM.sepF
  have q := hM.sep
  have hw3 : Upd [B.n0] w2 (w2.setCell ⟨B.n0, 3, none⟩ (.slice (some ⟨gt1, 0, none⟩) (tops.length + 1) ct1)) := by (repeat (first | assumption | exact Upd.refl _ _ | refine Upd.alloc ?_ _ | refine Upd.drew ?_ | refine Upd.drewN ?_ _ | refine Upd.setCell ?_ ?_ _ | focus (left; simp; done) | focus (right; simp; done) | focus (right; simp; omega)))
  have hg1 : gt1 = gt ∨ w1.heap.size < gt1 := by
    rcases hsep2 with h | h
    · exact Or.inl (Option.some.inj h)
    · exact Or.inr (h gt1 rfl)
  have hws := hu.size
  have hC1 := hC.lt
  have l0 := hlt B.n0 (by simp [LB.blk])
  have l1 := hlt B.bt (by simp [LB.blk])
  have l2 := hlt B.ba (by simp [LB.blk])
  have l3 := hlt B.br (by simp [LB.blk])
  have l4 := hlt gt (by simp [LB.blk])
  have hnF : ∀ y, y < w.heap.size → y ∉ F → y ∉ F1 := fun y hy hn hm => by rcases hF y hm with h' | h'; exact hn h'; omega
  have hgF : gt1 ∉ F1 := by
    rcases hg1 with e | e
    · rw [e]; exact hnF gt l4 f.2.2.2.2
    · exact fun hm => by have := hC1 gt1 hm; omega
  have hb : w.heap.size ≤ gt1 ∨ gt1 = gt := by omega
  have hhd := ((hM.head.upd hu f.1).upd hu2 (by simp; omega)).set 3 (.slice (some ⟨gt1, 0, none⟩) (tops.length + 1) ct1)
  refine ⟨rfl, B.blk F1 gt1, ⟨F1, gt1, ct1, rfl, S, rk, tops ++ [-1], ⟨?_, ?_, ?_, ?_, hI2.upd hw3 (by simp; omega), ?_, ⟨hnF _ l0 f.1, hnF _ l1 f.2.1, hnF _ l2 f.2.2.1, hnF _ l3 f.2.2.2.1, hgF⟩, ⟨⟨q.1.1, q.1.2.1, q.1.2.2.1, by omega⟩, q.2.1, by omega, q.2.2.2.1, by omega, by omega⟩⟩, HI.out⟩, ?_, fun y hy => ?_⟩
  · rw [hcs, List.length_append, List.length_singleton]
    refine hhd.ext (fun j hj => ?_)
    rcases (by omega : j = 0 ∨ j = 1 ∨ j = 2 ∨ j = 3) with rfl | rfl | rfl | rfl <;> rfl
  · exact (hC.upd hu2 (fun y hy => by simp at hy; rw [hy]; exact hnF gt l4 f.2.2.2.2)).upd hw3 (fun y hy => by simp at hy; rw [hy]; exact hnF _ l0 f.1)
  · rw [hcs]
    exact ((hM.trees.upd hu f.2.1 f.2.2.1).upd hu2 (by simp; omega) (by simp; omega)).upd hw3 (by simp; omega) (by simp; omega)
  · rw [hcs]
    exact ((hM.ranks.upd hu f.2.2.2.1).upd hu2 (by simp; omega)).upd hw3 (by simp; omega)
  · rw [List.length_append, List.length_singleton, hhs, HTN.out]
  · have u1 : Upd (B.blk F gt) w w1 := hu.mono (fun y hy => by simp [LB.blk, hy])
    exact (u1.trans (hu2.mono (fun y hy => by simp at hy; simp [LB.blk, hy]))).trans (hw3.mono (fun y hy => by simp at hy; simp [LB.blk, hy]))
  · simp only [LB.blk, List.mem_cons] at hy ⊢
    rcases hy with rfl | rfl | rfl | rfl | rfl | hy
    · simp
    · simp
    · simp
    · simp
    · rcases hb with h | h
      · exact Or.inr h
      · exact Or.inl (by simp [h])
    · rcases hF y hy with h | h
      · simp [h]
      · exact Or.inr h
end
end Go.Proofs.Ytechoojcgdjcdaa
