/-
  Leftist heaps: what is told of the way to the right (plain). Conditions: those of each lemma.
-/
import Derived.Test.YtechoojcgdjcdaaLfSp2
set_option linter.unusedVariables false
set_option linter.unusedSimpArgs false
namespace Go.Proofs.Ytechoojcgdjcdaa
open Go Go.RowKit

theorem rsp_rank : ∀ t : BT, (rsp t).length = t.rank
  | .nil => rfl
  | .node x l r => by simp only [rsp, List.length_cons, BT.rank, rsp_rank r]
theorem rsp_root {t : BT} (h : t ≠ .nil) : (((rsp t).getD 0 0 : Nat) : Int) = t.root := by
  cases t with
  | nil => exact absurd rfl h
  | node x l r => rfl
theorem rsp_rankT : ∀ {t : BT}, t.nodes.Nodup → ∀ i, i < (rsp t).length → rankT t ((rsp t).getD i 0) = (rsp t).length - i
  | .nil, _, i, h => by simp [rsp] at h
  | .node x l r, hn, 0, h => by
    simp only [rsp, List.getD_cons_zero, List.length_cons]
    unfold rankT
    rw [if_pos rfl, rsp_rank r]; omega
  | .node x l r, hn, i + 1, h => by
    simp only [rsp, List.getD_cons_succ, List.length_cons] at h ⊢
    have hi : i < (rsp r).length := by omega
    simp only [BT.nodes, List.nodup_cons, List.mem_append, not_or] at hn
    have hnr := (List.nodup_append.1 hn.2).2.1
    have hm : (rsp r).getD i 0 ∈ r.nodes := by
      refine rsp_sub ?_
      rw [List.getD_eq_getElem?_getD, List.getElem?_eq_getElem hi]
      exact List.getElem_mem hi
    have ih := rsp_rankT hnr i hi
    unfold rankT
    rw [if_neg (fun e => hn.1.2 (by rw [← e]; exact hm)), if_neg (fun hl => (List.nodup_append.1 hn.2).2.2 _ hl _ hm rfl), ih]
    omega
theorem rsp_ahead {A : NS} : ∀ {t : BT}, Heap A t → ∀ i, i + 1 < (rsp t).length → lt3 A ((rsp t).getD i 0) ((rsp t).getD (i + 1) 0)
  | .nil, _, i, h => by simp [rsp] at h
  | .node x l r, hH, 0, h => by
    simp only [rsp, List.getD_cons_zero, List.getD_cons_succ, List.length_cons] at h ⊢
    refine hH.2.1 _ (rsp_sub ?_)
    rw [List.getD_eq_getElem?_getD, List.getElem?_eq_getElem (by omega)]
    exact List.getElem_mem _
  | .node x l r, hH, i + 1, h => by
    simp only [rsp, List.getD_cons_succ, List.length_cons] at h ⊢
    exact rsp_ahead hH.2.2.2 i (by omega)
theorem rsp_mem {t : BT} {i : Nat} (h : i < (rsp t).length) : (rsp t).getD i 0 ∈ t.nodes := by
  refine rsp_sub ?_
  rw [List.getD_eq_getElem?_getD, List.getElem?_eq_getElem h]
  exact List.getElem_mem h
theorem rsp_bits {t : BT} (h : Lean t) {m : Int} (hs : (t.size : Int) ≤ m) (hm : m ≤ 4611686018427387904) : ((rsp t).length : Int) ≤ bitsOf m := by
  rw [rsp_rank]
  have h1 := rank_size h
  have hb := (bitsOf_bd m).1
  cases e : t.rank with
  | zero => omega
  | succ r =>
    rw [e, Nat.pow_succ] at h1
    have hp : 0 < 2 ^ r := Nat.pow_pos (by omega)
    have h2 : 2 ^ r ≤ t.size := by omega
    have h3 : ((2 ^ r : Nat) : Int) ≤ (t.size : Int) := by exact_mod_cast h2
    have h4 : ((2 ^ r : Nat) : Int) = (2 : Int) ^ r := by push_cast; rfl
    have := bits_pow r m (by omega) hm
    omega
theorem rankT_pos : ∀ {t : BT} {y : Nat}, y ∈ t.nodes → 0 < rankT t y
  | .nil, _, h => by cases h
  | .node x l r, y, h => by
    unfold rankT
    by_cases e : y = x
    · rw [if_pos e]; omega
    · rw [if_neg e]
      by_cases hl : y ∈ l.nodes
      · rw [if_pos hl]; exact rankT_pos hl
      · rw [if_neg hl]
        simp only [BT.nodes, List.mem_cons, List.mem_append] at h
        exact rankT_pos ((h.resolve_left e).resolve_left hl)
end Go.Proofs.Ytechoojcgdjcdaa
