/-
  Leftist heaps: the way to the right (Spine). Conditions: those of each lemma.
-/
import Derived.Test.YtechoojcgdjcdaaLfK
set_option linter.unusedVariables false
set_option linter.unusedSimpArgs false
namespace Go.Proofs.Ytechoojcgdjcdaa
open Go Go.RowKit

/-- The way to the right. -/
def rsp : BT → List Nat
  | .nil => []
  | .node x _ r => x :: rsp r
def wayZ (l : List Nat) : List Value := intsZ (natsZ l)
theorem wayZ_snoc (l : List Nat) (x : Nat) : wayZ (l ++ [x]) = wayZ l ++ [.int .i64 (x : Int)] := by unfold wayZ intsZ natsZ; simp
theorem rsp_sub : ∀ {t : BT} {y : Nat}, y ∈ rsp t → y ∈ t.nodes
  | .nil, _, h => by cases h
  | .node x l r, y, h => by
    simp only [rsp, List.mem_cons] at h
    simp only [BT.nodes, List.mem_cons, List.mem_append]
    rcases h with h | h
    · exact Or.inl h
    · exact Or.inr (Or.inr (rsp_sub h))
theorem rsp_len : ∀ t : BT, (rsp t).length ≤ t.size
  | .nil => by simp [rsp, BT.size]
  | .node x l r => by have := rsp_len r; simp only [rsp, BT.size, List.length_cons]; omega
set_option maxHeartbeats 2000000 in
theorem tspine_any {bt ba n : Nat} {S : TS} {w : World} (h : TreesAt w bt ba n S) {t : BT} (hT : IsT S (-1) t.root t) (hlt : ∀ y, y ∈ t.nodes → y < n) (hlen : t.size ≤ 65536) :
    Calls Try.prog 53 #[.pointer (some ⟨bt, 0, none⟩), .int .i64 t.root] w fun e w' => ∃ v, e = .returned v ∧ w'.ownsRow w.heap.size 3 1 v (rsp t).length (wayZ (rsp t)) ∧ Upd [] w w' := by
  have hbt := h.head.lt
  have hba := h.row.lt
  have HH := Lib.hid h
  have HT := Lib.hid hT
  have HL := Lib.hid hlt
  have hrl := rsp_len t
  clear h hT hlt
  go_enter Try.func53, Try.ntmps53
  go_wp2
  go_loopw [1, 5] (fun v o wr => ∃ (q : Int) (s : BT) (l : List Nat), IsT S q s.root s ∧ (∀ y, y ∈ s.nodes → y < n) ∧ v = .int .i64 s.root ∧ l ++ rsp s = rsp t ∧ wr.ownsRow w.heap.size 3 1 o l.length (wayZ l) ∧ Upd [] w wr) (fun _ o _ => (rsp t).length - lenOf o)
  case atStart => exact ⟨-1, t, [], HT.out, HL.out, rfl, rfl, World.ownsRow_nil _ _ _ _, Upd.refl _ _⟩
  case round =>
    obtain ⟨q, s, l, hT, hs, rfl, hl, hown, hu⟩ := hrel
    have hTr := HH.out.upd hu (by simp) (by simp)
    cases s with
    | nil =>
      simp only [rsp, List.append_nil] at hl
      subst hl
      have k1 := has_any bt ba n S (-1) _ hTr false (by simp)
      rw [show BT.root .nil = -1 from rfl]
      clear hTr hT
      go_wp2_with (first | (go_at_call 69; (with_reducible refine (k1).mono ?_); rintro e w9 ⟨rfl, hw9⟩; rw [hw9]; clear hw9 w9) | fail)
      go_ret
      exact ⟨_, rfl, hown, hu⟩
    | node y a r =>
      obtain ⟨_, _, _, hr⟩ := hT
      have hy := hs y (by simp [BT.nodes])
      have k1 := has_any bt ba n S (y : Int) _ hTr true (by simp [hy])
      have hl2 : (l ++ [y]) ++ rsp r = rsp t := by rw [← hl]; simp [rsp]
      have hll : l.length + 1 ≤ 65536 := by have := congrArg List.length hl2; simp at this; omega
      have hm : l.length < (rsp t).length := by rw [← hl]; simp [rsp]
      have k4 := fun W (hW : TreesAt W bt ba n S) => kid_any bt ba n S (y : Int) true W hW
      have e4 : kidOf n S (y : Int) true = r.root := by rw [← hr.root]; unfold kidOf TS.kid; rw [if_pos (by omega)]; simp
      simp only [e4] at k4
      rw [show BT.root (.node y a r) = (y : Int) from rfl]
      have HR := Lib.hid (And.intro hr (And.intro hl2 (And.intro hm (fun z (hz : z ∈ r.nodes) => hs z (by simp only [BT.nodes, List.mem_cons, List.mem_append]; exact Or.inr (Or.inr hz))))))
      obtain ⟨a5, c5, rfl, hc5⟩ := own_slice hown
      have hsz := hu.size
      clear hTr hr hl2 hm hl hs e4
      go_wp2_with (first
        | (go_at_call 69; (with_reducible refine (k1).mono ?_); rintro e w9 ⟨rfl, hw9⟩; rw [hw9]; clear hw9 w9)
        | ((at_builtin; refine wpList_append_sep rfl _ _ 30 rfl w.heap.size 3 (.int .i64 0) 1 8 Try.underlying30 intInfo rfl (by decide) _ _ _ rfl (hown) [.int .i64 (y : Int)] rfl (by simp [Value.oneCell']) (by first | rfl | (rw [World.size_alloc]; rfl)) (by unfold maxLen; omega) (by omega) ((by omega)) ?_; intro v2 w2 ho2 hu2 hsep2); (have hu3 : Upd [] w w2 := hu.joined hu2 (fun g hg => Or.inr (hown.lt g (Option.mem_toList.1 hg)).1)); (have k5 := k4 w2 (HH.out.upd hu3 (by simp) (by simp))))
        | ((go_at_call 70; (with_reducible refine (k5).mono ?_)); rintro e w3 ⟨rfl, kd, rfl⟩)
        | fail)
      obtain ⟨a6, c6, rfl, hc6⟩ := own_slice ho2
      exact ⟨⟨y, r, l ++ [y], by have h9 := HR.out.1; rw [h9.root] at h9; exact h9, HR.out.2.2.2, rfl, HR.out.2.1, by rw [wayZ_snoc, List.length_append, List.length_singleton]; exact owns_upd ho2 ((Upd.refl [] w2).drewN kd) (by simp), hu3.drewN kd⟩, by have := HR.out.2.2.1; simp [lenOf]; omega⟩
end Go.Proofs.Ytechoojcgdjcdaa
