/-
  Leftist heaps: settle, told of trees; merge. Conditions: those of each lemma.
-/
import Derived.Test.YtechoojcgdjcdaaLf
set_option linter.unusedVariables false
set_option linter.unusedSimpArgs false
namespace Go.Proofs.Ytechoojcgdjcdaa
open Go Go.RowKit

theorem rank_le : ∀ t : BT, t.rank ≤ t.size
  | .nil => Nat.le_refl _
  | .node x l r => by have := rank_le r; simp only [BT.rank, BT.size]; omega
theorem nodup_natlen {n : Nat} {l : List Nat} (hn : l.Nodup) (hl : ∀ x, x ∈ l → x < n) : l.length ≤ n := by
  have := nodup_range n (l.map fun (x : Nat) => (x : Int)) (by
    unfold List.Nodup
    rw [List.pairwise_map]
    exact hn.imp (fun {a b} h e => h (by omega))) (fun y hy => by
    obtain ⟨x, hx, rfl⟩ := List.mem_map.1 hy
    have := hl x hx
    exact ⟨by omega, by omega⟩)
  simpa using this
theorem rankZ_root {rk : Nat → Nat} {t : BT} (h : RkOk rk t) : rankZ rk t.root = t.rank := by
  unfold rankZ
  by_cases e : t = .nil
  · subst e; simp [BT.root, BT.rank]
  · have := root_mem e
    rw [if_neg (by omega)]
    rw [h.root e]
theorem root_rng {n : Nat} {t : BT} (h : ∀ x, x ∈ t.nodes → x < n) : t.root = -1 ∨ (0 ≤ t.root ∧ t.root < n) := by
  by_cases e : t = .nil
  · subst e; exact Or.inl rfl
  · have h1 := root_mem e
    have := h _ h1.1
    exact Or.inr ⟨by omega, by omega⟩
theorem isT_node {S : TS} {p : Int} {x : Nat} {l r : BT} (hu : S.u x = p) (hl : IsT S x (S.l x) l) (hr : IsT S x (S.r x) r) : IsT S p x (.node x l r) := ⟨rfl, hu, hl, hr⟩
section
variable {w : World} {B : LB} {F : List Nat} {gt ct : Nat} {A : NS} {st : Nat} {S : TS} {rk : Nat → Nat} {tops : List Int}
theorem lsettle_tree (h : LfM w B F gt ct A st S rk tops) {p : Int} {x : Nat} {l r : BT} (hT : IsT S p x (.node x l r)) (hl : RkOk rk l) (hr : RkOk rk r) (hn : (BT.node x l r).nodes.Nodup) (hlt : ∀ y, y ∈ (BT.node x l r).nodes → y < A.cs.length) :
    Calls Try.prog 90 #[.pointer (some ⟨B.n0, 0, none⟩), .int .i64 (x : Int)] w fun e w' => e = .returned (.tuple #[]) ∧ Upd [B.ba, B.br] w w' ∧
      ∃ S' rk', LfM w' B F gt ct A st S' rk' tops ∧ IsT S' p x (settleT x l r) ∧ RkOk rk' (settleT x l r) ∧ (∀ y, y ≠ x → S.at S' y) ∧ S'.u x = S.u x ∧ (∀ y, y ≠ x → rk' y = rk y) := by
  obtain ⟨_, hu, hTl, hTr⟩ := hT
  have hx := hlt x (by simp [BT.nodes])
  have hll : ∀ y, y ∈ l.nodes → y < A.cs.length := fun y hy => hlt y (by simp [BT.nodes, hy])
  have hlr : ∀ y, y ∈ r.nodes → y < A.cs.length := fun y hy => hlt y (by simp [BT.nodes, hy])
  have hA := h.cells.ok.c1
  have hn2 := hn
  simp only [BT.nodes, List.nodup_cons, List.mem_append, not_or, List.nodup_append] at hn2
  have sl := nodup_natlen hn2.2.1 hll
  have sr := nodup_natlen hn2.2.2.1 hlr
  rw [BT.size_nodes] at sl sr
  have rl := rank_le l
  have rr := rank_le r
  have el := hTl.root
  have er := hTr.root
  have fr : ∀ {S' : TS}, (∀ y, y ≠ x → S.at S' y) → (∀ z, IsT S x z l → IsT S' x z l) ∧ (∀ z, IsT S x z r → IsT S' x z r) := fun hS =>
    ⟨fun z hz => hz.frame (fun y hy => hS y (fun e => hn2.1.1 (by rw [← e]; exact hy))), fun z hz => hz.frame (fun y hy => hS y (fun e => hn2.1.2 (by rw [← e]; exact hy)))⟩
  have zl : rankZ rk (S.l x) = l.rank := by rw [el]; exact rankZ_root hl
  have zr : rankZ rk (S.r x) = r.rank := by rw [er]; exact rankZ_root hr
  by_cases hab : l.rank < r.rank
  · refine (lsettle_turn h x hx (by rw [el]; exact root_rng hll) (by rw [er]; exact root_rng hlr) (by rw [zl]; omega) (by rw [zr]; omega) (by rw [zl, zr]; omega)).mono ?_
    rintro e w' ⟨rfl, hU, hM⟩
    have hat : ∀ y, y ≠ x → S.at (turnS S x) y := fun y hy => ⟨by unfold turnS TS.setKid; simp [hy], by unfold turnS TS.setKid; simp [hy], by unfold turnS TS.setKid; simp⟩
    have e1 : (turnS S x).l x = S.r x := by unfold turnS TS.setKid; simp
    have e2 : (turnS S x).r x = S.l x := by unfold turnS TS.setKid; simp
    have e3 : (turnS S x).u x = S.u x := by unfold turnS TS.setKid; simp
    refine ⟨rfl, hU, _, _, hM, ?_, ?_, hat, e3, fun y hy => by rw [if_neg hy]⟩
    · unfold settleT; rw [if_pos hab]
      exact ⟨rfl, by rw [e3]; exact hu, by rw [e1]; exact (fr hat).2 _ hTr, by rw [e2]; exact (fr hat).1 _ hTl⟩
    · unfold settleT; rw [if_pos hab]
      refine ⟨by simp [zl], hr.frame (fun y hy => by rw [if_neg (fun e => hn2.1.2 (by rw [← e]; exact hy))]), hl.frame (fun y hy => by rw [if_neg (fun e => hn2.1.1 (by rw [← e]; exact hy))])⟩
  · refine (lsettle_stay h x hx (by rw [el]; exact root_rng hll) (by rw [er]; exact root_rng hlr) (by rw [zl]; omega) (by rw [zr]; omega) (by rw [zl, zr]; omega)).mono ?_
    rintro e w' ⟨rfl, hU, hM⟩
    refine ⟨rfl, hU, _, _, hM, ?_, ?_, fun y _ => ⟨rfl, rfl, rfl⟩, rfl, fun y hy => by rw [if_neg hy]⟩
    · unfold settleT; rw [if_neg hab]
      exact ⟨rfl, hu, hTl, hTr⟩
    · unfold settleT; rw [if_neg hab]
      refine ⟨by simp [zr], hl.frame (fun y hy => by rw [if_neg (fun e => hn2.1.1 (by rw [← e]; exact hy))]), hr.frame (fun y hy => by rw [if_neg (fun e => hn2.1.2 (by rw [← e]; exact hy))])⟩
end
end Go.Proofs.Ytechoojcgdjcdaa
