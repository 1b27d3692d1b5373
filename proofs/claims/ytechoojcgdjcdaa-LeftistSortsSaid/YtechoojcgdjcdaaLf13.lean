/-
  Leftist heaps: what stands where something stood, plainly; and mended in memory. Conditions: those of each lemma.
-/
import Derived.Test.YtechoojcgdjcdaaLf9
import Derived.Test.YtechoojcgdjcdaaBt4
import Derived.Test.YtechoojcgdjcdaaBt5
set_option linter.unusedVariables false
set_option linter.unusedSimpArgs false
namespace Go.Proofs.Ytechoojcgdjcdaa
open Go Go.RowKit

/-- A tree in the place of an elder one, mended. -/
def fixT : List Fr → BT → BT → BT
  | [], _, m => m
  | f :: P, old, m => if f.2.1 then mendT P (upRank f old.rank) f.1 f.2.2 m else mendT P (upRank f old.rank) f.1 m f.2.2
theorem fixT_cons (f : Fr) (P : List Fr) (old m : BT) : fixT (f :: P) old m = if f.2.1 then mendT P (upRank f old.rank) f.1 f.2.2 m else mendT P (upRank f old.rank) f.1 m f.2.2 := rfl
theorem fix_nodes : ∀ (P : List Fr) (old m : BT), (fixT P old m).nodes.Perm (plug P m).nodes
  | [], _, _ => List.Perm.refl _
  | f :: P, old, m => by
    rw [fixT_cons]
    show List.Perm _ (plug P (plug1 f m)).nodes
    unfold plug1
    split
    · exact mend_nodes _ _ _ _ _
    · exact mend_nodes _ _ _ _ _
theorem fix_root (f : Fr) (P : List Fr) (old m : BT) : (fixT (f :: P) old m).root = (plug (f :: P) m).root := by
  rw [fixT_cons]
  show _ = (plug P (plug1 f m)).root
  unfold plug1
  split
  · exact mend_root _ _ _ _ _
  · exact mend_root _ _ _ _ _
theorem fix_heap {A : NS} : ∀ (P : List Fr) (old m : BT), Heap A (plug P m) → Heap A (fixT P old m)
  | [], _, _, h => h
  | f :: P, old, m, h => by
    have h1 : Heap A (plug P (plug1 f m)) := h
    rw [fixT_cons]
    unfold plug1 at h1
    split at h1
    · rename_i e; rw [if_pos e]; exact mend_heap _ _ _ _ _ h1
    · rename_i e; rw [if_neg e]; exact mend_heap _ _ _ _ _ h1
theorem fix_lean : ∀ (P : List Fr) (old m : BT), Lean m → LeanP P old.rank → Lean (fixT P old m)
  | [], _, _, h, _ => h
  | f :: P, old, m, h, hp => by
    rw [fixT_cons]
    split
    · exact mend_lean _ _ _ _ _ hp.1 h hp.2.2
    · exact mend_lean _ _ _ _ _ h hp.1 hp.2.2
noncomputable def ldelT (A : NS) (t : BT) (x : Nat) : BT × Nat :=
  (fixT (pathOf t x).1 (.node x (pathOf t x).2.1 (pathOf t x).2.2) (mergeT settleT A (pathOf t x).2.1 (pathOf t x).2.2).1, (mergeT settleT A (pathOf t x).2.1 (pathOf t x).2.2).2)
noncomputable def llowT (A' : NS) (t : BT) (x : Nat) : BT × Nat :=
  match (pathOf t x).1 with
  | [] => (t, 0)
  | _ :: _ => mergeT settleT A' (fixT (pathOf t x).1 (.node x (pathOf t x).2.1 (pathOf t x).2.2) .nil) (.node x (pathOf t x).2.1 (pathOf t x).2.2)
theorem plug_parts {P : List Fr} {x : Nat} {l r : BT} (hn : (plug P (.node x l r)).nodes.Nodup) :
    (x ∉ l.nodes ∧ x ∉ r.nodes ∧ x ∉ ctxN P) ∧ (l.nodes ++ r.nodes).Nodup ∧ (∀ y, y ∈ l.nodes → y ∉ ctxN P) ∧ (∀ y, y ∈ r.nodes → y ∉ ctxN P) ∧ (ctxN P).Nodup := by
  have h := (plug_nodes P (.node x l r)).nodup_iff.1 hn
  rw [List.nodup_append] at h
  obtain ⟨h1, h2, h3⟩ := h
  simp only [BT.nodes, List.nodup_cons, List.mem_append, not_or] at h1
  exact ⟨⟨h1.1.1, h1.1.2, fun hm => h3 x (by simp [BT.nodes]) x hm rfl⟩, h1.2, fun y hy hm => h3 y (by simp [BT.nodes, hy]) y hm rfl, fun y hy hm => h3 y (by simp [BT.nodes, hy]) y hm rfl, h2⟩
/-- Merged, what was below a thing, in its place: the things, less it; a heap. -/
theorem del_tree {up : Nat → BT → BT → BT} (U : UpOk up) {A : NS} {P : List Fr} {x : Nat} {l r : BT} (hn : (plug P (.node x l r)).nodes.Nodup) (hH : Heap A (plug P (.node x l r))) :
    (x :: (plug P (mergeT up A l r).1).nodes).Perm (plug P (.node x l r)).nodes ∧ Heap A (plug P (mergeT up A l r).1) ∧ (mergeT up A l r).1.nodes.Perm (l.nodes ++ r.nodes) := by
  obtain ⟨mp, mh⟩ := merge_ok U A _ l r (Nat.le_refl _)
  have h1 := plug_parts hn
  have hs := heap_sub hH
  have mh' := mh hs.2.2.1 hs.2.2.2 h1.2.1
  refine ⟨?_, heap_plug hH mh' (fun y hy => ?_), mp⟩
  · refine ((((plug_nodes P _).trans (mp.append_right _)).cons x)).trans ?_
    exact (plug_nodes P (.node x l r)).symm
  · have := mp.mem_iff.1 hy
    simp only [BT.nodes, List.mem_cons]; exact Or.inr this
section
variable {w : World} {B : LB} {F : List Nat} {gt ct : Nat} {A : NS} {st : Nat} {S : TS} {rk : Nat → Nat} {tops : List Int}
theorem lfix_any (h : LfM w B F gt ct A st S rk tops) {f : Fr} {P : List Fr} {old m : BT} (hT : IsT S (-1) (plug (f :: P) m).root (plug (f :: P) m)) (hm : RkOk rk m) (hP : RkP rk (f :: P) old.rank) (hX : (plug (f :: P) m).nodes.Nodup)
    (hlt : ∀ y, y ∈ (plug (f :: P) m).nodes → y < A.cs.length) :
    Calls Try.prog 139 #[.pointer (some ⟨B.n0, 0, none⟩), .int .i64 (f.1 : Int)] w fun e w' => e = .returned (.tuple #[]) ∧ Upd [B.ba, B.br] w w' ∧
      ∃ S' rk', LfM w' B F gt ct A st S' rk' tops ∧ MendEnd S rk (fixT (f :: P) old m) (plug (f :: P) m).nodes S' rk' := by
  rw [fixT_cons]
  have hT1 : IsT S (-1) (plug P (plug1 f m)).root (plug P (plug1 f m)) := hT
  have hX1 : (plug P (plug1 f m)).nodes.Nodup := hX
  have hlt1 : ∀ y, y ∈ (plug P (plug1 f m)).nodes → y < A.cs.length := hlt
  show Calls _ _ _ _ fun e w' => e = _ ∧ _ ∧ ∃ S' rk', _ ∧ MendEnd S rk _ (plug P (plug1 f m)).nodes S' rk'
  by_cases hs : f.2.1 = true
  · have e1 : plug1 f m = .node f.1 f.2.2 m := by unfold plug1; rw [if_pos hs]
    rw [e1] at hT1 hX1 hlt1 ⊢
    rw [if_pos hs]
    exact lmend_any h ⟨hT1, List.Perm.refl _, hP.1, hm, hP.2.1, hP.2.2, fun y _ => ⟨⟨rfl, rfl, rfl⟩, rfl⟩, rfl⟩ hX1 hlt1
  · have e1 : plug1 f m = .node f.1 m f.2.2 := by unfold plug1; rw [if_neg hs]
    rw [e1] at hT1 hX1 hlt1 ⊢
    rw [if_neg hs]
    exact lmend_any h ⟨hT1, List.Perm.refl _, hm, hP.1, hP.2.1, hP.2.2, fun y _ => ⟨⟨rfl, rfl, rfl⟩, rfl⟩, rfl⟩ hX1 hlt1
end
end Go.Proofs.Ytechoojcgdjcdaa
