/-
  Lemmas for RankNames: Bt, Lf, Lf2, Lf3. Conditions: those of each lemma.
-/
import Derived.WalkKit
import Derived.WalkSpells
import Derived.WalkLawsBesides
import Derived.BigQuiet
import Derived.Deep.RegionHeld3
import Derived.ProofKit
import Derived.OpenShut
import Derived.Lib.Hide
import Derived.Test.YtklibcncmbofpaaGreatProg
import Derived.IntWalk
import Derived.Maps.AppendAt
import Derived.StillTailTactics
import Derived.Maps.OwnSet
import Derived.Maps.OwnOps
import Derived.Maps.RangeWalk
import Derived.Test.YtklibcncmbofpaaGreatP01
import Derived.Test.YtklibcncmbofpaaGreatP02
import Derived.Test.YtklibcncmbofpaaGreatP03
import Derived.Test.YtklibcncmbofpaaGreatP05
set_option linter.unusedVariables false
set_option linter.unusedSimpArgs false
namespace Go.Proofs.YtklibcncmbofpaaGreat
inductive BT where
 | nil : BT
 | node : Nat → BT → BT → BT
def BT.root : BT → Int | .nil => -1 | .node x _ _ => x
def BT.nodes : BT → List Nat | .nil => [] | .node x l r => x :: (l.nodes ++ r.nodes)
def BT.size : BT → Nat | .nil => 0 | .node _ l r => l.size + r.size + 1
theorem BT.size_nodes : ∀ t : BT, t.nodes.length = t.size
 | .nil => rfl
 | .node x l r => by simp [BT.nodes, BT.size, BT.size_nodes l, BT.size_nodes r]
def IsT (S : TS) : Int → Int → BT → Prop
 | _, z, .nil => z = -1
 | p, z, .node x l r => z = x ∧ S.u x = p ∧ IsT S x (S.l x) l ∧ IsT S x (S.r x) r
theorem IsT.root {S : TS} : ∀ {t : BT} {p z : Int}, IsT S p z t → z = t.root
 | .nil, _, _, h => h
 | .node _ _ _, _, _, h => h.1
def TS.at (S S' : TS) (x : Nat) : Prop := S'.l x = S.l x ∧ S'.r x = S.r x ∧ S'.u x = S.u x
theorem IsT.frame {S S' : TS} : ∀ {t : BT} {p z : Int}, IsT S p z t → (∀ x, x ∈ t.nodes → S.at S' x) → IsT S' p z t
 | .nil, _, _, h, _ => h
 | .node x l r, p, z, h, hs => by
  have hx := hs x (by simp [BT.nodes])
  refine ⟨h.1, by rw [hx.2.2]; exact h.2.1, ?_, ?_⟩
  ·rw [hx.1]; exact IsT.frame h.2.2.1 (fun y hy => hs y (by simp [BT.nodes, hy]))
  ·rw [hx.2.1]; exact IsT.frame h.2.2.2 (fun y hy => hs y (by simp [BT.nodes, hy]))
theorem IsT.hung {S S' : TS} {t : BT} {p p' z : Int} (h : IsT S p z t) (hn : t.nodes.Nodup) (hs : ∀ x, x ∈ t.nodes → S'.l x = S.l x ∧ S'.r x = S.r x ∧ (x ≠ t.root.toNat → S'.u x = S.u x)) (hr : t ≠ .nil → S'.u t.root.toNat = p') : IsT S' p' z t := by
 cases t with
 | nil => exact h
 | node x l r =>
  have hx := hs x (by simp [BT.nodes])
  simp only [BT.nodes, List.nodup_cons, List.mem_append, not_or] at hn
  refine ⟨h.1, ?_, ?_, ?_⟩
  ·have := hr (by simp); simpa [BT.root] using this
  ·rw [hx.1]
   refine h.2.2.1.frame (fun y hy => ?_)
   have hy' := hs y (by simp [BT.nodes, hy])
   exact ⟨hy'.1, hy'.2.1, hy'.2.2 (fun e => by simp [BT.root] at e; rw [e] at hy; exact hn.1.1 hy)⟩
  ·rw [hx.2.1]
   refine h.2.2.2.frame (fun y hy => ?_)
   have hy' := hs y (by simp [BT.nodes, hy])
   exact ⟨hy'.1, hy'.2.1, hy'.2.2 (fun e => by simp [BT.root] at e; rw [e] at hy; exact hn.1.2 hy)⟩
theorem root_mem {t : BT} (h : t ≠ .nil) : t.root.toNat ∈ t.nodes ∧ t.root = (t.root.toNat : Int) := by
 cases t with
 | nil => exact absurd rfl h
 | node x l r => simp [BT.root, BT.nodes]
/-! ### ranks; what a merge gives -/
def BT.rank : BT → Nat | .nil => 0 | .node _ _ r => r.rank + 1
def settleT (x : Nat) (l r : BT) : BT := if l.rank < r.rank then .node x r l else .node x l r
def RkOk (rk : Nat → Nat) : BT → Prop
 | .nil => True
 | .node x l r => rk x = r.rank + 1 ∧ RkOk rk l ∧ RkOk rk r
theorem RkOk.frame {rk rk' : Nat → Nat} : ∀ {t : BT}, RkOk rk t → (∀ x, x ∈ t.nodes → rk' x = rk x) → RkOk rk' t
 | .nil, _, _ => trivial
 | .node x l r, h, hs => ⟨by rw [hs x (by simp [BT.nodes])]; exact h.1, h.2.1.frame (fun y hy => hs y (by simp [BT.nodes, hy])), h.2.2.frame (fun y hy => hs y (by simp [BT.nodes, hy]))⟩
theorem RkOk.root {rk : Nat → Nat} {t : BT} (h : RkOk rk t) (ht : t ≠ .nil) : rk t.root.toNat = t.rank := by
 cases t with
 | nil => exact absurd rfl ht
 | node x l r => simpa [BT.root, BT.rank] using h.1
def Lean : BT → Prop
 | .nil => True
 | .node _ l r => r.rank ≤ l.rank ∧ Lean l ∧ Lean r
theorem settle_lean {x : Nat} {l r : BT} (hl : Lean l) (hr : Lean r) : Lean (settleT x l r) := by
 unfold settleT; split
 ·exact ⟨by omega, hr, hl⟩
 ·exact ⟨by omega, hl, hr⟩
def Heap (A : NS) : BT → Prop
 | .nil => True
 | .node x l r => (∀ y, y ∈ l.nodes → lt3 A x y) ∧ (∀ y, y ∈ r.nodes → lt3 A x y) ∧ Heap A l ∧ Heap A r
theorem settle_nodes (x : Nat) (l r : BT) : (settleT x l r).nodes.Perm (x :: (l.nodes ++ r.nodes)) := by
 unfold settleT; split
 ·simp only [BT.nodes]; exact List.Perm.cons x List.perm_append_comm
 ·exact List.Perm.refl _
theorem settle_heap {A : NS} {x : Nat} {l r : BT} (h1 : ∀ y, y ∈ l.nodes → lt3 A x y) (h2 : ∀ y, y ∈ r.nodes → lt3 A x y) (hl : Heap A l) (hr : Heap A r) : Heap A (settleT x l r) := by
 unfold settleT; split
 ·exact ⟨h2, h1, hr, hl⟩
 ·exact ⟨h1, h2, hl, hr⟩
theorem settle_root (x : Nat) (l r : BT) : (settleT x l r).root = x := by unfold settleT; split <;> rfl
def mergeT (up : Nat → BT → BT → BT) (A : NS) : BT → BT → BT × Nat
 | .nil, t => (t, 0)
 | .node x l r, .nil => (.node x l r, 0)
 | .node x l r, .node y l' r' =>
  if lt3 A y x then (up y l' (mergeT up A r' (.node x l r)).1, (mergeT up A r' (.node x l r)).2 + 1)
  else (up x l (mergeT up A r (.node y l' r')).1, (mergeT up A r (.node y l' r')).2 + 1)
termination_by a b => a.size + b.size
decreasing_by
 all_goals simp only [BT.size]
 all_goals omega
theorem mergeT_nil (up : Nat → BT → BT → BT) (A : NS) (t : BT) : mergeT up A .nil t = (t, 0) := by rw [mergeT]
theorem mergeT_nil2 (up : Nat → BT → BT → BT) (A : NS) (t : BT) : mergeT up A t .nil = (t, 0) := by cases t <;> rw [mergeT]
theorem mergeT_node (up : Nat → BT → BT → BT) (A : NS) (x y : Nat) (l r l' r' : BT) : mergeT up A (.node x l r) (.node y l' r') =
  if lt3 A y x then (up y l' (mergeT up A r' (.node x l r)).1, (mergeT up A r' (.node x l r)).2 + 1)
  else (up x l (mergeT up A r (.node y l' r')).1, (mergeT up A r (.node y l' r')).2 + 1) := by rw [mergeT]
structure UpOk (up : Nat → BT → BT → BT) : Prop where
 nodes : ∀ x l r, (up x l r).nodes.Perm (x :: (l.nodes ++ r.nodes))
 heap : ∀ A x l r, (∀ y, y ∈ l.nodes → lt3 A x y) → (∀ y, y ∈ r.nodes → lt3 A x y) → Heap A l → Heap A r → Heap A (up x l r)
 root : ∀ x l r, (up x l r).root = x
theorem settle_ok : UpOk settleT := ⟨settle_nodes, fun _ _ _ _ => settle_heap, settle_root⟩
theorem merge_ok {up : Nat → BT → BT → BT} (U : UpOk up) (A : NS) (k : Nat) : ∀ (a b : BT), a.size + b.size ≤ k →
  (mergeT up A a b).1.nodes.Perm (a.nodes ++ b.nodes) ∧ (Heap A a → Heap A b → (a.nodes ++ b.nodes).Nodup → Heap A (mergeT up A a b).1) := by
 induction k with
 | zero =>
  intro a b hk
  cases a with
  | nil => rw [mergeT_nil]; exact ⟨by simp [BT.nodes], fun _ h _ => h⟩
  | node x l r => simp only [BT.size] at hk; omega
 | succ k ih =>
  intro a b hk
  cases a with
  | nil => rw [mergeT_nil]; exact ⟨by simp [BT.nodes], fun _ h _ => h⟩
  | node x l r =>
   cases b with
   | nil => rw [mergeT_nil2]; exact ⟨by simp [BT.nodes], fun h _ _ => h⟩
   | node y l' r' =>
    rw [mergeT_node]
    simp only [BT.size] at hk
    by_cases h : lt3 A y x
    ·rw [if_pos h]
     obtain ⟨i1, i2⟩ := ih r' (.node x l r) (by simp only [BT.size]; omega)
     have i3 := U.nodes y l' (mergeT up A r' (.node x l r)).1
     have i4 : (y :: (l'.nodes ++ (mergeT up A r' (.node x l r)).1.nodes)).Perm ((BT.node x l r).nodes ++ (BT.node y l' r').nodes) := by
      refine List.Perm.trans (List.Perm.cons y (List.Perm.append_left _ i1)) ?_
      rw [← List.append_assoc]
      show (y :: (l'.nodes ++ r'.nodes ++ (BT.node x l r).nodes)).Perm ((BT.node x l r).nodes ++ (y :: (l'.nodes ++ r'.nodes)))
      exact (List.perm_append_comm (l₁ := y :: (l'.nodes ++ r'.nodes)))
     refine ⟨i3.trans i4, fun ha hb hn => ?_⟩
     have hn2 : (r'.nodes ++ (BT.node x l r).nodes).Nodup := by
      rw [List.nodup_append] at hn ⊢
      simp only [BT.nodes, List.nodup_cons, List.nodup_append] at hn
      refine ⟨hn.2.1.2.2.1, by simp only [BT.nodes, List.nodup_cons, List.nodup_append]; exact hn.1, fun p hp q hq e => hn.2.2 q hq p (by simp [hp]) e.symm⟩
     refine U.heap A y l' _ hb.1 (fun z hz => ?_) hb.2.2.1 (i2 hb.2.2.2 ha hn2)
     rcases List.mem_append.1 (i1.mem_iff.1 hz) with hz | hz
     ·exact hb.2.1 z hz
     ·simp only [BT.nodes, List.mem_cons, List.mem_append] at hz
      rcases hz with rfl | hz | hz
      ·exact h
      ·exact lt3_trans h (ha.1 z hz)
      ·exact lt3_trans h (ha.2.1 z hz)
    ·rw [if_neg h]
     obtain ⟨i1, i2⟩ := ih r (.node y l' r') (by simp only [BT.size]; omega)
     have i3 := U.nodes x l (mergeT up A r (.node y l' r')).1
     have i4 : (x :: (l.nodes ++ (mergeT up A r (.node y l' r')).1.nodes)).Perm ((BT.node x l r).nodes ++ (BT.node y l' r').nodes) := by
      refine List.Perm.trans (List.Perm.cons x (List.Perm.append_left _ i1)) ?_
      rw [← List.append_assoc]
      exact List.Perm.refl _
     refine ⟨i3.trans i4, fun ha hb hn => ?_⟩
     have hn1 := hn
     rw [List.nodup_append] at hn
     have hxy : x ≠ y := hn.2.2 x (by simp [BT.nodes]) y (by simp [BT.nodes])
     have hlt : lt3 A x y := by
      rcases lt3_total (A := A) hxy with h' | h'
      ·exact h'
      ·exact absurd h' h
     have hn2 : (r.nodes ++ (BT.node y l' r').nodes).Nodup := by
      rw [List.nodup_append]
      simp only [BT.nodes, List.nodup_cons, List.nodup_append] at hn
      refine ⟨hn.1.2.2.1, by simp only [BT.nodes, List.nodup_cons, List.nodup_append]; exact hn.2.1, fun p hp q hq e => hn.2.2 p (by simp [hp]) q hq e⟩
     refine U.heap A x l _ ha.1 (fun z hz => ?_) ha.2.2.1 (i2 ha.2.2.2 hb hn2)
     rcases List.mem_append.1 (i1.mem_iff.1 hz) with hz | hz
     ·exact ha.2.1 z hz
     ·simp only [BT.nodes, List.mem_cons, List.mem_append] at hz
      rcases hz with rfl | hz | hz
      ·exact hlt
      ·exact lt3_trans hlt (hb.1 z hz)
      ·exact lt3_trans hlt (hb.2.1 z hz)
theorem merge_lean (A : NS) (k : Nat) : ∀ (a b : BT), a.size + b.size ≤ k → Lean a → Lean b → Lean (mergeT settleT A a b).1 := by
 induction k with
 | zero =>
  intro a b hk ha hb
  cases a with
  | nil => rw [mergeT_nil]; exact hb
  | node x l r => simp only [BT.size] at hk; omega
 | succ k ih =>
  intro a b hk ha hb
  cases a with
  | nil => rw [mergeT_nil]; exact hb
  | node x l r =>
   cases b with
   | nil => rw [mergeT_nil2]; exact ha
   | node y l' r' =>
    rw [mergeT_node]
    simp only [BT.size] at hk
    split
    ·exact settle_lean hb.2.1 (ih r' (.node x l r) (by simp only [BT.size]; omega) hb.2.2 ha)
    ·exact settle_lean ha.2.1 (ih r (.node y l' r') (by simp only [BT.size]; omega) ha.2.2 hb)
def zipUp (up : Nat → BT → BT → BT) : List (Nat × BT) → BT → BT
 | [], m => m
 | (x, l) :: t, m => up x l (zipUp up t m)
theorem zipUp_snoc (up : Nat → BT → BT → BT) (W : List (Nat × BT)) (x : Nat) (l m : BT) : zipUp up (W ++ [(x, l)]) m = zipUp up W (up x l m) := by
 induction W with
 | nil => rfl
 | cons p t ih => obtain ⟨y, k⟩ := p; simp only [List.cons_append, zipUp, ih]
def wayN (W : List (Nat × BT)) : List Nat := W.flatMap fun p => p.1 :: p.2.nodes
end Go.Proofs.YtklibcncmbofpaaGreat
namespace Go.Proofs.YtklibcncmbofpaaGreat
open Go Go.RowKit
structure LB where
 n0 : Nat
 c : Nat
 bt : Nat
 ba : Nat
 br : Nat
structure LfM (w : World) (B : LB) (F : List Nat) (gt ct : Nat) (A : NS) (st : Nat) (S : TS) (rk : Nat → Nat) (tops : List Int) : Prop where
 head : RowAt w B.n0 231 4 (fun j => [Value.pointer (some ⟨B.c, 0, none⟩), .pointer (some ⟨B.bt, 0, none⟩), .slice (some ⟨B.br, 0, none⟩) A.cs.length A.cs.length, .slice (some ⟨gt, 0, none⟩) tops.length ct].getD j undef)
 cells : CellsAt w B.c F A st
 trees : TreesAt w B.bt B.ba A.cs.length S
 ranks : RowAt w B.br 3 A.cs.length (fun j => .int .i64 (rk j : Int))
 topI : IZ w gt ct tops
 topn : tops.length = A.hs.length
 sepF : B.n0 ∉ F ∧ B.bt ∉ F ∧ B.ba ∉ F ∧ B.br ∉ F ∧ gt ∉ F
 sep : (B.n0 ≠ B.bt ∧ B.n0 ≠ B.ba ∧ B.n0 ≠ B.br ∧ B.n0 ≠ gt) ∧ (B.bt ≠ B.br ∧ B.bt ≠ gt ∧ B.ba ≠ B.br ∧ B.ba ≠ gt ∧ B.br ≠ gt)
section
variable {w : World} {B : LB} {F : List Nat} {gt ct : Nat} {A : NS} {st : Nat} {S : TS} {rk : Nat → Nat} {tops : List Int}
def LB.blk (B : LB) (F : List Nat) (gt : Nat) : List Nat := B.n0 :: B.bt :: B.ba :: B.br :: gt :: F
theorem LfM.upd {w' : World} {G : List Nat} (h : LfM w B F gt ct A st S rk tops) (hu : Upd G w w') (hG : ∀ x, x ∈ G → x ∉ B.blk F gt) : LfM w' B F gt ct A st S rk tops := by
 have h1 : ∀ x, x ∈ B.blk F gt → x ∉ G := fun x hx hg => hG x hg hx
 exact ⟨h.head.upd hu (h1 _ (by simp [LB.blk])), h.cells.upd hu (fun x hx => fun hm => hG x hx (by simp [LB.blk, hm])), h.trees.upd hu (h1 _ (by simp [LB.blk])) (h1 _ (by simp [LB.blk])), h.ranks.upd hu (h1 _ (by simp [LB.blk])), h.topI.upd hu (h1 _ (by simp [LB.blk])), h.topn, h.sepF, h.sep⟩
theorem LfM.upd0 {w' : World} (h : LfM w B F gt ct A st S rk tops) (hu : Upd [] w w') : LfM w' B F gt ct A st S rk tops := h.upd hu (by simp)
theorem LfM.lt (h : LfM w B F gt ct A st S rk tops) : ∀ x, x ∈ B.blk F gt → x < w.heap.size := by
 intro x hx
 have := h.head.lt; have := h.trees.head.lt; have := h.trees.row.lt; have := h.ranks.lt; have := h.topI.lt
 simp only [LB.blk, List.mem_cons] at hx
 rcases hx with rfl | rfl | rfl | rfl | rfl | hx
 ·assumption
 ·assumption
 ·assumption
 ·assumption
 ·assumption
 ·exact h.cells.lt x hx
theorem LfM.cF (h : LfM w B F gt ct A st S rk tops) : B.c ∈ F := h.cells.mem
theorem LfM.h0 (h : LfM w B F gt ct A st S rk tops) : w.cell? ⟨B.n0, 0, none⟩ = some (.pointer (some ⟨B.c, 0, none⟩)) := h.head.cellAt 0 (by omega) rfl
theorem LfM.h1 (h : LfM w B F gt ct A st S rk tops) : w.cell? ⟨B.n0, 1, none⟩ = some (.pointer (some ⟨B.bt, 0, none⟩)) := h.head.cellAt 1 (by omega) rfl
theorem LfM.h2 (h : LfM w B F gt ct A st S rk tops) : w.cell? ⟨B.n0, 2, none⟩ = some (.slice (some ⟨B.br, 0, none⟩) A.cs.length A.cs.length) := h.head.cellAt 2 (by omega) rfl
theorem LfM.h3 (h : LfM w B F gt ct A st S rk tops) : w.cell? ⟨B.n0, 3, none⟩ = some (.slice (some ⟨gt, 0, none⟩) tops.length ct) := h.head.cellAt 3 (by omega) rfl
theorem LfM.setT {w' : World} {S' : TS} (h : LfM w B F gt ct A st S rk tops) (hu : Upd [B.ba] w w') (hT : TreesAt w' B.bt B.ba A.cs.length S') : LfM w' B F gt ct A st S' rk tops := by
 have s := h.sep
 have f := h.sepF
 have hne := h.trees.ne
 exact ⟨h.head.upd hu (by simp; omega), h.cells.upd hu (fun x hx => by simp at hx; rw [hx]; exact f.2.2.1), hT, h.ranks.upd hu (by simp; omega), h.topI.upd hu (by simp; omega), h.topn, f, s⟩
theorem LfM.setR (h : LfM w B F gt ct A st S rk tops) (x : Nat) (k : Nat) : LfM (w.setCell ⟨B.br, x, none⟩ (.int .i64 (k : Int))) B F gt ct A st S (fun y => if y = x then k else rk y) tops := by
 have s := h.sep
 have f := h.sepF
 have hu : Upd [B.br] w (w.setCell ⟨B.br, x, none⟩ (.int .i64 (k : Int))) := by (repeat (first | assumption | exact Upd.refl _ _ | refine Upd.alloc ?_ _ | refine Upd.drew ?_ | refine Upd.drewN ?_ _ | refine Upd.setCell ?_ ?_ _ | focus (left; simp; done) | focus (right; simp; done) | focus (right; simp; omega)))
 refine ⟨h.head.upd hu (by simp; omega), h.cells.upd hu (fun x hx => by simp at hx; rw [hx]; exact f.2.2.2.1), h.trees.upd hu (by simp; omega) (by simp; omega), (h.ranks.set x _).ext (fun j hj => ?_), h.topI.upd hu (by simp; omega), h.topn, f, s⟩
 by_cases e : j = x
 ·simp only [e, if_true]
 ·simp only [e, if_false]
theorem LfM.setTop (h : LfM w B F gt ct A st S rk tops) (x : Nat) (k : Int) : LfM (w.setCell ⟨gt, x, none⟩ (.int .i64 k)) B F gt ct A st S rk (tops.set x k) := by
 have s := h.sep
 have f := h.sepF
 have hu : Upd [gt] w (w.setCell ⟨gt, x, none⟩ (.int .i64 k)) := by (repeat (first | assumption | exact Upd.refl _ _ | refine Upd.alloc ?_ _ | refine Upd.drew ?_ | refine Upd.drewN ?_ _ | refine Upd.setCell ?_ ?_ _ | focus (left; simp; done) | focus (right; simp; done) | focus (right; simp; omega)))
 refine ⟨by rw [List.length_set]; exact h.head.upd hu (by simp; omega), h.cells.upd hu (fun x hx => by simp at hx; rw [hx]; exact f.2.2.2.2), h.trees.upd hu (by simp; omega) (by simp; omega), h.ranks.upd hu (by simp; omega), h.topI.set x k, by rw [List.length_set]; exact h.topn, f, s⟩
theorem LfM.setC {w' : World} {F' : List Nat} {A' : NS} {st' : Nat} (h : LfM w B F gt ct A st S rk tops) (hu : Upd F w w') (hC : CellsAt w' B.c F' A' st') (hF : ∀ x, x ∈ F' → x ∈ F ∨ w.heap.size ≤ x) (h1 : A'.cs.length = A.cs.length) (h2 : A'.hs.length = A.hs.length) : LfM w' B F' gt ct A' st' S rk tops := by
 have f := h.sepF
 have g := h.lt
 have hf : ∀ x, x < w.heap.size → x ∉ F → x ∉ F' := fun x hx hn hm => by rcases hF x hm with h' | h'; exact hn h'; omega
 have l0 := g B.n0 (by simp [LB.blk]); have l1 := g B.bt (by simp [LB.blk]); have l2 := g B.ba (by simp [LB.blk]); have l3 := g B.br (by simp [LB.blk]); have l4 := g gt (by simp [LB.blk])
 exact ⟨by rw [h1]; exact h.head.upd hu f.1, hC, by rw [h1]; exact h.trees.upd hu f.2.1 f.2.2.1, by rw [h1]; exact h.ranks.upd hu f.2.2.2.1, h.topI.upd hu f.2.2.2.2, by rw [h2]; exact h.topn, ⟨hf _ l0 f.1, hf _ l1 f.2.1, hf _ l2 f.2.2.1, hf _ l3 f.2.2.2.1, hf _ l4 f.2.2.2.2⟩, h.sep⟩
end
theorem lkid_any (z : Int) (w : World) : Calls Tryz.prog 247 #[.int .i64 (tv z), .bool (tb z)] w fun e w' => e = .returned (.int .i64 z) ∧ w' = w := by
 unfold tv tb
 by_cases h : z = -1
 ·subst h
  simp only [if_true, ne_eq, not_true, decide_false]
  go_enter Tryz.func247, Tryz.ntmps247
  go_wp2
  go_ret
  exact ⟨rfl, rfl⟩
 ·rw [if_neg h, decide_eq_true h]
  go_enter Tryz.func247, Tryz.ntmps247
  go_wp2
  go_ret
  exact ⟨rfl, rfl⟩
def rankZ (rk : Nat → Nat) (z : Int) : Int := if z = -1 then 0 else (rk z.toNat : Int)
section
variable {w : World} {B : LB} {F : List Nat} {gt ct : Nat} {A : NS} {st : Nat} {S : TS} {rk : Nat → Nat} {tops : List Int}
theorem lranked_any (h : LfM w B F gt ct A st S rk tops) (z : Int) (hz : z = -1 ∨ (0 ≤ z ∧ z < A.cs.length)) :
  Calls Tryz.prog 258 #[.pointer (some ⟨B.n0, 0, none⟩), .int .i64 z] w fun e w' => e = .returned (.int .i64 (rankZ rk z)) ∧ w' = w := by
 unfold rankZ
 have h2 := h.h2
 have hA := h.cells.ok.c1
 by_cases e : z = -1
 ·subst e
  clear h
  go_enter Tryz.func258, Tryz.ntmps258
  go_wp2
  go_ret
  exact ⟨rfl, rfl⟩
 ·obtain ⟨i, rfl⟩ : ∃ i : Nat, z = i := ⟨z.toNat, by omega⟩
  have hi : i < A.cs.length := by omega
  have d := h.ranks.cell i hi
  have hb : ((i : Int) == -1) = false := by simp
  rw [if_neg e]
  simp only [Int.toNat_natCast]
  clear h e hz
  go_enter Tryz.func258, Tryz.ntmps258
  go_wp2
  go_ret
  exact ⟨rfl, rfl⟩
theorem rankZ_pos (rk : Nat → Nat) (z : Int) : 0 ≤ rankZ rk z := by unfold rankZ; split <;> omega
set_option maxHeartbeats 4000000 in
theorem lsettle_turn (h : LfM w B F gt ct A st S rk tops) (x : Nat) (hx : x < A.cs.length) (hl : S.l x = -1 ∨ (0 ≤ S.l x ∧ S.l x < A.cs.length)) (hr : S.r x = -1 ∨ (0 ≤ S.r x ∧ S.r x < A.cs.length)) (hba : rankZ rk (S.l x) ≤ 65536) (hbb : rankZ rk (S.r x) ≤ 65536) (hab : rankZ rk (S.l x) < rankZ rk (S.r x)) :
  Calls Tryz.prog 255 #[.pointer (some ⟨B.n0, 0, none⟩), .int .i64 (x : Int)] w fun e w' => e = .returned (.tuple #[]) ∧ Upd [B.ba, B.br] w w' ∧ LfM w' B F gt ct A st (turnS S x) (fun y => if y = x then (rankZ rk (S.l x)).toNat + 1 else rk y) tops := by
 have kl := fun d => left_any B.bt B.ba A.cs.length S (x : Int) (w.drewN d) (h.trees.drewN d)
 have kr := fun d => right_any B.bt B.ba A.cs.length S (x : Int) (w.drewN d) (h.trees.drewN d)
 rw [show kidOf A.cs.length S (x : Int) false = S.l x by unfold kidOf TS.kid; rw [if_pos (by omega)]; simp] at kl
 rw [show kidOf A.cs.length S (x : Int) true = S.r x by unfold kidOf TS.kid; rw [if_pos (by omega)]; simp] at kr
 have q1 : ∀ d, (w.drewN d).cell? ⟨B.n0, 1, none⟩ = some (.pointer (some ⟨B.bt, 0, none⟩)) := fun d => h.h1
 have H := Lib.hid h
 have rl := fun d => lranked_any (h.upd0 ((Upd.refl [] w).drewN d)) (S.l x) hl
 have rr := fun d => lranked_any (h.upd0 ((Upd.refl [] w).drewN d)) (S.r x) hr
 have ba1 : 0 ≤ rankZ rk (S.l x) ∧ rankZ rk (S.l x) ≤ 65536 := ⟨rankZ_pos _ _, hba⟩
 have bb1 : 0 ≤ rankZ rk (S.r x) ∧ rankZ rk (S.r x) ≤ 65536 := ⟨rankZ_pos _ _, hbb⟩
 clear hba hbb
 have HL := Lib.hid (And.intro hl hr)
 generalize hzl : S.l x = zl at *
 generalize hzr : S.r x = zr at *
 generalize hra : rankZ rk zl = a at *
 generalize hrb : rankZ rk zr = b at *
 have HZ := Lib.hid (And.intro hzl (And.intro hzr (And.intro hra hrb)))
 have hn0 := h.lt B.n0 (by simp [LB.blk])
 have hbr := h.lt B.br (by simp [LB.blk])
 have hs := h.sep
 have hA := h.cells.ok.c1
 clear h hzl hzr hra hrb hl hr
 go_enter Tryz.func255, Tryz.ntmps255
 go_wp2
 go_quiet ((first
  | (go_at_call 248; exact Calls.quiet_of (kl _))
  | (go_at_call 249; exact Calls.quiet_of (kr _))
  | (go_at_call 247; exact Calls.quiet_of_same (lkid_any _ _))))
 have H2 := Lib.hid (H.out.upd0 ((Upd.refl [] w).drewN nq))
 have rln := rl nq
 have rrn := rr nq
 have h1 := q1 nq
 clear kl kr q1 rl rr
 have kt := turn_yes B.bt B.ba A.cs.length S x (w.drewN nq) H2.out.trees hx
 go_wp2_with (first
  | (go_at_call 258; (with_reducible refine (rln).mono ?_); rintro e w9 ⟨rfl, hw9⟩; rw [hw9]; clear hw9 w9)
  | (go_at_call 258; (with_reducible refine (rrn).mono ?_); rintro e w9 ⟨rfl, hw9⟩; rw [hw9]; clear hw9 w9)
  | (go_at_call 259; (with_reducible refine (kt).mono ?_); rintro e w2 ⟨rfl, hT, hu2⟩))
 have h3 := Lib.hid (H2.out.setT hu2 hT)
 have hw2 : Upd [B.ba, B.br] w w2 := ((Upd.refl _ w).drewN nq).trans (hu2.mono (by simp))
 have kq := fun W (hW : Upd [] w2 W) => lranked_any (h3.out.upd0 hW) zl HL.out.1
 rw [HZ.out.2.2.1] at kq
 have r0 : ∀ W, Upd [B.br] w2 W → W.cell? ⟨B.n0, 2, none⟩ = some (.slice (some ⟨B.br, 0, none⟩) A.cs.length A.cs.length) := fun W hW => hW.kept h3.out.h2 (by simp; omega)
 have d0 := h3.out.ranks.cell x hx
 have d1 := h3.out.ranks.free x
 have hwr : IntKind.i64.wrap (a + 1) = a + 1 := IntWalk.i64_in _ (by omega)
 go_region_held3 (Upd [B.br] w2) (repeat (first | assumption | exact Upd.refl _ _ | refine Upd.drew ?_ | refine Upd.alloc ?_ _ | refine Upd.setCell ?_ ?_ _ | focus (left; simp; done) | focus (right; simp; done) | focus (right; simp; omega) | (apply Upd.trans; rotate_left; assumption))) ((go_at_call 258; (with_reducible refine ((kq _ (by (repeat (first | assumption | exact Upd.refl _ _ | refine Upd.alloc ?_ _ | refine Upd.drew ?_ | refine Upd.drewN ?_ _ | refine Upd.setCell ?_ ?_ _ | focus (left; simp; done) | focus (right; simp; done) | focus (right; simp; omega)))))).mono ?_); rintro e w9 ⟨rfl, hw9⟩; rw [hw9]; clear hw9 w9))
 go_wp2
 go_end0
 clear hwr
 obtain ⟨an, rfl⟩ : ∃ an : Nat, a = an := ⟨a.toNat, by omega⟩
 have hR := h3.out.setR x (an + 1)
 rw [show ((an + 1 : Nat) : Int) = (an : Int) + 1 by omega] at hR
 exact ⟨rfl, ((hw2.setCell (Or.inl (by simp)) _)).drew, hR.upd0 ((Upd.refl _ _).drew)⟩
set_option maxHeartbeats 4000000 in
theorem lsettle_stay (h : LfM w B F gt ct A st S rk tops) (x : Nat) (hx : x < A.cs.length) (hl : S.l x = -1 ∨ (0 ≤ S.l x ∧ S.l x < A.cs.length)) (hr : S.r x = -1 ∨ (0 ≤ S.r x ∧ S.r x < A.cs.length)) (hba : rankZ rk (S.l x) ≤ 65536) (hbb : rankZ rk (S.r x) ≤ 65536) (hab : ¬ rankZ rk (S.l x) < rankZ rk (S.r x)) :
  Calls Tryz.prog 255 #[.pointer (some ⟨B.n0, 0, none⟩), .int .i64 (x : Int)] w fun e w' => e = .returned (.tuple #[]) ∧ Upd [B.ba, B.br] w w' ∧ LfM w' B F gt ct A st S (fun y => if y = x then (rankZ rk (S.r x)).toNat + 1 else rk y) tops := by
 have kl := fun d => left_any B.bt B.ba A.cs.length S (x : Int) (w.drewN d) (h.trees.drewN d)
 have kr := fun d => right_any B.bt B.ba A.cs.length S (x : Int) (w.drewN d) (h.trees.drewN d)
 rw [show kidOf A.cs.length S (x : Int) false = S.l x by unfold kidOf TS.kid; rw [if_pos (by omega)]; simp] at kl
 rw [show kidOf A.cs.length S (x : Int) true = S.r x by unfold kidOf TS.kid; rw [if_pos (by omega)]; simp] at kr
 have q1 : ∀ d, (w.drewN d).cell? ⟨B.n0, 1, none⟩ = some (.pointer (some ⟨B.bt, 0, none⟩)) := fun d => h.h1
 have H := Lib.hid h
 have rl := fun d => lranked_any (h.upd0 ((Upd.refl [] w).drewN d)) (S.l x) hl
 have rr := fun d => lranked_any (h.upd0 ((Upd.refl [] w).drewN d)) (S.r x) hr
 have ba1 : 0 ≤ rankZ rk (S.l x) ∧ rankZ rk (S.l x) ≤ 65536 := ⟨rankZ_pos _ _, hba⟩
 have bb1 : 0 ≤ rankZ rk (S.r x) ∧ rankZ rk (S.r x) ≤ 65536 := ⟨rankZ_pos _ _, hbb⟩
 clear hba hbb
 have HL := Lib.hid (And.intro hl hr)
 generalize hzl : S.l x = zl at *
 generalize hzr : S.r x = zr at *
 generalize hra : rankZ rk zl = a at *
 generalize hrb : rankZ rk zr = b at *
 have HZ := Lib.hid (And.intro hzl (And.intro hzr (And.intro hra hrb)))
 have hn0 := h.lt B.n0 (by simp [LB.blk])
 have hbr := h.lt B.br (by simp [LB.blk])
 have hs := h.sep
 have hA := h.cells.ok.c1
 clear h hzl hzr hra hrb hl hr
 go_enter Tryz.func255, Tryz.ntmps255
 go_wp2
 go_quiet ((first
  | (go_at_call 248; exact Calls.quiet_of (kl _))
  | (go_at_call 249; exact Calls.quiet_of (kr _))
  | (go_at_call 247; exact Calls.quiet_of_same (lkid_any _ _))))
 have H2 := Lib.hid (H.out.upd0 ((Upd.refl [] w).drewN nq))
 have rln := rl nq
 have rrn := rr nq
 have h1 := q1 nq
 clear kl kr q1 rl rr
 go_wp2_with (first
  | (go_at_call 258; (with_reducible refine (rln).mono ?_); rintro e w9 ⟨rfl, hw9⟩; rw [hw9]; clear hw9 w9)
  | (go_at_call 258; (with_reducible refine (rrn).mono ?_); rintro e w9 ⟨rfl, hw9⟩; rw [hw9]; clear hw9 w9))
 obtain ⟨w2, hw2⟩ : ∃ w2, w2 = w.drewN nq := ⟨_, rfl⟩
 have hu2 : Upd [B.ba, B.br] w w2 := by rw [hw2]; exact (Upd.refl _ w).drewN nq
 rw [← hw2] at H2 ⊢
 clear hw2 h1 rln rrn
 have kq := fun W (hW : Upd [] w2 W) => lranked_any (H2.out.upd0 hW) zr HL.out.2
 rw [HZ.out.2.2.2] at kq
 have r0 : ∀ W, Upd [B.br] w2 W → W.cell? ⟨B.n0, 2, none⟩ = some (.slice (some ⟨B.br, 0, none⟩) A.cs.length A.cs.length) := fun W hW => hW.kept H2.out.h2 (by simp; omega)
 have d0 := H2.out.ranks.cell x hx
 have d1 := H2.out.ranks.free x
 have hwr : IntKind.i64.wrap (b + 1) = b + 1 := IntWalk.i64_in _ (by omega)
 go_region_held3 (Upd [B.br] w2) (repeat (first | assumption | exact Upd.refl _ _ | refine Upd.drew ?_ | refine Upd.alloc ?_ _ | refine Upd.setCell ?_ ?_ _ | focus (left; simp; done) | focus (right; simp; done) | focus (right; simp; omega) | (apply Upd.trans; rotate_left; assumption))) ((go_at_call 258; (with_reducible refine ((kq _ (by (repeat (first | assumption | exact Upd.refl _ _ | refine Upd.alloc ?_ _ | refine Upd.drew ?_ | refine Upd.drewN ?_ _ | refine Upd.setCell ?_ ?_ _ | focus (left; simp; done) | focus (right; simp; done) | focus (right; simp; omega)))))).mono ?_); rintro e w9 ⟨rfl, hw9⟩; rw [hw9]; clear hw9 w9))
 go_wp2
 go_end0
 clear hwr
 obtain ⟨bn, rfl⟩ : ∃ bn : Nat, b = bn := ⟨b.toNat, by omega⟩
 have hR := H2.out.setR x (bn + 1)
 rw [show ((bn + 1 : Nat) : Int) = (bn : Int) + 1 by omega] at hR
 exact ⟨rfl, ((hu2.setCell (Or.inl (by simp)) _)).drew, hR.upd0 ((Upd.refl _ _).drew)⟩
end
end Go.Proofs.YtklibcncmbofpaaGreat
namespace Go.Proofs.YtklibcncmbofpaaGreat
open Go Go.RowKit
theorem rank_le : ∀ t : BT, t.rank ≤ t.size
 | .nil => Nat.le_refl _
 | .node x l r => by have := rank_le r; simp only [BT.rank, BT.size]; omega
theorem nodup_natlen {n : Nat} {l : List Nat} (hn : l.Nodup) (hl : ∀ x, x ∈ l → x < n) : l.length ≤ n := by
 have := nodup_range n (l.map fun (x : Nat) => (x : Int)) (by
  unfold List.Nodup
  rw [List.pairwise_map]
  exact hn.imp (fun {a b} h e => h (by omega))) (fun y hy => by
  obtain ⟨x, hx, rfl⟩ := List.mem_map.1 hy
  have := hl x hx
  exact ⟨by omega, by omega⟩)
 simpa using this
theorem rankZ_root {rk : Nat → Nat} {t : BT} (h : RkOk rk t) : rankZ rk t.root = t.rank := by
 unfold rankZ
 by_cases e : t = .nil
 ·subst e; simp [BT.root, BT.rank]
 ·have := root_mem e
  rw [if_neg (by omega)]
  rw [h.root e]
theorem root_rng {n : Nat} {t : BT} (h : ∀ x, x ∈ t.nodes → x < n) : t.root = -1 ∨ (0 ≤ t.root ∧ t.root < n) := by
 by_cases e : t = .nil
 ·subst e; exact Or.inl rfl
 ·have h1 := root_mem e
  have := h _ h1.1
  exact Or.inr ⟨by omega, by omega⟩
section
variable {w : World} {B : LB} {F : List Nat} {gt ct : Nat} {A : NS} {st : Nat} {S : TS} {rk : Nat → Nat} {tops : List Int}
theorem lsettle_tree (h : LfM w B F gt ct A st S rk tops) {p : Int} {x : Nat} {l r : BT} (hT : IsT S p x (.node x l r)) (hl : RkOk rk l) (hr : RkOk rk r) (hn : (BT.node x l r).nodes.Nodup) (hlt : ∀ y, y ∈ (BT.node x l r).nodes → y < A.cs.length) :
  Calls Tryz.prog 255 #[.pointer (some ⟨B.n0, 0, none⟩), .int .i64 (x : Int)] w fun e w' => e = .returned (.tuple #[]) ∧ Upd [B.ba, B.br] w w' ∧
   ∃ S' rk', LfM w' B F gt ct A st S' rk' tops ∧ IsT S' p x (settleT x l r) ∧ RkOk rk' (settleT x l r) ∧ (∀ y, y ≠ x → S.at S' y) ∧ S'.u x = S.u x ∧ (∀ y, y ≠ x → rk' y = rk y) := by
 obtain ⟨_, hu, hTl, hTr⟩ := hT
 have hx := hlt x (by simp [BT.nodes])
 have hll : ∀ y, y ∈ l.nodes → y < A.cs.length := fun y hy => hlt y (by simp [BT.nodes, hy])
 have hlr : ∀ y, y ∈ r.nodes → y < A.cs.length := fun y hy => hlt y (by simp [BT.nodes, hy])
 have hA := h.cells.ok.c1
 have hn2 := hn
 simp only [BT.nodes, List.nodup_cons, List.mem_append, not_or, List.nodup_append] at hn2
 have sl := nodup_natlen hn2.2.1 hll
 have sr := nodup_natlen hn2.2.2.1 hlr
 rw [BT.size_nodes] at sl sr
 have rl := rank_le l
 have rr := rank_le r
 have el := hTl.root
 have er := hTr.root
 have fr : ∀ {S' : TS}, (∀ y, y ≠ x → S.at S' y) → (∀ z, IsT S x z l → IsT S' x z l) ∧ (∀ z, IsT S x z r → IsT S' x z r) := fun hS =>
  ⟨fun z hz => hz.frame (fun y hy => hS y (fun e => hn2.1.1 (by rw [← e]; exact hy))), fun z hz => hz.frame (fun y hy => hS y (fun e => hn2.1.2 (by rw [← e]; exact hy)))⟩
 have zl : rankZ rk (S.l x) = l.rank := by rw [el]; exact rankZ_root hl
 have zr : rankZ rk (S.r x) = r.rank := by rw [er]; exact rankZ_root hr
 by_cases hab : l.rank < r.rank
 ·refine (lsettle_turn h x hx (by rw [el]; exact root_rng hll) (by rw [er]; exact root_rng hlr) (by rw [zl]; omega) (by rw [zr]; omega) (by rw [zl, zr]; omega)).mono ?_
  rintro e w' ⟨rfl, hU, hM⟩
  have hat : ∀ y, y ≠ x → S.at (turnS S x) y := fun y hy => ⟨by unfold turnS TS.setKid; simp [hy], by unfold turnS TS.setKid; simp [hy], by unfold turnS TS.setKid; simp⟩
  have e1 : (turnS S x).l x = S.r x := by unfold turnS TS.setKid; simp
  have e2 : (turnS S x).r x = S.l x := by unfold turnS TS.setKid; simp
  have e3 : (turnS S x).u x = S.u x := by unfold turnS TS.setKid; simp
  refine ⟨rfl, hU, _, _, hM, ?_, ?_, hat, e3, fun y hy => by rw [if_neg hy]⟩
  ·unfold settleT; rw [if_pos hab]
   exact ⟨rfl, by rw [e3]; exact hu, by rw [e1]; exact (fr hat).2 _ hTr, by rw [e2]; exact (fr hat).1 _ hTl⟩
  ·unfold settleT; rw [if_pos hab]
   refine ⟨by simp [zl], hr.frame (fun y hy => by rw [if_neg (fun e => hn2.1.2 (by rw [← e]; exact hy))]), hl.frame (fun y hy => by rw [if_neg (fun e => hn2.1.1 (by rw [← e]; exact hy))])⟩
 ·refine (lsettle_stay h x hx (by rw [el]; exact root_rng hll) (by rw [er]; exact root_rng hlr) (by rw [zl]; omega) (by rw [zr]; omega) (by rw [zl, zr]; omega)).mono ?_
  rintro e w' ⟨rfl, hU, hM⟩
  refine ⟨rfl, hU, _, _, hM, ?_, ?_, fun y _ => ⟨rfl, rfl, rfl⟩, rfl, fun y hy => by rw [if_neg hy]⟩
  ·unfold settleT; rw [if_neg hab]
   exact ⟨rfl, hu, hTl, hTr⟩
  ·unfold settleT; rw [if_neg hab]
   refine ⟨by simp [zr], hl.frame (fun y hy => by rw [if_neg (fun e => hn2.1.1 (by rw [← e]; exact hy))]), hr.frame (fun y hy => by rw [if_neg (fun e => hn2.1.2 (by rw [← e]; exact hy))])⟩
end
end Go.Proofs.YtklibcncmbofpaaGreat
namespace Go.Proofs.YtklibcncmbofpaaGreat
open Go Go.RowKit
theorem BT.root_cast {t : BT} (h : t ≠ .nil) : t.root = (t.root.toNat : Int) := (root_mem h).2
def cutR (S : TS) (x : Nat) (r : BT) : TS := match r with | .nil => S | .node y _ _ => cutS S x y
theorem cutR_tree {S : TS} {p : Int} {x : Nat} {l r : BT} (h : IsT S p x (.node x l r)) (hn : (BT.node x l r).nodes.Nodup) :
  IsT (cutR S x r) p x (.node x l .nil) ∧ IsT (cutR S x r) (-1) r.root r ∧ ∀ y, y ≠ x → y ∉ r.nodes → S.at (cutR S x r) y := by
 obtain ⟨_, hu, hl, hr⟩ := h
 simp only [BT.nodes, List.nodup_cons, List.mem_append, not_or, List.nodup_append] at hn
 cases r with
 | nil => exact ⟨⟨rfl, hu, hl, hr⟩, rfl, fun y _ _ => ⟨rfl, rfl, rfl⟩⟩
 | node y a b =>
  have hxy : x ≠ y := fun e => hn.1.2 (by rw [e]; simp [BT.nodes])
  have hry : S.r x = y := hr.1
  have e : cutR S x (.node y a b) = cutS S x y := rfl
  rw [e]
  have hl' : ∀ z, (cutS S x y).l z = S.l z := fun z => by unfold cutS TS.setKid TS.setUp; rw [decide_eq_true hry]; rfl
  have hr' : ∀ z, (cutS S x y).r z = if z = x then -1 else S.r z := fun z => by unfold cutS TS.setKid TS.setUp; rw [decide_eq_true hry]; rfl
  have hu' : ∀ z, (cutS S x y).u z = if z = y then -1 else S.u z := fun z => by unfold cutS TS.setKid TS.setUp; rw [decide_eq_true hry]; rfl
  refine ⟨⟨rfl, by rw [hu', if_neg hxy]; exact hu, ?_, by rw [hr', if_pos rfl]; rfl⟩, ?_, fun z h1 h2 => ⟨hl' z, by rw [hr', if_neg h1], by rw [hu', if_neg (fun e => h2 (by rw [e]; simp [BT.nodes]))]⟩⟩
  ·rw [hl']
   refine hl.frame (fun z hz => ⟨hl' z, by rw [hr', if_neg (fun e => hn.1.1 (by rw [← e]; exact hz))], by rw [hu', if_neg (fun e => hn.2.2.2 z hz y (by simp [BT.nodes]) e)]⟩)
  ·have h0 : IsT S x ((BT.node y a b).root) (.node y a b) := by rw [← hr.root]; exact hr
   refine h0.hung (p' := -1) hn.2.2.1 (fun z hz => ⟨hl' z, by rw [hr', if_neg (fun e => hn.1.2 (by rw [← e]; exact hz))], fun hzr => by rw [hu', if_neg (fun e => hzr (by rw [e]; simp [BT.root]))]⟩) (fun _ => by rw [hu']; simp [BT.root])
theorem hang_tree {S : TS} {p : Int} {x : Nat} {l m : BT} (h : IsT S p x (.node x l .nil)) (hm : IsT S (-1) m.root m) (hne : m ≠ .nil) (hn : (BT.node x l m).nodes.Nodup) :
  IsT (hangS S x m.root true) p x (.node x l m) ∧ ∀ y, y ≠ x → y ∉ m.nodes → S.at (hangS S x m.root true) y := by
 obtain ⟨_, hu, hl, _⟩ := h
 simp only [BT.nodes, List.nodup_cons, List.mem_append, not_or, List.nodup_append] at hn
 obtain ⟨r1, r2⟩ := root_mem hne
 have hl' : ∀ z, (hangS S x m.root true).l z = S.l z := fun z => by unfold hangS TS.setKid TS.setUp; rfl
 have hr' : ∀ z, (hangS S x m.root true).r z = if z = x then m.root else S.r z := fun z => by unfold hangS TS.setKid TS.setUp; simp
 have hu' : ∀ z, (hangS S x m.root true).u z = if z = m.root.toNat then (x : Int) else S.u z := fun z => by unfold hangS TS.setKid TS.setUp; simp
 have hxm : x ≠ m.root.toNat := fun e => hn.1.2 (by rw [e]; exact r1)
 refine ⟨⟨rfl, by rw [hu', if_neg hxm]; exact hu, ?_, ?_⟩, fun z h1 h2 => ⟨hl' z, by rw [hr', if_neg h1], by rw [hu', if_neg (fun e => h2 (by rw [e]; exact r1))]⟩⟩
 ·rw [hl']
  exact hl.frame (fun z hz => ⟨hl' z, by rw [hr', if_neg (fun e => hn.1.1 (by rw [← e]; exact hz))], by rw [hu', if_neg (fun e => hn.2.2.2 z hz _ r1 e)]⟩)
 ·rw [hr', if_pos rfl]
  exact hm.hung (p' := (x : Int)) hn.2.2.1 (fun z hz => ⟨hl' z, by rw [hr', if_neg (fun e => hn.1.2 (by rw [← e]; exact hz))], fun hzr => by rw [hu', if_neg hzr]⟩) (fun _ => by rw [hu', if_pos rfl])
structure Down (up : Nat → BT → BT → BT) (A : NS) (S0 : TS) (ta tb : BT) (S : TS) (W : List (Nat × BT)) (a b : BT) : Prop where
 isA : IsT S (-1) a.root a
 isB : IsT S (-1) b.root b
 way : ∀ p, p ∈ W → IsT S (-1) (p.1 : Int) (.node p.1 p.2 .nil)
 far : ∀ y, y ∉ ta.nodes ++ tb.nodes → S0.at S y
 perm : (wayN W ++ (a.nodes ++ b.nodes)).Perm (ta.nodes ++ tb.nodes)
 res : mergeT up A ta tb = (zipUp up W (mergeT up A a b).1, W.length + (mergeT up A a b).2)
theorem Down.start (up : Nat → BT → BT → BT) (A : NS) {S0 : TS} {ta tb : BT} (ha : IsT S0 (-1) ta.root ta) (hb : IsT S0 (-1) tb.root tb) : Down up A S0 ta tb S0 [] ta tb :=
 ⟨ha, hb, fun p hp => (by cases hp), fun y _ => ⟨rfl, rfl, rfl⟩, by simp [wayN], by simp [zipUp]⟩
theorem wayN_snoc (W : List (Nat × BT)) (x : Nat) (l : BT) : wayN (W ++ [(x, l)]) = wayN W ++ (x :: l.nodes) := by unfold wayN; simp
theorem way_mem {W : List (Nat × BT)} {p : Nat × BT} (hp : p ∈ W) : p.1 ∈ wayN W ∧ ∀ y, y ∈ p.2.nodes → y ∈ wayN W := by
 unfold wayN
 exact ⟨List.mem_flatMap.2 ⟨p, hp, by simp⟩, fun y hy => List.mem_flatMap.2 ⟨p, hp, by simp [hy]⟩⟩
theorem Down.take {up : Nat → BT → BT → BT} {A : NS} {S0 S : TS} {ta tb b l r : BT} {x : Nat} {W : List (Nat × BT)} (hX : (ta.nodes ++ tb.nodes).Nodup)
  (h1 : IsT S (-1) (x : Int) (.node x l r)) (h2 : IsT S (-1) b.root b) (h3 : ∀ p, p ∈ W → IsT S (-1) (p.1 : Int) (.node p.1 p.2 .nil)) (h4 : ∀ y, y ∉ ta.nodes ++ tb.nodes → S0.at S y)
  (h5 : (wayN W ++ ((BT.node x l r).nodes ++ b.nodes)).Perm (ta.nodes ++ tb.nodes)) (h6 : mergeT up A ta tb = (zipUp up W (up x l (mergeT up A r b).1), W.length + ((mergeT up A r b).2 + 1))) :
  Down up A S0 ta tb (cutR S x r) (W ++ [(x, l)]) r b := by
 have hnd := h5.nodup_iff.2 hX
 rw [List.nodup_append] at hnd
 obtain ⟨n1, n2, n3⟩ := hnd
 rw [List.nodup_append] at n2
 obtain ⟨n4, n5, n6⟩ := n2
 obtain ⟨c1, c2, c3⟩ := cutR_tree h1 n4
 have hout : ∀ y, y ∉ ta.nodes ++ tb.nodes → y ≠ x ∧ y ∉ r.nodes := fun y hy =>
  ⟨fun e => hy (h5.mem_iff.1 (by rw [e]; simp [BT.nodes])), fun hm => hy (h5.mem_iff.1 (by simp [BT.nodes, hm]))⟩
 refine ⟨c2, h2.frame (fun y hy => c3 y (fun e => n6 x (by simp [BT.nodes]) y hy e.symm) (fun hm => n6 y (by simp [BT.nodes, hm]) y hy rfl)), fun p hp => ?_, fun y hy => ?_, ?_, ?_⟩
 ·rcases List.mem_append.1 hp with hp | hp
  ·have hw := way_mem hp
   refine (h3 p hp).frame (fun y hy => ?_)
   have hyw : y ∈ wayN W := by
    simp only [BT.nodes, List.append_nil, List.mem_cons] at hy
    rcases hy with rfl | hy
    ·exact hw.1
    ·exact hw.2 y hy
   exact c3 y (fun e => n3 y hyw x (by simp [BT.nodes]) e) (fun hm => n3 y hyw y (by simp [BT.nodes, hm]) rfl)
  ·simp only [List.mem_singleton] at hp
   subst hp
   exact c1
 ·obtain ⟨k1, k2⟩ := hout y hy
  have a1 := h4 y hy
  have a2 := c3 y k1 k2
  exact ⟨a2.1.trans a1.1, a2.2.1.trans a1.2.1, a2.2.2.trans a1.2.2⟩
 ·rw [wayN_snoc]
  refine List.Perm.trans ?_ h5
  simp only [BT.nodes, List.append_assoc, List.cons_append]
  exact List.Perm.refl _
 ·rw [h6, zipUp_snoc]
  simp only [List.length_append, List.length_cons, List.length_nil]
  exact Prod.ext rfl (by simp only; omega)
theorem Down.takeA {up : Nat → BT → BT → BT} {A : NS} {S0 S : TS} {ta tb l r l' r' : BT} {x y : Nat} {W : List (Nat × BT)} (h : Down up A S0 ta tb S W (.node x l r) (.node y l' r')) (hX : (ta.nodes ++ tb.nodes).Nodup) (hlt : ¬ lt3 A y x) :
  Down up A S0 ta tb (cutR S x r) (W ++ [(x, l)]) r (.node y l' r') := by
 refine Down.take hX h.isA h.isB h.way h.far h.perm ?_
 rw [h.res, mergeT_node, if_neg hlt]
theorem Down.takeB {up : Nat → BT → BT → BT} {A : NS} {S0 S : TS} {ta tb l r l' r' : BT} {x y : Nat} {W : List (Nat × BT)} (h : Down up A S0 ta tb S W (.node x l r) (.node y l' r')) (hX : (ta.nodes ++ tb.nodes).Nodup) (hlt : lt3 A y x) :
  Down up A S0 ta tb (cutR S y r') (W ++ [(y, l')]) r' (.node x l r) := by
 refine Down.take hX h.isB h.isA h.way h.far ?_ ?_
 ·refine List.Perm.trans ?_ h.perm
  exact List.Perm.append_left _ List.perm_append_comm
 ·rw [h.res, mergeT_node, if_pos hlt]
structure Upw (up : Nat → BT → BT → BT) (S0 : TS) (X : List Nat) (t : BT) (S : TS) (W : List (Nat × BT)) (m : BT) : Prop where
 isM : IsT S (-1) m.root m
 way : ∀ p, p ∈ W → IsT S (-1) (p.1 : Int) (.node p.1 p.2 .nil)
 far : ∀ y, y ∉ X → S0.at S y
 perm : (wayN W ++ m.nodes).Perm X
 res : t = zipUp up W m
theorem Down.turn {up : Nat → BT → BT → BT} {A : NS} {S0 S : TS} {ta tb a b : BT} {W : List (Nat × BT)} (h : Down up A S0 ta tb S W a b) (he : a = .nil ∨ b = .nil) :
  ∃ m, m.root = (if a.root = -1 then b.root else a.root) ∧ Upw up S0 (ta.nodes ++ tb.nodes) (mergeT up A ta tb).1 S W m ∧ (mergeT up A ta tb).2 = W.length ∧ (m = a ∨ m = b) := by
 rcases he with rfl | rfl
 ·refine ⟨b, by simp [BT.root], ⟨h.isB, h.way, h.far, by simpa [BT.nodes] using h.perm, by rw [h.res, mergeT_nil]⟩, by rw [h.res, mergeT_nil]; simp, Or.inr rfl⟩
 ·refine ⟨a, ?_, ⟨h.isA, h.way, h.far, by simpa [BT.nodes] using h.perm, by rw [h.res, mergeT_nil2]⟩, by rw [h.res, mergeT_nil2]; simp, Or.inl rfl⟩
  split
  ·rename_i e; rw [e]; rfl
  ·rfl
end Go.Proofs.YtklibcncmbofpaaGreat
