/-
  Lemmas for PathWays: Spine2, Bt, Bt2. Conditions: those of each lemma.
-/
import Derived.Test.YtklibcncmbofpaaGreatProg
import Derived.WalkKit
import Derived.WalkSpells
import Derived.WalkLawsBesides
import Derived.BigQuiet
import Derived.Deep.RegionHeld3
import Derived.ProofKit
import Derived.OpenShut
import Derived.Lib.Hide
import Derived.Test.YtklibcncmbofpaaGreatP01
import Derived.Test.YtklibcncmbofpaaGreatP03
import Derived.Test.YtklibcncmbofpaaGreatP04
import Derived.Test.YtklibcncmbofpaaGreatP13
set_option linter.unusedVariables false
set_option linter.unusedSimpArgs false
namespace Go.Proofs.YtklibcncmbofpaaGreat
open Go Go.RowKit
def hangS (S : TS) (p x : Int) (r : Bool) : TS := (S.setKid p.toNat r x).setUp x.toNat p
set_option maxHeartbeats 1000000 in
theorem hang_yes (bt ba n : Nat) (S : TS) (i j : Nat) (r : Bool) (w : World) (h : TreesAt w bt ba n S) (hi : i < n) (hj : j < n) (hne : i ≠ j) (hu : S.u j = -1) (hk : S.kid r i = -1) :
  Calls Tryz.prog 251 #[.pointer (some ⟨bt, 0, none⟩), .int .i64 (i : Int), .int .i64 (j : Int), .bool r] w fun e w' => e = .returned (.bool true) ∧ TreesAt w' bt ba n (hangS S i j r) ∧ Upd [ba] w w' := by
 have hle := h.le
 have hbne := h.ne
 have hbne' : ba ≠ bt := fun e => h.ne e.symm
 have c0 := h.head.cell 0 (by omega)
 have d0 := h.row.cellAt (i * 3) (by omega) (treeCell0 S i)
 have d1 := h.row.cellAt (i * 3 + 1) (by omega) (treeCell1 S i)
 have d2 := h.row.cellAt (j * 3 + 2) (by omega) (treeCell2 S j)
 have e0 := h.row.free (i * 3)
 have e1 := h.row.free (i * 3 + 1)
 have e2 := h.row.free (j * 3 + 2)
 have k1 := has_any bt ba n S i w h true (by simp [hi])
 have k2 := has_any bt ba n S j w h true (by simp [hj])
 have k3 := above_any bt ba n S j w h
 rw [show upOf n S j = -1 by unfold upOf; rw [if_pos (by omega)]; simpa using hu] at k3
 have k4 := kid_any bt ba n S i r w h
 rw [show kidOf n S i r = -1 by unfold kidOf; rw [if_pos (by omega)]; simpa using hk] at k4
 have hij : ((i : Int) == (j : Int)) = false := by simp; omega
 have H := Lib.hid h
 clear h hu hk
 cases r
 ·go_enter Tryz.func251, Tryz.ntmps251
  go_wp2_with (first
   | (go_at_call 257; (with_reducible refine (k1).mono ?_); rintro e w' ⟨rfl, rfl⟩)
   | (go_at_call 257; (with_reducible refine (k2).mono ?_); rintro e w' ⟨rfl, rfl⟩)
   | (go_at_call 252; (with_reducible refine (k3).mono ?_); rintro e w' ⟨rfl, rfl⟩)
   | (go_at_call 254; (with_reducible refine (k4).mono ?_); rintro e w' ⟨rfl, kd, rfl⟩))
  go_region_held3 (fun W => W.cell? ⟨bt, 0, none⟩ = some (.slice (some ⟨ba, 0, none⟩) n n)) (go_keep) ((go_at_call 253; refine (side_any _ _).mono ?_; rintro e w' ⟨rfl, rfl⟩))
  go_wp2
  go_ret
  exact ⟨rfl, ((H.out.drewN _).setKid i false j).setUp j i, (((Upd.refl _ _).drewN _).setCell (Or.inl (by simp)) _).setCell (Or.inl (by simp)) _⟩
 ·go_enter Tryz.func251, Tryz.ntmps251
  go_wp2_with (first
   | (go_at_call 257; (with_reducible refine (k1).mono ?_); rintro e w' ⟨rfl, rfl⟩)
   | (go_at_call 257; (with_reducible refine (k2).mono ?_); rintro e w' ⟨rfl, rfl⟩)
   | (go_at_call 252; (with_reducible refine (k3).mono ?_); rintro e w' ⟨rfl, rfl⟩)
   | (go_at_call 254; (with_reducible refine (k4).mono ?_); rintro e w' ⟨rfl, kd, rfl⟩))
  go_region_held3 (fun W => W.cell? ⟨bt, 0, none⟩ = some (.slice (some ⟨ba, 0, none⟩) n n)) (go_keep) ((go_at_call 253; refine (side_any _ _).mono ?_; rintro e w' ⟨rfl, rfl⟩))
  go_wp2
  go_ret
  exact ⟨rfl, ((H.out.drewN _).setKid i true j).setUp j i, (((Upd.refl _ _).drewN _).setCell (Or.inl (by simp)) _).setCell (Or.inl (by simp)) _⟩
theorem cut_no (bt ba n : Nat) (S : TS) (x : Int) (w : World) (h : TreesAt w bt ba n S) (hu : upOf n S x = -1) :
  Calls Tryz.prog 244 #[.pointer (some ⟨bt, 0, none⟩), .int .i64 x] w fun e w' => e = .returned (.tuple #[.int .i64 0, .bool false]) ∧ w' = w := by
 have k3 := above_any bt ba n S x w h
 rw [hu] at k3
 clear h hu
 go_enter Tryz.func244, Tryz.ntmps244
 go_wp2_with ((go_at_call 252; (with_reducible refine (k3).mono ?_); rintro e w' ⟨rfl, rfl⟩))
 go_ret2
 exact ⟨rfl, rfl⟩
def cutS (S : TS) (i j : Nat) : TS := (S.setKid i (decide (S.r i = j)) (-1)).setUp j (-1)
set_option maxHeartbeats 1000000 in
theorem cut_yes (bt ba n : Nat) (S : TS) (i j : Nat) (w : World) (h : TreesAt w bt ba n S) (hi : i < n) (hj : j < n) (hu : S.u j = i) :
  Calls Tryz.prog 244 #[.pointer (some ⟨bt, 0, none⟩), .int .i64 (j : Int)] w fun e w' => e = .returned (.tuple #[.int .i64 (i : Int), .bool true]) ∧ TreesAt w' bt ba n (cutS S i j) ∧ Upd [ba] w w' := by
 have hle := h.le
 have hbne : ba ≠ bt := fun e => h.ne e.symm
 have c0 := h.head.cell 0 (by omega)
 have d0 := h.row.cellAt (i * 3) (by omega) (treeCell0 S i)
 have d1 := h.row.cellAt (i * 3 + 1) (by omega) (treeCell1 S i)
 have d2 := h.row.cellAt (j * 3 + 2) (by omega) (treeCell2 S j)
 have e0 := h.row.free (i * 3)
 have e1 := h.row.free (i * 3 + 1)
 have e2 := h.row.free (j * 3 + 2)
 have k3 := above_any bt ba n S j w h
 rw [show upOf n S j = i by unfold upOf; rw [if_pos (by omega)]; simpa using hu] at k3
 have k4 := fun W (hW : TreesAt W bt ba n S) => kid_any bt ba n S i true W hW
 rw [show kidOf n S i true = S.r i by unfold kidOf TS.kid; rw [if_pos (by omega)]; simp] at k4
 have H := Lib.hid h
 have hi1 : ((i : Int) == -1) = false := by simp
 clear h
 by_cases hr : S.r i = j
 ·have hb : (S.r i == (j : Int)) = true := by simpa using hr
  have ec : cutS S i j = (S.setKid i true (-1)).setUp j (-1) := by unfold cutS; rw [decide_eq_true hr]
  have EC := Lib.hid ec
  clear hr ec hu
  go_enter Tryz.func244, Tryz.ntmps244
  go_wp2_with ((go_at_call 252; (with_reducible refine (k3).mono ?_); rintro e w' ⟨rfl, rfl⟩))
  go_region_held3 (fun W => W.cell? ⟨bt, 0, none⟩ = some (.slice (some ⟨ba, 0, none⟩) n n)) (go_keep)
   (first | ((go_at_call 253; refine (side_any _ _).mono ?_; rintro e w' ⟨rfl, rfl⟩)) | ((go_at_call 254; refine (k4 _ (H.out.drew)).mono ?_; rintro e w' ⟨rfl, kd, rfl⟩)))
  go_wp2
  go_ret2
  exact ⟨rfl, by rw [EC.out]; exact ((H.out.drewN _).setKid i true (-1)).setUp j (-1), (((Upd.refl _ _).drewN _).setCell (Or.inl (by simp)) _).setCell (Or.inl (by simp)) _⟩
 ·have hb : (S.r i == (j : Int)) = false := by simpa using hr
  have ec : cutS S i j = (S.setKid i false (-1)).setUp j (-1) := by unfold cutS; rw [decide_eq_false hr]
  have EC := Lib.hid ec
  clear hr ec hu
  go_enter Tryz.func244, Tryz.ntmps244
  go_wp2_with ((go_at_call 252; (with_reducible refine (k3).mono ?_); rintro e w' ⟨rfl, rfl⟩))
  go_region_held3 (fun W => W.cell? ⟨bt, 0, none⟩ = some (.slice (some ⟨ba, 0, none⟩) n n)) (go_keep)
   (first | ((go_at_call 253; refine (side_any _ _).mono ?_; rintro e w' ⟨rfl, rfl⟩)) | ((go_at_call 254; refine (k4 _ (H.out.drew)).mono ?_; rintro e w' ⟨rfl, kd, rfl⟩)))
  go_wp2
  go_ret2
  exact ⟨rfl, by rw [EC.out]; exact ((H.out.drewN _).setKid i false (-1)).setUp j (-1), (((Upd.refl _ _).drewN _).setCell (Or.inl (by simp)) _).setCell (Or.inl (by simp)) _⟩
def turnS (S : TS) (i : Nat) : TS := (S.setKid i false (S.r i)).setKid i true (S.l i)
set_option maxHeartbeats 1000000 in
theorem turn_yes (bt ba n : Nat) (S : TS) (i : Nat) (w : World) (h : TreesAt w bt ba n S) (hi : i < n) :
  Calls Tryz.prog 259 #[.pointer (some ⟨bt, 0, none⟩), .int .i64 (i : Int)] w fun e w' => e = .returned (.bool true) ∧ TreesAt w' bt ba n (turnS S i) ∧ Upd [ba] w w' := by
 have hle := h.le
 have c0 := h.head.cell 0 (by omega)
 have d0 := h.row.cellAt (i * 3) (by omega) (treeCell0 S i)
 have d1 := h.row.cellAt (i * 3 + 1) (by omega) (treeCell1 S i)
 have e0 := h.row.free (i * 3)
 have e1 := h.row.free (i * 3 + 1)
 have k1 := has_any bt ba n S i w h true (by simp [hi])
 have H := Lib.hid h
 clear h
 go_enter Tryz.func259, Tryz.ntmps259
 go_wp2_with ((go_at_call 257; (with_reducible refine (k1).mono ?_); rintro e w' ⟨rfl, rfl⟩))
 go_region
 go_wp2
 go_ret
 exact ⟨rfl, ((H.out.setKid i false (S.r i)).setKid i true (S.l i)).drew, (((Upd.refl _ _).setCell (Or.inl (by simp)) _).setCell (Or.inl (by simp)) _).drew⟩
end Go.Proofs.YtklibcncmbofpaaGreat
namespace Go.Proofs.YtklibcncmbofpaaGreat
inductive BT where
 | nil : BT
 | node : Nat → BT → BT → BT
def BT.root : BT → Int | .nil => -1 | .node x _ _ => x
def BT.nodes : BT → List Nat | .nil => [] | .node x l r => x :: (l.nodes ++ r.nodes)
def BT.size : BT → Nat | .nil => 0 | .node _ l r => l.size + r.size + 1
def IsT (S : TS) : Int → Int → BT → Prop
 | _, z, .nil => z = -1
 | p, z, .node x l r => z = x ∧ S.u x = p ∧ IsT S x (S.l x) l ∧ IsT S x (S.r x) r
theorem IsT.root {S : TS} : ∀ {t : BT} {p z : Int}, IsT S p z t → z = t.root
 | .nil, _, _, h => h
 | .node _ _ _, _, _, h => h.1
def TS.at (S S' : TS) (x : Nat) : Prop := S'.l x = S.l x ∧ S'.r x = S.r x ∧ S'.u x = S.u x
theorem IsT.frame {S S' : TS} : ∀ {t : BT} {p z : Int}, IsT S p z t → (∀ x, x ∈ t.nodes → S.at S' x) → IsT S' p z t
 | .nil, _, _, h, _ => h
 | .node x l r, p, z, h, hs => by
  have hx := hs x (by simp [BT.nodes])
  refine ⟨h.1, by rw [hx.2.2]; exact h.2.1, ?_, ?_⟩
  ·rw [hx.1]; exact IsT.frame h.2.2.1 (fun y hy => hs y (by simp [BT.nodes, hy]))
  ·rw [hx.2.1]; exact IsT.frame h.2.2.2 (fun y hy => hs y (by simp [BT.nodes, hy]))
theorem IsT.hung {S S' : TS} {t : BT} {p p' z : Int} (h : IsT S p z t) (hn : t.nodes.Nodup) (hs : ∀ x, x ∈ t.nodes → S'.l x = S.l x ∧ S'.r x = S.r x ∧ (x ≠ t.root.toNat → S'.u x = S.u x)) (hr : t ≠ .nil → S'.u t.root.toNat = p') : IsT S' p' z t := by
 cases t with
 | nil => exact h
 | node x l r =>
  have hx := hs x (by simp [BT.nodes])
  simp only [BT.nodes, List.nodup_cons, List.mem_append, not_or] at hn
  refine ⟨h.1, ?_, ?_, ?_⟩
  ·have := hr (by simp); simpa [BT.root] using this
  ·rw [hx.1]
   refine h.2.2.1.frame (fun y hy => ?_)
   have hy' := hs y (by simp [BT.nodes, hy])
   exact ⟨hy'.1, hy'.2.1, hy'.2.2 (fun e => by simp [BT.root] at e; rw [e] at hy; exact hn.1.1 hy)⟩
  ·rw [hx.2.1]
   refine h.2.2.2.frame (fun y hy => ?_)
   have hy' := hs y (by simp [BT.nodes, hy])
   exact ⟨hy'.1, hy'.2.1, hy'.2.2 (fun e => by simp [BT.root] at e; rw [e] at hy; exact hn.1.2 hy)⟩
theorem root_mem {t : BT} (h : t ≠ .nil) : t.root.toNat ∈ t.nodes ∧ t.root = (t.root.toNat : Int) := by
 cases t with
 | nil => exact absurd rfl h
 | node x l r => simp [BT.root, BT.nodes]
def Heap (A : NS) : BT → Prop
 | .nil => True
 | .node x l r => (∀ y, y ∈ l.nodes → lt3 A x y) ∧ (∀ y, y ∈ r.nodes → lt3 A x y) ∧ Heap A l ∧ Heap A r
def mergeT (up : Nat → BT → BT → BT) (A : NS) : BT → BT → BT × Nat
 | .nil, t => (t, 0)
 | .node x l r, .nil => (.node x l r, 0)
 | .node x l r, .node y l' r' =>
  if lt3 A y x then (up y l' (mergeT up A r' (.node x l r)).1, (mergeT up A r' (.node x l r)).2 + 1)
  else (up x l (mergeT up A r (.node y l' r')).1, (mergeT up A r (.node y l' r')).2 + 1)
termination_by a b => a.size + b.size
decreasing_by
 all_goals simp only [BT.size]
 all_goals omega
theorem mergeT_nil (up : Nat → BT → BT → BT) (A : NS) (t : BT) : mergeT up A .nil t = (t, 0) := by rw [mergeT]
theorem mergeT_nil2 (up : Nat → BT → BT → BT) (A : NS) (t : BT) : mergeT up A t .nil = (t, 0) := by cases t <;> rw [mergeT]
theorem mergeT_node (up : Nat → BT → BT → BT) (A : NS) (x y : Nat) (l r l' r' : BT) : mergeT up A (.node x l r) (.node y l' r') =
  if lt3 A y x then (up y l' (mergeT up A r' (.node x l r)).1, (mergeT up A r' (.node x l r)).2 + 1)
  else (up x l (mergeT up A r (.node y l' r')).1, (mergeT up A r (.node y l' r')).2 + 1) := by rw [mergeT]
structure UpOk (up : Nat → BT → BT → BT) : Prop where
 nodes : ∀ x l r, (up x l r).nodes.Perm (x :: (l.nodes ++ r.nodes))
 heap : ∀ A x l r, (∀ y, y ∈ l.nodes → lt3 A x y) → (∀ y, y ∈ r.nodes → lt3 A x y) → Heap A l → Heap A r → Heap A (up x l r)
 root : ∀ x l r, (up x l r).root = x
theorem merge_ok {up : Nat → BT → BT → BT} (U : UpOk up) (A : NS) (k : Nat) : ∀ (a b : BT), a.size + b.size ≤ k →
  (mergeT up A a b).1.nodes.Perm (a.nodes ++ b.nodes) ∧ (Heap A a → Heap A b → (a.nodes ++ b.nodes).Nodup → Heap A (mergeT up A a b).1) := by
 induction k with
 | zero =>
  intro a b hk
  cases a with
  | nil => rw [mergeT_nil]; exact ⟨by simp [BT.nodes], fun _ h _ => h⟩
  | node x l r => simp only [BT.size] at hk; omega
 | succ k ih =>
  intro a b hk
  cases a with
  | nil => rw [mergeT_nil]; exact ⟨by simp [BT.nodes], fun _ h _ => h⟩
  | node x l r =>
   cases b with
   | nil => rw [mergeT_nil2]; exact ⟨by simp [BT.nodes], fun h _ _ => h⟩
   | node y l' r' =>
    rw [mergeT_node]
    simp only [BT.size] at hk
    by_cases h : lt3 A y x
    ·rw [if_pos h]
     obtain ⟨i1, i2⟩ := ih r' (.node x l r) (by simp only [BT.size]; omega)
     have i3 := U.nodes y l' (mergeT up A r' (.node x l r)).1
     have i4 : (y :: (l'.nodes ++ (mergeT up A r' (.node x l r)).1.nodes)).Perm ((BT.node x l r).nodes ++ (BT.node y l' r').nodes) := by
      refine List.Perm.trans (List.Perm.cons y (List.Perm.append_left _ i1)) ?_
      rw [← List.append_assoc]
      show (y :: (l'.nodes ++ r'.nodes ++ (BT.node x l r).nodes)).Perm ((BT.node x l r).nodes ++ (y :: (l'.nodes ++ r'.nodes)))
      exact (List.perm_append_comm (l₁ := y :: (l'.nodes ++ r'.nodes)))
     refine ⟨i3.trans i4, fun ha hb hn => ?_⟩
     have hn2 : (r'.nodes ++ (BT.node x l r).nodes).Nodup := by
      rw [List.nodup_append] at hn ⊢
      simp only [BT.nodes, List.nodup_cons, List.nodup_append] at hn
      refine ⟨hn.2.1.2.2.1, by simp only [BT.nodes, List.nodup_cons, List.nodup_append]; exact hn.1, fun p hp q hq e => hn.2.2 q hq p (by simp [hp]) e.symm⟩
     refine U.heap A y l' _ hb.1 (fun z hz => ?_) hb.2.2.1 (i2 hb.2.2.2 ha hn2)
     rcases List.mem_append.1 (i1.mem_iff.1 hz) with hz | hz
     ·exact hb.2.1 z hz
     ·simp only [BT.nodes, List.mem_cons, List.mem_append] at hz
      rcases hz with rfl | hz | hz
      ·exact h
      ·exact lt3_trans h (ha.1 z hz)
      ·exact lt3_trans h (ha.2.1 z hz)
    ·rw [if_neg h]
     obtain ⟨i1, i2⟩ := ih r (.node y l' r') (by simp only [BT.size]; omega)
     have i3 := U.nodes x l (mergeT up A r (.node y l' r')).1
     have i4 : (x :: (l.nodes ++ (mergeT up A r (.node y l' r')).1.nodes)).Perm ((BT.node x l r).nodes ++ (BT.node y l' r').nodes) := by
      refine List.Perm.trans (List.Perm.cons x (List.Perm.append_left _ i1)) ?_
      rw [← List.append_assoc]
      exact List.Perm.refl _
     refine ⟨i3.trans i4, fun ha hb hn => ?_⟩
     have hn1 := hn
     rw [List.nodup_append] at hn
     have hxy : x ≠ y := hn.2.2 x (by simp [BT.nodes]) y (by simp [BT.nodes])
     have hlt : lt3 A x y := by
      rcases lt3_total (A := A) hxy with h' | h'
      ·exact h'
      ·exact absurd h' h
     have hn2 : (r.nodes ++ (BT.node y l' r').nodes).Nodup := by
      rw [List.nodup_append]
      simp only [BT.nodes, List.nodup_cons, List.nodup_append] at hn
      refine ⟨hn.1.2.2.1, by simp only [BT.nodes, List.nodup_cons, List.nodup_append]; exact hn.2.1, fun p hp q hq e => hn.2.2 p (by simp [hp]) q hq e⟩
     refine U.heap A x l _ ha.1 (fun z hz => ?_) ha.2.2.1 (i2 ha.2.2.2 hb hn2)
     rcases List.mem_append.1 (i1.mem_iff.1 hz) with hz | hz
     ·exact ha.2.1 z hz
     ·simp only [BT.nodes, List.mem_cons, List.mem_append] at hz
      rcases hz with rfl | hz | hz
      ·exact hlt
      ·exact lt3_trans hlt (hb.1 z hz)
      ·exact lt3_trans hlt (hb.2.1 z hz)
def zipUp (up : Nat → BT → BT → BT) : List (Nat × BT) → BT → BT
 | [], m => m
 | (x, l) :: t, m => up x l (zipUp up t m)
theorem zipUp_snoc (up : Nat → BT → BT → BT) (W : List (Nat × BT)) (x : Nat) (l m : BT) : zipUp up (W ++ [(x, l)]) m = zipUp up W (up x l m) := by
 induction W with
 | nil => rfl
 | cons p t ih => obtain ⟨y, k⟩ := p; simp only [List.cons_append, zipUp, ih]
def wayN (W : List (Nat × BT)) : List Nat := W.flatMap fun p => p.1 :: p.2.nodes
end Go.Proofs.YtklibcncmbofpaaGreat
namespace Go.Proofs.YtklibcncmbofpaaGreat
abbrev Fr := Nat × Bool × BT
def plug1 (f : Fr) (t : BT) : BT := if f.2.1 then .node f.1 f.2.2 t else .node f.1 t f.2.2
def plug : List Fr → BT → BT
 | [], t => t
 | f :: P, t => plug P (plug1 f t)
def upP : List Fr → Int | [] => -1 | f :: _ => f.1
def ctxN : List Fr → List Nat | [] => [] | f :: P => f.1 :: (f.2.2.nodes ++ ctxN P)
def IsP (S : TS) : List Fr → Int → Prop
 | [], _ => True
 | f :: P, z => S.kid f.2.1 f.1 = z ∧ IsT S f.1 (S.kid (!f.2.1) f.1) f.2.2 ∧ S.u f.1 = upP P ∧ IsP S P f.1
theorem plug1_root (f : Fr) (t : BT) : (plug1 f t).root = f.1 := by unfold plug1; split <;> rfl
theorem plug1_nodes (f : Fr) (t : BT) : (plug1 f t).nodes.Perm (f.1 :: (t.nodes ++ f.2.2.nodes)) := by
 unfold plug1; split
 ·simp only [BT.nodes]; exact List.Perm.cons _ List.perm_append_comm
 ·exact List.Perm.refl _
theorem plug_nodes : ∀ (P : List Fr) (t : BT), (plug P t).nodes.Perm (t.nodes ++ ctxN P)
 | [], t => by simp [plug, ctxN]
 | f :: P, t => by
  refine (plug_nodes P (plug1 f t)).trans ?_
  refine ((plug1_nodes f t).append_right (ctxN P)).trans ?_
  simp only [ctxN, List.cons_append, List.append_assoc]
  exact (List.perm_middle (a := f.1) (l₁ := t.nodes) (l₂ := f.2.2.nodes ++ ctxN P)).symm
theorem plug_root2 : ∀ (P : List Fr) (t t' : BT), t.root = t'.root → (plug P t).root = (plug P t').root
 | [], t, t', h => h
 | f :: P, t, t', h => plug_root2 P _ _ (by rw [plug1_root, plug1_root])
theorem plug_rootc (f : Fr) (P : List Fr) (t t' : BT) : (plug (f :: P) t).root = (plug (f :: P) t').root := plug_root2 P _ _ (by rw [plug1_root, plug1_root])
theorem plug_append : ∀ (P Q : List Fr) (t : BT), plug (P ++ Q) t = plug Q (plug P t)
 | [], _, _ => rfl
 | f :: P, Q, t => plug_append P Q (plug1 f t)
theorem find_node : ∀ {t : BT} {x : Nat}, x ∈ t.nodes → ∃ P l r, t = plug P (.node x l r)
 | .nil, _, h => by cases h
 | .node y a b, x, h => by
  simp only [BT.nodes, List.mem_cons, List.mem_append] at h
  rcases h with rfl | h | h
  ·exact ⟨[], a, b, rfl⟩
  ·obtain ⟨P, l, r, e⟩ := find_node h
   exact ⟨P ++ [(y, false, b)], l, r, by rw [plug_append, ← e]; rfl⟩
  ·obtain ⟨P, l, r, e⟩ := find_node h
   exact ⟨P ++ [(y, true, a)], l, r, by rw [plug_append, ← e]; rfl⟩
theorem isT_plug1 {S : TS} {p : Int} (f : Fr) (t : BT) : IsT S p f.1 (plug1 f t) ↔ IsT S f.1 t.root t ∧ S.kid f.2.1 f.1 = t.root ∧ IsT S f.1 (S.kid (!f.2.1) f.1) f.2.2 ∧ S.u f.1 = p := by
 obtain ⟨x, s, o⟩ := f
 cases s
 ·simp only [plug1, Bool.false_eq_true, if_false, IsT, TS.kid, Bool.not_false, if_true]
  constructor
  ·rintro ⟨_, h2, h3, h4⟩
   have e := h3.root
   exact ⟨by rw [← e]; exact h3, e, h4, h2⟩
  ·rintro ⟨h1, h2, h3, h4⟩
   exact ⟨trivial, h4, by rw [h2]; exact h1, h3⟩
 ·simp only [plug1, if_true, IsT, TS.kid, Bool.not_true, Bool.false_eq_true, if_false]
  constructor
  ·rintro ⟨_, h2, h3, h4⟩
   have e := h4.root
   exact ⟨by rw [← e]; exact h4, e, h3, h2⟩
  ·rintro ⟨h1, h2, h3, h4⟩
   exact ⟨trivial, h4, h3, by rw [h2]; exact h1⟩
theorem isT_plug {S : TS} : ∀ (P : List Fr) (t : BT), IsT S (-1) (plug P t).root (plug P t) ↔ IsT S (upP P) t.root t ∧ IsP S P t.root
 | [], t => by simp [plug, upP, IsP]
 | f :: P, t => by
  have h := isT_plug (S := S) P (plug1 f t)
  rw [plug1_root] at h
  show IsT S (-1) (plug P (plug1 f t)).root (plug P (plug1 f t)) ↔ _
  rw [h, isT_plug1]
  simp only [upP, IsP]
  constructor
  ·rintro ⟨⟨h1, h2, h3, h4⟩, h5⟩
   exact ⟨h1, h2, h3, h4, h5⟩
  ·rintro ⟨h1, h2, h3, h4, h5⟩
   exact ⟨⟨h1, h2, h3, h4⟩, h5⟩
theorem IsP.frame {S S' : TS} : ∀ {P : List Fr} {z : Int}, IsP S P z → (∀ y, y ∈ ctxN P → S.at S' y) → IsP S' P z
 | [], _, _, _ => trivial
 | f :: P, z, h, hs => by
  obtain ⟨h1, h2, h3, h4⟩ := h
  have hf := hs f.1 (by simp [ctxN])
  have hk : ∀ s, S'.kid s f.1 = S.kid s f.1 := fun s => by unfold TS.kid; rw [hf.1, hf.2.1]
  exact ⟨by rw [hk]; exact h1, by rw [hk]; exact h2.frame (fun y hy => hs y (by simp [ctxN, hy])), by rw [hf.2.2]; exact h3, h4.frame (fun y hy => hs y (by simp [ctxN, hy]))⟩
theorem IsP.other {S S' : TS} {f : Fr} {P : List Fr} {z z' : Int} (h : IsP S (f :: P) z) (hn : (ctxN (f :: P)).Nodup) (h1 : S'.kid f.2.1 f.1 = z') (h2 : S'.kid (!f.2.1) f.1 = S.kid (!f.2.1) f.1) (h3 : S'.u f.1 = S.u f.1)
  (hs : ∀ y, y ≠ f.1 → y ∈ ctxN (f :: P) → S.at S' y) : IsP S' (f :: P) z' := by
 obtain ⟨_, g2, g3, g4⟩ := h
 simp only [ctxN, List.nodup_cons, List.mem_append, not_or] at hn
 exact ⟨h1, by rw [h2]; exact g2.frame (fun y hy => hs y (fun e => hn.1.1 (by rw [← e]; exact hy)) (by simp [ctxN, hy])), by rw [h3]; exact g3, g4.frame (fun y hy => hs y (fun e => hn.1.2 (by rw [← e]; exact hy)) (by simp [ctxN, hy]))⟩
theorem cutS_at {S : TS} {i j : Nat} {y : Nat} (h1 : y ≠ i) (h2 : y ≠ j) : S.at (cutS S i j) y := by
 unfold cutS TS.setKid TS.setUp TS.at
 refine ⟨?_, ?_, ?_⟩
 ·cases decide (S.r i = (j : Int)) <;> simp [h1]
 ·cases decide (S.r i = (j : Int)) <;> simp [h1]
 ·cases decide (S.r i = (j : Int)) <;> simp [h2]
theorem kid_u {S : TS} {i : Nat} {s : Bool} {v : Int} : ∀ y, (S.setKid i s v).u y = S.u y := fun y => by unfold TS.setKid; cases s <;> rfl
theorem cut_plug {S : TS} {f : Fr} {P : List Fr} {t : BT} (h : IsT S (-1) (plug (f :: P) t).root (plug (f :: P) t)) (ht : t ≠ .nil) (hn : (plug (f :: P) t).nodes.Nodup) :
  IsT (cutS S f.1 t.root.toNat) (-1) t.root t ∧ IsT (cutS S f.1 t.root.toNat) (-1) (plug (f :: P) .nil).root (plug (f :: P) .nil) ∧ ∀ y, y ≠ f.1 → y ≠ t.root.toNat → S.at (cutS S f.1 t.root.toNat) y := by
 obtain ⟨h1, h2⟩ := (isT_plug _ _).1 h
 have hnp := (plug_nodes (f :: P) t).nodup_iff.1 hn
 rw [List.nodup_append] at hnp
 obtain ⟨n1, n2, n3⟩ := hnp
 obtain ⟨rm, rc⟩ := root_mem ht
 generalize hx : t.root.toNat = x at *
 have hfx : f.1 ≠ x := fun e => n3 x rm f.1 (by simp [ctxN]) e.symm
 have hat : ∀ y, y ≠ f.1 → y ≠ x → S.at (cutS S f.1 x) y := fun y h1 h2 => cutS_at h1 h2
 have hk : S.kid f.2.1 f.1 = x := by rw [h2.1, rc]
 have hside : decide (S.r f.1 = (x : Int)) = f.2.1 := by
  cases hs : f.2.1 with
  | true => rw [hs] at hk; exact decide_eq_true (by simpa [TS.kid] using hk)
  | false =>
   refine decide_eq_false (fun e => ?_)
   have h3 := h2.2.1
   rw [hs] at h3
   have h4 := h3.root
   have h5 : f.2.2.root = (x : Int) := by rw [← h4]; simpa [TS.kid] using e
   have h6 : f.2.2 ≠ .nil := fun e => by rw [e] at h5; simp [BT.root] at h5
   have h7 := (root_mem h6).1
   rw [h5, Int.toNat_natCast] at h7
   exact n3 x rm x (by simp [ctxN, h7]) rfl
 have hkid : ∀ s, (cutS S f.1 x).kid s f.1 = if s = f.2.1 then -1 else S.kid s f.1 := fun s => by
  unfold cutS
  rw [hside]
  unfold TS.setKid TS.setUp TS.kid
  cases s <;> cases f.2.1 <;> simp
 have hu : ∀ y, (cutS S f.1 x).u y = if y = x then -1 else S.u y := fun y => by
  unfold cutS TS.setUp
  simp only [kid_u]
 refine ⟨h1.hung n1 (fun y hy => ?_) (fun _ => ?_), (isT_plug _ _).2 ⟨rfl, h2.other n2 ?_ ?_ ?_ (fun y g1 g2 => hat y g1 (fun e => n3 x rm y g2 e.symm))⟩, hat⟩
 ·have hyf : y ≠ f.1 := fun e => n3 y hy f.1 (by simp [ctxN]) e
  refine ⟨?_, ?_, fun hr => ?_⟩
  ·unfold cutS TS.setKid TS.setUp; cases decide (S.r f.1 = (x : Int)) <;> simp [hyf]
  ·unfold cutS TS.setKid TS.setUp; cases decide (S.r f.1 = (x : Int)) <;> simp [hyf]
  ·rw [hu, if_neg (by rw [hx] at hr; exact hr)]
 ·rw [hu, hx, if_pos rfl]
 ·rw [hkid, if_pos rfl]; rfl
 ·rw [hkid, if_neg (by cases f.2.1 <;> simp)]
 ·rw [hu, if_neg hfx]
theorem hang_plug {S : TS} {f : Fr} {P : List Fr} {m : BT} (h : IsT S (-1) (plug (f :: P) .nil).root (plug (f :: P) .nil)) (hM : IsT S (-1) m.root m) (hm : m ≠ .nil) (hn : (m.nodes ++ ctxN (f :: P)).Nodup) :
  IsT (hangS S f.1 m.root f.2.1) (-1) (plug (f :: P) m).root (plug (f :: P) m) ∧ ∀ y, y ≠ f.1 → y ≠ m.root.toNat → S.at (hangS S f.1 m.root f.2.1) y := by
 obtain ⟨_, h2⟩ := (isT_plug _ _).1 h
 rw [List.nodup_append] at hn
 obtain ⟨n1, n2, n3⟩ := hn
 obtain ⟨rm, rc⟩ := root_mem hm
 have hfx : f.1 ≠ m.root.toNat := fun e => n3 _ rm f.1 (by simp [ctxN]) e.symm
 have hkid : ∀ s, (hangS S f.1 m.root f.2.1).kid s f.1 = if s = f.2.1 then m.root else S.kid s f.1 := fun s => by
  unfold hangS TS.setKid TS.setUp TS.kid
  cases s <;> cases f.2.1 <;> simp
 have hu : ∀ y, (hangS S f.1 m.root f.2.1).u y = if y = m.root.toNat then (f.1 : Int) else S.u y := fun y => by
  unfold hangS TS.setUp
  simp only [kid_u]
 have hl : ∀ y, y ≠ f.1 → (hangS S f.1 m.root f.2.1).l y = S.l y ∧ (hangS S f.1 m.root f.2.1).r y = S.r y := fun y hy => by
  unfold hangS TS.setKid TS.setUp; cases f.2.1 <;> simp [hy]
 have hat : ∀ y, y ≠ f.1 → y ≠ m.root.toNat → S.at (hangS S f.1 m.root f.2.1) y := fun y g1 g2 => ⟨(hl y g1).1, (hl y g1).2, by rw [hu, if_neg g2]⟩
 refine ⟨(isT_plug _ _).2 ⟨hM.hung n1 (fun y hy => ?_) (fun _ => by rw [hu, if_pos rfl]; rfl), h2.other n2 ?_ ?_ ?_ (fun y g1 g2 => hat y g1 (fun e => n3 _ rm y g2 e.symm))⟩, hat⟩
 ·have hyf : y ≠ f.1 := fun e => n3 y hy f.1 (by simp [ctxN]) e
  exact ⟨(hl y hyf).1, (hl y hyf).2, fun hr => by rw [hu, if_neg hr]⟩
 ·rw [hkid, if_pos rfl]
 ·rw [hkid, if_neg (by cases f.2.1 <;> simp)]
 ·rw [hu, if_neg hfx]
/-! ### heaps, ranks -/
theorem heap_plug1 {A : NS} {f : Fr} {t : BT} : Heap A (plug1 f t) ↔ (∀ y, y ∈ t.nodes → lt3 A f.1 y) ∧ (∀ y, y ∈ f.2.2.nodes → lt3 A f.1 y) ∧ Heap A t ∧ Heap A f.2.2 := by
 unfold plug1
 split
 ·simp only [Heap]; constructor
  ·rintro ⟨a, b, c, d⟩; exact ⟨b, a, d, c⟩
  ·rintro ⟨a, b, c, d⟩; exact ⟨b, a, d, c⟩
 ·simp only [Heap]
theorem heap_sub {A : NS} : ∀ {P : List Fr} {t : BT}, Heap A (plug P t) → Heap A t
 | [], _, h => h
 | f :: P, t, h => (heap_plug1.1 (heap_sub (P := P) h)).2.2.1
theorem heap_plug {A : NS} : ∀ {P : List Fr} {t t' : BT}, Heap A (plug P t) → Heap A t' → (∀ y, y ∈ t'.nodes → y ∈ t.nodes) → Heap A (plug P t')
 | [], _, _, _, h, _ => h
 | f :: P, t, t', h, h', hs => by
  have h1 := heap_plug1.1 (heap_sub (P := P) h)
  refine heap_plug (P := P) h (heap_plug1.2 ⟨fun y hy => h1.1 y (hs y hy), h1.2.1, h', h1.2.2.2⟩) (fun y hy => ?_)
  have hy' := (plug1_nodes f t').mem_iff.1 hy
  refine (plug1_nodes f t).mem_iff.2 ?_
  simp only [List.mem_cons, List.mem_append] at hy' ⊢
  rcases hy' with h | h | h
  ·exact Or.inl h
  ·exact Or.inr (Or.inl (hs y h))
  ·exact Or.inr (Or.inr h)
end Go.Proofs.YtklibcncmbofpaaGreat
