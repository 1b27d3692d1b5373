/-
  Lemmas for PathWays: Sk, Lf4, Sk2, Lf9. Conditions: those of each lemma.
-/
import Derived.Test.YtklibcncmbofpaaGreatProg
import Derived.WalkKit
import Derived.WalkSpells
import Derived.WalkLawsBesides
import Derived.BigQuiet
import Derived.Deep.RegionHeld3
import Derived.ProofKit
import Derived.OpenShut
import Derived.Lib.Hide
import Derived.Maps.AppendAt
import Derived.StillTailTactics
import Derived.Maps.OwnSet
import Derived.Maps.OwnOps
import Derived.Maps.RangeWalk
import Derived.IntWalk
import Derived.Deep.RegionLaw
import Derived.Test.YtklibcncmbofpaaGreatP01
import Derived.Test.YtklibcncmbofpaaGreatP03
import Derived.Test.YtklibcncmbofpaaGreatP04
import Derived.Test.YtklibcncmbofpaaGreatP05
import Derived.Test.YtklibcncmbofpaaGreatP06
import Derived.Test.YtklibcncmbofpaaGreatP07
import Derived.Test.YtklibcncmbofpaaGreatP13
import Derived.Test.YtklibcncmbofpaaGreatP14
import Derived.Test.YtklibcncmbofpaaGreatP15
set_option linter.unusedVariables false
set_option linter.unusedSimpArgs false
namespace Go.Proofs.YtklibcncmbofpaaGreat
open Go Go.RowKit
structure SB where
 n0 : Nat
 c : Nat
 bt : Nat
 ba : Nat
 mb : Nat
structure SkM (w : World) (B : SB) (F : List Nat) (A : NS) (st : Nat) (S : TS) (f : Int → Option Int) : Prop where
 head : RowAt w B.n0 234 3 (fun j => [Value.pointer (some ⟨B.c, 0, none⟩), .pointer (some ⟨B.bt, 0, none⟩), .map (some B.mb)].getD j undef)
 cells : CellsAt w B.c F A st
 trees : TreesAt w B.bt B.ba A.cs.length S
 top : MapI w B.mb f
 sepF : B.n0 ∉ F ∧ B.bt ∉ F ∧ B.ba ∉ F ∧ B.mb ∉ F
 sep : (B.n0 ≠ B.bt ∧ B.n0 ≠ B.ba ∧ B.n0 ≠ B.mb) ∧ (B.bt ≠ B.mb ∧ B.ba ≠ B.mb)
section
variable {w : World} {B : SB} {F : List Nat} {A : NS} {st : Nat} {S : TS} {f : Int → Option Int}
def SB.blk (B : SB) (F : List Nat) : List Nat := B.n0 :: B.bt :: B.ba :: B.mb :: F
theorem SkM.upd {w' : World} {G : List Nat} (h : SkM w B F A st S f) (hu : Upd G w w') (hG : ∀ x, x ∈ G → x ∉ B.blk F) : SkM w' B F A st S f := by
 have hb : ∀ y, y ∈ B.blk F → y ∉ G := fun y hy hm => hG y hm hy
 exact ⟨h.head.upd hu (hb _ (by simp [SB.blk])), h.cells.upd hu (fun x hx hm => hG x hx (by simp [SB.blk, hm])), h.trees.upd hu (hb _ (by simp [SB.blk])) (hb _ (by simp [SB.blk])), h.top.upd hu (hb _ (by simp [SB.blk])), h.sepF, h.sep⟩
theorem SkM.upd0 {w' : World} (h : SkM w B F A st S f) (hu : Upd [] w w') : SkM w' B F A st S f := h.upd hu (by simp)
theorem SkM.lt (h : SkM w B F A st S f) : ∀ x, x ∈ B.blk F → x < w.heap.size := fun x hx => by
 simp only [SB.blk, List.mem_cons] at hx
 rcases hx with rfl | rfl | rfl | rfl | hx
 ·exact h.head.lt
 ·exact h.trees.head.lt
 ·exact h.trees.row.lt
 ·exact h.top.lt
 ·exact h.cells.lt x hx
theorem SkM.cF (h : SkM w B F A st S f) : B.c ∈ F := h.cells.mem
theorem SkM.h0 (h : SkM w B F A st S f) : w.cell? ⟨B.n0, 0, none⟩ = some (.pointer (some ⟨B.c, 0, none⟩)) := h.head.cellAt 0 (by omega) rfl
theorem SkM.h1 (h : SkM w B F A st S f) : w.cell? ⟨B.n0, 1, none⟩ = some (.pointer (some ⟨B.bt, 0, none⟩)) := h.head.cellAt 1 (by omega) rfl
theorem SkM.h2 (h : SkM w B F A st S f) : w.cell? ⟨B.n0, 2, none⟩ = some (.map (some B.mb)) := h.head.cellAt 2 (by omega) rfl
theorem SkM.setT {w' : World} {S' : TS} (h : SkM w B F A st S f) (hu : Upd [B.ba] w w') (hT : TreesAt w' B.bt B.ba A.cs.length S') : SkM w' B F A st S' f := by
 obtain ⟨⟨s1, s2, s3⟩, s4, s5⟩ := h.sep
 obtain ⟨f1, f2, f3, f4⟩ := h.sepF
 exact ⟨h.head.upd hu (by simp; exact s2), h.cells.upd hu (fun x hx hm => by simp at hx; subst hx; exact f3 hm), hT, h.top.upd hu (by simp; exact Ne.symm s5), h.sepF, h.sep⟩
theorem SkM.setM {w' : World} {f' : Int → Option Int} (h : SkM w B F A st S f) (hu : Upd [B.mb] w w') (hM : MapI w' B.mb f') : SkM w' B F A st S f' := by
 obtain ⟨⟨s1, s2, s3⟩, s4, s5⟩ := h.sep
 obtain ⟨f1, f2, f3, f4⟩ := h.sepF
 exact ⟨h.head.upd hu (by simp; exact s3), h.cells.upd hu (fun x hx hm => by simp at hx; subst hx; exact f4 hm), h.trees.upd hu (by simp; exact s4) (by simp; exact s5), hM, h.sepF, h.sep⟩
theorem SkM.setC {w' : World} {F' : List Nat} {A' : NS} {st' : Nat} (h : SkM w B F A st S f) (hu : Upd F w w') (hC : CellsAt w' B.c F' A' st') (hF : ∀ x, x ∈ F' → x ∈ F ∨ w.heap.size ≤ x) (h1 : A'.cs.length = A.cs.length) : SkM w' B F' A' st' S f := by
 obtain ⟨f1, f2, f3, f4⟩ := h.sepF
 have hn : ∀ y, y < w.heap.size → y ∉ F → y ∉ F' := fun y hy hm hm' => by rcases hF y hm' with h' | h'; exact hm h'; omega
 have hl := h.lt
 exact ⟨h.head.upd hu f1, hC, by rw [h1]; exact h.trees.upd hu f2 f3, h.top.upd hu f4, ⟨hn _ (hl _ (by simp [SB.blk])) f1, hn _ (hl _ (by simp [SB.blk])) f2, hn _ (hl _ (by simp [SB.blk])) f3, hn _ (hl _ (by simp [SB.blk])) f4⟩, h.sep⟩
def oneZ (o : Option Int) : Int := o.getD (-1)
set_option maxHeartbeats 1000000 in
theorem sfirst_any (h : SkM w B F A st S f) (q : Int) (hq : -9223372036854775808 ≤ q ∧ q ≤ 9223372036854775807) :
  Calls Tryz.prog 268 #[.pointer (some ⟨B.n0, 0, none⟩), .int .i64 q] w fun e w' => e = .returned (.int .i64 (oneZ (f q))) ∧ w' = w := by
 have h2 := h.h2
 have ht := h.top
 have k := ht.look_ok q hq
 unfold oneZ
 cases hf : f q with
 | none =>
  rw [hf] at k
  simp only [Option.getD_none, Option.isSome_none] at k ⊢
  clear ht h
  go_enter Tryz.func268, Tryz.ntmps268
  go_wp2
  go_ret
  exact ⟨rfl, rfl⟩
 | some z =>
  rw [hf] at k
  simp only [Option.getD_some, Option.isSome_some] at k ⊢
  clear ht h
  go_enter Tryz.func268, Tryz.ntmps268
  go_wp2
  go_ret
  exact ⟨rfl, rfl⟩
set_option maxHeartbeats 1000000 in
theorem scrown_any (h : SkM w B F A st S f) (q : Nat) (z : Int) (hq : 1 ≤ q ∧ q ≤ 65536) (hz : -1 ≤ z ∧ z ≤ 9223372036854775807) :
  Calls Tryz.prog 266 #[.pointer (some ⟨B.n0, 0, none⟩), .int .i64 (q : Int), .int .i64 z] w fun e w' => e = .returned (.tuple #[]) ∧ Upd [B.mb] w w' ∧ SkM w' B F A st S (fun y => if y = (q : Int) then (if z = -1 then none else some z) else f y) := by
 have h2 := h.h2
 have ht := h.top
 have H := Lib.hid h
 by_cases he : z = -1
 ·subst he
  clear h
  go_enter Tryz.func266, Tryz.ntmps266
  go_wp2_with (refine wpList_mdel rfl _ _ rfl B.mb f rfl ht q rfl (by omega) ?_; intro w1 hm1 hu1)
  go_end0
  exact ⟨rfl, hu1, H.out.setM hu1 hm1⟩
 ·have hb : (z == -1) = false := by simpa using he
  rw [if_neg he]
  clear h he
  go_enter Tryz.func266, Tryz.ntmps266
  go_wp2_with (refine wpList_mput rfl _ _ _ rfl B.mb f rfl ht q z rfl rfl (by omega) (by omega) ?_; intro w1 hm1 hu1)
  go_end0
  exact ⟨rfl, hu1, H.out.setM hu1 hm1⟩
theorem sloose_any (h : SkM w B F A st S f) {fr : Fr} {P : List Fr} {t : BT} (hT : IsT S (-1) (plug (fr :: P) t).root (plug (fr :: P) t)) (hn : (plug (fr :: P) t).nodes.Nodup) (hlt : ∀ y, y ∈ (plug (fr :: P) t).nodes → y < A.cs.length) :
  Calls Tryz.prog 269 #[.pointer (some ⟨B.n0, 0, none⟩), .int .i64 (tv t.root), .bool (tb t.root)] w fun e w' => e = .returned (.int .i64 t.root) ∧ Upd [B.ba] w w' ∧
   ∃ S', SkM w' B F A st S' f ∧ IsT S' (-1) t.root t ∧ IsT S' (-1) (plug (fr :: P) .nil).root (plug (fr :: P) .nil) ∧ ∀ y, y ∉ (plug (fr :: P) t).nodes → S.at S' y := by
 have h1 := h.h1
 by_cases ht : t = .nil
 ·subst ht
  rw [show tv (BT.root .nil) = 0 from rfl, show tb (BT.root .nil) = false from rfl, show BT.root .nil = -1 from rfl]
  have H := Lib.hid (And.intro h hT)
  clear h hT hn hlt
  go_enter Tryz.func269, Tryz.ntmps269
  go_wp2
  go_ret
  exact ⟨rfl, Upd.refl _ _, S, H.out.1, rfl, H.out.2, fun y _ => ⟨rfl, rfl, rfl⟩⟩
 ·obtain ⟨r, hr⟩ : ∃ r : Nat, t.root = r := ⟨_, BT.root_cast ht⟩
  have kc := tcut_any h.trees hT hn hlt
  rw [show tv t.root = (r : Int) by rw [hr]; unfold tv; rw [if_neg (by omega)], show tb t.root = true by rw [hr]; unfold tb; simp]
  have H := Lib.hid h
  have HR := Lib.hid hr
  rw [hr] at kc
  generalize tb (r : Int) = bb at kc
  generalize cutV fr t = cv at kc
  clear h hT hn hlt hr
  go_enter Tryz.func269, Tryz.ntmps269
  go_wp2_with (first
   | ((go_at_call 244; (with_reducible refine (kc).mono ?_)); rintro e w1 ⟨rfl, hu1, S1, hT1, ha1, hp1, hs1⟩)
   | fail)
  go_ret
  rw [HR.out]
  exact ⟨rfl, hu1, S1, H.out.setT hu1 hT1, ha1, hp1, hs1⟩
end
end Go.Proofs.YtklibcncmbofpaaGreat
namespace Go.Proofs.YtklibcncmbofpaaGreat
open Go Go.RowKit
theorem Upw.turn {up : Nat → BT → BT → BT} {S0 S2 S3 : TS} {X : List Nat} {t m l : BT} {x : Nat} {W : List (Nat × BT)} (U : Upw up S0 X t S2 (W ++ [(x, l)]) m) (K : UpOk up) (hX : X.Nodup)
  (hT : IsT S3 (-1) x (up x l m)) (hfar : ∀ y, y ≠ x → y ∉ l.nodes → y ∉ m.nodes → S2.at S3 y) : Upw up S0 X t S3 W (up x l m) := by
 have hp := U.perm
 rw [wayN_snoc, List.append_assoc] at hp
 have hnd := hp.nodup_iff.2 hX
 rw [List.nodup_append] at hnd
 obtain ⟨n1, n2, n3⟩ := hnd
 refine ⟨by rw [K.root]; exact hT, fun p hpW => ?_, fun y hy => ?_, ?_, by rw [U.res, zipUp_snoc]⟩
 ·have hw := way_mem hpW
  refine (U.way p (List.mem_append_left _ hpW)).frame (fun y hy => ?_)
  have hyw : y ∈ wayN W := by
   simp only [BT.nodes, List.append_nil, List.mem_cons] at hy
   rcases hy with rfl | hy
   ·exact hw.1
   ·exact hw.2 y hy
  exact hfar y (fun e => n3 y hyw x (by simp) e) (fun hm => n3 y hyw y (by simp [hm]) rfl) (fun hm => n3 y hyw y (by simp [hm]) rfl)
 ·have h1 := U.far y hy
  have h2 := hfar y (fun e => hy (hp.mem_iff.1 (by rw [e]; simp))) (fun hm => hy (hp.mem_iff.1 (by simp [hm]))) (fun hm => hy (hp.mem_iff.1 (by simp [hm])))
  exact ⟨h2.1.trans h1.1, h2.2.1.trans h1.2.1, h2.2.2.trans h1.2.2⟩
 ·refine List.Perm.trans (List.Perm.append_left _ (K.nodes x l m)) ?_
  simpa using hp
theorem Upw.len {up : Nat → BT → BT → BT} {S0 S : TS} {X : List Nat} {t m : BT} {W : List (Nat × BT)} (U : Upw up S0 X t S W m) : W.length ≤ X.length := by
 have := U.perm.length_eq
 rw [List.length_append] at this
 have h2 : W.length ≤ (wayN W).length := by
  clear this U
  induction W with
  | nil => simp
  | cons p t ih => unfold wayN at *; simp only [List.flatMap_cons, List.length_append, List.length_cons]; omega
 omega
theorem Down.len {up : Nat → BT → BT → BT} {A : NS} {S0 S : TS} {ta tb a b : BT} {W : List (Nat × BT)} (U : Down up A S0 ta tb S W a b) : W.length + a.nodes.length + b.nodes.length ≤ (ta.nodes ++ tb.nodes).length := by
 have := U.perm.length_eq
 rw [List.length_append, List.length_append] at this
 have h2 : W.length ≤ (wayN W).length := by
  clear this U
  induction W with
  | nil => simp
  | cons p t ih => unfold wayN at *; simp only [List.flatMap_cons, List.length_append, List.length_cons]; omega
 omega
section
variable {w : World} {B : LB} {F : List Nat} {gt ct : Nat} {A : NS} {st : Nat} {S : TS} {rk : Nat → Nat} {tops : List Int}
def wayV (W : List (Nat × BT)) : List Value := intsZ (W.map fun p => (p.1 : Int))
theorem wayV_snoc (W : List (Nat × BT)) (x : Nat) (l : BT) : wayV (W ++ [(x, l)]) = wayV W ++ [.int .i64 (x : Int)] := by unfold wayV intsZ; simp
end
end Go.Proofs.YtklibcncmbofpaaGreat
namespace Go.Proofs.YtklibcncmbofpaaGreat
open Go Go.RowKit
def upS (x : Nat) (l m : BT) : BT := .node x m l
theorem upS_ok : UpOk upS where
 nodes := fun x l r => by
  unfold upS; simp only [BT.nodes]
  exact List.perm_append_comm.cons x
 heap := fun A x l r h1 h2 hl hr => ⟨h2, h1, hr, hl⟩
 root := fun x l r => rfl
theorem turn_tree {S : TS} {p : Int} {x : Nat} {l r : BT} (h : IsT S p x (.node x l r)) (hn : (BT.node x l r).nodes.Nodup) : IsT (turnS S x) p x (.node x r l) ∧ ∀ y, y ≠ x → S.at (turnS S x) y := by
 have hs : ∀ y, y ≠ x → S.at (turnS S x) y := fun y hy => by
  unfold turnS TS.setKid TS.at
  simp [hy]
 have hl : (turnS S x).l x = S.r x := by unfold turnS TS.setKid; simp
 have hr : (turnS S x).r x = S.l x := by unfold turnS TS.setKid; simp
 have hu : (turnS S x).u x = S.u x := by unfold turnS TS.setKid; simp
 simp only [BT.nodes, List.nodup_cons, List.mem_append, not_or] at hn
 refine ⟨isT_node (hu.trans h.2.1) ?_ ?_, hs⟩
 ·rw [hl]; exact h.2.2.2.frame (fun y hy => hs y (fun e => hn.1.2 (by rw [← e]; exact hy)))
 ·rw [hr]; exact h.2.2.1.frame (fun y hy => hs y (fun e => hn.1.1 (by rw [← e]; exact hy)))
section
variable {w : World} {B : SB} {F : List Nat} {A : NS} {st : Nat} {S : TS} {f : Int → Option Int}
theorem scutR_any (h : SkM w B F A st S f) {p : Int} {x : Nat} {l r : BT} (hT : IsT S p x (.node x l r)) (hx : x < A.cs.length) (hr : ∀ y, y ∈ r.nodes → y < A.cs.length) :
  Calls Tryz.prog 269 #[.pointer (some ⟨B.n0, 0, none⟩), .int .i64 (tv r.root), .bool (tb r.root)] w fun e w' => e = .returned (.int .i64 r.root) ∧ Upd [B.ba] w w' ∧ SkM w' B F A st (cutR S x r) f := by
 have h1 := h.h1
 cases r with
 | nil =>
  rw [show tv (BT.root .nil) = 0 from rfl, show tb (BT.root .nil) = false from rfl, show BT.root .nil = -1 from rfl]
  have H := Lib.hid h
  clear h hT hr
  go_enter Tryz.func269, Tryz.ntmps269
  go_wp2
  go_ret
  exact ⟨rfl, Upd.refl _ _, H.out⟩
 | node y a b =>
  obtain ⟨_, _, _, hr'⟩ := hT
  have e2 : S.u y = x := hr'.2.1
  have kc := cut_yes B.bt B.ba A.cs.length S x y w h.trees hx (hr y (by simp [BT.nodes])) e2
  rw [show tv (BT.root (.node y a b)) = (y : Int) by show tv (y : Int) = y; unfold tv; rw [if_neg (by omega)], show tb (BT.root (.node y a b)) = true by show tb (y : Int) = true; unfold tb; simp, show BT.root (.node y a b) = (y : Int) from rfl]
  have H := Lib.hid h
  clear h hr hr' e2
  go_enter Tryz.func269, Tryz.ntmps269
  go_wp2_with (first
   | ((go_at_call 244; (with_reducible refine (kc).mono ?_)); rintro e w1 ⟨rfl, hT1, hu1⟩)
   | fail)
  go_ret
  exact ⟨rfl, hu1, H.out.setT hu1 hT1⟩
theorem sright_any (h : SkM w B F A st S f) {p : Int} {x : Nat} {l r : BT} (hT : IsT S p x (.node x l r)) (hx : x < A.cs.length) :
  Calls Tryz.prog 249 #[.pointer (some ⟨B.bt, 0, none⟩), .int .i64 (x : Int)] w fun e w' => e = .returned (.tuple #[.int .i64 (tv r.root), .bool (tb r.root)]) ∧ Upd [] w w' := by
 refine (tright_any h.trees hT hx).mono ?_
 rintro e w' ⟨rfl, k, rfl⟩
 exact ⟨rfl, (Upd.refl _ _).drewN k⟩
theorem root_ge (t : BT) : -1 ≤ t.root := by cases t with
 | nil => exact Int.le_refl _
 | node x l r => show (-1 : Int) ≤ (x : Int); omega
set_option maxHeartbeats 8000000 in
theorem smerge_any (h : SkM w B F A st S f) {ta tb : BT} (ha : IsT S (-1) ta.root ta) (hb : IsT S (-1) tb.root tb) (hX : (ta.nodes ++ tb.nodes).Nodup) (hin : ∀ y, y ∈ ta.nodes ++ tb.nodes → inN A (y : Int) = true) :
  Calls Tryz.prog 267 #[.pointer (some ⟨B.n0, 0, none⟩), .int .i64 ta.root, .int .i64 tb.root] w fun e w' => e = .returned (.int .i64 (mergeT upS A ta tb).1.root) ∧ Upd [B.c, B.ba] w w' ∧
   ∃ S', SkM w' B F A (satS st (mergeT upS A ta tb).2) S' f ∧ IsT S' (-1) (mergeT upS A ta tb).1.root (mergeT upS A ta tb).1 ∧ ∀ y, y ∉ ta.nodes ++ tb.nodes → S.at S' y := by
 have hblk := h.lt
 have hcF := h.cF
 have hbl0 := hblk B.n0 (by simp [SB.blk])
 have hbl1 := hblk B.bt (by simp [SB.blk])
 have hbl2 := hblk B.ba (by simp [SB.blk])
 have hbl4 := hblk B.c (by simp [SB.blk, hcF])
 have hs := Lib.hid h.sep
 have hA := h.cells.ok.c1
 have hlt : Hid (∀ y, y ∈ ta.nodes ++ tb.nodes → y < A.cs.length) := fun y hy => ((inN_nat A y).1 (hin y hy)).1
 have hXl : (ta.nodes ++ tb.nodes).length ≤ A.cs.length := nodup_natlen hX hlt.out
 have HM0 := Lib.hid h
 have HBL := Lib.hid hblk
 have D0 := Lib.hid (Down.start upS A ha hb)
 have HIN := Lib.hid hin
 have HX := Lib.hid hX
 have hst := h.cells.st62
 clear h ha hb hblk hcF hin hX
 go_enter Tryz.func267, Tryz.ntmps267
 go_wp2
 go_loopw [1, 2, 7] (fun a b way wr => ∃ (S1 : TS) (W : List (Nat × BT)) (a1 b1 : BT), a = .int .i64 a1.root ∧ b = .int .i64 b1.root ∧ wr.ownsRow w.heap.size 3 1 way W.length (wayV W) ∧ SkM wr B F A (satS st W.length) S1 f ∧ Down upS A S ta tb S1 W a1 b1 ∧ Upd [B.c, B.ba] w wr) (fun _ _ way _ => (ta.nodes ++ tb.nodes).length - lenOf way)
 case atStart =>
  exact ⟨S, [], ta, tb, rfl, rfl, ⟨by simp [wayV, intsZ], Or.inl ⟨rfl, rfl⟩⟩, by rw [List.length_nil, satS_zero hst]; exact HM0.out.upd0 (by (repeat (first | assumption | exact Upd.refl _ _ | refine Upd.alloc ?_ _ | refine Upd.drew ?_ | refine Upd.drewN ?_ _ | refine Upd.setCell ?_ ?_ _ | focus (left; simp; done) | focus (right; simp; done) | focus (right; simp; omega)))), D0.out, by (repeat (first | assumption | exact Upd.refl _ _ | refine Upd.alloc ?_ _ | refine Upd.drew ?_ | refine Upd.drewN ?_ _ | refine Upd.setCell ?_ ?_ _ | focus (left; simp; done) | focus (right; simp; done) | focus (right; simp; omega)))⟩
 case round =>
  obtain ⟨S1, W, a1, b1, rfl, rfl, ho, hM, hD, hu⟩ := hrel
  have HM := Lib.hid hM
  have HD := Lib.hid hD
  have HO := Lib.hid ho
  have hlen := hD.len
  have h0 := hM.h0
  have h1 := hM.h1
  clear hM hD
  obtain ⟨a5, c5, rfl, hc5⟩ := own_slice ho
  have hob : ∀ g, (Value.slice a5 W.length c5).ownBlock = some g → w.heap.size ≤ g := fun g hg => (ho.lt g hg).1
  have HOB := Lib.hid hob
  clear ho hob
  by_cases hne : a1 = .nil ∨ b1 = .nil
  ·obtain ⟨m0, e0, U0, hcnt, hor⟩ := HD.out.turn hne
   have hz : (a1.root = -1 ∧ b1.root = m0.root) ∨ (a1.root ≠ -1 ∧ b1.root = -1 ∧ a1.root = m0.root) := by
    by_cases e : a1.root = -1
    ·rw [if_pos e] at e0; exact Or.inl ⟨e, e0.symm⟩
    ·rw [if_neg e] at e0
     refine Or.inr ⟨e, ?_, e0.symm⟩
     rcases hne with rfl | rfl
     ·exact absurd rfl e
     ·rfl
   have HU := Lib.hid (And.intro U0 hcnt)
   have hWl := U0.len
   have HUP := Lib.hid hu
   rw [← hcnt] at HM
   have hzge := root_ge m0
   clear hne hor U0 HD hcnt hu hlen h0 e0
   generalize a1.root = za at *
   generalize b1.root = zb at *
   have e9 : ∃ z9, m0.root = z9 := ⟨_, rfl⟩
   obtain ⟨z9, e9⟩ := e9
   rw [e9] at hz hzge
   generalize hn0 : W.length = n0 at *
   have HN0 := Lib.hid hn0
   clear hn0
   have hz' : (za = -1 ∧ zb = -1 ∧ z9 = -1) ∨ (za = -1 ∧ zb = z9 ∧ z9 > -1) ∨ (za = z9 ∧ zb = -1 ∧ z9 > -1) := by omega
   clear hz hzge
   rcases hz' with ⟨rfl, rfl, rfl⟩ | ⟨rfl, rfl, hzg⟩ | ⟨rfl, rfl, hzg⟩
   all_goals
    try (have hz2 : (za != -1) = true := by simp; omega)
    try (have hz3 : ¬ ((-1 : Int) > za) := by omega)
    go_wp2
    go_loopw [8, 9] (fun top i w5 => ∃ (S2 : TS) (W2 U2 : List (Nat × BT)) (m : BT), W = W2 ++ U2 ∧ top = .int .i64 m.root ∧ i = .int .i64 ((W2.length : Int) - 1) ∧ SkM w5 B F A (satS st (mergeT upS A ta tb).2) S2 f ∧ Upw upS S (ta.nodes ++ tb.nodes) (mergeT upS A ta tb).1 S2 W2 m ∧ Upd [B.ba] wr w5) (fun _ i _ => ((intOf i) + 1).toNat)
    case atStart => exact ⟨S1, W, [], m0, by simp, by rw [e9], by rw [HN0.out], HM.out, HU.out.1, Upd.refl _ _⟩
    case round =>
     obtain ⟨S2, W2, U2, m, rfl, rfl, rfl, hM, hU, hu⟩ := hrel
     rename World => w5
     rcases List.eq_nil_or_concat W2 with rfl | ⟨W3, ⟨x, l⟩, rfl⟩
     ·have e0 := hU.res
      simp only [zipUp] at e0
      simp only [List.length_nil]
      go_wp2
      go_ret
      rw [e0]
      exact ⟨rfl, HUP.out.trans (hu.mono (by simp)), S2, hM, hU.isM, fun y hy => hU.far y hy⟩
     ·have hpx := hU.perm
      simp only [List.concat_eq_append] at *
      rw [wayN_snoc, List.append_assoc] at hpx
      have hin3 : ∀ q, q ∈ (x :: l.nodes) ++ m.nodes → q < A.cs.length := fun q hq => hlt.out q (hpx.mem_iff.1 (List.mem_append_right _ hq))
      have hnd : ((x :: l.nodes) ++ m.nodes).Nodup := (List.nodup_append.1 (hpx.nodup_iff.2 HX.out)).2.1
      have hxA := hin3 x (by simp)
      obtain ⟨g, cap, ee, hI, hg⟩ := IZ.of_own (l := (W3 ++ [(x, l)] ++ U2).map fun p => (p.1 : Int)) (by rw [List.length_map, HN0.out]; exact owns_upd HO.out hu (fun k hk => by have := HOB.out k hk; simp; omega)) (by simp; omega)
      rw [List.length_map, HN0.out] at ee
      injection ee with ee1 ee2 ee3
      subst ee1 ee3
      have dz := hI.cell W3.length (by simp)
      rw [show (((W3 ++ [(x, l)] ++ U2).map fun p => (p.1 : Int)).getD W3.length 0) = (x : Int) by simp [List.getD_eq_getElem?_getD]] at dz
      have h1 := hM.h1
      have HM5 := Lib.hid hM
      have HU5 := Lib.hid hU
      have HN5 := Lib.hid (And.intro hin3 hnd)
      have hTx := hU.way (x, l) (by simp)
      have HTX := Lib.hid hTx
      have hil : ((W3 ++ [(x, l)]).length : Int) - 1 = W3.length := by simp
      rw [hil]
      have hi0 : ((W3.length : Int) ≥ 0) := by omega
      have hWn : W3.length + 1 + U2.length = n0 := by have := HN0.out; simp at this; omega
      have hib2 : (W3.length : Int) < (n0 : Int) := by omega
      have hW3 : W3.length ≤ 65536 := by omega
      clear hM hU hin3 hnd hTx hpx hil hI ee2
      by_cases hm : m = .nil
      ·subst hm
       simp only [BT.root]
       have hT2 : IsT S2 (-1) x (.node x l .nil) := HTX.out
       obtain ⟨hT3, hS3⟩ := turn_tree hT2 (by simpa [BT.nodes] using HN5.out.2)
       have kt := turn_yes B.bt B.ba A.cs.length S2 x w5 HM5.out.trees hxA
       have HT3 := Lib.hid (And.intro hT3 hS3)
       clear hT2 hT3 hS3
       go_wp2_with (first
        | ((go_at_call 259; (with_reducible refine (kt).mono ?_)); rintro e w6 ⟨rfl, hT6, hu6⟩)
        | fail)
       refine ⟨⟨turnS S2 x, W3, (x, l) :: U2, upS x l .nil, by simp, rfl, by go_num, HM5.out.setT hu6 hT6, HU5.out.turn upS_ok HX.out HT3.out.1 (fun y h1 _ _ => HT3.out.2 y h1), hu.trans hu6⟩, by simp [intOf]⟩
      ·obtain ⟨mr, hmr⟩ : ∃ mr : Nat, m.root = mr := ⟨_, BT.root_cast hm⟩
       have hmm := (root_mem hm).1
       rw [hmr, Int.toNat_natCast] at hmm
       have hT2 : IsT S2 (-1) x (.node x l .nil) := HTX.out
       have hTm := HU5.out.isM
       have hur : S2.u mr = -1 := by
        cases m with
        | nil => exact absurd rfl hm
        | node q a b =>
         have e : q = mr := by have e' : (q : Int) = mr := hmr; omega
         subst e
         exact hTm.2.1
       have hnd := HN5.out.2
       have hxm : x ≠ mr := fun e => by
        rw [List.nodup_append] at hnd
        exact hnd.2.2 x (by simp) mr hmm e
       obtain ⟨hT3, hS3⟩ := hang_tree (m := m) hT2 hTm hm (by simpa [BT.nodes] using hnd)
       rw [hmr] at hT3 hS3
       obtain ⟨hT4, hS4⟩ := turn_tree hT3 (by simpa [BT.nodes] using hnd)
       have HT3 := Lib.hid (And.intro hT3 (And.intro hm (And.intro hS3 (And.intro hT4 hS4))))
       have kh := hang_yes B.bt B.ba A.cs.length S2 x mr true w5 (HM5.out.trees) hxA (HN5.out.1 mr (List.mem_append_right _ hmm)) hxm hur hT2.2.2.2
       have HMR := Lib.hid hmr
       rw [hmr]
       have hz4 : ((mr : Int) != -1) = true := by simp
       clear hT2 hTm hur hnd hT3 hS3 hT4 hS4 hm hmr hmm
       go_wp2_with (first
        | ((go_at_call 251; (with_reducible refine (kh).mono ?_)); rintro e w6 ⟨rfl, hT6, hu6⟩; (have h16 := (HM5.out.setT hu6 hT6).h1); (have kt := turn_yes B.bt B.ba A.cs.length _ x w6 hT6 hxA))
        | ((go_at_call 259; (with_reducible refine (kt).mono ?_)); rintro e w7 ⟨rfl, hT7, hu7⟩)
        | fail)
       refine ⟨⟨_, W3, (x, l) :: U2, upS x l m, by simp, rfl, by go_num, (HM5.out.setT hu6 hT6).setT hu7 hT7, HU5.out.turn upS_ok HX.out HT3.out.2.2.2.1 (fun y h1 _ h3 => ?_), (hu.trans hu6).trans hu7⟩, by simp [intOf]⟩
       have a1 := HT3.out.2.2.1 y h1 h3
       have a2 := HT3.out.2.2.2.2 y h1
       exact ⟨a2.1.trans a1.1, a2.2.1.trans a1.2.1, a2.2.2.trans a1.2.2⟩
  ·obtain ⟨x, l, r, rfl⟩ : ∃ x l r, a1 = .node x l r := by
    cases a1 with
    | nil => exact absurd (Or.inl rfl) hne
    | node x l r => exact ⟨x, l, r, rfl⟩
   obtain ⟨y, l', r', rfl⟩ : ∃ x l r, b1 = .node x l r := by
    cases b1 with
    | nil => exact absurd (Or.inr rfl) hne
    | node x l r => exact ⟨x, l, r, rfl⟩
   clear hne
   have hmx : ∀ z, z ∈ (BT.node x l r).nodes ++ (BT.node y l' r').nodes → z ∈ ta.nodes ++ tb.nodes := fun z hz => HD.out.perm.mem_iff.1 (List.mem_append_right _ hz)
   have hxm := hmx x (by simp [BT.nodes])
   have hym := hmx y (by simp [BT.nodes])
   have hWl : W.length + 2 ≤ (ta.nodes ++ tb.nodes).length := by simp only [BT.nodes, List.length_cons, List.length_append] at hlen ⊢; omega
   have HMX := Lib.hid hmx
   have hxb : ((x : Int) != -1) = true := by simp
   have hyb : ((y : Int) != -1) = true := by simp
   clear hmx hlen
   have kA := cahead_yes HM.out.cells y x (HIN.out y hym) (HIN.out x hxm)
   obtain ⟨sw, hsw⟩ : ∃ sw, decide (lt3 A y x) = sw := ⟨_, rfl⟩
   rw [hsw] at kA
   have KEY : ∃ (z : Nat) (lz rz o : BT), z = (if sw then y else x) ∧ Down upS A S ta tb (cutR S1 z rz) (W ++ [(z, lz)]) rz o ∧ IsT S1 (-1) z (.node z lz rz) ∧ z < A.cs.length ∧ (∀ q, q ∈ rz.nodes → q < A.cs.length) ∧ o.root = (if sw then (x : Int) else (y : Int)) := by
    cases sw with
    | true =>
     exact ⟨y, l', r', .node x l r, rfl, HD.out.takeB HX.out (of_decide_eq_true hsw), HD.out.isB, hlt.out y hym, fun q hq => hlt.out q (HMX.out q (by simp [BT.nodes, hq])), rfl⟩
    | false =>
     exact ⟨x, l, r, .node y l' r', rfl, HD.out.takeA HX.out (of_decide_eq_false hsw), HD.out.isA, hlt.out x hxm, fun q hq => hlt.out q (HMX.out q (by simp [BT.nodes, hq])), rfl⟩
   obtain ⟨z, lz, rz, o, ez, hD2, hTz, hz, hrz, eo⟩ := KEY
   have HD2 := Lib.hid hD2
   have HT := Lib.hid hTz
   have HQ := Lib.hid hrz
   clear hD2 hTz hrz hsw
   simp only [BT.root]
   cases sw
   all_goals
    simp only [if_true, if_false, Bool.false_eq_true] at ez eo
    subst ez
    go_wp2_with fail
    refine kA.mono ?_
    rintro e w1 ⟨rfl, hC1, hu1⟩
    have hM1 := Lib.hid (HM.out.setC (hu1.mono (by simp [HM.out.cF])) hC1 (fun x hx => Or.inl hx) rfl)
    have hss : satS (satS st W.length) 1 = satS st (W.length + 1) := satS_add _ _ _
    rw [hss] at hM1
    have ho1 := owns_upd HO.out hu1 (fun k hk => by have := HOB.out k hk; simp; omega)
    have h01 := hM1.out.h0
    have h11 := hM1.out.h1
    clear h0 h1 kA hss
    have HUW := Lib.hid (And.intro hu hu1)
    clear hu hu1 hC1
    have HGB : Hid (∀ g, g ∈ (Value.slice a5 W.length c5).ownBlock.toList → g ∉ B.blk F) := fun g hg hb => by
     have h1 := HOB.out g (Option.mem_toList.1 hg)
     have h2 := HBL.out g hb
     omega
    have hsz1 : w.heap.size ≤ w1.heap.size := (HUW.out.1.trans (HUW.out.2.mono (by simp))).size
    go_wp2_with (first
     | ((at_builtin; refine wpList_append_sep rfl _ _ 26 rfl w.heap.size 3 (.int .i64 0) 1 8 Tryz.underlying26 intInfo rfl (by decide) _ _ _ rfl (ho1) [.int .i64 (z : Int)] rfl (by simp [Value.oneCell']) (by first | rfl | (rw [World.size_alloc]; rfl)) (by unfold maxLen; omega) (by omega) ((by omega)) ?_; intro v2 w2 ho2 hu2 hsep2); (have hM2 := Lib.hid (hM1.out.upd hu2 HGB.out)); (have k12 := hM2.out.h1); (have kr := sright_any hM2.out HT.out hz))
     | (go_at_call 249; (with_reducible refine (kr).mono ?_); rintro e w3 ⟨rfl, hu3⟩; (have hM3 := Lib.hid (hM2.out.upd0 hu3)); (have kc := scutR_any hM3.out HT.out hz HQ.out))
     | (go_at_call 269; (with_reducible refine (kc).mono ?_); rintro e w4 ⟨rfl, hu4, hM4⟩)
     | fail)
    obtain ⟨a6, c6, rfl, hc6⟩ := own_slice ho2
    have hob2 : ∀ k, (Value.slice a6 (W.length + 1) c6).ownBlock = some k → w.heap.size ≤ k := fun k hk => (ho2.lt k hk).1
    refine ⟨⟨_, W ++ [(z, lz)], rz, o, rfl, congrArg (Value.int .i64) eo.symm, ?_, ?_, HD2.out, ?_⟩, ?_⟩
    ·rw [wayV_snoc, List.length_append, List.length_singleton]
     exact owns_upd (owns_upd ho2 hu3 (by simp)) hu4 (fun k hk => by have := hob2 k hk; simp; omega)
    ·rw [List.length_append, List.length_singleton]; exact hM4
    ·have v1 : Upd [B.c, B.ba] w w1 := HUW.out.1.trans (HUW.out.2.mono (by simp))
     have v2 : Upd [B.c, B.ba] w w2 := v1.joined hu2 (fun g hg => Or.inr (HOB.out g (Option.mem_toList.1 hg)))
     exact (v2.trans (hu3.mono (by simp))).trans (hu4.mono (by simp))
    ·show (ta.nodes ++ tb.nodes).length - (W.length + 1) < (ta.nodes ++ tb.nodes).length - W.length
     omega
end
end Go.Proofs.YtklibcncmbofpaaGreat
namespace Go.Proofs.YtklibcncmbofpaaGreat
open Go Go.RowKit
theorem TrG.first {A : NS} {S : TS} {tops : List Int} {tr : Nat → BT} (h : TrI A S tops tr) {g : Nat} (hg : 0 < lenN A g) : ∃ m : Nat, (tr g).root = m ∧ minN A g = some m := by
 obtain ⟨x, hx, hi, h0⟩ := lenN_pos.1 hg
 have hxm : x ∈ (tr g).nodes := (h.mem g x).2 ⟨by omega, hx, hi⟩
 cases ht : tr g with
 | nil => rw [ht] at hxm; cases hxm
 | node m l r =>
  have hm := (h.mem g m).1 (by rw [ht]; simp [BT.nodes])
  have hH := h.heap g
  rw [ht] at hH
  refine ⟨m, rfl, (minN_some h0).2 ⟨hm.2.1, hm.2.2, fun y hy hyi => ?_⟩⟩
  have hym := (h.mem g y).2 ⟨by omega, hy, hyi⟩
  rw [ht] at hym
  simp only [BT.nodes, List.mem_cons, List.mem_append] at hym
  rcases hym with e | e | e
  ·exact Or.inl e
  ·exact Or.inr (hH.1 y e)
  ·exact Or.inr (hH.2.1 y e)
end Go.Proofs.YtklibcncmbofpaaGreat
