/-
  Lemmas for PathWays: Sk4, Lf15. Conditions: those of each lemma.
-/
import Derived.Test.YtklibcncmbofpaaGreatProg
import Derived.WalkKit
import Derived.WalkSpells
import Derived.WalkLawsBesides
import Derived.BigQuiet
import Derived.Deep.RegionHeld3
import Derived.ProofKit
import Derived.OpenShut
import Derived.Lib.Hide
import Derived.Maps.AppendAt
import Derived.StillTailTactics
import Derived.Maps.OwnSet
import Derived.Maps.OwnOps
import Derived.Maps.RangeWalk
import Derived.IntWalk
import Derived.Deep.RegionLaw
import Derived.Test.YtklibcncmbofpaaGreatP01
import Derived.Test.YtklibcncmbofpaaGreatP03
import Derived.Test.YtklibcncmbofpaaGreatP04
import Derived.Test.YtklibcncmbofpaaGreatP05
import Derived.Test.YtklibcncmbofpaaGreatP06
import Derived.Test.YtklibcncmbofpaaGreatP07
import Derived.Test.YtklibcncmbofpaaGreatP13
import Derived.Test.YtklibcncmbofpaaGreatP14
import Derived.Test.YtklibcncmbofpaaGreatP15
import Derived.Test.YtklibcncmbofpaaGreatP16
import Derived.Test.YtklibcncmbofpaaGreatP17
set_option linter.unusedVariables false
set_option linter.unusedSimpArgs false
namespace Go.Proofs.YtklibcncmbofpaaGreat
open Go Go.RowKit
noncomputable def sdelT (A : NS) (t : BT) (x : Nat) : BT × Nat := (plug (pathOf t x).1 (mergeT upS A (pathOf t x).2.1 (pathOf t x).2.2).1, (mergeT upS A (pathOf t x).2.1 (pathOf t x).2.2).2)
section
variable {w : World} {B : SB} {F : List Nat} {A : NS} {st : Nat} {tr : Nat → BT} {S : TS} {f : Int → Option Int}
theorem tside2_any {bt ba n : Nat} (h : TreesAt w bt ba n S) {fr : Fr} {P : List Fr} {x : Nat} {l r : BT} (hT : IsT S (-1) (plug (fr :: P) (.node x l r)).root (plug (fr :: P) (.node x l r))) (hn : (plug (fr :: P) (.node x l r)).nodes.Nodup) (hf : fr.1 < n) :
  ∃ (r' : Int) (b : Bool), ((b = true ∧ (r' == (x : Int)) = fr.2.1) ∨ (b = false ∧ fr.2.1 = false)) ∧ Calls Tryz.prog 249 #[.pointer (some ⟨bt, 0, none⟩), .int .i64 (fr.1 : Int)] w fun e w' => e = .returned (.tuple #[.int .i64 r', .bool b]) ∧ ∃ k, w' = w.drewN k := by
 obtain ⟨z, hz, k⟩ := tside_any h hT hn hf
 by_cases e : z = -1
 ·refine ⟨tv z, tb z, Or.inr ⟨by rw [e]; rfl, ?_⟩, k⟩
  rw [← hz, e]; first | (simp; done) | (simp; omega)
 ·exact ⟨tv z, tb z, Or.inl ⟨by unfold tb; simp [e], by unfold tv; rw [if_neg e]; exact hz⟩, k⟩
def SdelEnd (w' : World) (B : SB) (F : List Nat) (A : NS) (st : Nat) (S : TS) (f : Int → Option Int) (g x : Nat) (P : List Fr) (X : List Nat) (T : BT) : Prop :=
 ∃ S', SkM w' B F (dropN A x) st S' (fun y => if P = [] ∧ y = (g : Int) then (if T.root = -1 then none else some T.root) else f y) ∧ IsT S' (-1) T.root T ∧ (∀ y, y ∉ X → S.at S' y) ∧ (S'.l x = -1 ∧ S'.r x = -1 ∧ S'.u x = -1)
set_option maxHeartbeats 8000000 in
theorem sdelete_core (hM : SkM w B F A st S f) {g x : Nat} {P : List Fr} {l r : BT} (hin : inN A (x : Int) = true) (hg : (A.c x).i = g) (hgq : 1 ≤ g ∧ g ≤ 65536)
  (hT : IsT S (-1) (plug P (.node x l r)).root (plug P (.node x l r))) (hn : (plug P (.node x l r)).nodes.Nodup) (hall : ∀ y, y ∈ (plug P (.node x l r)).nodes → inN A (y : Int) = true) :
  Calls Tryz.prog 261 #[.pointer (some ⟨B.n0, 0, none⟩), .int .i64 (x : Int)] w fun e w' => e = .returned (.bool true) ∧ Upd (B.blk F) w w' ∧
   SdelEnd w' B F A (satS st (mergeT upS A l r).2) S f g x P (plug P (.node x l r)).nodes (plug P (mergeT upS A l r).1) := by
 have hxl := ((inN_nat A x).1 hin).1
 have hlt : ∀ y, y ∈ (plug P (.node x l r)).nodes → y < A.cs.length := fun y hy => ((inN_nat A y).1 (hall y hy)).1
 have kh := chome_yes hM.cells x hin
 rw [hg] at kh
 have h0 := hM.h0
 have HM := Lib.hid hM
 have hpp := plug_parts hn
 have mp := (merge_ok upS_ok A _ l r (Nat.le_refl _)).1
 have hblk := Lib.hid hM.lt
 have hcF := hM.cF
 have hsep := Lib.hid (And.intro hM.sep hM.sepF)
 have HT := Lib.hid (And.intro hT (And.intro hn (And.intro hall hlt)))
 have HP := Lib.hid hpp
 have hA := hM.cells.ok.c1
 obtain ⟨m, k, hmk⟩ : ∃ m k, mergeT upS A l r = (m, k) := ⟨_, _, rfl⟩
 rw [hmk] at mp
 rw [hmk]
 have hmlt : ∀ y, y ∈ m.nodes → y < A.cs.length := fun y hy => hlt y (plug_ctx_mem.2 (Or.inl (by
  have := mp.mem_iff.1 hy
  simp only [BT.nodes]; exact List.mem_cons_of_mem _ this)))
 have hmr : -1 ≤ m.root ∧ m.root ≤ 9223372036854775807 := by
  refine ⟨root_ge m, ?_⟩
  by_cases e : m = .nil
  ·rw [e]; show (-1 : Int) ≤ _; omega
  ·have h1 := root_mem e
   have h2 := hmlt _ h1.1
   omega
 have HMP := Lib.hid mp
 have HMK := Lib.hid hmk
 have HIN := Lib.hid hin
 have HML := Lib.hid hmlt
 clear hM hT hn hall hlt hpp mp hmk hin hg hmlt
 go_enter Tryz.func261, Tryz.ntmps261
 go_wp2_with (first | ((go_at_call 140; (with_reducible refine (kh).mono ?_)); rintro e w1 ⟨rfl, hC1, hu1⟩; (have g1 := (HM.out.setC hu1 hC1 (fun y hy => Or.inl hy) rfl).h1)) | fail)
 have hM1 := HM.out.setC hu1 hC1 (fun y hy => Or.inl hy) rfl
 have kl := fun W (hW : Upd [] w1 W) => tleft_any (hM1.upd0 hW).trees ((isT_plug _ _).1 HT.out.1).1 hxl
 have klo := fun W (hW : Upd [] w1 W) => sloose_any (hM1.upd0 hW) (fr := (x, false, r)) (P := P) (t := l) HT.out.1 HT.out.2.1 HT.out.2.2.2
 have hn0 : B.n0 ∉ [B.c, B.ba] := by
  have a1 := hsep.out
  have a2 : B.n0 ≠ B.c := fun e => a1.2.1 (by rw [e]; exact hcF)
  simp; omega
 have r1 : ∀ W, Upd [B.c, B.ba] w1 W → W.cell? ⟨B.n0, 1, none⟩ = some (.pointer (some ⟨B.bt, 0, none⟩)) := fun W hW => hW.kept g1 hn0
 have hn3 : (plug ((x, true, .nil) :: P) r).nodes.Nodup := by
  have e := (plug_nodes P (.node x .nil r))
  refine e.nodup_iff.2 ?_
  obtain ⟨⟨a1, a2, a3⟩, a4, a5, a6, a7⟩ := HP.out
  simp only [BT.nodes, List.nil_append, List.nodup_append] at a4 ⊢
  refine ⟨List.nodup_cons.2 ⟨a2, a4.2.1⟩, a7, fun y hy z hz e => ?_⟩
  subst e
  rcases List.mem_cons.1 hy with e | hy
  ·exact a3 (by rw [← e]; exact hz)
  ·exact a6 y hy hz
 have hsub3 : ∀ y, y ∈ (plug ((x, true, .nil) :: P) r).nodes → y ∈ (plug P (.node x l r)).nodes := fun y hy => by
  have h' : y ∈ (plug P (.node x .nil r)).nodes := hy
  rw [plug_ctx_mem] at h' ⊢
  simp only [BT.nodes, List.nil_append, List.mem_cons, List.mem_append] at h' ⊢
  rcases h' with (h' | h') | h'
  ·exact Or.inl (Or.inl h')
  ·exact Or.inl (Or.inr (Or.inr h'))
  ·exact Or.inr h'
 have hl3' : ∀ y, y ∈ l.nodes → y ∉ (plug ((x, true, .nil) :: P) r).nodes := fun y hy hm => by
  obtain ⟨⟨a1, a2, a3⟩, a4, a5, a6, a7⟩ := HP.out
  rw [List.nodup_append] at a4
  have h' : y ∈ (plug P (.node x .nil r)).nodes := hm
  rw [plug_ctx_mem] at h'
  simp only [BT.nodes, List.nil_append, List.mem_cons] at h'
  rcases h' with (h' | h') | h'
  ·exact a1 (by rw [← h']; exact hy)
  ·exact a4.2.2 y hy y h' rfl
  ·exact a5 y hy h'
 have H3 := Lib.hid (And.intro hn3 (And.intro hsub3 hl3'))
 clear hM1 hC1 kh h0 hn3 hsub3 hl3'
 go_region_held3 (Upd [B.c, B.ba] w1) (repeat (first | assumption | exact Upd.refl _ _ | refine Upd.drew ?_ | refine Upd.alloc ?_ _ | refine Upd.setCell ?_ ?_ _ | focus (left; simp; done) | focus (right; simp; done) | focus (right; simp; omega) | (apply Upd.trans; rotate_left; assumption)))
  (first
   | ((go_at_call 248; (with_reducible refine (kl _ (by (repeat (first | assumption | exact Upd.refl _ _ | refine Upd.drew ?_ | refine Upd.alloc ?_ _ | (apply Upd.trans; rotate_left; assumption))))).mono ?_)); rintro e w2 ⟨rfl, k2, hw2⟩; (have hq2 : Upd [] w1 w2 := (by rw [hw2]; refine Upd.drewN ?_ _; (repeat (first | assumption | exact Upd.refl _ _ | refine Upd.drew ?_ | refine Upd.alloc ?_ _ | (apply Upd.trans; rotate_left; assumption))))); clear hw2; (have hv2 : Upd [B.c, B.ba] w1 w2 := hq2.mono (by simp)))
   | ((go_at_call 269; (with_reducible refine (klo _ (by (repeat (first | assumption | exact Upd.refl _ _ | refine Upd.drew ?_ | refine Upd.alloc ?_ _ | (apply Upd.trans; rotate_left; assumption))))).mono ?_)); rintro e w3 ⟨rfl, hu3, S3, hM3, hl3, hp3, hs3⟩; (have hv3 : Upd [B.c, B.ba] w1 w3 := Upd.trans (by (repeat (first | assumption | exact Upd.refl _ _ | refine Upd.drew ?_ | refine Upd.alloc ?_ _ | refine Upd.setCell ?_ ?_ _ | focus (left; simp; done) | focus (right; simp; done) | focus (right; simp; omega) | (apply Upd.trans; rotate_left; assumption)))) (hu3.mono (by simp))); (have hp3' : IsT S3 (-1) (plug ((x, true, .nil) :: P) r).root (plug ((x, true, .nil) :: P) r) := hp3); (have kr := fun W (hW : Upd [] w3 W) => tright_any (hM3.upd0 hW).trees ((isT_plug P (.node x .nil r)).1 hp3').1 hxl); (have klo2 := fun W (hW : Upd [] w3 W) => sloose_any (hM3.upd0 hW) (fr := (x, true, .nil)) (P := P) (t := r) hp3' H3.out.1 (fun y hy => HT.out.2.2.2 y (H3.out.2.1 y hy))))
   | ((go_at_call 249; (with_reducible refine (kr _ (by (repeat (first | assumption | exact Upd.refl _ _ | refine Upd.drew ?_ | refine Upd.alloc ?_ _ | (apply Upd.trans; rotate_left; assumption))))).mono ?_)); rintro e w4 ⟨rfl, k4, hw4⟩; (have hq4 : Upd [] w3 w4 := (by rw [hw4]; refine Upd.drewN ?_ _; (repeat (first | assumption | exact Upd.refl _ _ | refine Upd.drew ?_ | refine Upd.alloc ?_ _ | (apply Upd.trans; rotate_left; assumption))))); clear hw4; (have hv4 : Upd [B.c, B.ba] w1 w4 := hv3.trans (hq4.mono (by simp))))
   | ((go_at_call 269; (with_reducible refine (klo2 _ (by (repeat (first | assumption | exact Upd.refl _ _ | refine Upd.drew ?_ | refine Upd.alloc ?_ _ | (apply Upd.trans; rotate_left; assumption))))).mono ?_)); rintro e w5 ⟨rfl, hu5, S5, hM5, hr5, hp5, hs5⟩; (have hv5 : Upd [B.c, B.ba] w1 w5 := Upd.trans (by (repeat (first | assumption | exact Upd.refl _ _ | refine Upd.drew ?_ | refine Upd.alloc ?_ _ | refine Upd.setCell ?_ ?_ _ | focus (left; simp; done) | focus (right; simp; done) | focus (right; simp; omega) | (apply Upd.trans; rotate_left; assumption)))) (hu5.mono (by simp))); (have km := fun W (hW : Upd [] w5 W) => smerge_any (hM5.upd0 hW) (hl3.frame (fun y hy => hs5 y (H3.out.2.2 y hy))) hr5 HP.out.2.1 (fun y hy => HT.out.2.2.1 y (plug_ctx_mem.2 (Or.inl (by simp only [BT.nodes]; exact List.mem_cons_of_mem _ hy))))); rw [HMK.out] at km)
   | ((go_at_call 267; (with_reducible refine (km _ (by (repeat (first | assumption | exact Upd.refl _ _ | refine Upd.drew ?_ | refine Upd.alloc ?_ _ | (apply Upd.trans; rotate_left; assumption))))).mono ?_)); rintro e w6 ⟨rfl, hu6, S6, hM6, hT6, hs6⟩; (have hv6 : Upd [B.c, B.ba] w1 w6 := Upd.trans (by (repeat (first | assumption | exact Upd.refl _ _ | refine Upd.drew ?_ | refine Upd.alloc ?_ _ | refine Upd.setCell ?_ ?_ _ | focus (left; simp; done) | focus (right; simp; done) | focus (right; simp; omega) | (apply Upd.trans; rotate_left; assumption)))) hu6)))
 have hp6 : IsT S6 (-1) (plug P (.node x .nil .nil)).root (plug P (.node x .nil .nil)) := IsT.frame (show IsT S5 (-1) (plug P (.node x .nil .nil)).root (plug P (.node x .nil .nil)) from hp5) (fun y hy => hs6 y (fun hm => by
  obtain ⟨⟨a1, a2, a3⟩, a4, a5, a6, a7⟩ := HP.out
  rw [plug_ctx_mem] at hy
  simp only [BT.nodes, List.nil_append, List.mem_cons, List.not_mem_nil, or_false] at hy
  rw [List.mem_append] at hm
  rcases hy with e | hy
  ·subst e; rcases hm with hm | hm; exact a1 hm; exact a2 hm
  ·rcases hm with hm | hm; exact a5 y hm hy; exact a6 y hm hy))
 have f6 : ∀ y, y ∉ (plug P (.node x l r)).nodes → S.at S6 y := fun y hy => by
  have h1 : y ∉ l.nodes ++ r.nodes := fun hm => hy (plug_ctx_mem.2 (Or.inl (by simp only [BT.nodes]; exact List.mem_cons_of_mem _ hm)))
  exact at_trans (at_trans (hs3 y hy) (hs5 y (fun hm => hy (H3.out.2.1 y hm)))) (hs6 y h1)
 have u6 : Upd (B.blk F) w w6 := (hu1.mono (fun y hy => by simp only [SB.blk, List.mem_cons]; simp [hy])).trans (hv6.mono (fun y hy => by
   simp only [List.mem_cons, List.not_mem_nil, or_false] at hy
   simp only [SB.blk, List.mem_cons]
   rcases hy with rfl | rfl
   ·simp [hcF]
   ·simp))
 have ku := fun W (hW : Upd [] w6 W) => tup_any (hM6.upd0 hW).trees hp6 hxl
 have q61 := fun W (hW : Upd [] w6 W) => (hM6.upd0 hW).h1
 have HM6 := Lib.hid hM6
 have H6 := Lib.hid (And.intro hp6 (And.intro f6 hT6))
 have hmm : Hid (∀ y, y ∈ m.nodes → y ∉ ctxN P ∧ y ≠ x) := fun y hy => by
  obtain ⟨⟨a1, a2, a3⟩, a4, a5, a6, a7⟩ := HP.out
  have h1 := HMP.out.mem_iff.1 hy
  rw [List.mem_append] at h1
  rcases h1 with h1 | h1
  ·exact ⟨a5 y h1, fun e => a1 (by rw [← e]; exact h1)⟩
  ·exact ⟨a6 y h1, fun e => a2 (by rw [← e]; exact h1)⟩
 have hmx : Hid (∀ y, y ∈ m.nodes → y ∈ (plug P (.node x l r)).nodes) := fun y hy => plug_ctx_mem.2 (Or.inl (by
  have h1 := HMP.out.mem_iff.1 hy
  simp only [BT.nodes, List.mem_cons]; exact Or.inr h1))
 have hmn : Hid m.nodes.Nodup := HMP.out.nodup_iff.2 HP.out.2.1
 have H31 := q61 w6 (Upd.refl _ _)
 have H32 := (hM6.upd0 ((Upd.refl [] w6).drew)).h1
 clear hM6 hp6 f6 hT6 hs6 hs5 hs3 hp5 hp3 hp3' hl3 hr5 hM5 hM3 km klo klo2 kr kl r1 hu1 g1 hv6 hv5 hv4 hv3 hv2 hq2 hq4 hu3 hu5 hu6 H31 H32
 obtain ⟨wX, hwX, uX⟩ : ∃ wX, wX = w6 ∧ Upd [] w6 wX := ⟨w6, rfl, Upd.refl _ _⟩
 cases P with
 | nil =>
  rw [show upP ([] : List Fr) = -1 from rfl, show tv (-1) = 0 from rfl, show tb (-1) = false from rfl] at ku
  have g61 := q61 w6 (Upd.refl _ _)
  clear q61
  go_wp2_with (first
   | ((go_at_call 250; (with_reducible refine (ku _ (by (repeat (first | assumption | exact Upd.refl _ _ | refine Upd.drew ?_ | refine Upd.alloc ?_ _ | (apply Upd.trans; rotate_left; assumption))))).mono ?_)); rintro e w7 ⟨rfl, kk, hw7⟩; (have u7 : Upd [] w6 w7 := (by rw [hw7]; refine Upd.drewN ?_ _; (repeat (first | assumption | exact Upd.refl _ _ | refine Upd.drew ?_ | refine Upd.alloc ?_ _ | (apply Upd.trans; rotate_left; assumption))))); clear hw7; (have kc := scrown_any (HM6.out.upd0 u7) g m.root hgq hmr))
   | ((go_at_call 266; (with_reducible refine (kc).mono ?_)); rintro e w8 ⟨rfl, hu8, hM8⟩; (have g80 := hM8.h0); (have kd := cdrop_yes hM8.cells x HIN.out))
   | ((go_at_call 151; (with_reducible refine (kd).mono ?_)); rintro e w9 ⟨rfl, hC9, hu9⟩)
   | fail)
  go_ret
  obtain ⟨b1, b2, b4⟩ := H6.out
  have bx := ((isT_plug _ _).1 b1).1
  refine ⟨rfl, ((u6.trans (u7.mono (by simp))).trans (hu8.mono (by simp [SB.blk]))).trans (hu9.mono (fun y hy => by simp only [SB.blk, List.mem_cons]; simp [hy])), S6, (hM8.setC hu9 hC9 (fun y hy => Or.inl hy) (drop_len _ _)).ext (fun y => ?_), b4, b2, ⟨bx.2.2.1.root, bx.2.2.2.root, bx.2.1⟩⟩
  by_cases e : y = (g : Int)
  ·rw [if_pos (show ([] : List Fr) = [] ∧ y = (g : Int) from ⟨rfl, e⟩), if_pos e]; rfl
  ·rw [if_neg e, if_neg (show ¬ (([] : List Fr) = [] ∧ y = (g : Int)) from fun h => e h.2)]
 | cons fr P2 =>
  rw [show upP (fr :: P2) = (fr.1 : Int) from rfl, tv_nat, tb_nat] at ku
  have hfl : fr.1 < A.cs.length := HT.out.2.2.2 fr.1 (plug_ctx_mem.2 (Or.inr (by simp [ctxN])))
  have hn5 : (plug (fr :: P2) (.node x .nil .nil)).nodes.Nodup := by
   refine (plug_nodes (fr :: P2) (.node x .nil .nil)).nodup_iff.2 ?_
   obtain ⟨⟨a1, a2, a3⟩, a4, a5, a6, a7⟩ := HP.out
   simp only [BT.nodes, List.nil_append, List.singleton_append, List.nodup_cons]
   exact ⟨a3, a7⟩
  have hlt5 : ∀ y, y ∈ (plug (fr :: P2) (.node x .nil .nil)).nodes → y ∈ (plug (fr :: P2) (.node x l r)).nodes := fun y hy => by
   rw [plug_ctx_mem] at hy ⊢
   simp only [BT.nodes, List.nil_append, List.mem_cons, List.not_mem_nil, or_false] at hy
   rcases hy with hy | hy
   ·exact Or.inl (by simp [BT.nodes, hy])
   ·exact Or.inr hy
  have ksd := fun W (hW : Upd [] w6 W) => tside2_any (HM6.out.upd0 hW).trees H6.out.1 hn5 hfl
  have kcw := fun W (hW : Upd [] w6 W) => tcut_any (HM6.out.upd0 hW).trees (f := fr) (P := P2) (t := .node x .nil .nil) H6.out.1 hn5 (fun y hy => HT.out.2.2.2 y (hlt5 y hy))
  rw [show BT.root (.node x .nil .nil) = (x : Int) from rfl] at kcw
  generalize hcv : cutV fr (.node x .nil .nil) = cv at kcw
  generalize hcb : tb (x : Int) = cb at kcw
  have HN5 := Lib.hid (And.intro hn5 hlt5)
  have g61 := q61 w6 (Upd.refl _ _)
  clear hn5 hlt5 hcv hcb
  go_wp2_with (first
   | ((go_at_call 250; (with_reducible refine (ku _ (by (repeat (first | assumption | exact Upd.refl _ _ | refine Upd.drew ?_ | refine Upd.alloc ?_ _ | (apply Upd.trans; rotate_left; assumption))))).mono ?_)); rintro e w7 ⟨rfl, kk, hw7⟩; (have u7 : Upd [] w6 w7 := (by rw [hw7]; refine Upd.drewN ?_ _; (repeat (first | assumption | exact Upd.refl _ _ | refine Upd.drew ?_ | refine Upd.alloc ?_ _ | (apply Upd.trans; rotate_left; assumption))))); clear hw7; (have g71 := q61 w7 u7))
   | fail)
  obtain ⟨r', bb, hbb, kr⟩ := ksd w7 u7
  have hmz' : (m = .nil ∧ (m.root != -1) = false) ∨ (m ≠ .nil ∧ (m.root != -1) = true) := by
   by_cases e : m = .nil
   ·exact Or.inl ⟨e, by rw [e]; rfl⟩
   ·exact Or.inr ⟨e, by have := (root_mem e).2; simp; omega⟩
  have HQ61 := Lib.hid q61
  clear ksd ku q61
  rcases hmz' with ⟨hmz, hmb⟩ | ⟨hmz, hmb⟩
  ·have HMZ := Lib.hid hmz
   clear hmz
   rcases hbb with ⟨rfl, hb2⟩ | ⟨rfl, hb2⟩
   all_goals
    go_wp2_with (first
     | ((go_at_call 249; (with_reducible refine (kr).mono ?_)); rintro e w8 ⟨rfl, k8, hw8⟩; (have u8 : Upd [] w6 w8 := (by rw [hw8]; exact u7.drewN k8)); clear hw8; (have g81 := HQ61.out w8 u8); (have kc := kcw w8 u8))
     | ((go_at_call 244; (with_reducible refine (kc).mono ?_)); rintro e w9 ⟨rfl, hu9, S9, hT9, hx9, hp9, hs9⟩; (have g90 := ((HM6.out.upd0 u8).setT hu9 hT9).h0); (have kd := cdrop_yes ((HM6.out.upd0 u8).setT hu9 hT9).cells x HIN.out))
     | ((go_at_call 151; (with_reducible refine (kd).mono ?_)); rintro e w10 ⟨rfl, hC10, hu10⟩)
     | fail)
    go_ret
    have hz := HMZ.out
    subst hz
    refine ⟨rfl, ((u6.trans (u8.mono (by simp))).trans (hu9.mono (by simp [SB.blk]))).trans (hu10.mono (fun y hy => by simp only [SB.blk, List.mem_cons]; simp [hy])), S9, (((HM6.out.upd0 u8).setT hu9 hT9).setC hu10 hC10 (fun y hy => Or.inl hy) (drop_len _ _)).ext (fun y => by rw [if_neg (by simp)]), hp9, fun y hy => at_trans (H6.out.2.1 y hy) (hs9 y (fun hm => hy (HN5.out.2 y hm))), ⟨hx9.2.2.1.root, hx9.2.2.2.root, hx9.2.1⟩⟩
  ·have HMZ := Lib.hid hmz
   have hxm : ∀ y, y ∈ m.nodes → y ∉ (plug (fr :: P2) (.node x .nil .nil)).nodes := fun y hy hm => by
    have b1 := hmm.out y hy
    rw [plug_ctx_mem] at hm
    simp only [BT.nodes, List.nil_append, List.mem_cons, List.not_mem_nil, or_false] at hm
    rcases hm with hm | hm
    ·exact b1.2 hm
    ·exact b1.1 hm
   have hnd : (m.nodes ++ ctxN (fr :: P2)).Nodup := by
    rw [List.nodup_append]
    exact ⟨hmn.out, HP.out.2.2.2.2, fun a ha b hb e => (hmm.out a ha).1 (by rw [e]; exact hb)⟩
   have hsm : ∀ y, y ∈ m.nodes ++ ctxN (fr :: P2) → y ∈ (plug (fr :: P2) (.node x l r)).nodes := fun y hy => by
    rw [List.mem_append] at hy
    rcases hy with hy | hy
    ·exact hmx.out y hy
    ·exact plug_ctx_mem.2 (Or.inr hy)
   have HXM := Lib.hid (And.intro hxm (And.intro hnd hsm))
   clear hmz hxm hnd hsm
   rcases hbb with ⟨rfl, hb2⟩ | ⟨rfl, hb2⟩
   all_goals
    go_wp2_with (first
     | ((go_at_call 249; (with_reducible refine (kr).mono ?_)); rintro e w8 ⟨rfl, k8, hw8⟩; (have u8 : Upd [] w6 w8 := (by rw [hw8]; exact u7.drewN k8)); clear hw8; (have g81 := HQ61.out w8 u8); (have kc := kcw w8 u8))
     | ((go_at_call 244; (with_reducible refine (kc).mono ?_)); rintro e w9 ⟨rfl, hu9, S9, hT9, hx9, hp9, hs9⟩; (have g91 := ((HM6.out.upd0 u8).setT hu9 hT9).h1); (have khg := thang_any hT9 hp9 (H6.out.2.2.frame (fun y hy => hs9 y (HXM.out.1 y hy))) HMZ.out HXM.out.2.1 (fun y hy => HT.out.2.2.2 y (HXM.out.2.2 y hy))); (try rw [hb2] at khg))
     | ((go_at_call 251; (with_reducible refine (khg).mono ?_)); rintro e w9b ⟨rfl, hu9b, S9b, hT9b, hp9b, hs9b⟩; (have g90 := (((HM6.out.upd0 u8).setT hu9 hT9).setT hu9b hT9b).h0); (have kd := cdrop_yes (((HM6.out.upd0 u8).setT hu9 hT9).setT hu9b hT9b).cells x HIN.out))
     | ((go_at_call 151; (with_reducible refine (kd).mono ?_)); rintro e w10 ⟨rfl, hC10, hu10⟩)
     | fail)
    go_ret
    have hxn : x ∉ m.nodes ++ ctxN (fr :: P2) := fun hm => by
     rw [List.mem_append] at hm
     rcases hm with hm | hm
     ·exact (hmm.out x hm).2 rfl
     ·exact HP.out.1.2.2 hm
    have a3 := hs9b x hxn
    refine ⟨rfl, (((u6.trans (u8.mono (by simp))).trans (hu9.mono (by simp [SB.blk]))).trans (hu9b.mono (by simp [SB.blk]))).trans (hu10.mono (fun y hy => by simp only [SB.blk, List.mem_cons]; simp [hy])), S9b, ((((HM6.out.upd0 u8).setT hu9 hT9).setT hu9b hT9b).setC hu10 hC10 (fun y hy => Or.inl hy) (drop_len _ _)).ext (fun y => by rw [if_neg (by simp)]), hp9b, fun y hy => at_trans (at_trans (H6.out.2.1 y hy) (hs9 y (fun hm => hy (HN5.out.2 y hm)))) (hs9b y (fun hm => hy (HXM.out.2.2 y hm))), ⟨a3.1.trans hx9.2.2.1.root, a3.2.1.trans hx9.2.2.2.root, a3.2.2.trans hx9.2.1⟩⟩
theorem sdelete_yes (h : SkAt w B F A st tr) (g x : Nat) (hx : x ∈ (tr g).nodes) :
  Calls Tryz.prog 261 #[.pointer (some ⟨B.n0, 0, none⟩), .int .i64 (x : Int)] w fun e w' => e = .returned (.bool true) ∧ Upd (B.blk F) w w' ∧
   SkAt w' B F (dropN A x) (satS st (sdelT A (tr g) x).2) (fun q => if q = g then (sdelT A (tr g) x).1 else tr q) := by
 obtain ⟨S, hM, hI⟩ := h
 have hm := (hI.mem g x).1 hx
 have hin : inN A (x : Int) = true := (inN_nat A x).2 ⟨hm.2.1, by omega⟩
 have e := pathOf_eq hx
 unfold sdelT
 generalize (pathOf (tr g) x).1 = P at *
 generalize (pathOf (tr g) x).2.1 = l at *
 generalize (pathOf (tr g) x).2.2 = r at *
 have hq : 1 ≤ g ∧ g < A.hs.length := by have := hM.cells.ok.nat x hm.2.1; omega
 have hb65 := hM.cells.ok.h1
 have hT := hI.isT g
 have hn := hI.nd g
 have hH := hI.heap g
 rw [e] at hT hn hH
 obtain ⟨d1, d2, d3⟩ := del_tree upS_ok hn hH
 refine (sdelete_core hM hin hm.2.2 (by omega) hT hn (fun y hy => ?_)).mono ?_
 ·rw [← e] at hy
  have := (hI.mem g y).1 hy
  exact (inN_nat A y).2 ⟨this.2.1, by omega⟩
 ·rintro e' w' ⟨rfl, hu, S', q1, q2, q4, q5⟩
  refine ⟨rfl, hu, S', q1.ext (fun y => ?_), (TrG.del (tops' := topsL (dropN A x) (fun q => if q = g then (plug P (mergeT upS A l r).1) else tr q)) hI hx q2 ?_ d2 (fun y hy => q4 y (by rw [← e]; exact hy)) q5 (fun q hq' => ?_))⟩
  ·rw [← topF_set (A' := dropN A x) (tr := tr) (t := plug P (mergeT upS A l r).1) (by rw [drop_hs]) hq y]
   by_cases ey : y = (g : Int)
   ·rw [if_pos ey]
    by_cases hp : P = []
    ·rw [if_pos ⟨hp, ey⟩]
    ·rw [if_neg (fun h => hp h.1), ey]
     cases P with
     | nil => exact absurd rfl hp
     | cons f P2 =>
      unfold topF
      rw [if_pos (by omega), Int.toNat_natCast, e, plug_rootc f P2 (.node x l r) (mergeT upS A l r).1]
   ·rw [if_neg ey, if_neg (fun h => ey h.2)]
  ·rw [e]; exact d1
  ·have hq'' : q < (dropN A (x : Int)).hs.length := by rw [drop_hs]; exact hq'
   unfold topsL
   rw [List.getD_eq_getElem?_getD, List.getElem?_map, List.getElem?_range hq'']
   show (if q = g then plug P (mergeT upS A l r).1 else tr q).root = _
   by_cases eq : q = g
   ·rw [if_pos eq, if_pos eq]
   ·rw [if_neg eq, if_neg eq]
    rw [List.getD_eq_getElem?_getD, List.getElem?_map, List.getElem?_range hq']; rfl
theorem sextract_some (h : SkAt w B F A st tr) (g : Nat) (hn : 0 < lenN A g) :
  Calls Tryz.prog 262 #[.pointer (some ⟨B.n0, 0, none⟩), .int .i64 (g : Int)] w fun e w' => ∃ m : Nat, minN A g = some m ∧ e = .returned (.tuple #[.int .i64 (m : Int), .bool true]) ∧ Upd (B.blk F) w w' ∧
   SkAt w' B F (dropN A m) (satS st (sdelT A (tr g) m).2) (fun q => if q = g then (sdelT A (tr g) m).1 else tr q) := by
 have k := smin_some h g hn
 have kd := fun m hm => sdelete_yes h g m hm
 have hroot : ∀ m : Nat, (tr g).root = m → m ∈ (tr g).nodes := fun m hm => by
  have hne : tr g ≠ .nil := fun e => by rw [e] at hm; have : (-1 : Int) = m := hm; omega
  have := (root_mem hne).1
  rw [hm] at this; simpa using this
 clear h
 go_enter Tryz.func262, Tryz.ntmps262
 go_wp2_with (first
  | ((go_at_call 265; (with_reducible refine (k).mono ?_)); rintro e w1 ⟨m, hm1, hm2, rfl, rfl⟩; (have kd2 := kd m (hroot m hm2)))
  | ((go_at_call 261; (with_reducible refine (kd2).mono ?_)); rintro e w2 ⟨rfl, hu2, hL2⟩)
  | fail)
 go_ret2
 exact ⟨m, hm1, rfl, hu2, hL2⟩
end
end Go.Proofs.YtklibcncmbofpaaGreat
namespace Go.Proofs.YtklibcncmbofpaaGreat
open Go Go.RowKit
theorem low_tree {A : NS} {P : List Fr} {x : Nat} {l r : BT} {k s : Int} (hB : lowB A x k s = true) (hx : x < A.cs.length) (hn : (plug P (.node x l r)).nodes.Nodup) (hH : Heap A (plug P (.node x l r))) :
  Heap (lowN A x k s) (plug P .nil) ∧ Heap (lowN A x k s) (.node x l r) := by
 have h1 := plug_parts hn
 have hs := heap_sub hH
 refine ⟨(heap_plug (t' := .nil) hH trivial (fun y hy => by cases hy)).frame (fun y hy => ?_), low_heap hB hx hs ?_⟩
 ·rw [low_c hB hx, if_neg]
  intro e
  rw [e, plug_ctx_mem] at hy
  rcases hy with hy | hy
  ·cases hy
  ·exact h1.1.2.2 hy
 ·have := (plug_nodes P (.node x l r)).nodup_iff.1 hn
  rw [List.nodup_append] at this
  exact this.1
end Go.Proofs.YtklibcncmbofpaaGreat
