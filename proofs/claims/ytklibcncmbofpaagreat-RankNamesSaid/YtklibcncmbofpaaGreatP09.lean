/-
  Lemmas for RankNames: Lf14, Lf15, Lf16, LfQ. Conditions: those of each lemma.
-/
import Derived.Deep.RegionLaw
import Derived.IntWalk
import Derived.WalkKit
import Derived.WalkSpells
import Derived.WalkLawsBesides
import Derived.BigQuiet
import Derived.Deep.RegionHeld3
import Derived.ProofKit
import Derived.OpenShut
import Derived.Lib.Hide
import Derived.Test.YtklibcncmbofpaaGreatProg
import Derived.Maps.AppendAt
import Derived.StillTailTactics
import Derived.Maps.OwnSet
import Derived.Maps.OwnOps
import Derived.Maps.RangeWalk
import Derived.Deep.DeepCutAuto
import Derived.Test.YtklibcncmbofpaaGreatP01
import Derived.Test.YtklibcncmbofpaaGreatP02
import Derived.Test.YtklibcncmbofpaaGreatP03
import Derived.Test.YtklibcncmbofpaaGreatP04
import Derived.Test.YtklibcncmbofpaaGreatP05
import Derived.Test.YtklibcncmbofpaaGreatP06
import Derived.Test.YtklibcncmbofpaaGreatP07
import Derived.Test.YtklibcncmbofpaaGreatP08
set_option linter.unusedVariables false
set_option linter.unusedSimpArgs false
namespace Go.Proofs.YtklibcncmbofpaaGreat
open Go Go.RowKit
theorem tv_nat (n : Nat) : tv (n : Int) = n := by unfold tv; rw [if_neg (by omega)]
theorem tb_nat (n : Nat) : tb (n : Int) = true := by unfold tb; simp
section
variable {w : World} {B : LB} {F : List Nat} {gt ct : Nat} {A : NS} {st : Nat} {tr : Nat → BT} {S : TS} {rk : Nat → Nat} {tops : List Int}
def DelEnd (w' : World) (B : LB) (F : List Nat) (gt ct : Nat) (A : NS) (st : Nat) (S : TS) (rk : Nat → Nat) (tops : List Int) (g x : Nat) (P : List Fr) (X : List Nat) (T : BT) : Prop :=
 ∃ S' rk' tops', LfM w' B F gt ct (dropN A x) st S' rk' tops' ∧ IsT S' (-1) T.root T ∧ RkOk rk' T ∧ (∀ y, y ∉ X → S.at S' y ∧ rk' y = rk y) ∧ (S'.l x = -1 ∧ S'.r x = -1 ∧ S'.u x = -1) ∧
  ∀ q, q < A.hs.length → tops'.getD q 0 = if P = [] ∧ q = g then T.root else tops.getD q 0
theorem at_trans {S S' S'' : TS} {x : Nat} (h : S.at S' x) (h' : S'.at S'' x) : S.at S'' x := ⟨h'.1.trans h.1, h'.2.1.trans h.2.1, h'.2.2.trans h.2.2⟩
set_option maxHeartbeats 8000000 in
theorem ldelete_core (hM : LfM w B F gt ct A st S rk tops) {g x : Nat} {P : List Fr} {l r : BT} (hin : inN A (x : Int) = true) (hg : (A.c x).i = g) (hgt : g < tops.length)
  (hT : IsT S (-1) (plug P (.node x l r)).root (plug P (.node x l r))) (hn : (plug P (.node x l r)).nodes.Nodup) (hR : RkOk rk (plug P (.node x l r))) (hall : ∀ y, y ∈ (plug P (.node x l r)).nodes → inN A (y : Int) = true) :
  Calls Tryz.prog 238 #[.pointer (some ⟨B.n0, 0, none⟩), .int .i64 (x : Int)] w fun e w' => e = .returned (.bool true) ∧ Upd (B.blk F gt) w w' ∧
   DelEnd w' B F gt ct A (satS st (mergeT settleT A l r).2) S rk tops g x P (plug P (.node x l r)).nodes (fixT P (.node x l r) (mergeT settleT A l r).1) := by
 have hxl := ((inN_nat A x).1 hin).1
 have hlt : ∀ y, y ∈ (plug P (.node x l r)).nodes → y < A.cs.length := fun y hy => ((inN_nat A y).1 (hall y hy)).1
 have kh := chome_yes hM.cells x hin
 rw [hg] at kh
 have h0 := hM.h0
 have HM := Lib.hid hM
 have hpp := plug_parts hn
 have hrr := (rk_plug P (.node x l r)).1 hR
 have mp := (merge_ok settle_ok A _ l r (Nat.le_refl _)).1
 have hblk := Lib.hid hM.lt
 have hcF := Lib.hid hM.cF
 have hsep := Lib.hid (And.intro hM.sep hM.sepF)
 have HT := Lib.hid (And.intro hT (And.intro hn (And.intro hrr (And.intro hall hlt))))
 have HP := Lib.hid hpp
 have hA := hM.cells.ok.c1
 obtain ⟨m, k, hmk⟩ : ∃ m k, mergeT settleT A l r = (m, k) := ⟨_, _, rfl⟩
 rw [hmk] at mp
 rw [hmk]
 have HMP := Lib.hid mp
 have HMK := Lib.hid hmk
 have HIN := Lib.hid hin
 clear hM hT hn hR hall hlt hpp hrr mp hmk hin hg
 go_enter Tryz.func238, Tryz.ntmps238
 go_wp2_with (first | ((go_at_call 140; (with_reducible refine (kh).mono ?_)); rintro e w1 ⟨rfl, hC1, hu1⟩; (have g1 := (HM.out.setC hu1 hC1 (fun y hy => Or.inl hy) rfl rfl).h1)))
 have hM1 := HM.out.setC hu1 hC1 (fun y hy => Or.inl hy) rfl rfl
 have q1 : ∀ d, (w1.drewN d).cell? ⟨B.n0, 1, none⟩ = some (.pointer (some ⟨B.bt, 0, none⟩)) := fun d => hM1.h1
 have kl := fun d => tleft_any (hM1.trees.drewN d) ((isT_plug _ _).1 HT.out.1).1 hxl
 have kr := fun d => tright_any (hM1.trees.drewN d) ((isT_plug _ _).1 HT.out.1).1 hxl
 have HM1 := Lib.hid hM1
 clear hM1 hC1 kh h0 g1
 go_quiet ((first
  | (go_at_call 248; exact Calls.quiet_of (kl _))
  | (go_at_call 249; exact Calls.quiet_of (kr _))
  | (go_at_call 247; exact Calls.quiet_of_same (lkid_any _ _))))
 obtain ⟨w2, hw2⟩ : ∃ w2, w2 = w1.drewN nq := ⟨_, rfl⟩
 have u2 : Upd F w w2 := by rw [hw2]; exact hu1.drewN nq
 have hM2 : LfM w2 B F gt ct A st S rk tops := by rw [hw2]; exact HM1.out.upd0 ((Upd.refl [] w1).drewN nq)
 rw [← hw2]
 clear hw2 kl kr q1 HM1 hu1
 have kc1 := tcut_any hM2.trees (f := (x, false, r)) (P := P) (t := l) HT.out.1 HT.out.2.1 HT.out.2.2.2.2
 have g2 := hM2.h1
 have HM2 := Lib.hid hM2
 clear hM2
 go_wp2_with (first
  | ((go_at_call 244; (with_reducible refine (kc1).mono ?_)); rintro e w3 ⟨rfl, hu3, S3, hT3, hl3, hp3, hs3⟩; (have g3 := (HM2.out.setT hu3 hT3).h1); clear g2)
  | fail)
 have hM3 := HM2.out.setT hu3 hT3
 have hp3' : IsT S3 (-1) (plug ((x, true, .nil) :: P) r).root (plug ((x, true, .nil) :: P) r) := hp3
 have hn3 : (plug ((x, true, .nil) :: P) r).nodes.Nodup := by
  have e := (plug_nodes P (.node x .nil r))
  refine e.nodup_iff.2 ?_
  obtain ⟨⟨a1, a2, a3⟩, a4, a5, a6, a7⟩ := HP.out
  simp only [BT.nodes, List.nil_append, List.nodup_append] at a4 ⊢
  refine ⟨List.nodup_cons.2 ⟨a2, a4.2.1⟩, a7, fun y hy z hz e => ?_⟩
  subst e
  rcases List.mem_cons.1 hy with e | hy
  ·exact a3 (by rw [← e]; exact hz)
  ·exact a6 y hy hz
 have hsub3 : ∀ y, y ∈ (plug ((x, true, .nil) :: P) r).nodes → y ∈ (plug P (.node x l r)).nodes := fun y hy => by
  have h' : y ∈ (plug P (.node x .nil r)).nodes := hy
  rw [plug_ctx_mem] at h' ⊢
  simp only [BT.nodes, List.nil_append, List.mem_cons, List.mem_append] at h' ⊢
  rcases h' with (h' | h') | h'
  ·exact Or.inl (Or.inl h')
  ·exact Or.inl (Or.inr (Or.inr h'))
  ·exact Or.inr h'
 have kc2 := tcut_any hM3.trees (f := (x, true, .nil)) (P := P) (t := r) hp3' hn3 (fun y hy => HT.out.2.2.2.2 y (hsub3 y hy))
 have hl3' : l.nodes.Nodup ∧ ∀ y, y ∈ l.nodes → y ∉ (plug ((x, true, .nil) :: P) r).nodes := by
  obtain ⟨⟨a1, a2, a3⟩, a4, a5, a6, a7⟩ := HP.out
  rw [List.nodup_append] at a4
  refine ⟨a4.1, fun y hy hm => ?_⟩
  have h' : y ∈ (plug P (.node x .nil r)).nodes := hm
  rw [plug_ctx_mem] at h'
  simp only [BT.nodes, List.nil_append, List.mem_cons] at h'
  rcases h' with (h' | h') | h'
  ·exact a1 (by rw [← h']; exact hy)
  ·exact a4.2.2 y hy y h' rfl
  ·exact a5 y hy h'
 have HM3 := Lib.hid hM3
 have H3 := Lib.hid (And.intro hl3 (And.intro hs3 (And.intro hsub3 hl3')))
 have u3 : Upd (B.ba :: F) w w3 := (u2.mono (by simp; intro x hx; exact Or.inr hx)).trans (hu3.mono (by simp))
 clear hM3 hT3 hl3 hp3 hp3' hs3 hn3 hsub3 hl3' kc1 hu3 u2
 go_wp2_with (first
  | ((go_at_call 244; (with_reducible refine (kc2).mono ?_)); rintro e w4 ⟨rfl, hu4, S4, hT4, hr4, hp4, hs4⟩)
  | fail)
 have hM4 := HM3.out.setT hu4 hT4
 have hl4 : IsT S4 (-1) l.root l := H3.out.1.frame (fun y hy => hs4 y (H3.out.2.2.2.2 y hy))
 have km := lmerge_any hM4 hl4 hr4 HP.out.2.1 (fun y hy => HT.out.2.2.2.1 y (plug_ctx_mem.2 (Or.inl (by simp only [BT.nodes]; exact List.mem_cons_of_mem _ hy)))) HT.out.2.2.1.1.2.1 HT.out.2.2.1.1.2.2
 rw [HMK.out] at km
 have hp4' : IsT S4 (-1) (plug P (.node x .nil .nil)).root (plug P (.node x .nil .nil)) := hp4
 have u4 : Upd (B.ba :: F) w w4 := u3.trans (hu4.mono (by simp))
 have f4 : ∀ y, y ∉ (plug P (.node x l r)).nodes → S.at S4 y := fun y hy => at_trans (H3.out.2.1 y hy) (hs4 y (fun hm => hy (H3.out.2.2.1 y hm)))
 have H4 := Lib.hid (And.intro hp4' f4)
 clear hM4 hT4 hr4 hp4 hp4' hs4 hl4 kc2 hu4 u3 f4 H3 HM3 HM2 g3
 go_wp2_with (first
  | ((go_at_call 246; (with_reducible refine (km).mono ?_)); rintro e w5 ⟨rfl, hu5, S5, rk5, hM5, hT5, hr5, hs5⟩; (have g5 := hM5.h1))
  | fail)
 have hp5 : IsT S5 (-1) (plug P (.node x .nil .nil)).root (plug P (.node x .nil .nil)) := H4.out.1.frame (fun y hy => (hs5 y (fun hm => by
  obtain ⟨⟨a1, a2, a3⟩, a4, a5, a6, a7⟩ := HP.out
  rw [plug_ctx_mem] at hy
  simp only [BT.nodes, List.nil_append, List.mem_cons, List.not_mem_nil, or_false] at hy
  rw [List.mem_append] at hm
  rcases hy with e | hy
  ·subst e; rcases hm with hm | hm; exact a1 hm; exact a2 hm
  ·rcases hm with hm | hm; exact a5 y hm hy; exact a6 y hm hy)).1)
 have f5 : ∀ y, y ∉ (plug P (.node x l r)).nodes → S.at S5 y ∧ rk5 y = rk y := fun y hy => by
  have h1 : y ∉ l.nodes ++ r.nodes := fun hm => hy (plug_ctx_mem.2 (Or.inl (by simp only [BT.nodes]; exact List.mem_cons_of_mem _ hm)))
  exact ⟨at_trans (H4.out.2 y hy) (hs5 y h1).1, (hs5 y h1).2⟩
 have hR5 : RkP rk5 P (BT.node x l r).rank := HT.out.2.2.1.2.frame (fun y hy => (hs5 y (fun hm => by
  rw [List.mem_append] at hm
  rcases hm with hm | hm
  ·exact HP.out.2.2.1 y hm hy
  ·exact HP.out.2.2.2.1 y hm hy)).2)
 have u5 : Upd (B.blk F gt) w w5 := (u4.mono (fun y hy => by simp only [LB.blk, List.mem_cons] at hy ⊢; rcases hy with h | h <;> simp [h])).trans (hu5.mono (fun y hy => by
   have := hcF.out
   simp only [List.mem_cons, List.not_mem_nil, or_false] at hy
   simp only [LB.blk, List.mem_cons]
   rcases hy with rfl | rfl | rfl
   ·simp [this]
   ·simp
   ·simp))
 have ku := tup_any hM5.trees hp5 hxl
 have HM5 := Lib.hid hM5
 have H5 := Lib.hid (And.intro hp5 (And.intro f5 (And.intro hR5 (And.intro hT5 hr5))))
 clear hM5 hT5 hr5 hs5 km u4 H4 hp5 f5 hR5 hu5
 have hmm : ∀ y, y ∈ m.nodes → y ∉ ctxN P ∧ y ≠ x := fun y hy => by
  obtain ⟨⟨a1, a2, a3⟩, a4, a5, a6, a7⟩ := HP.out
  have h1 := HMP.out.mem_iff.1 hy
  rw [List.mem_append] at h1
  rcases h1 with h1 | h1
  ·exact ⟨a5 y h1, fun e => a1 (by rw [← e]; exact h1)⟩
  ·exact ⟨a6 y h1, fun e => a2 (by rw [← e]; exact h1)⟩
 have hmx : ∀ y, y ∈ m.nodes → y ∈ (plug P (.node x l r)).nodes := fun y hy => plug_ctx_mem.2 (Or.inl (by
  have h1 := HMP.out.mem_iff.1 hy
  simp only [BT.nodes, List.mem_cons]; exact Or.inr h1))
 have hmn : m.nodes.Nodup := HMP.out.nodup_iff.2 HP.out.2.1
 have HMM := Lib.hid (And.intro hmm (And.intro hmx hmn))
 clear hmm hmx hmn
 have sp := hsep.out
 have s1 : B.n0 ≠ gt := sp.1.1.2.2.2
 clear sp
 cases P with
 | nil =>
  rw [show upP ([] : List Fr) = -1 from rfl, show tv (-1) = 0 from rfl, show tb (-1) = false from rfl] at ku
  go_wp2_with (first
   | ((go_at_call 250; (with_reducible refine (ku).mono ?_)); rintro e w6 ⟨rfl, kk, hw6⟩; (have u6 : Upd [] w5 w6 := by (rw [hw6]; exact (Upd.refl _ _).drewN kk)); clear hw6; (have g60 := (HM5.out.upd0 u6).h0); (have g63 := (HM5.out.upd0 u6).h3); (have d6 := (HM5.out.upd0 u6).topI.cell g hgt); (have f6 := (HM5.out.upd0 u6).topI.free g); (have kd := cdrop_yes ((HM5.out.upd0 u6).setTop g m.root).cells x HIN.out))
   | ((go_at_call 151; (with_reducible refine (kd).mono ?_)); rintro e w7 ⟨rfl, hC7, hu7⟩)
   | fail)
  go_ret
  obtain ⟨b1, b2, b3, b4, b5⟩ := H5.out
  have bx := ((isT_plug _ _).1 b1).1
  refine ⟨rfl, ((u5.trans (u6.mono (by simp))).setCell (Or.inl (by simp [LB.blk])) _).trans (hu7.mono (fun y hy => by simp only [LB.blk, List.mem_cons]; simp [hy])), S5, rk5, tops.set g m.root, ((HM5.out.upd0 u6).setTop g m.root).setC hu7 hC7 (fun y hy => Or.inl hy) (drop_len _ _) (by rw [drop_hs]), b4, b5, b2, ⟨bx.2.2.1.root, bx.2.2.2.root, bx.2.1⟩, fun q hq => ?_⟩
  by_cases e : q = g
  ·rw [if_pos ⟨rfl, e⟩, e, List.getD_eq_getElem?_getD, List.getElem?_set, if_pos rfl, if_pos hgt]; rfl
  ·rw [if_neg (fun h => e h.2), List.getD_eq_getElem?_getD, List.getElem?_set, if_neg (fun h => e h.symm), ← List.getD_eq_getElem?_getD]
 | cons f P2 =>
  rw [show upP (f :: P2) = (f.1 : Int) from rfl, tv_nat, tb_nat] at ku
  have hfl : f.1 < A.cs.length := HT.out.2.2.2.2 f.1 (plug_ctx_mem.2 (Or.inr (by simp [ctxN])))
  have hn5 : (plug (f :: P2) (.node x .nil .nil)).nodes.Nodup := by
   refine (plug_nodes (f :: P2) (.node x .nil .nil)).nodup_iff.2 ?_
   obtain ⟨⟨a1, a2, a3⟩, a4, a5, a6, a7⟩ := HP.out
   simp only [BT.nodes, List.nil_append, List.singleton_append, List.nodup_cons]
   exact ⟨a3, a7⟩
  have hlt5 : ∀ y, y ∈ (plug (f :: P2) (.node x .nil .nil)).nodes → y ∈ (plug (f :: P2) (.node x l r)).nodes := fun y hy => by
   rw [plug_ctx_mem] at hy ⊢
   simp only [BT.nodes, List.nil_append, List.mem_cons, List.not_mem_nil, or_false] at hy
   rcases hy with hy | hy
   ·exact Or.inl (by simp [BT.nodes, hy])
   ·exact Or.inr hy
  have ksd : ∀ W, Upd [] w5 W → ∃ z : Int, (z == (x : Int)) = f.2.1 ∧ Calls Tryz.prog 249 #[.pointer (some ⟨B.bt, 0, none⟩), .int .i64 (f.1 : Int)] W fun e w' => e = .returned (.tuple #[.int .i64 (tv z), .bool (tb z)]) ∧ ∃ k, w' = W.drewN k := fun W hW => tside_any (HM5.out.upd0 hW).trees H5.out.1 hn5 hfl
  have kcw := fun W (hW : Upd [] w5 W) => tcut_any (HM5.out.upd0 hW).trees (f := f) (P := P2) (t := .node x .nil .nil) H5.out.1 hn5 (fun y hy => HT.out.2.2.2.2 y (hlt5 y hy))
  rw [show BT.root (.node x .nil .nil) = (x : Int) from rfl] at kcw
  generalize hcv : cutV f (.node x .nil .nil) = cv at kcw
  generalize hcb : tb (x : Int) = cb at kcw
  have HN5 := Lib.hid (And.intro hn5 hlt5)
  clear hn5 hlt5 hcv hcb
  by_cases hmz : m = .nil
  ·have hmb : (m.root != -1) = false := by rw [hmz]; rfl
   have HMZ := Lib.hid hmz
   clear hmz
   go_wp2_with (first
    | ((go_at_call 250; (with_reducible refine (ku).mono ?_)); rintro e w6 ⟨rfl, kk, hw6⟩; (have u6 : Upd [] w5 w6 := by (rw [hw6]; exact (Upd.refl _ _).drewN kk)); clear hw6; (have g61 := (HM5.out.upd0 u6).h1); obtain ⟨z, hz, kr⟩ := ksd w6 u6)
    | ((go_at_call 249; (with_reducible refine (kr).mono ?_)); rintro e w7 ⟨rfl, kk7, hw7⟩; (have u7 : Upd [] w5 w7 := by (rw [hw7]; exact u6.drewN kk7)); clear hw7; (have g71 := (HM5.out.upd0 u7).h1); (have kc := kcw w7 u7))
    | (go_at_call 247; (with_reducible refine (lkid_any _ _).mono ?_); rintro e w9 ⟨rfl, hw9⟩; rw [hw9]; clear hw9 w9)
    | ((go_at_call 244; (with_reducible refine (kc).mono ?_)); rintro e w8 ⟨rfl, hu8, S8, hT8, hx8, hp8, hs8⟩; (have kmd := lfix_any ((HM5.out.upd0 u7).setT hu8 hT8) (old := .node x l r) hp8 (by trivial) H5.out.2.2.1 (by first | (refine (plug_nodes (f :: P2) .nil).nodup_iff.2 ?_; simpa [BT.nodes] using HP.out.2.2.2.2)) (by intro y hy; rw [plug_ctx_mem] at hy; exact HT.out.2.2.2.2 y (plug_ctx_mem.2 (Or.inr (by simpa [BT.nodes] using hy))))))
    | ((go_at_call 245; (with_reducible refine (kmd).mono ?_)); rintro e w9 ⟨rfl, hu9, S9, rk9, hM9, hE9⟩; (have g90 := hM9.h0); (have kd := cdrop_yes hM9.cells x HIN.out))
    | ((go_at_call 151; (with_reducible refine (kd).mono ?_)); rintro e w10 ⟨rfl, hC10, hu10⟩)
    | fail)
   go_ret
   have hz := HMZ.out
   subst hz
   refine ⟨rfl, ((((u5.trans (u7.mono (by simp))).trans (hu8.mono (by simp [LB.blk]))).trans (hu9.mono (by simp [LB.blk]))).trans (hu10.mono (fun y hy => by simp only [LB.blk, List.mem_cons]; simp [hy]))), S9, rk9, tops, hM9.setC hu10 hC10 (fun y hy => Or.inl hy) (drop_len _ _) (by rw [drop_hs]), hE9.isT, hE9.isR, fun y hy => ?_, ?_, fun q hq => by rw [if_neg (by simp)]⟩
   ·have a1 := H5.out.2.1 y hy
    have a2 := hs8 y (fun hm => hy (HN5.out.2 y hm))
    have a3 := hE9.far y (fun hm => hy (plug_ctx_mem.2 (Or.inr (by rw [plug_ctx_mem] at hm; simpa [BT.nodes] using hm))))
    exact ⟨at_trans (at_trans a1.1 a2) a3.1, a3.2.trans a1.2⟩
   ·have a3 := (hE9.far x (fun hm => HP.out.1.2.2 (by rw [plug_ctx_mem] at hm; simpa [BT.nodes] using hm))).1
    have a4 := hx8
    exact ⟨a3.1.trans a4.2.2.1.root, a3.2.1.trans a4.2.2.2.root, a3.2.2.trans a4.2.1⟩
  ·have hmb : (m.root != -1) = true := by
    have := (root_mem hmz).2
    simp; omega
   have HMZ := Lib.hid hmz
   have hxm : ∀ y, y ∈ m.nodes → y ∉ (plug (f :: P2) (.node x .nil .nil)).nodes := fun y hy hm => by
    have b1 := HMM.out.1 y hy
    rw [plug_ctx_mem] at hm
    simp only [BT.nodes, List.nil_append, List.mem_cons, List.not_mem_nil, or_false] at hm
    rcases hm with hm | hm
    ·exact b1.2 hm
    ·exact b1.1 hm
   have hnd : (m.nodes ++ ctxN (f :: P2)).Nodup := by
    rw [List.nodup_append]
    exact ⟨HMM.out.2.2, HP.out.2.2.2.2, fun a ha b hb e => (HMM.out.1 a ha).1 (by rw [e]; exact hb)⟩
   have hsm : ∀ y, y ∈ m.nodes ++ ctxN (f :: P2) → y ∈ (plug (f :: P2) (.node x l r)).nodes := fun y hy => by
    rw [List.mem_append] at hy
    rcases hy with hy | hy
    ·exact HMM.out.2.1 y hy
    ·exact plug_ctx_mem.2 (Or.inr hy)
   have HXM := Lib.hid (And.intro hxm (And.intro hnd hsm))
   clear hmz hxm hnd hsm
   go_wp2_with (first
    | ((go_at_call 250; (with_reducible refine (ku).mono ?_)); rintro e w6 ⟨rfl, kk, hw6⟩; (have u6 : Upd [] w5 w6 := by (rw [hw6]; exact (Upd.refl _ _).drewN kk)); clear hw6; (have g61 := (HM5.out.upd0 u6).h1); obtain ⟨z, hz, kr⟩ := ksd w6 u6)
    | ((go_at_call 249; (with_reducible refine (kr).mono ?_)); rintro e w7 ⟨rfl, kk7, hw7⟩; (have u7 : Upd [] w5 w7 := by (rw [hw7]; exact u6.drewN kk7)); clear hw7; (have g71 := (HM5.out.upd0 u7).h1); (have kc := kcw w7 u7))
    | (go_at_call 247; (with_reducible refine (lkid_any _ _).mono ?_); rintro e w9 ⟨rfl, hw9⟩; rw [hw9]; clear hw9 w9)
    | ((go_at_call 244; (with_reducible refine (kc).mono ?_)); rintro e w8 ⟨rfl, hu8, S8, hT8, hx8, hp8, hs8⟩; (have g81 := ((HM5.out.upd0 u7).setT hu8 hT8).h1); (have khg := thang_any hT8 hp8 (H5.out.2.2.2.1.frame (fun y hy => hs8 y (HXM.out.1 y hy))) HMZ.out HXM.out.2.1 (fun y hy => HT.out.2.2.2.2 y (HXM.out.2.2 y hy))))
    | ((go_at_call 251; (with_reducible refine (khg).mono ?_)); rintro e w8b ⟨rfl, hu8b, S8b, hT8b, hp8b, hs8b⟩; (have kmd := lfix_any (((HM5.out.upd0 u7).setT hu8 hT8).setT hu8b hT8b) (old := .node x l r) hp8b H5.out.2.2.2.2 H5.out.2.2.1 ((plug_nodes (f :: P2) m).nodup_iff.2 HXM.out.2.1) (fun y hy => HT.out.2.2.2.2 y (HXM.out.2.2 y ((plug_nodes (f :: P2) m).mem_iff.1 hy)))))
    | ((go_at_call 245; (with_reducible refine (kmd).mono ?_)); rintro e w9 ⟨rfl, hu9, S9, rk9, hM9, hE9⟩; (have g90 := hM9.h0); (have kd := cdrop_yes hM9.cells x HIN.out))
    | ((go_at_call 151; (with_reducible refine (kd).mono ?_)); rintro e w10 ⟨rfl, hC10, hu10⟩)
    | fail)
   go_ret
   refine ⟨rfl, (((((u5.trans (u7.mono (by simp))).trans (hu8.mono (by simp [LB.blk]))).trans (hu8b.mono (by simp [LB.blk]))).trans (hu9.mono (by simp [LB.blk]))).trans (hu10.mono (fun y hy => by simp only [LB.blk, List.mem_cons]; simp [hy]))), S9, rk9, tops, hM9.setC hu10 hC10 (fun y hy => Or.inl hy) (drop_len _ _) (by rw [drop_hs]), hE9.isT, hE9.isR, fun y hy => ?_, ?_, fun q hq => by rw [if_neg (by simp)]⟩
   ·have a1 := H5.out.2.1 y hy
    have a2 := hs8 y (fun hm => hy (HN5.out.2 y hm))
    have a2b := hs8b y (fun hm => hy (HXM.out.2.2 y hm))
    have a3 := hE9.far y (fun hm => hy (HXM.out.2.2 y ((plug_nodes (f :: P2) m).mem_iff.1 hm)))
    exact ⟨at_trans (at_trans (at_trans a1.1 a2) a2b) a3.1, a3.2.trans a1.2⟩
   ·have hxn : x ∉ m.nodes ++ ctxN (f :: P2) := fun hm => by
     rw [List.mem_append] at hm
     rcases hm with hm | hm
     ·exact (HMM.out.1 x hm).2 rfl
     ·exact HP.out.1.2.2 hm
    have a3 := at_trans (hs8b x hxn) (hE9.far x (fun hm => hxn ((plug_nodes (f :: P2) m).mem_iff.1 hm))).1
    have a4 := hx8
    exact ⟨a3.1.trans a4.2.2.1.root, a3.2.1.trans a4.2.2.2.root, a3.2.2.trans a4.2.1⟩
theorem ldelete_yes (h : LfAt w B F gt ct A st tr) (g x : Nat) (hx : x ∈ (tr g).nodes) :
  Calls Tryz.prog 238 #[.pointer (some ⟨B.n0, 0, none⟩), .int .i64 (x : Int)] w fun e w' => e = .returned (.bool true) ∧ Upd (B.blk F gt) w w' ∧
   LfAt w' B F gt ct (dropN A x) (satS st (ldelT A (tr g) x).2) (fun q => if q = g then (ldelT A (tr g) x).1 else tr q) := by
 obtain ⟨S, rk, tops, hM, hI, hL, hR⟩ := h
 have hm := (hI.mem g x).1 hx
 have hin : inN A (x : Int) = true := (inN_nat A x).2 ⟨hm.2.1, by omega⟩
 have e := pathOf_eq hx
 unfold ldelT
 generalize (pathOf (tr g) x).1 = P at *
 generalize (pathOf (tr g) x).2.1 = l at *
 generalize (pathOf (tr g) x).2.2 = r at *
 have hgt : g < tops.length := by rw [hM.topn]; have := (hM.cells.ok.nat x hm.2.1); omega
 have hgh : g < A.hs.length := by rw [← hM.topn]; exact hgt
 have hT := hI.isT g
 have hn := hI.nd g
 have hH := hI.heap g
 have hRg := hR g
 have hLg := hL g
 rw [e] at hT hn hH hRg hLg
 obtain ⟨d1, d2, d3⟩ := del_tree settle_ok hn hH
 obtain ⟨l1, l2⟩ := (lean_plug _ _).1 hLg
 have ml := merge_lean A _ l r (Nat.le_refl _) l1.2.1 l1.2.2
 refine (ldelete_core hM hin hm.2.2 hgt hT hn hRg (fun y hy => ?_)).mono ?_
 ·rw [← e] at hy
  have := (hI.mem g y).1 hy
  exact (inN_nat A y).2 ⟨this.2.1, by omega⟩
 ·rintro e' w' ⟨rfl, hu, S', rk', tops', q1, q2, q3, q4, q5, q6⟩
  refine ⟨rfl, hu, S', rk', tops', q1, hI.del hx q2 ?_ (fix_heap _ _ _ d2) (fun y hy => (q4 y (by rw [← e]; exact hy)).1) q5 (fun q hq => ?_), fun q => ?_, fun q => ?_⟩
  ·rw [e]; exact ((fix_nodes _ _ _).cons x).trans d1
  ·rw [q6 q hq]
   by_cases hq' : q = g
   ·rw [if_pos hq']
    by_cases hp : P = []
    ·rw [if_pos ⟨hp, hq'⟩]
    ·rw [if_neg (fun h => hp h.1), hq', hI.top g hgh, e]
     cases P with
     | nil => exact absurd rfl hp
     | cons f P2 => rw [fix_root]; exact plug_rootc _ _ _ _
   ·rw [if_neg hq', if_neg (fun h => hq' h.2)]
  ·show Lean (if q = g then _ else _)
   split
   ·exact fix_lean _ _ _ ml l2
   ·exact hL q
  ·show RkOk rk' (if q = g then _ else _)
   split
   ·exact q3
   ·rename_i hq
    refine (hR q).frame (fun y hy => (q4 y (fun hm' => ?_)).2)
    rw [← e] at hm'
    have c1 := (hI.mem g y).1 hm'
    have c2 := (hI.mem q y).1 hy
    omega
end
end Go.Proofs.YtklibcncmbofpaaGreat
namespace Go.Proofs.YtklibcncmbofpaaGreat
open Go Go.RowKit
theorem low_tree {A : NS} {P : List Fr} {x : Nat} {l r : BT} {k s : Int} (hB : lowB A x k s = true) (hx : x < A.cs.length) (hn : (plug P (.node x l r)).nodes.Nodup) (hH : Heap A (plug P (.node x l r))) :
  Heap (lowN A x k s) (plug P .nil) ∧ Heap (lowN A x k s) (.node x l r) := by
 have h1 := plug_parts hn
 have hs := heap_sub hH
 refine ⟨(heap_plug (t' := .nil) hH trivial (fun y hy => by cases hy)).frame (fun y hy => ?_), low_heap hB hx hs ?_⟩
 ·rw [low_c hB hx, if_neg]
  intro e
  rw [e, plug_ctx_mem] at hy
  rcases hy with hy | hy
  ·cases hy
  ·exact h1.1.2.2 hy
 ·have := (plug_nodes P (.node x l r)).nodup_iff.1 hn
  rw [List.nodup_append] at this
  exact this.1
section
variable {w : World} {B : LB} {F : List Nat} {gt ct : Nat} {A : NS} {st : Nat} {tr : Nat → BT} {S : TS} {rk : Nat → Nat} {tops : List Int}
def LowEnd (w' : World) (B : LB) (F : List Nat) (gt ct : Nat) (A' : NS) (st : Nat) (S : TS) (rk : Nat → Nat) (tops : List Int) (g : Nat) (X : List Nat) (T : BT) : Prop :=
 ∃ S' rk' tops', LfM w' B F gt ct A' st S' rk' tops' ∧ IsT S' (-1) T.root T ∧ RkOk rk' T ∧ (∀ y, y ∉ X → S.at S' y ∧ rk' y = rk y) ∧
  ∀ q, q < A'.hs.length → tops'.getD q 0 = if q = g then T.root else tops.getD q 0
set_option maxHeartbeats 8000000 in
theorem ldec_top (hM : LfM w B F gt ct A st S rk tops) {g x : Nat} {l r : BT} {k s : Int} (hk : -9223372036854775808 ≤ k ∧ k ≤ 9223372036854775807 ∧ 0 ≤ s ∧ s ≤ 18446744073709551615) (hB : lowB A x k s = true)
  (hg : (A.c x).i = g) (hg0 : 0 < g) (htop : tops.getD g 0 = x) (hxl : x < A.cs.length) (hT : IsT S (-1) (BT.node x l r).root (.node x l r)) (hR : RkOk rk (.node x l r)) :
  Calls Tryz.prog 237 #[.pointer (some ⟨B.n0, 0, none⟩), .int .i64 (x : Int), .agg #[.int .i64 k, .int .u64 s]] w fun e w' => e = .returned (.bool true) ∧ Upd (B.blk F gt) w w' ∧
   LowEnd w' B F gt ct (lowN A x k s) st S rk tops g (BT.node x l r).nodes (.node x l r) := by
 have hcs := low_len A x k s
 have hhs := low_hs A x k s
 have hin' : inN (lowN A x k s) (x : Int) = true := (inN_nat _ x).2 ⟨by rw [hcs]; exact hxl, by rw [low_i hB hxl, hg]; omega⟩
 have hi' : ((lowN A x k s).c x).i = g := by rw [low_i hB hxl, hg]
 have hux : S.u x = -1 := hT.2.1
 have u1 : Upd [] w (w.alloc (.cells #[.int .i64 k, .int .u64 s] 129)) := (Upd.refl _ _).alloc _
 have kp := fun W (hW : Upd [] (w.alloc (.cells #[.int .i64 k, .int .u64 s] 129)) W) => clower_yes (hM.cells.upd0 (u1.trans hW)) x k s hk hB
 have h0 := hM.h0
 have hbF : B.n0 ∉ F := hM.sepF.1
 have hlt := hM.lt
 have hsz : w.heap.size ∉ F := fun hm => by have := hlt w.heap.size (by simp [LB.blk, hm]); omega
 have r0 : ∀ W, Upd F (w.alloc (.cells #[.int .i64 k, .int .u64 s] 129)) W → W.cell? ⟨B.n0, 0, none⟩ = some (.pointer (some ⟨B.c, 0, none⟩)) := fun W hW => hW.kept (u1.was h0) hbF
 have r1 : ∀ W, Upd F (w.alloc (.cells #[.int .i64 k, .int .u64 s] 129)) W → W.cell? ⟨w.heap.size, 0, none⟩ = some (.int .i64 k) := fun W h => h.kept (by simp) hsz
 have r2 : ∀ W, Upd F (w.alloc (.cells #[.int .i64 k, .int .u64 s] 129)) W → W.cell? ⟨w.heap.size, 1, none⟩ = some (.int .u64 s) := fun W h => h.kept (by simp) hsz
 have HM := Lib.hid hM
 have HG := Lib.hid (And.intro htop (And.intro hT hR))
 clear hM hT hR htop hlt h0 hg
 generalize hA' : lowN A x k s = A' at *
 go_enter Tryz.func237, Tryz.ntmps237
 go_wp2
 go_region_held3 (Upd F (w.alloc (.cells #[.int .i64 k, .int .u64 s] 129))) (repeat (first | assumption | exact Upd.refl _ _ | refine Upd.drew ?_ | refine Upd.alloc ?_ _ | refine Upd.setCell ?_ ?_ _ | focus (left; simp; done) | focus (right; simp; done) | focus (right; simp; omega) | (apply Upd.trans; rotate_left; assumption)))
  ((go_at_call 147; (with_reducible refine (kp _ (by (repeat (first | assumption | exact Upd.refl _ _ | refine Upd.alloc ?_ _ | refine Upd.drew ?_ | refine Upd.drewN ?_ _ | refine Upd.setCell ?_ ?_ _ | focus (left; simp; done) | focus (right; simp; done) | focus (right; simp; omega))))).mono ?_); rintro e w1 ⟨rfl, hC1, hu1⟩; (have hu2 : Upd F (w.alloc (.cells #[.int .i64 k, .int .u64 s] 129)) w1 := by (repeat (first | assumption | exact Upd.refl _ _ | refine Upd.drew ?_ | refine Upd.alloc ?_ _ | refine Upd.setCell ?_ ?_ _ | focus (left; simp; done) | focus (right; simp; done) | focus (right; simp; omega) | (apply Upd.trans; rotate_left; assumption))))))
 have uF : Upd F w (w.alloc (.cells #[.int .i64 k, .int .u64 s] 129)) := u1.mono (by simp)
 have hM1 := HM.out.setC (uF.trans hu2) hC1 (fun y hy => Or.inl hy) hcs (by rw [hhs])
 have kh := chome_yes hM1.cells x hin'
 rw [hi'] at kh
 have g10 := hM1.h0
 have HM1 := Lib.hid hM1
 have u01 := Lib.hid (uF.trans hu2)
 clear r0 r1 r2 kp hu1 hu2 hC1 hM1 uF
 go_wp2_with (first
  | ((go_at_call 140; (with_reducible refine (kh).mono ?_)); rintro e w2 ⟨rfl, hC2, hu2⟩; (have g21 := (HM1.out.setC hu2 hC2 (fun y hy => Or.inl hy) rfl rfl).h1); (have kc := cut_no B.bt B.ba A'.cs.length S (x : Int) w2 (HM1.out.setC hu2 hC2 (fun y hy => Or.inl hy) rfl rfl).trees (by unfold upOf; rw [if_pos (by omega), Int.toNat_natCast]; exact hux)))
  | (go_at_call 244; (with_reducible refine (kc).mono ?_); rintro e w9 ⟨rfl, hw9⟩; rw [hw9]; clear hw9 w9)
  | fail)
 go_ret
 refine ⟨rfl, (u01.out.trans hu2).mono (fun y hy => by simp only [LB.blk, List.mem_cons]; simp [hy]), S, rk, tops, HM1.out.setC hu2 hC2 (fun y hy => Or.inl hy) rfl rfl, HG.out.2.1, HG.out.2.2, fun y _ => ⟨⟨rfl, rfl, rfl⟩, rfl⟩, fun q hq => ?_⟩
 by_cases e : q = g
 ·rw [if_pos e, e, HG.out.1]; rfl
 ·rw [if_neg e]
set_option maxHeartbeats 8000000 in
theorem ldec_in (hM : LfM w B F gt ct A st S rk tops) {g x : Nat} {f : Fr} {P : List Fr} {l r : BT} {k s : Int} (hk : -9223372036854775808 ≤ k ∧ k ≤ 9223372036854775807 ∧ 0 ≤ s ∧ s ≤ 18446744073709551615) (hB : lowB A x k s = true)
  (hg : (A.c x).i = g) (hg0 : 0 < g) (hgt : g < tops.length) (htop : tops.getD g 0 = (plug (f :: P) (.node x l r)).root) (hT : IsT S (-1) (plug (f :: P) (.node x l r)).root (plug (f :: P) (.node x l r))) (hn : (plug (f :: P) (.node x l r)).nodes.Nodup)
  (hR : RkOk rk (plug (f :: P) (.node x l r))) (hall : ∀ y, y ∈ (plug (f :: P) (.node x l r)).nodes → inN A (y : Int) = true) :
  Calls Tryz.prog 237 #[.pointer (some ⟨B.n0, 0, none⟩), .int .i64 (x : Int), .agg #[.int .i64 k, .int .u64 s]] w fun e w' => e = .returned (.bool true) ∧ Upd (B.blk F gt) w w' ∧
   LowEnd w' B F gt ct (lowN A x k s) (satS st (mergeT settleT (lowN A x k s) (fixT (f :: P) (.node x l r) .nil) (.node x l r)).2) S rk tops g (plug (f :: P) (.node x l r)).nodes (mergeT settleT (lowN A x k s) (fixT (f :: P) (.node x l r) .nil) (.node x l r)).1 := by
 have hcs := low_len A x k s
 have hhs := low_hs A x k s
 have hxl : x < A.cs.length := by
  have := hall x (plug_ctx_mem.2 (Or.inl (by simp [BT.nodes])))
  exact ((inN_nat A x).1 this).1
 have hin' : inN (lowN A x k s) (x : Int) = true := (inN_nat _ x).2 ⟨by rw [hcs]; exact hxl, by rw [low_i hB hxl, hg]; omega⟩
 have hi' : ((lowN A x k s).c x).i = g := by rw [low_i hB hxl, hg]
 have hall' : ∀ y, y ∈ (plug (f :: P) (.node x l r)).nodes → inN (lowN A x k s) (y : Int) = true := fun y hy => by
  have := (inN_nat A y).1 (hall y hy)
  exact (inN_nat _ y).2 ⟨by rw [hcs]; exact this.1, by rw [low_i hB hxl]; exact this.2⟩
 have hlt' : ∀ y, y ∈ (plug (f :: P) (.node x l r)).nodes → y < (lowN A x k s).cs.length := fun y hy => ((inN_nat _ y).1 (hall' y hy)).1
 have hpn := (plug_nodes (f :: P) (.node x l r)).nodup_iff.1 hn
 have hrr := (rk_plug _ _).1 hR
 rw [List.nodup_append] at hpn
 have hn0 : (plug (f :: P) .nil).nodes.Nodup := (plug_nodes (f :: P) .nil).nodup_iff.2 (by simpa [BT.nodes] using hpn.2.1)
 have hmem0 : ∀ y, y ∈ (plug (f :: P) .nil).nodes ↔ y ∈ ctxN (f :: P) := fun y => by rw [plug_ctx_mem]; simp [BT.nodes]
 have hfm : ∀ y, y ∈ (fixT (f :: P) (.node x l r) .nil).nodes ↔ y ∈ ctxN (f :: P) := fun y => by rw [(fix_nodes _ _ _).mem_iff]; exact hmem0 y
 have hfn : (fixT (f :: P) (.node x l r) .nil).nodes.Nodup := (fix_nodes _ _ _).nodup_iff.2 hn0
 have hXn : ((fixT (f :: P) (.node x l r) .nil).nodes ++ (BT.node x l r).nodes).Nodup := by
  rw [List.nodup_append]
  exact ⟨hfn, hpn.1, fun a ha b hb e => hpn.2.2 b hb a ((hfm a).1 ha) e.symm⟩
 have hXm : ∀ y, y ∈ (fixT (f :: P) (.node x l r) .nil).nodes ++ (BT.node x l r).nodes → y ∈ (plug (f :: P) (.node x l r)).nodes := fun y hy => by
  rw [List.mem_append, hfm] at hy
  rw [plug_ctx_mem]; exact hy.symm
 have hrt : (plug (f :: P) (.node x l r)).root = (fixT (f :: P) (.node x l r) .nil).root := by rw [fix_root]; exact plug_rootc _ _ _ _
 rw [hrt] at htop
 have u1 : Upd [] w (w.alloc (.cells #[.int .i64 k, .int .u64 s] 129)) := (Upd.refl _ _).alloc _
 have kp := fun W (hW : Upd [] (w.alloc (.cells #[.int .i64 k, .int .u64 s] 129)) W) => clower_yes (hM.cells.upd0 (u1.trans hW)) x k s hk hB
 have h0 := hM.h0
 have hbF : B.n0 ∉ F := hM.sepF.1
 have hlt := hM.lt
 have hsz : w.heap.size ∉ F := fun hm => by have := hlt w.heap.size (by simp [LB.blk, hm]); omega
 have r0 : ∀ W, Upd F (w.alloc (.cells #[.int .i64 k, .int .u64 s] 129)) W → W.cell? ⟨B.n0, 0, none⟩ = some (.pointer (some ⟨B.c, 0, none⟩)) := fun W hW => hW.kept (u1.was h0) hbF
 have r1 : ∀ W, Upd F (w.alloc (.cells #[.int .i64 k, .int .u64 s] 129)) W → W.cell? ⟨w.heap.size, 0, none⟩ = some (.int .i64 k) := fun W h => h.kept (by simp) hsz
 have r2 : ∀ W, Upd F (w.alloc (.cells #[.int .i64 k, .int .u64 s] 129)) W → W.cell? ⟨w.heap.size, 1, none⟩ = some (.int .u64 s) := fun W h => h.kept (by simp) hsz
 have HM := Lib.hid hM
 have HSE := Lib.hid (And.intro hM.sep hM.sepF)
 have HG := Lib.hid (And.intro hT (And.intro hn (And.intro hrr (And.intro hall' hlt'))))
 have HX := Lib.hid (And.intro hXn hXm)
 have H0 := Lib.hid (And.intro hn0 (And.intro hmem0 hfm))
 have hAh := hM.cells.ok.h1
 have hA := hM.cells.ok.c1
 clear hM hT hR hn hall hall' hlt' hpn hrr hlt h0 hg hXn hXm hn0 hmem0 hfm hfn hrt hbF hsz
 generalize hA' : lowN A x k s = A' at *
 go_enter Tryz.func237, Tryz.ntmps237
 go_wp2
 go_region_held3 (Upd F (w.alloc (.cells #[.int .i64 k, .int .u64 s] 129))) (repeat (first | assumption | exact Upd.refl _ _ | refine Upd.drew ?_ | refine Upd.alloc ?_ _ | refine Upd.setCell ?_ ?_ _ | focus (left; simp; done) | focus (right; simp; done) | focus (right; simp; omega) | (apply Upd.trans; rotate_left; assumption)))
  ((go_at_call 147; (with_reducible refine (kp _ (by (repeat (first | assumption | exact Upd.refl _ _ | refine Upd.alloc ?_ _ | refine Upd.drew ?_ | refine Upd.drewN ?_ _ | refine Upd.setCell ?_ ?_ _ | focus (left; simp; done) | focus (right; simp; done) | focus (right; simp; omega))))).mono ?_); rintro e w1 ⟨rfl, hC1, hu1⟩; (have hu2 : Upd F (w.alloc (.cells #[.int .i64 k, .int .u64 s] 129)) w1 := by (repeat (first | assumption | exact Upd.refl _ _ | refine Upd.drew ?_ | refine Upd.alloc ?_ _ | refine Upd.setCell ?_ ?_ _ | focus (left; simp; done) | focus (right; simp; done) | focus (right; simp; omega) | (apply Upd.trans; rotate_left; assumption))))))
 have uF : Upd F w (w.alloc (.cells #[.int .i64 k, .int .u64 s] 129)) := u1.mono (by simp)
 have hM1 := HM.out.setC (uF.trans hu2) hC1 (fun y hy => Or.inl hy) hcs (by rw [hhs])
 have kh := chome_yes hM1.cells x hin'
 rw [hi'] at kh
 have g10 := hM1.h0
 have HM1 := Lib.hid hM1
 have u01 := Lib.hid (uF.trans hu2)
 clear r0 r1 r2 kp hu1 hu2 hC1 hM1 uF
 have kcw : ∀ w2, Upd F w1 w2 → CellsAt w2 B.c F A' st → _ := fun w2 hu2 hC2 => tcut_any (HM1.out.setC hu2 hC2 (fun y hy => Or.inl hy) rfl rfl).trees (f := f) (P := P) (t := .node x l r) HG.out.1 HG.out.2.1 HG.out.2.2.2.2
 rw [show BT.root (.node x l r) = (x : Int) from rfl, show cutV f (.node x l r) = (f.1 : Int) by unfold cutV; rw [if_neg (by show ¬ (x : Int) = -1; omega)], tb_nat] at kcw
 go_wp2_with (first
  | ((go_at_call 140; (with_reducible refine (kh).mono ?_)); rintro e w2 ⟨rfl, hC2, hu2⟩; (have g21 := (HM1.out.setC hu2 hC2 (fun y hy => Or.inl hy) rfl rfl).h1); (have kc := kcw w2 hu2 hC2))
  | ((go_at_call 244; (with_reducible refine (kc).mono ?_)); rintro e w3 ⟨rfl, hu3, S3, hT3, hx3, hp3, hs3⟩; (have kmd := lfix_any ((HM1.out.setC hu2 hC2 (fun y hy => Or.inl hy) rfl rfl).setT hu3 hT3) (old := .node x l r) (m := .nil) hp3 trivial HG.out.2.2.1.2 H0.out.1 (fun y hy => HG.out.2.2.2.2 y (plug_ctx_mem.2 (Or.inr ((H0.out.2.1 y).1 hy))))))
  | ((go_at_call 245; (with_reducible refine (kmd).mono ?_)); rintro e w4 ⟨rfl, hu4, S4, rk4, hM4, hE4⟩)
  | fail)
 have hx4 : IsT S4 (-1) (x : Int) (.node x l r) := IsT.frame hx3 (fun y hy => (hE4.far y (fun hm => by
  have h1 := (H0.out.2.1 y).1 hm
  have h2 := (plug_nodes (f :: P) (.node x l r)).nodup_iff.1 HG.out.2.1
  rw [List.nodup_append] at h2
  exact h2.2.2 y hy y h1 rfl)).1)
 have hr4 : RkOk rk4 (.node x l r) := HG.out.2.2.1.1.frame (fun y hy => (hE4.far y (fun hm => by
  have h1 := (H0.out.2.1 y).1 hm
  have h2 := (plug_nodes (f :: P) (.node x l r)).nodup_iff.1 HG.out.2.1
  rw [List.nodup_append] at h2
  exact h2.2.2 y hy y h1 rfl)).2)
 have f4 : ∀ y, y ∉ (plug (f :: P) (.node x l r)).nodes → S.at S4 y ∧ rk4 y = rk y := fun y hy => by
  have a1 := hs3 y hy
  have a2 := hE4.far y (fun hm => hy (plug_ctx_mem.2 (Or.inr ((H0.out.2.1 y).1 hm))))
  exact ⟨at_trans a1 a2.1, a2.2⟩
 have u4 : Upd (B.blk F gt) w w4 := (((u01.out.trans hu2).mono (fun y hy => by simp only [LB.blk, List.mem_cons]; simp [hy])).trans (hu3.mono (by simp [LB.blk]))).trans (hu4.mono (by simp [LB.blk]))
 have hE := Lib.hid (And.intro hE4 f4)
 have hcF := HM.out.cF
 have km := fun W (hW : Upd [] w4 W) => lmerge_any (hM4.upd0 hW) (tb := .node x l r) hE4.isT hx4 HX.out.1 (fun y hy => HG.out.2.2.2.1 y (HX.out.2 y hy)) hE4.isR hr4
 rw [show BT.root (.node x l r) = (x : Int) from rfl] at km
 have d4 := hM4.topI.cell g hgt
 rw [htop] at d4
 have f4' := hM4.topI.free g
 have h3 := hM4.h3
 have hgl := hM4.lt gt (by simp [LB.blk])
 have hn0g : B.n0 ∉ [B.c, B.ba, B.br, gt] := by
  have a1 := HSE.out
  have a2 : B.n0 ≠ B.c := fun e => a1.2.1 (by rw [e]; exact hcF)
  simp; omega
 have hgc : gt ∉ [B.c, B.ba, B.br] := by
  have a1 := HSE.out
  have a2 : gt ≠ B.c := fun e => a1.2.2.2.2.2 (by rw [e]; exact hcF)
  simp; omega
 have r3 : ∀ W, Upd [B.c, B.ba, B.br, gt] w4 W → W.cell? ⟨B.n0, 3, none⟩ = some (.slice (some ⟨gt, 0, none⟩) tops.length ct) := fun W hW => hW.kept h3 hn0g
 have r4 : ∀ W, Upd [B.c, B.ba, B.br] w4 W → W.cell? ⟨gt, g, none⟩ = some (.int .i64 (fixT (f :: P) (.node x l r) .nil).root) ∧ W.frozen? ⟨gt, g, none⟩ = false := fun W hW => ⟨hW.kept d4 hgc, hW.keptF d4 hgc f4'⟩
 have hib1 : (0 : Int) ≤ (g : Int) := by omega
 have hib2 : (g : Int) < (tops.length : Int) := by omega
 have HF : Hid (∀ (W : World) (S' : TS) (rk' : Nat → Nat) (st' : Nat), (∀ y, y ∉ (fixT (f :: P) (.node x l r) .nil).nodes ++ (BT.node x l r).nodes → S4.at S' y ∧ rk' y = rk4 y) → ∀ y, y ∉ (plug (f :: P) (.node x l r)).nodes → S.at S' y ∧ rk' y = rk y) := fun W S' rk' st' a y hy => by
  have b1 := hE.out.2 y hy
  have b2 := a y (fun hm => hy (HX.out.2 y hm))
  exact ⟨at_trans b1.1 b2.1, b2.2.trans b1.2⟩
 clear hE f4 hE4 hx4 hr4 hs3 hp3 hx3 hT3
 generalize hmt : (mergeT settleT A' (fixT (f :: P) (.node x l r) .nil) (.node x l r)).1 = mt at *
 generalize hmk : (mergeT settleT A' (fixT (f :: P) (.node x l r) .nil) (.node x l r)).2 = mk at *
 generalize hth : fixT (f :: P) (.node x l r) .nil = th at *
 clear hM4 f4' h3
 have q3 := r3 _ (Upd.refl _ _)
 have q4 := (r4 _ (Upd.refl _ _)).1
 go_region_law
  (first
   | (go_simp; go_at_call 246; (with_reducible refine (km _ (by (repeat (first | assumption | exact Upd.refl _ _ | refine Upd.alloc ?_ _ | refine Upd.drew ?_ | refine Upd.drewN ?_ _ | refine Upd.setCell ?_ ?_ _ | focus (left; simp; done) | focus (right; simp; done) | focus (right; simp; omega))))).mono ?_); rintro e w5 ⟨rfl, hu5a, S5, rk5, hM5, hT5, hr5, hs5⟩; (have hu5 : Upd [B.c, B.ba, B.br] w4 w5 := Upd.trans (by (repeat (first | assumption | exact Upd.refl _ _ | refine Upd.alloc ?_ _ | refine Upd.drew ?_ | refine Upd.drewN ?_ _ | refine Upd.setCell ?_ ?_ _ | focus (left; simp; done) | focus (right; simp; done) | focus (right; simp; omega)))) hu5a); (have hu6 : Upd [B.c, B.ba, B.br, gt] w4 w5 := hu5.mono (by simp)); obtain ⟨d5, f5⟩ := r4 _ hu5; (have q5 := r3 _ hu6)))
 all_goals
  go_wp2
  go_ret
  have v3 : Upd (B.blk F gt) w w5 := u4.trans (hu5.mono (fun y hy => by
   simp only [List.mem_cons, List.not_mem_nil, or_false] at hy
   simp only [LB.blk, List.mem_cons]
   rcases hy with rfl | rfl | rfl
   ·simp [hcF]
   ·simp
   ·simp))
  subst hth hmt hmk
  refine ⟨rfl, v3.setCell (Or.inl (by simp [LB.blk])) _, S5, rk5, _, hM5.setTop g _, hT5, hr5, HF.out w5 S5 rk5 0 hs5, fun q hq => ?_⟩
  by_cases e : q = g
  ·rw [if_pos e, e, List.getD_eq_getElem?_getD, List.getElem?_set, if_pos rfl, if_pos hgt]; rfl
  ·rw [if_neg e, List.getD_eq_getElem?_getD, List.getElem?_set, if_neg (fun h => e h.symm), ← List.getD_eq_getElem?_getD]
theorem ldec_yes (h : LfAt w B F gt ct A st tr) (g x : Nat) (hx : x ∈ (tr g).nodes) (k s : Int) (hk : -9223372036854775808 ≤ k ∧ k ≤ 9223372036854775807 ∧ 0 ≤ s ∧ s ≤ 18446744073709551615) (hB : lowB A x k s = true) :
  Calls Tryz.prog 237 #[.pointer (some ⟨B.n0, 0, none⟩), .int .i64 (x : Int), .agg #[.int .i64 k, .int .u64 s]] w fun e w' => e = .returned (.bool true) ∧ Upd (B.blk F gt) w w' ∧
   LfAt w' B F gt ct (lowN A x k s) (satS st (llowT (lowN A x k s) (tr g) x).2) (fun q => if q = g then (llowT (lowN A x k s) (tr g) x).1 else tr q) := by
 obtain ⟨S, rk, tops, hM, hI, hL, hR⟩ := h
 have hm := (hI.mem g x).1 hx
 have e := pathOf_eq hx
 unfold llowT
 generalize (pathOf (tr g) x).1 = P at *
 generalize (pathOf (tr g) x).2.1 = l at *
 generalize (pathOf (tr g) x).2.2 = r at *
 have hgt : g < tops.length := by rw [hM.topn]; have := (hM.cells.ok.nat x hm.2.1); omega
 have hgh : g < A.hs.length := by rw [← hM.topn]; exact hgt
 have hT := hI.isT g
 have hn := hI.nd g
 have hH := hI.heap g
 have hRg := hR g
 have hLg := hL g
 have htp := hI.top g hgh
 rw [e] at hT hn hH hRg hLg htp
 obtain ⟨d1, d2⟩ := low_tree hB hm.2.1 hn hH
 obtain ⟨l1, l2⟩ := (lean_plug _ _).1 hLg
 have fin : ∀ w' T st', LowEnd w' B F gt ct (lowN A x k s) st' S rk tops g (tr g).nodes T → T.nodes.Perm (tr g).nodes → Heap (lowN A x k s) T → Lean T → LfAt w' B F gt ct (lowN A x k s) st' (fun q => if q = g then T else tr q) := fun w' T st' hE hp hh hl => by
  obtain ⟨S', rk', tops', q1, q2, q3, q4, q6⟩ := hE
  refine ⟨S', rk', tops', q1, hI.low hB hx q2 hp hh (fun y hy => (q4 y hy).1) (fun q hq => q6 q (by rw [low_hs]; exact hq)), fun q => ?_, fun q => ?_⟩
  ·show Lean (if q = g then _ else _)
   split
   ·exact hl
   ·exact hL q
  ·show RkOk rk' (if q = g then _ else _)
   split
   ·exact q3
   ·rename_i hq
    refine (hR q).frame (fun y hy => (q4 y (fun hm' => ?_)).2)
    have c1 := (hI.mem g y).1 hm'
    have c2 := (hI.mem q y).1 hy
    omega
 cases P with
 | nil =>
  refine (ldec_top hM hk hB hm.2.2 hm.1 htp hm.2.1 hT hRg).mono ?_
  rintro e' w' ⟨rfl, hu, hE⟩
  have e2 : tr g = .node x l r := e
  refine ⟨rfl, hu, ?_⟩
  show LfAt w' B F gt ct (lowN A x k s) (satS st 0) (fun q => if q = g then tr g else tr q)
  rw [satS_zero hM.cells.st62]
  refine fin w' _ st (by rw [e2]; exact hE) (List.Perm.refl _) (by rw [e2]; exact d2) (hL g)
 | cons f P2 =>
  refine (ldec_in hM hk hB hm.2.2 hm.1 hgt htp hT hn hRg (fun y hy => ?_)).mono ?_
  ·rw [← e] at hy
   have := (hI.mem g y).1 hy
   exact (inN_nat A y).2 ⟨this.2.1, by omega⟩
  ·rintro e' w' ⟨rfl, hu, hE⟩
   refine ⟨rfl, hu, ?_⟩
   have hpn := (plug_nodes (f :: P2) (.node x l r)).nodup_iff.1 hn
   obtain ⟨mp, mh⟩ := merge_ok settle_ok (lowN A x k s) _ (fixT (f :: P2) (.node x l r) .nil) (.node x l r) (Nat.le_refl _)
   have pn : ((fixT (f :: P2) (.node x l r) .nil).nodes ++ (BT.node x l r).nodes).Perm (tr g).nodes := by
    rw [e]
    refine (((fix_nodes _ _ _).trans (plug_nodes (f :: P2) .nil)).append_right _).trans ?_
    refine List.perm_append_comm.trans ?_
    simp only [BT.nodes, List.nil_append]
    exact (plug_nodes (f :: P2) (.node x l r)).symm
   refine fin w' _ _ (by rw [e]; exact hE) (mp.trans pn) (mh (fix_heap _ _ _ d1) d2 (pn.nodup_iff.2 (hI.nd g))) (merge_lean _ _ _ _ (Nat.le_refl _) (fix_lean _ _ _ trivial l2) l1)
end
end Go.Proofs.YtklibcncmbofpaaGreat
namespace Go.Proofs.YtklibcncmbofpaaGreat
open Go Go.RowKit
section
variable {w : World} {B : LB} {F : List Nat} {gt ct : Nat} {A : NS} {st : Nat} {tr : Nat → BT} {S : TS} {rk : Nat → Nat} {tops : List Int}
theorem lextract_some (h : LfAt w B F gt ct A st tr) (g : Nat) (hn : 0 < lenN A g) :
  Calls Tryz.prog 239 #[.pointer (some ⟨B.n0, 0, none⟩), .int .i64 (g : Int)] w fun e w' => ∃ m : Nat, minN A g = some m ∧ e = .returned (.tuple #[.int .i64 (m : Int), .bool true]) ∧ Upd (B.blk F gt) w w' ∧
   LfAt w' B F gt ct (dropN A m) (satS st (ldelT A (tr g) m).2) (fun q => if q = g then (ldelT A (tr g) m).1 else tr q) := by
 have k := lmin_some h g hn
 have h' := h
 obtain ⟨S, rk, tops, hM, hI, hL, hR⟩ := h'
 have kd := fun m hm => ldelete_yes h g m hm
 have hroot : ∀ m : Nat, (tr g).root = m → m ∈ (tr g).nodes := fun m hm => by
  have hne : tr g ≠ .nil := fun e => by rw [e] at hm; have : (-1 : Int) = m := hm; omega
  have := (root_mem hne).1
  rw [hm] at this; simpa using this
 clear hM hI hL hR h
 go_enter Tryz.func239, Tryz.ntmps239
 go_wp2_with (first
  | ((go_at_call 243; (with_reducible refine (k).mono ?_)); rintro e w1 ⟨m, hm1, hm2, rfl, rfl⟩; (have kd2 := kd m (hroot m hm2)))
  | ((go_at_call 238; (with_reducible refine (kd2).mono ?_)); rintro e w2 ⟨rfl, hu2, hL2⟩)
  | fail)
 go_ret2
 exact ⟨m, hm1, rfl, hu2, hL2⟩
end
end Go.Proofs.YtklibcncmbofpaaGreat
namespace Go.Proofs.YtklibcncmbofpaaGreat
open Go Go.RowKit
theorem lf_via_has (p c : Nat) : ∀ W : World, W.cell? ⟨p, 0, none⟩ = some (.pointer (some ⟨c, 0, none⟩)) → (method 429 186 (.pointer (some ⟨p, 0, none⟩)) "Has").run Tryz.prog W = .ok (139, .pointer (some ⟨c, 0, none⟩)) W := (by intro W h; unfold method; have hm : ∃ m, (Array.find? (fun x => x.name == "Has") Tryz.t186.methods) = some m ∧ m.path.toList = [⟨231, 0, true⟩] ∧ m.func = some (139, true) ∧ m.path.isEmpty = false := ⟨(Array.find? (fun x => x.name == "Has") Tryz.t186.methods).get!, by kernel_rfl, by kernel_rfl, by kernel_rfl, by kernel_rfl⟩; obtain ⟨m, h1, h2, h3, h4⟩ := hm; go_simp; simp only [follow, Place.get]; go_simp; (try unfold receiverAt); (try simp only [Place.get]); (try go_simp))
theorem lf_via_entry (p c : Nat) : ∀ W : World, W.cell? ⟨p, 0, none⟩ = some (.pointer (some ⟨c, 0, none⟩)) → (method 429 186 (.pointer (some ⟨p, 0, none⟩)) "Entry").run Tryz.prog W = .ok (137, .pointer (some ⟨c, 0, none⟩)) W := (by intro W h; unfold method; have hm : ∃ m, (Array.find? (fun x => x.name == "Entry") Tryz.t186.methods) = some m ∧ m.path.toList = [⟨231, 0, true⟩] ∧ m.func = some (137, true) ∧ m.path.isEmpty = false := ⟨(Array.find? (fun x => x.name == "Entry") Tryz.t186.methods).get!, by kernel_rfl, by kernel_rfl, by kernel_rfl, by kernel_rfl⟩; obtain ⟨m, h1, h2, h3, h4⟩ := hm; go_simp; simp only [follow, Place.get]; go_simp; (try unfold receiverAt); (try simp only [Place.get]); (try go_simp))
theorem lf_make (p : Nat) : ∀ W : World, (method 429 186 (.pointer (some ⟨p, 0, none⟩)) "Make").run Tryz.prog W = .ok (241, .pointer (some ⟨p, 0, none⟩)) W := fun _ => by kernel_rfl
theorem lf_insert (p : Nat) : ∀ W : World, (method 429 186 (.pointer (some ⟨p, 0, none⟩)) "Insert").run Tryz.prog W = .ok (240, .pointer (some ⟨p, 0, none⟩)) W := fun _ => by kernel_rfl
theorem lf_min (p : Nat) : ∀ W : World, (method 429 186 (.pointer (some ⟨p, 0, none⟩)) "Min").run Tryz.prog W = .ok (243, .pointer (some ⟨p, 0, none⟩)) W := fun _ => by kernel_rfl
theorem lf_extract (p : Nat) : ∀ W : World, (method 429 186 (.pointer (some ⟨p, 0, none⟩)) "Extract").run Tryz.prog W = .ok (239, .pointer (some ⟨p, 0, none⟩)) W := fun _ => by kernel_rfl
theorem lf_decrease (p : Nat) : ∀ W : World, (method 429 186 (.pointer (some ⟨p, 0, none⟩)) "Decrease").run Tryz.prog W = .ok (237, .pointer (some ⟨p, 0, none⟩)) W := fun _ => by kernel_rfl
def LfQ (w : World) (p : Nat) (F : List Nat) (A : NS) : Prop := ∃ B F1 gt ct st tr, p = B.n0 ∧ F = B.blk F1 gt ∧ LfAt w B F1 gt ct A st tr
def nestLfQ : NestQ where
 ty := 186
 at_ := LfQ
 upd := fun h hu hS => by
  obtain ⟨B, F1, gt, ct, st, tr, rfl, rfl, hL⟩ := h
  exact ⟨B, F1, gt, ct, st, tr, rfl, rfl, hL.upd hu hS⟩
 lt := fun h => by
  obtain ⟨B, F1, gt, ct, st, tr, rfl, rfl, S, rk, tops, hM, -⟩ := h
  exact hM.lt
 ok := fun h => by
  obtain ⟨B, F1, gt, ct, st, tr, rfl, rfl, S, rk, tops, hM, -⟩ := h
  exact hM.cells.ok
 make := fun {w p F A} h => by
  obtain ⟨B, F1, gt, ct, st, tr, rfl, rfl, hL⟩ := h
  refine mth_direct 241 (fun _ _ => by kernel_rfl) (lf_make _) (fun W hW => ?_)
  have hLW := hL.upd0 hW
  by_cases hl : 65536 < A.hs.length
  ·have e1 : makeV A = 0 := by unfold makeV; rw [if_pos hl]
   have e2 : makeN A = A := by unfold makeN; rw [if_pos hl]
   rw [e1, e2]
   refine (lmake_no hLW hl).mono ?_
   rintro e w' ⟨rfl, F', ⟨F2, rfl, hA⟩, hu, hf⟩
   exact ⟨rfl, _, ⟨B, F2, gt, ct, st, tr, rfl, rfl, hA⟩, hu, hf⟩
  ·have e1 : makeV A = A.hs.length := by unfold makeV; rw [if_neg hl]
   rw [e1]
   refine (lmake_yes hLW hl).mono ?_
   rintro e w' ⟨rfl, F', ⟨F2, gt2, ct2, rfl, hA⟩, hu, hf⟩
   exact ⟨rfl, _, ⟨B, F2, gt2, ct2, st, tr, rfl, rfl, hA⟩, hu, hf⟩
 insert := fun {w p F A} g y k s hk hB h => by
  obtain ⟨B, F1, gt, ct, st, tr, rfl, rfl, hL⟩ := h
  refine mth_direct 240 (fun _ _ => by kernel_rfl) (lf_insert _) (fun W hW => ?_)
  refine (linsert_yes (hL.upd0 hW) g y k s hk hB).mono ?_
  rintro e w' ⟨rfl, hu, hL2⟩
  exact ⟨rfl, Goes.stay ⟨B, F1, gt, ct, _, _, rfl, rfl, hL2⟩ hu⟩
 min := fun {w p F A} y hB h => by
  obtain ⟨B, F1, gt, ct, st, tr, rfl, rfl, hL⟩ := h
  refine mth_direct 243 (fun _ _ => by kernel_rfl) (lf_min _) (fun W hW => ?_)
  have hLW := hL.upd0 hW
  have hok : A.Ok := by obtain ⟨S, rk, tops, hM, -⟩ := hL; exact hM.cells.ok
  by_cases hl : lenN A (y : Int) = 0
  ·rw [minN_none_iff.2 hl]
   have h4 := (hasN_iff _ _).1 hB
   have h5 := hok.h1
   refine (lmin_none hLW y (by omega) hl).mono ?_
   rintro e w' ⟨rfl, rfl⟩
   exact ⟨rfl, Goes.stay ⟨B, F1, gt, ct, st, tr, rfl, rfl, hLW⟩ (Upd.refl _ _)⟩
  ·refine (lmin_some hLW y (by omega)).mono ?_
   rintro e w' ⟨m, hm, -, rfl, rfl⟩
   rw [hm]
   exact ⟨rfl, Goes.stay ⟨B, F1, gt, ct, st, tr, rfl, rfl, hLW⟩ (Upd.refl _ _)⟩
 extract := fun {w p F A} y m hm h => by
  obtain ⟨B, F1, gt, ct, st, tr, rfl, rfl, hL⟩ := h
  refine mth_direct 239 (fun _ _ => by kernel_rfl) (lf_extract _) (fun W hW => ?_)
  have hl : ¬ lenN A (y : Int) = 0 := fun e => by rw [minN_none_iff.2 e] at hm; cases hm
  refine (lextract_some (hL.upd0 hW) y (by omega)).mono ?_
  rintro e w' ⟨m', hm', rfl, hu, hL2⟩
  rw [hm] at hm'
  cases hm'
  exact ⟨rfl, Goes.stay ⟨B, F1, gt, ct, _, _, rfl, rfl, hL2⟩ hu⟩
 decrease := fun {w p F A} y k s hk hB h => by
  obtain ⟨B, F1, gt, ct, st, tr, rfl, rfl, hL⟩ := h
  refine mth_direct 237 (fun _ _ => by kernel_rfl) (lf_decrease _) (fun W hW => ?_)
  have hLW := hL.upd0 hW
  have hin := low_in hB
  have hx : y ∈ (tr (A.c y).i.toNat).nodes := by
   obtain ⟨S, rk, tops, hM, hI, -⟩ := hLW
   have := (inN_nat _ _).1 hin
   exact (hI.mem _ y).2 ⟨by omega, this.1, by omega⟩
  refine (ldec_yes hLW _ y hx k s hk hB).mono ?_
  rintro e w' ⟨rfl, hu, hL2⟩
  exact ⟨rfl, Goes.stay ⟨B, F1, gt, ct, _, _, rfl, rfl, hL2⟩ hu⟩
 has := fun x h => by
  obtain ⟨B, F1, gt, ct, st, tr, rfl, rfl, S, rk, tops, hM, -⟩ := h
  exact mth_via 139 (fun _ _ => by kernel_rfl) hM.h0 (lf_via_has _ _) (fun W hW => chas_any (hM.upd0 hW).cells x)
 entry := fun {w p F A} x h => by
  obtain ⟨B, F1, gt, ct, st, tr, rfl, rfl, S, rk, tops, hM, -⟩ := h
  refine mth_via 137 (fun _ _ => by kernel_rfl) hM.h0 (lf_via_entry _ _) (fun W hW => ?_)
  cases hin : inN A x with
  | false => simpa using centry_no (hM.upd0 hW).cells x hin
  | true =>
   obtain ⟨y, rfl⟩ := in_nat hin
   simpa using centry_yes (hM.upd0 hW).cells y hin
theorem madeLf_any (p : Nat) (w : World) : Calls Tryz.prog 99 #[.pointer (some ⟨p, 0, none⟩), .int .i64 0] w fun e w' => e = .returned (.tuple #[.iface 186 (.pointer (some ⟨p, 0, none⟩)), .int .i64 0]) ∧ w' = w := by
 go_enter Tryz.func99, Tryz.ntmps99
 go_wp2
 go_ret2
 exact ⟨rfl, rfl⟩
theorem opens_lf (n : Nat) (hn : n ≤ 65536) : Opens nestLfQ 6 0 n := by
 intro w
 have kn := fun W => lnew_yes n W hn
 have km := madeLf_any
 have hty : nestLfQ.ty = 186 := rfl
 have hat : ∀ w' B F gt, LfAt w' B F gt 1 (NS.new n) 0 (fun _ => .nil) → nestLfQ.at_ w' B.n0 (B.blk F gt) (NS.new n) := fun w' B F gt h => ⟨B, F, gt, _, _, _, rfl, rfl, h⟩
 generalize nestLfQ = K at *
 rw [hty]
 go_enter Tryz.func81, Tryz.ntmps81
 go_wp2_with (first
  | ((go_at_call 100; (with_reducible refine (kn _).mono ?_)); rintro e w1 ⟨B, F, gt, rfl, hS, hu1, hf⟩)
  | ((go_at_call 99; (with_reducible refine (km _ _).mono ?_)); rintro e w2 ⟨rfl, rfl⟩)
  | fail)
 go_ret2
 exact ⟨B.n0, B.blk F gt, rfl, hat _ _ _ _ hS, Upd.trans (by (repeat (first | assumption | exact Upd.refl _ _ | refine Upd.alloc ?_ _ | refine Upd.drew ?_ | refine Upd.drewN ?_ _ | refine Upd.setCell ?_ ?_ _ | focus (left; simp; done) | focus (right; simp; done) | focus (right; simp; omega)))) hu1, fun x hx => by have := hf x hx; simp at this; omega⟩
end Go.Proofs.YtklibcncmbofpaaGreat
