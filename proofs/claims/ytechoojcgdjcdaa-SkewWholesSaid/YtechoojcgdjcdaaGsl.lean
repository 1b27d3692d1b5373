/-
  Skew heaps: Delete. Conditions: those of each lemma.
-/
import Derived.Test.YtechoojcgdjcdaaGsk
import Derived.Test.YtechoojcgdjcdaaGj
import Derived.Test.YtechoojcgdjcdaaGh
set_option linter.unusedVariables false
set_option linter.unusedSimpArgs false
namespace Go.Proofs.Ytechoojcgdjcdaa
open Go Go.RowKit

noncomputable def sdelT (A : NS) (t : BT) (x : Nat) : BT × Nat := (plug (pathOf t x).1 (mergeT upS A (pathOf t x).2.1 (pathOf t x).2.2).1, (mergeT upS A (pathOf t x).2.1 (pathOf t x).2.2).2)
section
variable {w : World} {B : SB} {F : List Nat} {A : NS} {st : Nat} {tr : Nat → BT} {S : TS} {f : Int → Option Int}
theorem sdelete_no (h : SkAt w B F A st tr) (x : Int) (hx : inN A x = false) :
    Calls Try.prog 81 #[.pointer (some ⟨B.n0, 0, none⟩), .int .i64 x] w fun e w' => e = .returned (.bool false) ∧ w' = w := by
  obtain ⟨S, hM, -⟩ := h
  have k := chome_no hM.cells x hx
  have h0 := hM.h0
  clear hM
  go_enter Try.func81, Try.ntmps81
  go_wp2_with (first | (go_at_call 54; (with_reducible refine (k).mono ?_); rintro e w9 ⟨rfl, hw9⟩; rw [hw9]; clear hw9 w9) | fail)
  go_ret
  exact ⟨rfl, rfl⟩
/-- On which side of that above it a thing hangs, as the code asks it. -/
theorem tside2_any {bt ba n : Nat} (h : TreesAt w bt ba n S) {fr : Fr} {P : List Fr} {x : Nat} {l r : BT} (hT : IsT S (-1) (plug (fr :: P) (.node x l r)).root (plug (fr :: P) (.node x l r))) (hn : (plug (fr :: P) (.node x l r)).nodes.Nodup) (hf : fr.1 < n) :
    ∃ (r' : Int) (b : Bool), ((b = true ∧ (r' == (x : Int)) = fr.2.1) ∨ (b = false ∧ fr.2.1 = false)) ∧ Calls Try.prog 87 #[.pointer (some ⟨bt, 0, none⟩), .int .i64 (fr.1 : Int)] w fun e w' => e = .returned (.tuple #[.int .i64 r', .bool b]) ∧ ∃ k, w' = w.drewN k := by
  obtain ⟨z, hz, k⟩ := tside_any h hT hn hf
  by_cases e : z = -1
  · refine ⟨tv z, tb z, Or.inr ⟨by rw [e]; rfl, ?_⟩, k⟩
    rw [← hz, e]; first | (simp; done) | (simp; omega)
  · exact ⟨tv z, tb z, Or.inl ⟨by unfold tb; simp [e], by unfold tv; rw [if_neg e]; exact hz⟩, k⟩
def SdelEnd (w' : World) (B : SB) (F : List Nat) (A : NS) (st : Nat) (S : TS) (f : Int → Option Int) (g x : Nat) (P : List Fr) (X : List Nat) (T : BT) : Prop :=
  ∃ S', SkM w' B F (dropN A x) st S' (fun y => if P = [] ∧ y = (g : Int) then (if T.root = -1 then none else some T.root) else f y) ∧ IsT S' (-1) T.root T ∧ (∀ y, y ∉ X → S.at S' y) ∧ (S'.l x = -1 ∧ S'.r x = -1 ∧ S'.u x = -1)
set_option maxHeartbeats 8000000 in
theorem sdelete_core (hM : SkM w B F A st S f) {g x : Nat} {P : List Fr} {l r : BT} (hin : inN A (x : Int) = true) (hg : (A.c x).i = g) (hgq : 1 ≤ g ∧ g ≤ 65536)
    (hT : IsT S (-1) (plug P (.node x l r)).root (plug P (.node x l r))) (hn : (plug P (.node x l r)).nodes.Nodup) (hall : ∀ y, y ∈ (plug P (.node x l r)).nodes → inN A (y : Int) = true) :
    Calls Try.prog 81 #[.pointer (some ⟨B.n0, 0, none⟩), .int .i64 (x : Int)] w fun e w' => e = .returned (.bool true) ∧ Upd (B.blk F) w w' ∧
      SdelEnd w' B F A (satS st (mergeT upS A l r).2) S f g x P (plug P (.node x l r)).nodes (plug P (mergeT upS A l r).1) := by
  have hxl := ((inN_nat A x).1 hin).1
  have hlt : ∀ y, y ∈ (plug P (.node x l r)).nodes → y < A.cs.length := fun y hy => ((inN_nat A y).1 (hall y hy)).1
  have kh := chome_yes hM.cells x hin
  rw [hg] at kh
  have h0 := hM.h0
  have HM := Lib.hid hM
  have hpp := plug_parts hn
  have mp := (merge_ok upS_ok A _ l r (Nat.le_refl _)).1
  have hblk := Lib.hid hM.lt
  have hcF := hM.cF
  have hsep := Lib.hid (And.intro hM.sep hM.sepF)
  have HT := Lib.hid (And.intro hT (And.intro hn (And.intro hall hlt)))
  have HP := Lib.hid hpp
  have hA := hM.cells.ok.c1
  obtain ⟨m, k, hmk⟩ : ∃ m k, mergeT upS A l r = (m, k) := ⟨_, _, rfl⟩
  rw [hmk] at mp
  rw [hmk]
  have hmlt : ∀ y, y ∈ m.nodes → y < A.cs.length := fun y hy => hlt y (plug_ctx_mem.2 (Or.inl (by
    have := mp.mem_iff.1 hy
    simp only [BT.nodes]; exact List.mem_cons_of_mem _ this)))
  have hmr : -1 ≤ m.root ∧ m.root ≤ 9223372036854775807 := by
    refine ⟨root_ge m, ?_⟩
    by_cases e : m = .nil
    · rw [e]; show (-1 : Int) ≤ _; omega
    · have h1 := root_mem e
      have h2 := hmlt _ h1.1
      omega
  have HMP := Lib.hid mp
  have HMK := Lib.hid hmk
  have HIN := Lib.hid hin
  have HML := Lib.hid hmlt
  clear hM hT hn hall hlt hpp mp hmk hin hg hmlt
  go_enter Try.func81, Try.ntmps81
  go_wp2_with (first | ((go_at_call 54; (with_reducible refine (kh).mono ?_)); rintro e w1 ⟨rfl, hC1, hu1⟩; (have g1 := (HM.out.setC hu1 hC1 (fun y hy => Or.inl hy) rfl).h1)) | fail)
  have hM1 := HM.out.setC hu1 hC1 (fun y hy => Or.inl hy) rfl
  have kl := fun W (hW : Upd [] w1 W) => tleft_any (hM1.upd0 hW).trees ((isT_plug _ _).1 HT.out.1).1 hxl
  have klo := fun W (hW : Upd [] w1 W) => sloose_any (hM1.upd0 hW) (fr := (x, false, r)) (P := P) (t := l) HT.out.1 HT.out.2.1 HT.out.2.2.2
  have hn0 : B.n0 ∉ [B.c, B.ba] := by
    have a1 := hsep.out
    have a2 : B.n0 ≠ B.c := fun e => a1.2.1 (by rw [e]; exact hcF)
    simp; omega
  have r1 : ∀ W, Upd [B.c, B.ba] w1 W → W.cell? ⟨B.n0, 1, none⟩ = some (.pointer (some ⟨B.bt, 0, none⟩)) := fun W hW => hW.kept g1 hn0
  have hn3 : (plug ((x, true, .nil) :: P) r).nodes.Nodup := by
    have e := (plug_nodes P (.node x .nil r))
    refine e.nodup_iff.2 ?_
    obtain ⟨⟨a1, a2, a3⟩, a4, a5, a6, a7⟩ := HP.out
    simp only [BT.nodes, List.nil_append, List.nodup_append] at a4 ⊢
    refine ⟨List.nodup_cons.2 ⟨a2, a4.2.1⟩, a7, fun y hy z hz e => ?_⟩
    subst e
    rcases List.mem_cons.1 hy with e | hy
    · exact a3 (by rw [← e]; exact hz)
    · exact a6 y hy hz
  have hsub3 : ∀ y, y ∈ (plug ((x, true, .nil) :: P) r).nodes → y ∈ (plug P (.node x l r)).nodes := fun y hy => by
    have h' : y ∈ (plug P (.node x .nil r)).nodes := hy
    rw [plug_ctx_mem] at h' ⊢
    simp only [BT.nodes, List.nil_append, List.mem_cons, List.mem_append] at h' ⊢
    rcases h' with (h' | h') | h'
    · exact Or.inl (Or.inl h')
    · exact Or.inl (Or.inr (Or.inr h'))
    · exact Or.inr h'
  have hl3' : ∀ y, y ∈ l.nodes → y ∉ (plug ((x, true, .nil) :: P) r).nodes := fun y hy hm => by
    obtain ⟨⟨a1, a2, a3⟩, a4, a5, a6, a7⟩ := HP.out
    rw [List.nodup_append] at a4
    have h' : y ∈ (plug P (.node x .nil r)).nodes := hm
    rw [plug_ctx_mem] at h'
    simp only [BT.nodes, List.nil_append, List.mem_cons] at h'
    rcases h' with (h' | h') | h'
    · exact a1 (by rw [← h']; exact hy)
    · exact a4.2.2 y hy y h' rfl
    · exact a5 y hy h'
  have H3 := Lib.hid (And.intro hn3 (And.intro hsub3 hl3'))
  clear hM1 hC1 kh h0 hn3 hsub3 hl3'
  go_region_held3 (Upd [B.c, B.ba] w1) (repeat (first | assumption | exact Upd.refl _ _ | refine Upd.drew ?_ | refine Upd.alloc ?_ _ | refine Upd.setCell ?_ ?_ _ | focus (left; simp; done) | focus (right; simp; done) | focus (right; simp; omega) | (apply Upd.trans; rotate_left; assumption)))
    (first
      | ((go_at_call 102; (with_reducible refine (kl _ (by (repeat (first | assumption | exact Upd.refl _ _ | refine Upd.drew ?_ | refine Upd.alloc ?_ _ | (apply Upd.trans; rotate_left; assumption))))).mono ?_)); rintro e w2 ⟨rfl, k2, hw2⟩; (have hq2 : Upd [] w1 w2 := (by rw [hw2]; refine Upd.drewN ?_ _; (repeat (first | assumption | exact Upd.refl _ _ | refine Upd.drew ?_ | refine Upd.alloc ?_ _ | (apply Upd.trans; rotate_left; assumption))))); clear hw2; (have hv2 : Upd [B.c, B.ba] w1 w2 := hq2.mono (by simp)))
      | ((go_at_call 100; (with_reducible refine (klo _ (by (repeat (first | assumption | exact Upd.refl _ _ | refine Upd.drew ?_ | refine Upd.alloc ?_ _ | (apply Upd.trans; rotate_left; assumption))))).mono ?_)); rintro e w3 ⟨rfl, hu3, S3, hM3, hl3, hp3, hs3⟩; (have hv3 : Upd [B.c, B.ba] w1 w3 := Upd.trans (by (repeat (first | assumption | exact Upd.refl _ _ | refine Upd.drew ?_ | refine Upd.alloc ?_ _ | refine Upd.setCell ?_ ?_ _ | focus (left; simp; done) | focus (right; simp; done) | focus (right; simp; omega) | (apply Upd.trans; rotate_left; assumption)))) (hu3.mono (by simp))); (have hp3' : IsT S3 (-1) (plug ((x, true, .nil) :: P) r).root (plug ((x, true, .nil) :: P) r) := hp3); (have kr := fun W (hW : Upd [] w3 W) => tright_any (hM3.upd0 hW).trees ((isT_plug P (.node x .nil r)).1 hp3').1 hxl); (have klo2 := fun W (hW : Upd [] w3 W) => sloose_any (hM3.upd0 hW) (fr := (x, true, .nil)) (P := P) (t := r) hp3' H3.out.1 (fun y hy => HT.out.2.2.2 y (H3.out.2.1 y hy))))
      | ((go_at_call 87; (with_reducible refine (kr _ (by (repeat (first | assumption | exact Upd.refl _ _ | refine Upd.drew ?_ | refine Upd.alloc ?_ _ | (apply Upd.trans; rotate_left; assumption))))).mono ?_)); rintro e w4 ⟨rfl, k4, hw4⟩; (have hq4 : Upd [] w3 w4 := (by rw [hw4]; refine Upd.drewN ?_ _; (repeat (first | assumption | exact Upd.refl _ _ | refine Upd.drew ?_ | refine Upd.alloc ?_ _ | (apply Upd.trans; rotate_left; assumption))))); clear hw4; (have hv4 : Upd [B.c, B.ba] w1 w4 := hv3.trans (hq4.mono (by simp))))
      | ((go_at_call 100; (with_reducible refine (klo2 _ (by (repeat (first | assumption | exact Upd.refl _ _ | refine Upd.drew ?_ | refine Upd.alloc ?_ _ | (apply Upd.trans; rotate_left; assumption))))).mono ?_)); rintro e w5 ⟨rfl, hu5, S5, hM5, hr5, hp5, hs5⟩; (have hv5 : Upd [B.c, B.ba] w1 w5 := Upd.trans (by (repeat (first | assumption | exact Upd.refl _ _ | refine Upd.drew ?_ | refine Upd.alloc ?_ _ | refine Upd.setCell ?_ ?_ _ | focus (left; simp; done) | focus (right; simp; done) | focus (right; simp; omega) | (apply Upd.trans; rotate_left; assumption)))) (hu5.mono (by simp))); (have km := fun W (hW : Upd [] w5 W) => smerge_any (hM5.upd0 hW) (hl3.frame (fun y hy => hs5 y (H3.out.2.2 y hy))) hr5 HP.out.2.1 (fun y hy => HT.out.2.2.1 y (plug_ctx_mem.2 (Or.inl (by simp only [BT.nodes]; exact List.mem_cons_of_mem _ hy))))); rw [HMK.out] at km)
      | ((go_at_call 78; (with_reducible refine (km _ (by (repeat (first | assumption | exact Upd.refl _ _ | refine Upd.drew ?_ | refine Upd.alloc ?_ _ | (apply Upd.trans; rotate_left; assumption))))).mono ?_)); rintro e w6 ⟨rfl, hu6, S6, hM6, hT6, hs6⟩; (have hv6 : Upd [B.c, B.ba] w1 w6 := Upd.trans (by (repeat (first | assumption | exact Upd.refl _ _ | refine Upd.drew ?_ | refine Upd.alloc ?_ _ | refine Upd.setCell ?_ ?_ _ | focus (left; simp; done) | focus (right; simp; done) | focus (right; simp; omega) | (apply Upd.trans; rotate_left; assumption)))) hu6)))
  have hp6 : IsT S6 (-1) (plug P (.node x .nil .nil)).root (plug P (.node x .nil .nil)) := IsT.frame (show IsT S5 (-1) (plug P (.node x .nil .nil)).root (plug P (.node x .nil .nil)) from hp5) (fun y hy => hs6 y (fun hm => by
    obtain ⟨⟨a1, a2, a3⟩, a4, a5, a6, a7⟩ := HP.out
    rw [plug_ctx_mem] at hy
    simp only [BT.nodes, List.nil_append, List.mem_cons, List.not_mem_nil, or_false] at hy
    rw [List.mem_append] at hm
    rcases hy with e | hy
    · subst e; rcases hm with hm | hm; exact a1 hm; exact a2 hm
    · rcases hm with hm | hm; exact a5 y hm hy; exact a6 y hm hy))
  have f6 : ∀ y, y ∉ (plug P (.node x l r)).nodes → S.at S6 y := fun y hy => by
    have h1 : y ∉ l.nodes ++ r.nodes := fun hm => hy (plug_ctx_mem.2 (Or.inl (by simp only [BT.nodes]; exact List.mem_cons_of_mem _ hm)))
    exact at_trans (at_trans (hs3 y hy) (hs5 y (fun hm => hy (H3.out.2.1 y hm)))) (hs6 y h1)
  have u6 : Upd (B.blk F) w w6 := (hu1.mono (fun y hy => by simp only [SB.blk, List.mem_cons]; simp [hy])).trans (hv6.mono (fun y hy => by
      simp only [List.mem_cons, List.not_mem_nil, or_false] at hy
      simp only [SB.blk, List.mem_cons]
      rcases hy with rfl | rfl
      · simp [hcF]
      · simp))
  have ku := fun W (hW : Upd [] w6 W) => tup_any (hM6.upd0 hW).trees hp6 hxl
  have q61 := fun W (hW : Upd [] w6 W) => (hM6.upd0 hW).h1
  have HM6 := Lib.hid hM6
  have H6 := Lib.hid (And.intro hp6 (And.intro f6 hT6))
  have hmm : Hid (∀ y, y ∈ m.nodes → y ∉ ctxN P ∧ y ≠ x) := fun y hy => by
    obtain ⟨⟨a1, a2, a3⟩, a4, a5, a6, a7⟩ := HP.out
    have h1 := HMP.out.mem_iff.1 hy
    rw [List.mem_append] at h1
    rcases h1 with h1 | h1
    · exact ⟨a5 y h1, fun e => a1 (by rw [← e]; exact h1)⟩
    · exact ⟨a6 y h1, fun e => a2 (by rw [← e]; exact h1)⟩
  have hmx : Hid (∀ y, y ∈ m.nodes → y ∈ (plug P (.node x l r)).nodes) := fun y hy => plug_ctx_mem.2 (Or.inl (by
    have h1 := HMP.out.mem_iff.1 hy
    simp only [BT.nodes, List.mem_cons]; exact Or.inr h1))
  have hmn : Hid m.nodes.Nodup := HMP.out.nodup_iff.2 HP.out.2.1
  have H31 := q61 w6 (Upd.refl _ _)
  have H32 := (hM6.upd0 ((Upd.refl [] w6).drew)).h1
  clear hM6 hp6 f6 hT6 hs6 hs5 hs3 hp5 hp3 hp3' hl3 hr5 hM5 hM3 km klo klo2 kr kl r1 hu1 g1 hv6 hv5 hv4 hv3 hv2 hq2 hq4 hu3 hu5 hu6 H31 H32
  obtain ⟨wX, hwX, uX⟩ : ∃ wX, wX = w6 ∧ Upd [] w6 wX := ⟨w6, rfl, Upd.refl _ _⟩
  cases P with
  | nil =>
    rw [show upP ([] : List Fr) = -1 from rfl, show tv (-1) = 0 from rfl, show tb (-1) = false from rfl] at ku
    have g61 := q61 w6 (Upd.refl _ _)
    clear q61
    go_wp2_with (first
      | ((go_at_call 103; (with_reducible refine (ku _ (by (repeat (first | assumption | exact Upd.refl _ _ | refine Upd.drew ?_ | refine Upd.alloc ?_ _ | (apply Upd.trans; rotate_left; assumption))))).mono ?_)); rintro e w7 ⟨rfl, kk, hw7⟩; (have u7 : Upd [] w6 w7 := (by rw [hw7]; refine Upd.drewN ?_ _; (repeat (first | assumption | exact Upd.refl _ _ | refine Upd.drew ?_ | refine Upd.alloc ?_ _ | (apply Upd.trans; rotate_left; assumption))))); clear hw7; (have kc := scrown_any (HM6.out.upd0 u7) g m.root hgq hmr))
      | ((go_at_call 77; (with_reducible refine (kc).mono ?_)); rintro e w8 ⟨rfl, hu8, hM8⟩; (have g80 := hM8.h0); (have kd := cdrop_yes hM8.cells x HIN.out))
      | ((go_at_call 104; (with_reducible refine (kd).mono ?_)); rintro e w9 ⟨rfl, hC9, hu9⟩)
      | fail)
    go_ret
    obtain ⟨b1, b2, b4⟩ := H6.out
    have bx := ((isT_plug _ _).1 b1).1
    refine ⟨rfl, ((u6.trans (u7.mono (by simp))).trans (hu8.mono (by simp [SB.blk]))).trans (hu9.mono (fun y hy => by simp only [SB.blk, List.mem_cons]; simp [hy])), S6, (hM8.setC hu9 hC9 (fun y hy => Or.inl hy) (drop_len _ _)).ext (fun y => ?_), b4, b2, ⟨bx.2.2.1.root, bx.2.2.2.root, bx.2.1⟩⟩
    by_cases e : y = (g : Int)
    · rw [if_pos (show ([] : List Fr) = [] ∧ y = (g : Int) from ⟨rfl, e⟩), if_pos e]; rfl
    · rw [if_neg e, if_neg (show ¬ (([] : List Fr) = [] ∧ y = (g : Int)) from fun h => e h.2)]
  | cons fr P2 =>
    rw [show upP (fr :: P2) = (fr.1 : Int) from rfl, tv_nat, tb_nat] at ku
    have hfl : fr.1 < A.cs.length := HT.out.2.2.2 fr.1 (plug_ctx_mem.2 (Or.inr (by simp [ctxN])))
    have hn5 : (plug (fr :: P2) (.node x .nil .nil)).nodes.Nodup := by
      refine (plug_nodes (fr :: P2) (.node x .nil .nil)).nodup_iff.2 ?_
      obtain ⟨⟨a1, a2, a3⟩, a4, a5, a6, a7⟩ := HP.out
      simp only [BT.nodes, List.nil_append, List.singleton_append, List.nodup_cons]
      exact ⟨a3, a7⟩
    have hlt5 : ∀ y, y ∈ (plug (fr :: P2) (.node x .nil .nil)).nodes → y ∈ (plug (fr :: P2) (.node x l r)).nodes := fun y hy => by
      rw [plug_ctx_mem] at hy ⊢
      simp only [BT.nodes, List.nil_append, List.mem_cons, List.not_mem_nil, or_false] at hy
      rcases hy with hy | hy
      · exact Or.inl (by simp [BT.nodes, hy])
      · exact Or.inr hy
    have ksd := fun W (hW : Upd [] w6 W) => tside2_any (HM6.out.upd0 hW).trees H6.out.1 hn5 hfl
    have kcw := fun W (hW : Upd [] w6 W) => tcut_any (HM6.out.upd0 hW).trees (f := fr) (P := P2) (t := .node x .nil .nil) H6.out.1 hn5 (fun y hy => HT.out.2.2.2 y (hlt5 y hy))
    rw [show BT.root (.node x .nil .nil) = (x : Int) from rfl] at kcw
    generalize hcv : cutV fr (.node x .nil .nil) = cv at kcw
    generalize hcb : tb (x : Int) = cb at kcw
    have HN5 := Lib.hid (And.intro hn5 hlt5)
    have g61 := q61 w6 (Upd.refl _ _)
    clear hn5 hlt5 hcv hcb
    go_wp2_with (first
      | ((go_at_call 103; (with_reducible refine (ku _ (by (repeat (first | assumption | exact Upd.refl _ _ | refine Upd.drew ?_ | refine Upd.alloc ?_ _ | (apply Upd.trans; rotate_left; assumption))))).mono ?_)); rintro e w7 ⟨rfl, kk, hw7⟩; (have u7 : Upd [] w6 w7 := (by rw [hw7]; refine Upd.drewN ?_ _; (repeat (first | assumption | exact Upd.refl _ _ | refine Upd.drew ?_ | refine Upd.alloc ?_ _ | (apply Upd.trans; rotate_left; assumption))))); clear hw7; (have g71 := q61 w7 u7))
      | fail)
    obtain ⟨r', bb, hbb, kr⟩ := ksd w7 u7
    have hmz' : (m = .nil ∧ (m.root != -1) = false) ∨ (m ≠ .nil ∧ (m.root != -1) = true) := by
      by_cases e : m = .nil
      · exact Or.inl ⟨e, by rw [e]; rfl⟩
      · exact Or.inr ⟨e, by have := (root_mem e).2; simp; omega⟩
    have HQ61 := Lib.hid q61
    clear ksd ku q61
    rcases hmz' with ⟨hmz, hmb⟩ | ⟨hmz, hmb⟩
    · have HMZ := Lib.hid hmz
      clear hmz
      rcases hbb with ⟨rfl, hb2⟩ | ⟨rfl, hb2⟩
      all_goals
        go_wp2_with (first
          | ((go_at_call 87; (with_reducible refine (kr).mono ?_)); rintro e w8 ⟨rfl, k8, hw8⟩; (have u8 : Upd [] w6 w8 := (by rw [hw8]; exact u7.drewN k8)); clear hw8; (have g81 := HQ61.out w8 u8); (have kc := kcw w8 u8))
          | ((go_at_call 88; (with_reducible refine (kc).mono ?_)); rintro e w9 ⟨rfl, hu9, S9, hT9, hx9, hp9, hs9⟩; (have g90 := ((HM6.out.upd0 u8).setT hu9 hT9).h0); (have kd := cdrop_yes ((HM6.out.upd0 u8).setT hu9 hT9).cells x HIN.out))
          | ((go_at_call 104; (with_reducible refine (kd).mono ?_)); rintro e w10 ⟨rfl, hC10, hu10⟩)
          | fail)
        go_ret
        have hz := HMZ.out
        subst hz
        refine ⟨rfl, ((u6.trans (u8.mono (by simp))).trans (hu9.mono (by simp [SB.blk]))).trans (hu10.mono (fun y hy => by simp only [SB.blk, List.mem_cons]; simp [hy])), S9, (((HM6.out.upd0 u8).setT hu9 hT9).setC hu10 hC10 (fun y hy => Or.inl hy) (drop_len _ _)).ext (fun y => by rw [if_neg (by simp)]), hp9, fun y hy => at_trans (H6.out.2.1 y hy) (hs9 y (fun hm => hy (HN5.out.2 y hm))), ⟨hx9.2.2.1.root, hx9.2.2.2.root, hx9.2.1⟩⟩
    · have HMZ := Lib.hid hmz
      have hxm : ∀ y, y ∈ m.nodes → y ∉ (plug (fr :: P2) (.node x .nil .nil)).nodes := fun y hy hm => by
        have b1 := hmm.out y hy
        rw [plug_ctx_mem] at hm
        simp only [BT.nodes, List.nil_append, List.mem_cons, List.not_mem_nil, or_false] at hm
        rcases hm with hm | hm
        · exact b1.2 hm
        · exact b1.1 hm
      have hnd : (m.nodes ++ ctxN (fr :: P2)).Nodup := by
        rw [List.nodup_append]
        exact ⟨hmn.out, HP.out.2.2.2.2, fun a ha b hb e => (hmm.out a ha).1 (by rw [e]; exact hb)⟩
      have hsm : ∀ y, y ∈ m.nodes ++ ctxN (fr :: P2) → y ∈ (plug (fr :: P2) (.node x l r)).nodes := fun y hy => by
        rw [List.mem_append] at hy
        rcases hy with hy | hy
        · exact hmx.out y hy
        · exact plug_ctx_mem.2 (Or.inr hy)
      have HXM := Lib.hid (And.intro hxm (And.intro hnd hsm))
      clear hmz hxm hnd hsm
      rcases hbb with ⟨rfl, hb2⟩ | ⟨rfl, hb2⟩
      all_goals
        go_wp2_with (first
          | ((go_at_call 87; (with_reducible refine (kr).mono ?_)); rintro e w8 ⟨rfl, k8, hw8⟩; (have u8 : Upd [] w6 w8 := (by rw [hw8]; exact u7.drewN k8)); clear hw8; (have g81 := HQ61.out w8 u8); (have kc := kcw w8 u8))
          | ((go_at_call 88; (with_reducible refine (kc).mono ?_)); rintro e w9 ⟨rfl, hu9, S9, hT9, hx9, hp9, hs9⟩; (have g91 := ((HM6.out.upd0 u8).setT hu9 hT9).h1); (have khg := thang_any hT9 hp9 (H6.out.2.2.frame (fun y hy => hs9 y (HXM.out.1 y hy))) HMZ.out HXM.out.2.1 (fun y hy => HT.out.2.2.2 y (HXM.out.2.2 y hy))); (try rw [hb2] at khg))
          | ((go_at_call 89; (with_reducible refine (khg).mono ?_)); rintro e w9b ⟨rfl, hu9b, S9b, hT9b, hp9b, hs9b⟩; (have g90 := (((HM6.out.upd0 u8).setT hu9 hT9).setT hu9b hT9b).h0); (have kd := cdrop_yes (((HM6.out.upd0 u8).setT hu9 hT9).setT hu9b hT9b).cells x HIN.out))
          | ((go_at_call 104; (with_reducible refine (kd).mono ?_)); rintro e w10 ⟨rfl, hC10, hu10⟩)
          | fail)
        go_ret
        have hxn : x ∉ m.nodes ++ ctxN (fr :: P2) := fun hm => by
          rw [List.mem_append] at hm
          rcases hm with hm | hm
          · exact (hmm.out x hm).2 rfl
          · exact HP.out.1.2.2 hm
        have a3 := hs9b x hxn
        refine ⟨rfl, (((u6.trans (u8.mono (by simp))).trans (hu9.mono (by simp [SB.blk]))).trans (hu9b.mono (by simp [SB.blk]))).trans (hu10.mono (fun y hy => by simp only [SB.blk, List.mem_cons]; simp [hy])), S9b, ((((HM6.out.upd0 u8).setT hu9 hT9).setT hu9b hT9b).setC hu10 hC10 (fun y hy => Or.inl hy) (drop_len _ _)).ext (fun y => by rw [if_neg (by simp)]), hp9b, fun y hy => at_trans (at_trans (H6.out.2.1 y hy) (hs9 y (fun hm => hy (HN5.out.2 y hm)))) (hs9b y (fun hm => hy (HXM.out.2.2 y hm))), ⟨a3.1.trans hx9.2.2.1.root, a3.2.1.trans hx9.2.2.2.root, a3.2.2.trans hx9.2.1⟩⟩
theorem sdelete_yes (h : SkAt w B F A st tr) (g x : Nat) (hx : x ∈ (tr g).nodes) :
    Calls Try.prog 81 #[.pointer (some ⟨B.n0, 0, none⟩), .int .i64 (x : Int)] w fun e w' => e = .returned (.bool true) ∧ Upd (B.blk F) w w' ∧
      SkAt w' B F (dropN A x) (satS st (sdelT A (tr g) x).2) (fun q => if q = g then (sdelT A (tr g) x).1 else tr q) := by
  obtain ⟨S, hM, hI⟩ := h
  have hm := (hI.mem g x).1 hx
  have hin : inN A (x : Int) = true := (inN_nat A x).2 ⟨hm.2.1, by omega⟩
  have e := pathOf_eq hx
  unfold sdelT
  generalize (pathOf (tr g) x).1 = P at *
  generalize (pathOf (tr g) x).2.1 = l at *
  generalize (pathOf (tr g) x).2.2 = r at *
  have hq : 1 ≤ g ∧ g < A.hs.length := by have := hM.cells.ok.nat x hm.2.1; omega
  have hb65 := hM.cells.ok.h1
  have hT := hI.isT g
  have hn := hI.nd g
  have hH := hI.heap g
  rw [e] at hT hn hH
  obtain ⟨d1, d2, d3⟩ := del_tree upS_ok hn hH
  refine (sdelete_core hM hin hm.2.2 (by omega) hT hn (fun y hy => ?_)).mono ?_
  · rw [← e] at hy
    have := (hI.mem g y).1 hy
    exact (inN_nat A y).2 ⟨this.2.1, by omega⟩
  · rintro e' w' ⟨rfl, hu, S', q1, q2, q4, q5⟩
    refine ⟨rfl, hu, S', q1.ext (fun y => ?_), (TrI.del (tops' := topsL (dropN A x) (fun q => if q = g then (plug P (mergeT upS A l r).1) else tr q)) hI hx q2 ?_ d2 (fun y hy => q4 y (by rw [← e]; exact hy)) q5 (fun q hq' => ?_))⟩
    · rw [← topF_set (A' := dropN A x) (tr := tr) (t := plug P (mergeT upS A l r).1) (by rw [drop_hs]) hq y]
      by_cases ey : y = (g : Int)
      · rw [if_pos ey]
        by_cases hp : P = []
        · rw [if_pos ⟨hp, ey⟩]
        · rw [if_neg (fun h => hp h.1), ey]
          cases P with
          | nil => exact absurd rfl hp
          | cons f P2 =>
            unfold topF
            rw [if_pos (by omega), Int.toNat_natCast, e, plug_rootc f P2 (.node x l r) (mergeT upS A l r).1]
      · rw [if_neg ey, if_neg (fun h => ey h.2)]
    · rw [e]; exact d1
    · have hq'' : q < (dropN A (x : Int)).hs.length := by rw [drop_hs]; exact hq'
      unfold topsL
      rw [List.getD_eq_getElem?_getD, List.getElem?_map, List.getElem?_range hq'']
      show (if q = g then plug P (mergeT upS A l r).1 else tr q).root = _
      by_cases eq : q = g
      · rw [if_pos eq, if_pos eq]
      · rw [if_neg eq, if_neg eq]
        rw [List.getD_eq_getElem?_getD, List.getElem?_map, List.getElem?_range hq']; rfl
theorem sextract_none (h : SkAt w B F A st tr) (x : Int) (hx : -9223372036854775808 ≤ x ∧ x ≤ 9223372036854775807) (hn : lenN A x = 0) :
    Calls Try.prog 59 #[.pointer (some ⟨B.n0, 0, none⟩), .int .i64 x] w fun e w' => e = .returned (.tuple #[.int .i64 0, .bool false]) ∧ w' = w := by
  have k := smin_none h x hx hn
  go_enter Try.func59, Try.ntmps59
  go_wp2_with (first | (go_at_call 80; (with_reducible refine (k).mono ?_); rintro e w9 ⟨rfl, hw9⟩; rw [hw9]; clear hw9 w9) | fail)
  go_ret2
  exact ⟨rfl, rfl⟩
theorem sextract_some (h : SkAt w B F A st tr) (g : Nat) (hn : 0 < lenN A g) :
    Calls Try.prog 59 #[.pointer (some ⟨B.n0, 0, none⟩), .int .i64 (g : Int)] w fun e w' => ∃ m : Nat, minN A g = some m ∧ e = .returned (.tuple #[.int .i64 (m : Int), .bool true]) ∧ Upd (B.blk F) w w' ∧
      SkAt w' B F (dropN A m) (satS st (sdelT A (tr g) m).2) (fun q => if q = g then (sdelT A (tr g) m).1 else tr q) := by
  have k := smin_some h g hn
  have kd := fun m hm => sdelete_yes h g m hm
  have hroot : ∀ m : Nat, (tr g).root = m → m ∈ (tr g).nodes := fun m hm => by
    have hne : tr g ≠ .nil := fun e => by rw [e] at hm; have : (-1 : Int) = m := hm; omega
    have := (root_mem hne).1
    rw [hm] at this; simpa using this
  clear h
  go_enter Try.func59, Try.ntmps59
  go_wp2_with (first
    | ((go_at_call 80; (with_reducible refine (k).mono ?_)); rintro e w1 ⟨m, hm1, hm2, rfl, rfl⟩; (have kd2 := kd m (hroot m hm2)))
    | ((go_at_call 81; (with_reducible refine (kd2).mono ?_)); rintro e w2 ⟨rfl, hu2, hL2⟩)
    | fail)
  go_ret2
  exact ⟨m, hm1, rfl, hu2, hL2⟩
end
end Go.Proofs.Ytechoojcgdjcdaa

set_option linter.unusedVariables false
set_option linter.unusedSimpArgs false
namespace Go.Proofs.Ytechoojcgdjcdaa
open Go Go.RowKit

noncomputable def slowT (A' : NS) (t : BT) (x : Nat) : BT × Nat :=
  match (pathOf t x).1 with
  | [] => (t, 0)
  | _ :: _ => mergeT upS A' (plug (pathOf t x).1 .nil) (.node x (pathOf t x).2.1 (pathOf t x).2.2)
section
variable {w : World} {B : SB} {F : List Nat} {A : NS} {st : Nat} {tr : Nat → BT} {S : TS} {f : Int → Option Int}
set_option maxHeartbeats 4000000 in
theorem sdec_no (h : SkAt w B F A st tr) (x k s : Int) (hB : lowB A x k s = false) :
    Calls Try.prog 144 #[.pointer (some ⟨B.n0, 0, none⟩), .int .i64 x, .agg #[.int .i64 k, .int .u64 s]] w fun e w' => e = .returned (.bool false) ∧ Upd [] w w' := by
  obtain ⟨S, hM, -⟩ := h
  have u1 : Upd [] w (w.alloc (.cells #[.int .i64 k, .int .u64 s] 59)) := (Upd.refl _ _).alloc _
  have kp := fun W (hW : Upd [] (w.alloc (.cells #[.int .i64 k, .int .u64 s] 59)) W) => clower_no (hM.cells.upd0 (u1.trans hW)) x k s hB
  have h0 := hM.h0
  have r0 : ∀ W, Upd [] (w.alloc (.cells #[.int .i64 k, .int .u64 s] 59)) W → W.cell? ⟨B.n0, 0, none⟩ = some (.pointer (some ⟨B.c, 0, none⟩)) := fun W hW => (u1.trans hW).was h0
  have r1 : ∀ W, Upd [] (w.alloc (.cells #[.int .i64 k, .int .u64 s] 59)) W → W.cell? ⟨w.heap.size, 0, none⟩ = some (.int .i64 k) := fun W h => h.was (by simp)
  have r2 : ∀ W, Upd [] (w.alloc (.cells #[.int .i64 k, .int .u64 s] 59)) W → W.cell? ⟨w.heap.size, 1, none⟩ = some (.int .u64 s) := fun W h => h.was (by simp)
  clear hM h0
  go_enter Try.func144, Try.ntmps144
  go_wp2
  go_region_held3 (Upd [] (w.alloc (.cells #[.int .i64 k, .int .u64 s] 59))) (repeat (first | assumption | exact Upd.refl _ _ | refine Upd.drew ?_ | refine Upd.alloc ?_ _ | (apply Upd.trans; rotate_left; assumption)))
    ((go_at_call 138; (with_reducible refine (kp _ (by (repeat (first | assumption | exact Upd.refl _ _ | refine Upd.alloc ?_ _ | refine Upd.drew ?_ | refine Upd.drewN ?_ _ | refine Upd.setCell ?_ ?_ _ | focus (left; simp; done) | focus (right; simp; done) | focus (right; simp; omega))))).mono ?_); rintro e w1 ⟨rfl, hu1⟩; (have hu2 : Upd [] (w.alloc (.cells #[.int .i64 k, .int .u64 s] 59)) w1 := by (repeat (first | assumption | exact Upd.refl _ _ | refine Upd.drew ?_ | refine Upd.alloc ?_ _ | (apply Upd.trans; rotate_left; assumption))))))
  go_wp2
  go_ret
  exact ⟨rfl, u1.trans hu2⟩
def SlowEnd (w' : World) (B : SB) (F : List Nat) (A' : NS) (st : Nat) (S : TS) (f : Int → Option Int) (g : Nat) (X : List Nat) (T : BT) : Prop :=
  ∃ S' f', SkM w' B F A' st S' f' ∧ IsT S' (-1) T.root T ∧ (∀ y, y ∉ X → S.at S' y) ∧ ∀ y, f' y = if y = (g : Int) then (if T.root = -1 then none else some T.root) else f y
set_option maxHeartbeats 8000000 in
theorem sdec_top (hM : SkM w B F A st S f) {g x : Nat} {l r : BT} {k s : Int} (hk : -9223372036854775808 ≤ k ∧ k ≤ 9223372036854775807 ∧ 0 ≤ s ∧ s ≤ 18446744073709551615) (hB : lowB A x k s = true)
    (hg : (A.c x).i = g) (hg0 : 0 < g) (htop : f (g : Int) = some (x : Int)) (hxl : x < A.cs.length) (hT : IsT S (-1) (BT.node x l r).root (.node x l r)) :
    Calls Try.prog 144 #[.pointer (some ⟨B.n0, 0, none⟩), .int .i64 (x : Int), .agg #[.int .i64 k, .int .u64 s]] w fun e w' => e = .returned (.bool true) ∧ Upd (B.blk F) w w' ∧
      SlowEnd w' B F (lowN A x k s) st S f g (BT.node x l r).nodes (.node x l r) := by
  have hcs := low_len A x k s
  have hin' : inN (lowN A x k s) (x : Int) = true := (inN_nat _ x).2 ⟨by rw [hcs]; exact hxl, by rw [low_i hB hxl, hg]; omega⟩
  have hi' : ((lowN A x k s).c x).i = g := by rw [low_i hB hxl, hg]
  have hux : S.u x = -1 := hT.2.1
  have u1 : Upd [] w (w.alloc (.cells #[.int .i64 k, .int .u64 s] 59)) := (Upd.refl _ _).alloc _
  have kp := fun W (hW : Upd [] (w.alloc (.cells #[.int .i64 k, .int .u64 s] 59)) W) => clower_yes (hM.cells.upd0 (u1.trans hW)) x k s hk hB
  have h0 := hM.h0
  have hbF : B.n0 ∉ F := hM.sepF.1
  have hlt := hM.lt
  have hsz : w.heap.size ∉ F := fun hm => by have := hlt w.heap.size (by simp [SB.blk, hm]); omega
  have r0 : ∀ W, Upd F (w.alloc (.cells #[.int .i64 k, .int .u64 s] 59)) W → W.cell? ⟨B.n0, 0, none⟩ = some (.pointer (some ⟨B.c, 0, none⟩)) := fun W hW => hW.kept (u1.was h0) hbF
  have r1 : ∀ W, Upd F (w.alloc (.cells #[.int .i64 k, .int .u64 s] 59)) W → W.cell? ⟨w.heap.size, 0, none⟩ = some (.int .i64 k) := fun W h => h.kept (by simp) hsz
  have r2 : ∀ W, Upd F (w.alloc (.cells #[.int .i64 k, .int .u64 s] 59)) W → W.cell? ⟨w.heap.size, 1, none⟩ = some (.int .u64 s) := fun W h => h.kept (by simp) hsz
  have HM := Lib.hid hM
  have HG := Lib.hid (And.intro htop hT)
  clear hM hT htop hlt h0 hg
  generalize hA' : lowN A x k s = A' at *
  go_enter Try.func144, Try.ntmps144
  go_wp2
  go_region_held3 (Upd F (w.alloc (.cells #[.int .i64 k, .int .u64 s] 59))) (repeat (first | assumption | exact Upd.refl _ _ | refine Upd.drew ?_ | refine Upd.alloc ?_ _ | refine Upd.setCell ?_ ?_ _ | focus (left; simp; done) | focus (right; simp; done) | focus (right; simp; omega) | (apply Upd.trans; rotate_left; assumption)))
    ((go_at_call 138; (with_reducible refine (kp _ (by (repeat (first | assumption | exact Upd.refl _ _ | refine Upd.alloc ?_ _ | refine Upd.drew ?_ | refine Upd.drewN ?_ _ | refine Upd.setCell ?_ ?_ _ | focus (left; simp; done) | focus (right; simp; done) | focus (right; simp; omega))))).mono ?_); rintro e w1 ⟨rfl, hC1, hu1⟩; (have hu2 : Upd F (w.alloc (.cells #[.int .i64 k, .int .u64 s] 59)) w1 := by (repeat (first | assumption | exact Upd.refl _ _ | refine Upd.drew ?_ | refine Upd.alloc ?_ _ | refine Upd.setCell ?_ ?_ _ | focus (left; simp; done) | focus (right; simp; done) | focus (right; simp; omega) | (apply Upd.trans; rotate_left; assumption))))))
  have uF : Upd F w (w.alloc (.cells #[.int .i64 k, .int .u64 s] 59)) := u1.mono (by simp)
  have hM1 := HM.out.setC (uF.trans hu2) hC1 (fun y hy => Or.inl hy) hcs
  have kh := chome_yes hM1.cells x hin'
  rw [hi'] at kh
  have g10 := hM1.h0
  have HM1 := Lib.hid hM1
  have u01 := Lib.hid (uF.trans hu2)
  clear r0 r1 r2 kp hu1 hu2 hC1 hM1 uF
  go_wp2_with (first
    | ((go_at_call 54; (with_reducible refine (kh).mono ?_)); rintro e w2 ⟨rfl, hC2, hu2⟩; (have g21 := (HM1.out.setC hu2 hC2 (fun y hy => Or.inl hy) rfl).h1); (have kc := cut_no B.bt B.ba A'.cs.length S (x : Int) w2 (HM1.out.setC hu2 hC2 (fun y hy => Or.inl hy) rfl).trees (by unfold upOf; rw [if_pos (by omega), Int.toNat_natCast]; exact hux)))
    | (go_at_call 88; (with_reducible refine (kc).mono ?_); rintro e w9 ⟨rfl, hw9⟩; rw [hw9]; clear hw9 w9)
    | fail)
  go_ret
  refine ⟨rfl, (u01.out.trans hu2).mono (fun y hy => by simp only [SB.blk, List.mem_cons]; simp [hy]), S, f, HM1.out.setC hu2 hC2 (fun y hy => Or.inl hy) rfl, HG.out.2, fun y _ => ⟨rfl, rfl, rfl⟩, fun y => ?_⟩
  by_cases e : y = (g : Int)
  · rw [if_pos e, e, HG.out.1, if_neg (by show ¬ (x : Int) = -1; omega)]; rfl
  · rw [if_neg e]
set_option maxHeartbeats 8000000 in
theorem sdec_in (hM : SkM w B F A st S f) {g x : Nat} {fr : Fr} {P : List Fr} {l r : BT} {k s : Int} (hk : -9223372036854775808 ≤ k ∧ k ≤ 9223372036854775807 ∧ 0 ≤ s ∧ s ≤ 18446744073709551615) (hB : lowB A x k s = true)
    (hg : (A.c x).i = g) (hg0 : 1 ≤ g ∧ g ≤ 65536) (htop : oneZ (f (g : Int)) = (plug (fr :: P) (.node x l r)).root) (hT : IsT S (-1) (plug (fr :: P) (.node x l r)).root (plug (fr :: P) (.node x l r))) (hn : (plug (fr :: P) (.node x l r)).nodes.Nodup)
    (hall : ∀ y, y ∈ (plug (fr :: P) (.node x l r)).nodes → inN A (y : Int) = true) :
    Calls Try.prog 144 #[.pointer (some ⟨B.n0, 0, none⟩), .int .i64 (x : Int), .agg #[.int .i64 k, .int .u64 s]] w fun e w' => e = .returned (.bool true) ∧ Upd (B.blk F) w w' ∧
      SlowEnd w' B F (lowN A x k s) (satS st (mergeT upS (lowN A x k s) (plug (fr :: P) .nil) (.node x l r)).2) S f g (plug (fr :: P) (.node x l r)).nodes (mergeT upS (lowN A x k s) (plug (fr :: P) .nil) (.node x l r)).1 := by
  have hcs := low_len A x k s
  have hxl : x < A.cs.length := by
    have := hall x (plug_ctx_mem.2 (Or.inl (by simp [BT.nodes])))
    exact ((inN_nat A x).1 this).1
  have hin' : inN (lowN A x k s) (x : Int) = true := (inN_nat _ x).2 ⟨by rw [hcs]; exact hxl, by rw [low_i hB hxl, hg]; omega⟩
  have hi' : ((lowN A x k s).c x).i = g := by rw [low_i hB hxl, hg]
  have hall' : ∀ y, y ∈ (plug (fr :: P) (.node x l r)).nodes → inN (lowN A x k s) (y : Int) = true := fun y hy => by
    have := (inN_nat A y).1 (hall y hy)
    exact (inN_nat _ y).2 ⟨by rw [hcs]; exact this.1, by rw [low_i hB hxl]; exact this.2⟩
  have hlt' : ∀ y, y ∈ (plug (fr :: P) (.node x l r)).nodes → y < (lowN A x k s).cs.length := fun y hy => ((inN_nat _ y).1 (hall' y hy)).1
  have hpn := (plug_nodes (fr :: P) (.node x l r)).nodup_iff.1 hn
  rw [List.nodup_append] at hpn
  have hn0 : (plug (fr :: P) .nil).nodes.Nodup := (plug_nodes (fr :: P) .nil).nodup_iff.2 (by simpa [BT.nodes] using hpn.2.1)
  have hmem0 : ∀ y, y ∈ (plug (fr :: P) .nil).nodes ↔ y ∈ ctxN (fr :: P) := fun y => by rw [plug_ctx_mem]; simp [BT.nodes]
  have hXn : ((plug (fr :: P) .nil).nodes ++ (BT.node x l r).nodes).Nodup := by
    rw [List.nodup_append]
    exact ⟨hn0, hpn.1, fun a ha b hb e => hpn.2.2 b hb a ((hmem0 a).1 ha) e.symm⟩
  have hXm : ∀ y, y ∈ (plug (fr :: P) .nil).nodes ++ (BT.node x l r).nodes → y ∈ (plug (fr :: P) (.node x l r)).nodes := fun y hy => by
    rw [List.mem_append, hmem0] at hy
    rw [plug_ctx_mem]; exact hy.symm
  have hrt : (plug (fr :: P) (.node x l r)).root = (plug (fr :: P) .nil).root := plug_rootc _ _ _ _
  rw [hrt] at htop
  obtain ⟨mp, -⟩ := merge_ok upS_ok (lowN A x k s) _ (plug (fr :: P) .nil) (.node x l r) (Nat.le_refl _)
  have hmr : -1 ≤ (mergeT upS (lowN A x k s) (plug (fr :: P) .nil) (.node x l r)).1.root ∧ (mergeT upS (lowN A x k s) (plug (fr :: P) .nil) (.node x l r)).1.root ≤ 9223372036854775807 := by
    refine ⟨root_ge _, ?_⟩
    by_cases e : (mergeT upS (lowN A x k s) (plug (fr :: P) .nil) (.node x l r)).1 = .nil
    · rw [e]; show (-1 : Int) ≤ _; omega
    · have h1 := root_mem e
      have h2 := hlt' _ (hXm _ (mp.mem_iff.1 h1.1))
      have h3 := hM.cells.ok.c1
      rw [hcs] at h2
      omega
  have u1 : Upd [] w (w.alloc (.cells #[.int .i64 k, .int .u64 s] 59)) := (Upd.refl _ _).alloc _
  have kp := fun W (hW : Upd [] (w.alloc (.cells #[.int .i64 k, .int .u64 s] 59)) W) => clower_yes (hM.cells.upd0 (u1.trans hW)) x k s hk hB
  have h0 := hM.h0
  have hbF : B.n0 ∉ F := hM.sepF.1
  have hlt := hM.lt
  have hsz : w.heap.size ∉ F := fun hm => by have := hlt w.heap.size (by simp [SB.blk, hm]); omega
  have r0 : ∀ W, Upd F (w.alloc (.cells #[.int .i64 k, .int .u64 s] 59)) W → W.cell? ⟨B.n0, 0, none⟩ = some (.pointer (some ⟨B.c, 0, none⟩)) := fun W hW => hW.kept (u1.was h0) hbF
  have r1 : ∀ W, Upd F (w.alloc (.cells #[.int .i64 k, .int .u64 s] 59)) W → W.cell? ⟨w.heap.size, 0, none⟩ = some (.int .i64 k) := fun W h => h.kept (by simp) hsz
  have r2 : ∀ W, Upd F (w.alloc (.cells #[.int .i64 k, .int .u64 s] 59)) W → W.cell? ⟨w.heap.size, 1, none⟩ = some (.int .u64 s) := fun W h => h.kept (by simp) hsz
  have HM := Lib.hid hM
  have hcF := hM.cF
  have HG := Lib.hid (And.intro hT (And.intro hn (And.intro hall' hlt')))
  have HX := Lib.hid (And.intro hXn hXm)
  have hA := hM.cells.ok.c1
  clear hM hT hn hall hall' hlt' hpn hlt h0 hg hXn hXm hn0 hmem0 hrt hbF hsz mp
  generalize hA' : lowN A x k s = A' at *
  go_enter Try.func144, Try.ntmps144
  go_wp2
  go_region_held3 (Upd F (w.alloc (.cells #[.int .i64 k, .int .u64 s] 59))) (repeat (first | assumption | exact Upd.refl _ _ | refine Upd.drew ?_ | refine Upd.alloc ?_ _ | refine Upd.setCell ?_ ?_ _ | focus (left; simp; done) | focus (right; simp; done) | focus (right; simp; omega) | (apply Upd.trans; rotate_left; assumption)))
    ((go_at_call 138; (with_reducible refine (kp _ (by (repeat (first | assumption | exact Upd.refl _ _ | refine Upd.alloc ?_ _ | refine Upd.drew ?_ | refine Upd.drewN ?_ _ | refine Upd.setCell ?_ ?_ _ | focus (left; simp; done) | focus (right; simp; done) | focus (right; simp; omega))))).mono ?_); rintro e w1 ⟨rfl, hC1, hu1⟩; (have hu2 : Upd F (w.alloc (.cells #[.int .i64 k, .int .u64 s] 59)) w1 := by (repeat (first | assumption | exact Upd.refl _ _ | refine Upd.drew ?_ | refine Upd.alloc ?_ _ | refine Upd.setCell ?_ ?_ _ | focus (left; simp; done) | focus (right; simp; done) | focus (right; simp; omega) | (apply Upd.trans; rotate_left; assumption))))))
  have uF : Upd F w (w.alloc (.cells #[.int .i64 k, .int .u64 s] 59)) := u1.mono (by simp)
  have hM1 := HM.out.setC (uF.trans hu2) hC1 (fun y hy => Or.inl hy) hcs
  have kh := chome_yes hM1.cells x hin'
  rw [hi'] at kh
  have g10 := hM1.h0
  have HM1 := Lib.hid hM1
  have u01 := Lib.hid (uF.trans hu2)
  clear r0 r1 r2 kp hu1 hu2 hC1 hM1 uF
  have kcw : ∀ w2, Upd F w1 w2 → CellsAt w2 B.c F A' st → _ := fun w2 hu2 hC2 => tcut_any (HM1.out.setC hu2 hC2 (fun y hy => Or.inl hy) rfl).trees (f := fr) (P := P) (t := .node x l r) HG.out.1 HG.out.2.1 HG.out.2.2.2
  rw [show BT.root (.node x l r) = (x : Int) from rfl, tb_nat] at kcw
  generalize cutV fr (.node x l r) = cv at kcw
  go_wp2_with (first
    | ((go_at_call 54; (with_reducible refine (kh).mono ?_)); rintro e w2 ⟨rfl, hC2, hu2⟩; (have g21 := (HM1.out.setC hu2 hC2 (fun y hy => Or.inl hy) rfl).h1); (have kc := kcw w2 hu2 hC2))
    | ((go_at_call 88; (with_reducible refine (kc).mono ?_)); rintro e w3 ⟨rfl, hu3, S3, hT3, hx3, hp3, hs3⟩; (have hM3 := (HM1.out.setC hu2 hC2 (fun y hy => Or.inl hy) rfl).setT hu3 hT3); (have kf := sfirst_any hM3 (g : Int) (by omega)); rw [htop] at kf; (have km := smerge_any hM3 (ta := plug (fr :: P) .nil) (tb := .node x l r) hp3 hx3 HX.out.1 (fun y hy => HG.out.2.2.1 y (HX.out.2 y hy))); rw [show BT.root (.node x l r) = (x : Int) from rfl] at km)
    | (go_at_call 79; (with_reducible refine (kf).mono ?_); rintro e w9 ⟨rfl, hw9⟩; rw [hw9]; clear hw9 w9)
    | ((go_at_call 78; (with_reducible refine (km).mono ?_)); rintro e w4 ⟨rfl, hu4, S4, hM4, hT4, hs4⟩; (have kcr := scrown_any hM4 g _ (by omega) hmr))
    | ((go_at_call 77; (with_reducible refine (kcr).mono ?_)); rintro e w5 ⟨rfl, hu5, hM5⟩)
    | fail)
  go_ret
  refine ⟨rfl, ((((u01.out.trans hu2).mono (fun y hy => by simp only [SB.blk, List.mem_cons]; simp [hy])).trans (hu3.mono (by simp [SB.blk]))).trans (hu4.mono (fun y hy => ?_))).trans (hu5.mono (by simp [SB.blk])), S4, _, hM5, hT4, fun y hy => at_trans (hs3 y hy) (hs4 y (fun hm => hy (HX.out.2 y hm))), fun y => rfl⟩
  simp only [List.mem_cons, List.not_mem_nil, or_false] at hy
  simp only [SB.blk, List.mem_cons]
  rcases hy with rfl | rfl
  · simp [hcF]
  · simp
theorem sdec_yes (h : SkAt w B F A st tr) (g x : Nat) (hx : x ∈ (tr g).nodes) (k s : Int) (hk : -9223372036854775808 ≤ k ∧ k ≤ 9223372036854775807 ∧ 0 ≤ s ∧ s ≤ 18446744073709551615) (hB : lowB A x k s = true) :
    Calls Try.prog 144 #[.pointer (some ⟨B.n0, 0, none⟩), .int .i64 (x : Int), .agg #[.int .i64 k, .int .u64 s]] w fun e w' => e = .returned (.bool true) ∧ Upd (B.blk F) w w' ∧
      SkAt w' B F (lowN A x k s) (satS st (slowT (lowN A x k s) (tr g) x).2) (fun q => if q = g then (slowT (lowN A x k s) (tr g) x).1 else tr q) := by
  obtain ⟨S, hM, hI⟩ := h
  have hm := (hI.mem g x).1 hx
  have e := pathOf_eq hx
  unfold slowT
  generalize (pathOf (tr g) x).1 = P at *
  generalize (pathOf (tr g) x).2.1 = l at *
  generalize (pathOf (tr g) x).2.2 = r at *
  have hq : 1 ≤ g ∧ g < A.hs.length := by have := hM.cells.ok.nat x hm.2.1; omega
  have hb65 := hM.cells.ok.h1
  have hT := hI.isT g
  have hn := hI.nd g
  have hH := hI.heap g
  have htp := topF_nat A tr g hq
  rw [e] at hT hn hH htp
  obtain ⟨d1, d2⟩ := low_tree hB hm.2.1 hn hH
  have fin : ∀ w' T st', SlowEnd w' B F (lowN A x k s) st' S (topF A tr) g (tr g).nodes T → T.nodes.Perm (tr g).nodes → Heap (lowN A x k s) T → SkAt w' B F (lowN A x k s) st' (fun q => if q = g then T else tr q) := fun w' T st' hE hp hh => by
    obtain ⟨S', f', q1, q2, q4, q6⟩ := hE
    refine ⟨S', q1.ext (fun y => by rw [q6 y]; exact topF_set (by rw [low_hs]) hq y), TrI.low (tops' := topsL (lowN A x k s) (fun q => if q = g then T else tr q)) hI hB hx q2 hp hh q4 (fun q hq' => ?_)⟩
    have hq'' : q < (lowN A x k s).hs.length := by rw [low_hs]; exact hq'
    unfold topsL
    rw [List.getD_eq_getElem?_getD, List.getElem?_map, List.getElem?_range hq'']
    show (if q = g then T else tr q).root = _
    by_cases eq : q = g
    · rw [if_pos eq, if_pos eq]
    · rw [if_neg eq, if_neg eq]
      rw [List.getD_eq_getElem?_getD, List.getElem?_map, List.getElem?_range hq']; rfl
  cases P with
  | nil =>
    have ht2 : topF A tr (g : Int) = some (x : Int) := by
      unfold topF
      rw [if_pos (by omega), Int.toNat_natCast, e]
      show (if (x : Int) = -1 then none else some (x : Int)) = _
      rw [if_neg (by omega)]
    refine (sdec_top hM hk hB hm.2.2 hm.1 ht2 hm.2.1 hT).mono ?_
    rintro e' w' ⟨rfl, hu, hE⟩
    have e2 : tr g = .node x l r := e
    refine ⟨rfl, hu, ?_⟩
    show SkAt w' B F (lowN A x k s) (satS st 0) (fun q => if q = g then tr g else tr q)
    rw [satS_zero hM.cells.st62]
    refine fin w' _ st (by rw [e2]; exact hE) (List.Perm.refl _) (by rw [e2]; exact d2)
  | cons fr P2 =>
    refine (sdec_in hM hk hB hm.2.2 (by omega) htp hT hn (fun y hy => ?_)).mono ?_
    · rw [← e] at hy
      have := (hI.mem g y).1 hy
      exact (inN_nat A y).2 ⟨this.2.1, by omega⟩
    · rintro e' w' ⟨rfl, hu, hE⟩
      refine ⟨rfl, hu, ?_⟩
      obtain ⟨mp, mh⟩ := merge_ok upS_ok (lowN A x k s) _ (plug (fr :: P2) .nil) (.node x l r) (Nat.le_refl _)
      have pn : ((plug (fr :: P2) .nil).nodes ++ (BT.node x l r).nodes).Perm (tr g).nodes := by
        rw [e]
        refine ((plug_nodes (fr :: P2) .nil).append_right _).trans ?_
        refine List.perm_append_comm.trans ?_
        simp only [BT.nodes, List.nil_append]
        exact (plug_nodes (fr :: P2) (.node x l r)).symm
      refine fin w' _ _ (by rw [e]; exact hE) (mp.trans pn) (mh d1 d2 (pn.nodup_iff.2 (hI.nd g)))
end
end Go.Proofs.Ytechoojcgdjcdaa

set_option linter.unusedVariables false
set_option linter.unusedSimpArgs false
namespace Go.Proofs.Ytechoojcgdjcdaa
open Go Go.RowKit

theorem topF_join {A A' : NS} {tr : Nat → BT} {a b : Nat} {t : BT} (hl : A'.hs.length = A.hs.length) (ha : 1 ≤ a ∧ a < A.hs.length) (hb : 1 ≤ b ∧ b < A.hs.length) (hne : a ≠ b) (k : Int) :
    (if k = (b : Int) then (if (-1 : Int) = -1 then none else some (-1)) else if k = (a : Int) then (if t.root = -1 then none else some t.root) else topF A tr k) = topF A' (fun q => if q = a then t else if q = b then .nil else tr q) k := by
  unfold topF
  rw [hl]
  by_cases e1 : k = (b : Int)
  · subst e1
    rw [if_pos rfl, if_pos rfl, if_pos (by omega), Int.toNat_natCast]
    have : (fun q => if q = a then t else if q = b then .nil else tr q) b = .nil := by
      show (if b = a then t else if b = b then .nil else tr b) = _
      rw [if_neg (Ne.symm hne), if_pos rfl]
    rw [this]; rfl
  · rw [if_neg e1]
    by_cases e2 : k = (a : Int)
    · subst e2
      rw [if_pos rfl, if_pos (show 1 ≤ (a : Int) ∧ (a : Int) < A.hs.length by omega), Int.toNat_natCast]
      have : (fun q => if q = a then t else if q = b then .nil else tr q) a = t := by
        show (if a = a then t else if a = b then .nil else tr a) = _
        rw [if_pos rfl]
      rw [this]
    · rw [if_neg e2]
      by_cases h : 1 ≤ k ∧ k < A.hs.length
      · rw [if_pos h, if_pos h]
        have : (fun q => if q = a then t else if q = b then .nil else tr q) k.toNat = tr k.toNat := by
          show (if k.toNat = a then t else if k.toNat = b then .nil else tr k.toNat) = _
          rw [if_neg (by omega), if_neg (by omega)]
        rw [this]
      · rw [if_neg h, if_neg h]
section
variable {w : World} {B : SB} {F : List Nat} {A : NS} {st : Nat} {tr : Nat → BT}
set_option maxHeartbeats 8000000 in
theorem smeld_yes (h : SkAt w B F A st tr) (a b : Nat) (hj : joinB A a b = true) :
    Calls Try.prog 145 #[.pointer (some ⟨B.n0, 0, none⟩), .int .i64 (a : Int), .int .i64 (b : Int)] w fun e w' => e = .returned (.bool true) ∧ Upd (B.blk F) w w' ∧
      SkAt w' B F (joinN A a b) (satS st (meldT upS A tr a b).2) (fun q => if q = a then (meldT upS A tr a b).1 else if q = b then .nil else tr q) := by
  obtain ⟨S, hM, hI⟩ := h
  obtain ⟨j1, j2, j3⟩ := (joinB_iff _ _ _).1 hj
  have a1 := (hasN_iff _ _).1 j1
  have a2 := (hasN_iff _ _).1 j2
  have hne : a ≠ b := fun e => j3 (by rw [e])
  have hcs := joinN_len A a b
  have hhs : (joinN A a b).hs.length = A.hs.length := by unfold joinN; rw [if_pos hj]; simp
  have hX : ((tr a).nodes ++ (tr b).nodes).Nodup := by
    rw [List.nodup_append]
    refine ⟨hI.nd a, hI.nd b, fun x hx y hy e2 => ?_⟩
    have b1 := (hI.mem a x).1 hx
    have b2 := (hI.mem b y).1 hy
    rw [e2] at b1
    omega
  have hin : ∀ y, y ∈ (tr a).nodes ++ (tr b).nodes → inN (joinN A a b) (y : Int) = true := fun y hy => by
    rw [inN_nat, hcs, join_c hj]
    rw [List.mem_append] at hy
    rcases hy with hy | hy
    · have := (hI.mem a y).1 hy
      refine ⟨this.2.1, ?_⟩
      show 0 < (if _ then _ else _ : Int)
      split <;> omega
    · have := (hI.mem b y).1 hy
      refine ⟨this.2.1, ?_⟩
      show 0 < (if _ then _ else _ : Int)
      split <;> omega
  obtain ⟨mp, mh⟩ := merge_ok upS_ok (joinN A a b) _ (tr a) (tr b) (Nat.le_refl _)
  have mh' := mh (join_heap hj (hI.heap a)) (join_heap hj (hI.heap b)) hX
  have hta' := hI.isT a
  have htb' := hI.isT b
  have hfa := topF_nat A tr a (by omega)
  have hfb := topF_nat A tr b (by omega)
  have ok := hM.cells.ok
  have hb65 := ok.h1
  have hmr := root_le hI ok.c1 (t := (mergeT upS (joinN A a b) (tr a) (tr b)).1) (fun y hy => by
    have h1 := mp.mem_iff.1 hy
    have := (inN_nat _ y).1 (hin y h1)
    rw [hcs] at this; exact this.1)
  have hqa : 1 ≤ a ∧ a < A.hs.length := by omega
  have hqb : 1 ≤ b ∧ b < A.hs.length := by omega
  unfold meldT
  have FI : Hid (∀ (W : World) (S' : TS) (st' : Nat), SkM W B F (joinN A a b) st' S' (fun k => if k = (b : Int) then (if (-1 : Int) = -1 then none else some (-1)) else if k = (a : Int) then (if (mergeT upS (joinN A a b) (tr a) (tr b)).1.root = -1 then none else some (mergeT upS (joinN A a b) (tr a) (tr b)).1.root) else topF A tr k) → IsT S' (-1) (mergeT upS (joinN A a b) (tr a) (tr b)).1.root (mergeT upS (joinN A a b) (tr a) (tr b)).1 →
      (∀ y, y ∉ (tr a).nodes ++ (tr b).nodes → S.at S' y) → SkAt W B F (joinN A a b) st' (fun q => if q = a then (mergeT upS (joinN A a b) (tr a) (tr b)).1 else if q = b then .nil else tr q)) := fun W S' st' b1 b2 b4 => by
    refine ⟨S', b1.ext (topF_join hhs hqa hqb hne), (hI.join hj b2 mp mh' b4 (tops' := topsL (joinN A a b) (fun q => if q = a then (mergeT upS (joinN A a b) (tr a) (tr b)).1 else if q = b then .nil else tr q)) (fun q hq => ?_)).retop⟩
    unfold topsL
    rw [hhs]
    simp only [List.getD_eq_getElem?_getD, List.getElem?_map, List.getElem?_range hq, Option.map_some, Option.getD_some]
    by_cases e : q = a
    · rw [if_pos e, if_pos e]
    · rw [if_neg e, if_neg e]
      by_cases e2 : q = b
      · rw [if_pos e2, if_pos e2]; rfl
      · rw [if_neg e2, if_neg e2]
  have kj := cjoin_yes hM.cells a b hj
  have h0 := hM.h0
  have HM := Lib.hid hM
  have HH := Lib.hid (And.intro hX (And.intro hin (And.intro hta' htb')))
  have hcF := hM.cF
  clear hM hI hX hin mp mh mh' hta' htb' j1 j2 j3 a1 a2 ok
  generalize hA' : joinN A a b = A' at *
  generalize htra : tr a = ta at *
  generalize htrb : tr b = tb at *
  go_enter Try.func145, Try.ntmps145
  go_wp2_with (first
    | ((go_at_call 140; (with_reducible refine (kj).mono ?_)); rintro e w1 ⟨rfl, hC1, hu1⟩)
    | fail)
  have hM1 := HM.out.setC hu1 hC1 (fun y hy => Or.inl hy) hcs
  have k1 := sfirst_any hM1 (a : Int) (by omega)
  rw [hfa] at k1
  have k2 := sfirst_any hM1 (b : Int) (by omega)
  rw [hfb] at k2
  have km := smerge_any hM1 HH.out.2.2.1 HH.out.2.2.2 HH.out.1 HH.out.2.1
  have HM1 := Lib.hid hM1
  clear hM1 hC1
  go_wp2_with (first
    | ((go_at_call 79; (first | (with_reducible refine (k1).mono ?_) | (with_reducible refine (k2).mono ?_))); rintro e w9 ⟨rfl, rfl⟩)
    | ((go_at_call 78; (with_reducible refine (km).mono ?_)); rintro e w2 ⟨rfl, hu2, S2, hM2, hT2, hs2⟩; (have kc := scrown_any hM2 a _ (by omega) hmr))
    | ((go_at_call 77; (first | (with_reducible refine (kc).mono ?_; rintro e w3 ⟨rfl, hu3, hM3⟩; (have kd := scrown_any hM3 b (-1) (by omega) (by omega))) | (with_reducible refine (kd).mono ?_; rintro e w4 ⟨rfl, hu4, hM4⟩))))
    | fail)
  go_ret
  refine ⟨rfl, (((hu1.mono (fun y hy => by simp only [SB.blk, List.mem_cons]; simp [hy])).trans (hu2.mono (fun y hy => ?_))).trans (hu3.mono (by simp [SB.blk]))).trans (hu4.mono (by simp [SB.blk])), FI.out _ S2 _ hM4 hT2 hs2⟩
  simp only [List.mem_cons, List.not_mem_nil, or_false] at hy
  simp only [SB.blk, List.mem_cons]
  rcases hy with rfl | rfl
  · simp [hcF]
  · simp
end
theorem snew_no (n : Int) (w : World) (h : n < 0 ∨ 65536 < n) :
    Calls Try.prog 36 #[.int .i64 n] w fun e w' => e = .returned (.tuple #[.pointer none, .int .i64 31]) ∧ w' = w := by
  have k := cnew_no n w h
  go_enter Try.func36, Try.ntmps36
  go_wp2_with (first
    | ((go_at_call 41; (with_reducible refine (k).mono ?_)); rintro e w1 ⟨rfl, h1⟩; rw [h1]; clear h1 w1))
  go_ret2
  exact ⟨rfl, rfl⟩
set_option maxHeartbeats 4000000 in
theorem snew_yes (n : Nat) (w : World) (h : n ≤ 65536) :
    Calls Try.prog 36 #[.int .i64 (n : Int)] w fun e w' => ∃ B F, e = .returned (.tuple #[.pointer (some ⟨B.n0, 0, none⟩), .int .i64 0]) ∧ SkAt w' B F (NS.new n) 0 (fun _ => .nil) ∧ Upd [] w w' ∧ ∀ x, x ∈ B.blk F → w.heap.size ≤ x := by
  have hmm := @run_makeMap Try.prog
  go_enter Try.func36, Try.ntmps36
  go_wp2_with (first
    | ((go_at_call 41; (with_reducible refine (cnew_yes n _ h).mono ?_)); rintro e w1 ⟨c, F, rfl, hC, hu1, hF⟩)
    | ((go_at_call 42; (with_reducible refine (spineNew_yes n _ h).mono ?_)); rintro e w2 ⟨bt, ba, rfl, hT, hu2, hb1, hb2⟩))
  go_ret2
  have hcs : (NS.new n).cs.length = n := by simp [NS.new]
  have l1 := hu1.size
  have l2 := hu2.size
  have l5 := hT.head.lt
  have l6 := hT.row.lt
  have l7 := hC.lt
  have lc := l7 c hC.mem
  have hm := MapI.made w2
  have e3 : ((w2.alloc (.map #[] 0)).heap.size) = w2.heap.size + 1 := by rw [World.size_alloc]
  have hv1 : Upd [] w2 (w2.alloc (.map #[] 0)) := (Upd.refl _ _).alloc _
  have hv2 : Upd [] (w2.alloc (.map #[] 0)) ((w2.alloc (.map #[] 0)).alloc (.cells #[.pointer (some ⟨c, 0, none⟩), .pointer (some ⟨bt, 0, none⟩), .map (some w2.heap.size)] 78)) := (Upd.refl _ _).alloc _
  have hv := hv1.trans hv2
  have hh := rowAt_new (w2.alloc (.map #[] 0)) [.pointer (some ⟨c, 0, none⟩), .pointer (some ⟨bt, 0, none⟩), .map (some w2.heap.size)] 78
  rw [e3] at hh
  have hnF : ∀ x, w1.heap.size ≤ x → x ∉ F := fun x hx hm => by have := l7 x hm; omega
  refine ⟨⟨w2.heap.size + 1, c, bt, ba, w2.heap.size⟩, F, rfl, ⟨TS.none, ⟨hh, (hC.upd0 hu2).upd0 hv, by rw [hcs]; exact hT.upd hv (by simp) (by simp), ?_, ⟨hnF _ (by simp only; omega), hnF _ (by simp only; omega), hnF _ (by simp only; omega), hnF _ (by simp only; omega)⟩, ⟨⟨by simp only; omega, by simp only; omega, by simp only; omega⟩, by simp only; omega, by simp only; omega⟩⟩, (trI_new n).retop⟩, (hu1.trans hu2).trans hv, fun x hx => ?_⟩
  · refine (hm.upd hv2 (by simp)).ext (fun k => ?_)
    unfold topF
    split
    · rfl
    · rfl
  · simp only [SB.blk, List.mem_cons] at hx
    rcases hx with rfl | rfl | rfl | rfl | hx
    · omega
    · omega
    · omega
    · omega
    · exact hF x hx
section
variable {w : World} {B : SB} {F : List Nat} {A : NS} {st : Nat} {tr : Nat → BT}
/-- A new heap holds nothing. -/
theorem SkAt.make {w' : World} {F' : List Nat} (h : SkAt w B F A st tr) (hl : ¬ 65536 < A.hs.length) (hu : Upd F w w') (hC : CellsAt w' B.c F' (makeN A) st) (hF : ∀ x, x ∈ F' → x ∈ F ∨ w.heap.size ≤ x) : SkAt w' B F' (makeN A) st tr := by
  obtain ⟨S, hM, hI⟩ := h
  have ok := hM.cells.ok
  have e1 : (makeN A).cs.length = A.cs.length := by unfold makeN; rw [if_neg hl]
  have e2 : (makeN A).hs.length = A.hs.length + 1 := by unfold makeN; rw [if_neg hl]; simp
  have hI2 := hI.make ok (by simp [topsL]) hl
  have hnil : (tr A.hs.length) = .nil := by
    cases e : tr A.hs.length with
    | nil => rfl
    | node y a b =>
      exfalso
      have := (hI.mem A.hs.length y).1 (by rw [e]; simp [BT.nodes])
      have h3 := inN_has ok ((inN_nat A y).2 ⟨this.2.1, by omega⟩)
      have := (hasN_iff _ _).1 h3
      rw [Int.toNat_natCast] at this
      omega
  refine ⟨S, (hM.setC hu hC hF e1).ext (fun k => ?_), hI2.retop⟩
  unfold topF
  rw [e2]
  by_cases h1 : 1 ≤ k ∧ k < A.hs.length
  · rw [if_pos h1, if_pos (show 1 ≤ k ∧ k < ((A.hs.length + 1 : Nat) : Int) by omega)]
  · rw [if_neg h1]
    by_cases h2 : k = A.hs.length
    · subst h2
      rw [Int.toNat_natCast, hnil]
      split
      · rfl
      · rfl
    · rw [if_neg (show ¬ (1 ≤ k ∧ k < ((A.hs.length + 1 : Nat) : Int)) by omega)]
end
end Go.Proofs.Ytechoojcgdjcdaa
