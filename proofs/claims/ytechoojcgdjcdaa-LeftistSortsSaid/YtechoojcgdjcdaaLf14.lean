/-
  Leftist heaps: Delete. Conditions: those of each lemma.
-/
import Derived.Test.YtechoojcgdjcdaaLf13
import Derived.Test.YtechoojcgdjcdaaCells3
set_option linter.unusedVariables false
set_option linter.unusedSimpArgs false
namespace Go.Proofs.Ytechoojcgdjcdaa
open Go Go.RowKit

theorem tv_nat (n : Nat) : tv (n : Int) = n := by unfold tv; rw [if_neg (by omega)]
theorem tb_nat (n : Nat) : tb (n : Int) = true := by unfold tb; simp
section
variable {w : World} {B : LB} {F : List Nat} {gt ct : Nat} {A : NS} {st : Nat} {tr : Nat → BT} {S : TS} {rk : Nat → Nat} {tops : List Int}
theorem ldelete_no (h : LfAt w B F gt ct A st tr) (x : Int) (hx : inN A x = false) :
    Calls Try.prog 133 #[.pointer (some ⟨B.n0, 0, none⟩), .int .i64 x] w fun e w' => e = .returned (.bool false) ∧ w' = w := by
  obtain ⟨S, rk, tops, hM, -, -, -⟩ := h
  have k := chome_no hM.cells x hx
  have h0 := hM.h0
  clear hM
  go_enter Try.func133, Try.ntmps133
  go_wp2_with (first | (go_at_call 54; (with_reducible refine (k).mono ?_); rintro e w9 ⟨rfl, hw9⟩; rw [hw9]; clear hw9 w9))
  go_ret
  exact ⟨rfl, rfl⟩
/-- What is behind a deletion, of trees and ranks. -/
def DelEnd (w' : World) (B : LB) (F : List Nat) (gt ct : Nat) (A : NS) (st : Nat) (S : TS) (rk : Nat → Nat) (tops : List Int) (g x : Nat) (P : List Fr) (X : List Nat) (T : BT) : Prop :=
  ∃ S' rk' tops', LfM w' B F gt ct (dropN A x) st S' rk' tops' ∧ IsT S' (-1) T.root T ∧ RkOk rk' T ∧ (∀ y, y ∉ X → S.at S' y ∧ rk' y = rk y) ∧ (S'.l x = -1 ∧ S'.r x = -1 ∧ S'.u x = -1) ∧
    ∀ q, q < A.hs.length → tops'.getD q 0 = if P = [] ∧ q = g then T.root else tops.getD q 0
theorem at_trans {S S' S'' : TS} {x : Nat} (h : S.at S' x) (h' : S'.at S'' x) : S.at S'' x := ⟨h'.1.trans h.1, h'.2.1.trans h.2.1, h'.2.2.trans h.2.2⟩
set_option maxHeartbeats 8000000 in
theorem ldelete_core (hM : LfM w B F gt ct A st S rk tops) {g x : Nat} {P : List Fr} {l r : BT} (hin : inN A (x : Int) = true) (hg : (A.c x).i = g) (hgt : g < tops.length)
    (hT : IsT S (-1) (plug P (.node x l r)).root (plug P (.node x l r))) (hn : (plug P (.node x l r)).nodes.Nodup) (hR : RkOk rk (plug P (.node x l r))) (hall : ∀ y, y ∈ (plug P (.node x l r)).nodes → inN A (y : Int) = true) :
    Calls Try.prog 133 #[.pointer (some ⟨B.n0, 0, none⟩), .int .i64 (x : Int)] w fun e w' => e = .returned (.bool true) ∧ Upd (B.blk F gt) w w' ∧
      DelEnd w' B F gt ct A (satS st (mergeT settleT A l r).2) S rk tops g x P (plug P (.node x l r)).nodes (fixT P (.node x l r) (mergeT settleT A l r).1) := by
  have hxl := ((inN_nat A x).1 hin).1
  have hlt : ∀ y, y ∈ (plug P (.node x l r)).nodes → y < A.cs.length := fun y hy => ((inN_nat A y).1 (hall y hy)).1
  have kh := chome_yes hM.cells x hin
  rw [hg] at kh
  have h0 := hM.h0
  have HM := Lib.hid hM
  have hpp := plug_parts hn
  have hrr := (rk_plug P (.node x l r)).1 hR
  have mp := (merge_ok settle_ok A _ l r (Nat.le_refl _)).1
  have hblk := Lib.hid hM.lt
  have hcF := Lib.hid hM.cF
  have hsep := Lib.hid (And.intro hM.sep hM.sepF)
  have HT := Lib.hid (And.intro hT (And.intro hn (And.intro hrr (And.intro hall hlt))))
  have HP := Lib.hid hpp
  have hA := hM.cells.ok.c1
  obtain ⟨m, k, hmk⟩ : ∃ m k, mergeT settleT A l r = (m, k) := ⟨_, _, rfl⟩
  rw [hmk] at mp
  rw [hmk]
  have HMP := Lib.hid mp
  have HMK := Lib.hid hmk
  have HIN := Lib.hid hin
  clear hM hT hn hR hall hlt hpp hrr mp hmk hin hg
  go_enter Try.func133, Try.ntmps133
  go_wp2_with (first | ((go_at_call 54; (with_reducible refine (kh).mono ?_)); rintro e w1 ⟨rfl, hC1, hu1⟩; (have g1 := (HM.out.setC hu1 hC1 (fun y hy => Or.inl hy) rfl rfl).h1)))
  have hM1 := HM.out.setC hu1 hC1 (fun y hy => Or.inl hy) rfl rfl
  have q1 : ∀ d, (w1.drewN d).cell? ⟨B.n0, 1, none⟩ = some (.pointer (some ⟨B.bt, 0, none⟩)) := fun d => hM1.h1
  have kl := fun d => tleft_any (hM1.trees.drewN d) ((isT_plug _ _).1 HT.out.1).1 hxl
  have kr := fun d => tright_any (hM1.trees.drewN d) ((isT_plug _ _).1 HT.out.1).1 hxl
  have HM1 := Lib.hid hM1
  clear hM1 hC1 kh h0 g1
  go_quiet ((first
    | (go_at_call 102; exact Calls.quiet_of (kl _))
    | (go_at_call 87; exact Calls.quiet_of (kr _))
    | (go_at_call 86; exact Calls.quiet_of_same (lkid_any _ _))))
  obtain ⟨w2, hw2⟩ : ∃ w2, w2 = w1.drewN nq := ⟨_, rfl⟩
  have u2 : Upd F w w2 := by rw [hw2]; exact hu1.drewN nq
  have hM2 : LfM w2 B F gt ct A st S rk tops := by rw [hw2]; exact HM1.out.upd0 ((Upd.refl [] w1).drewN nq)
  rw [← hw2]
  clear hw2 kl kr q1 HM1 hu1
  have kc1 := tcut_any hM2.trees (f := (x, false, r)) (P := P) (t := l) HT.out.1 HT.out.2.1 HT.out.2.2.2.2
  have g2 := hM2.h1
  have HM2 := Lib.hid hM2
  clear hM2
  go_wp2_with (first
    | ((go_at_call 88; (with_reducible refine (kc1).mono ?_)); rintro e w3 ⟨rfl, hu3, S3, hT3, hl3, hp3, hs3⟩; (have g3 := (HM2.out.setT hu3 hT3).h1); clear g2)
    | fail)
  have hM3 := HM2.out.setT hu3 hT3
  have hp3' : IsT S3 (-1) (plug ((x, true, .nil) :: P) r).root (plug ((x, true, .nil) :: P) r) := hp3
  have hn3 : (plug ((x, true, .nil) :: P) r).nodes.Nodup := by
    have e := (plug_nodes P (.node x .nil r))
    refine e.nodup_iff.2 ?_
    obtain ⟨⟨a1, a2, a3⟩, a4, a5, a6, a7⟩ := HP.out
    simp only [BT.nodes, List.nil_append, List.nodup_append] at a4 ⊢
    refine ⟨List.nodup_cons.2 ⟨a2, a4.2.1⟩, a7, fun y hy z hz e => ?_⟩
    subst e
    rcases List.mem_cons.1 hy with e | hy
    · exact a3 (by rw [← e]; exact hz)
    · exact a6 y hy hz
  have hsub3 : ∀ y, y ∈ (plug ((x, true, .nil) :: P) r).nodes → y ∈ (plug P (.node x l r)).nodes := fun y hy => by
    have h' : y ∈ (plug P (.node x .nil r)).nodes := hy
    rw [plug_ctx_mem] at h' ⊢
    simp only [BT.nodes, List.nil_append, List.mem_cons, List.mem_append] at h' ⊢
    rcases h' with (h' | h') | h'
    · exact Or.inl (Or.inl h')
    · exact Or.inl (Or.inr (Or.inr h'))
    · exact Or.inr h'
  have kc2 := tcut_any hM3.trees (f := (x, true, .nil)) (P := P) (t := r) hp3' hn3 (fun y hy => HT.out.2.2.2.2 y (hsub3 y hy))
  have hl3' : l.nodes.Nodup ∧ ∀ y, y ∈ l.nodes → y ∉ (plug ((x, true, .nil) :: P) r).nodes := by
    obtain ⟨⟨a1, a2, a3⟩, a4, a5, a6, a7⟩ := HP.out
    rw [List.nodup_append] at a4
    refine ⟨a4.1, fun y hy hm => ?_⟩
    have h' : y ∈ (plug P (.node x .nil r)).nodes := hm
    rw [plug_ctx_mem] at h'
    simp only [BT.nodes, List.nil_append, List.mem_cons] at h'
    rcases h' with (h' | h') | h'
    · exact a1 (by rw [← h']; exact hy)
    · exact a4.2.2 y hy y h' rfl
    · exact a5 y hy h'
  have HM3 := Lib.hid hM3
  have H3 := Lib.hid (And.intro hl3 (And.intro hs3 (And.intro hsub3 hl3')))
  have u3 : Upd (B.ba :: F) w w3 := (u2.mono (by simp; intro x hx; exact Or.inr hx)).trans (hu3.mono (by simp))
  clear hM3 hT3 hl3 hp3 hp3' hs3 hn3 hsub3 hl3' kc1 hu3 u2
  go_wp2_with (first
    | ((go_at_call 88; (with_reducible refine (kc2).mono ?_)); rintro e w4 ⟨rfl, hu4, S4, hT4, hr4, hp4, hs4⟩)
    | fail)
  have hM4 := HM3.out.setT hu4 hT4
  have hl4 : IsT S4 (-1) l.root l := H3.out.1.frame (fun y hy => hs4 y (H3.out.2.2.2.2 y hy))
  have km := lmerge_any hM4 hl4 hr4 HP.out.2.1 (fun y hy => HT.out.2.2.2.1 y (plug_ctx_mem.2 (Or.inl (by simp only [BT.nodes]; exact List.mem_cons_of_mem _ hy)))) HT.out.2.2.1.1.2.1 HT.out.2.2.1.1.2.2
  rw [HMK.out] at km
  have hp4' : IsT S4 (-1) (plug P (.node x .nil .nil)).root (plug P (.node x .nil .nil)) := hp4
  have u4 : Upd (B.ba :: F) w w4 := u3.trans (hu4.mono (by simp))
  have f4 : ∀ y, y ∉ (plug P (.node x l r)).nodes → S.at S4 y := fun y hy => at_trans (H3.out.2.1 y hy) (hs4 y (fun hm => hy (H3.out.2.2.1 y hm)))
  have H4 := Lib.hid (And.intro hp4' f4)
  clear hM4 hT4 hr4 hp4 hp4' hs4 hl4 kc2 hu4 u3 f4 H3 HM3 HM2 g3
  go_wp2_with (first
    | ((go_at_call 62; (with_reducible refine (km).mono ?_)); rintro e w5 ⟨rfl, hu5, S5, rk5, hM5, hT5, hr5, hs5⟩; (have g5 := hM5.h1))
    | fail)
  have hp5 : IsT S5 (-1) (plug P (.node x .nil .nil)).root (plug P (.node x .nil .nil)) := H4.out.1.frame (fun y hy => (hs5 y (fun hm => by
    obtain ⟨⟨a1, a2, a3⟩, a4, a5, a6, a7⟩ := HP.out
    rw [plug_ctx_mem] at hy
    simp only [BT.nodes, List.nil_append, List.mem_cons, List.not_mem_nil, or_false] at hy
    rw [List.mem_append] at hm
    rcases hy with e | hy
    · subst e; rcases hm with hm | hm; exact a1 hm; exact a2 hm
    · rcases hm with hm | hm; exact a5 y hm hy; exact a6 y hm hy)).1)
  have f5 : ∀ y, y ∉ (plug P (.node x l r)).nodes → S.at S5 y ∧ rk5 y = rk y := fun y hy => by
    have h1 : y ∉ l.nodes ++ r.nodes := fun hm => hy (plug_ctx_mem.2 (Or.inl (by simp only [BT.nodes]; exact List.mem_cons_of_mem _ hm)))
    exact ⟨at_trans (H4.out.2 y hy) (hs5 y h1).1, (hs5 y h1).2⟩
  have hR5 : RkP rk5 P (BT.node x l r).rank := HT.out.2.2.1.2.frame (fun y hy => (hs5 y (fun hm => by
    rw [List.mem_append] at hm
    rcases hm with hm | hm
    · exact HP.out.2.2.1 y hm hy
    · exact HP.out.2.2.2.1 y hm hy)).2)
  have u5 : Upd (B.blk F gt) w w5 := (u4.mono (fun y hy => by simp only [LB.blk, List.mem_cons] at hy ⊢; rcases hy with h | h <;> simp [h])).trans (hu5.mono (fun y hy => by
      have := hcF.out
      simp only [List.mem_cons, List.not_mem_nil, or_false] at hy
      simp only [LB.blk, List.mem_cons]
      rcases hy with rfl | rfl | rfl
      · simp [this]
      · simp
      · simp))
  have ku := tup_any hM5.trees hp5 hxl
  have HM5 := Lib.hid hM5
  have H5 := Lib.hid (And.intro hp5 (And.intro f5 (And.intro hR5 (And.intro hT5 hr5))))
  clear hM5 hT5 hr5 hs5 km u4 H4 hp5 f5 hR5 hu5
  have hmm : ∀ y, y ∈ m.nodes → y ∉ ctxN P ∧ y ≠ x := fun y hy => by
    obtain ⟨⟨a1, a2, a3⟩, a4, a5, a6, a7⟩ := HP.out
    have h1 := HMP.out.mem_iff.1 hy
    rw [List.mem_append] at h1
    rcases h1 with h1 | h1
    · exact ⟨a5 y h1, fun e => a1 (by rw [← e]; exact h1)⟩
    · exact ⟨a6 y h1, fun e => a2 (by rw [← e]; exact h1)⟩
  have hmx : ∀ y, y ∈ m.nodes → y ∈ (plug P (.node x l r)).nodes := fun y hy => plug_ctx_mem.2 (Or.inl (by
    have h1 := HMP.out.mem_iff.1 hy
    simp only [BT.nodes, List.mem_cons]; exact Or.inr h1))
  have hmn : m.nodes.Nodup := HMP.out.nodup_iff.2 HP.out.2.1
  have HMM := Lib.hid (And.intro hmm (And.intro hmx hmn))
  clear hmm hmx hmn
  have sp := hsep.out
  have s1 : B.n0 ≠ gt := sp.1.1.2.2.2
  clear sp
  cases P with
  | nil =>
    rw [show upP ([] : List Fr) = -1 from rfl, show tv (-1) = 0 from rfl, show tb (-1) = false from rfl] at ku
    go_wp2_with (first
      | ((go_at_call 103; (with_reducible refine (ku).mono ?_)); rintro e w6 ⟨rfl, kk, hw6⟩; (have u6 : Upd [] w5 w6 := by (rw [hw6]; exact (Upd.refl _ _).drewN kk)); clear hw6; (have g60 := (HM5.out.upd0 u6).h0); (have g63 := (HM5.out.upd0 u6).h3); (have d6 := (HM5.out.upd0 u6).topI.cell g hgt); (have f6 := (HM5.out.upd0 u6).topI.free g); (have kd := cdrop_yes ((HM5.out.upd0 u6).setTop g m.root).cells x HIN.out))
      | ((go_at_call 104; (with_reducible refine (kd).mono ?_)); rintro e w7 ⟨rfl, hC7, hu7⟩)
      | fail)
    go_ret
    obtain ⟨b1, b2, b3, b4, b5⟩ := H5.out
    have bx := ((isT_plug _ _).1 b1).1
    refine ⟨rfl, ((u5.trans (u6.mono (by simp))).setCell (Or.inl (by simp [LB.blk])) _).trans (hu7.mono (fun y hy => by simp only [LB.blk, List.mem_cons]; simp [hy])), S5, rk5, tops.set g m.root, ((HM5.out.upd0 u6).setTop g m.root).setC hu7 hC7 (fun y hy => Or.inl hy) (drop_len _ _) (by rw [drop_hs]), b4, b5, b2, ⟨bx.2.2.1.root, bx.2.2.2.root, bx.2.1⟩, fun q hq => ?_⟩
    by_cases e : q = g
    · rw [if_pos ⟨rfl, e⟩, e, List.getD_eq_getElem?_getD, List.getElem?_set, if_pos rfl, if_pos hgt]; rfl
    · rw [if_neg (fun h => e h.2), List.getD_eq_getElem?_getD, List.getElem?_set, if_neg (fun h => e h.symm), ← List.getD_eq_getElem?_getD]
  | cons f P2 =>
    rw [show upP (f :: P2) = (f.1 : Int) from rfl, tv_nat, tb_nat] at ku
    have hfl : f.1 < A.cs.length := HT.out.2.2.2.2 f.1 (plug_ctx_mem.2 (Or.inr (by simp [ctxN])))
    have hn5 : (plug (f :: P2) (.node x .nil .nil)).nodes.Nodup := by
      refine (plug_nodes (f :: P2) (.node x .nil .nil)).nodup_iff.2 ?_
      obtain ⟨⟨a1, a2, a3⟩, a4, a5, a6, a7⟩ := HP.out
      simp only [BT.nodes, List.nil_append, List.singleton_append, List.nodup_cons]
      exact ⟨a3, a7⟩
    have hlt5 : ∀ y, y ∈ (plug (f :: P2) (.node x .nil .nil)).nodes → y ∈ (plug (f :: P2) (.node x l r)).nodes := fun y hy => by
      rw [plug_ctx_mem] at hy ⊢
      simp only [BT.nodes, List.nil_append, List.mem_cons, List.not_mem_nil, or_false] at hy
      rcases hy with hy | hy
      · exact Or.inl (by simp [BT.nodes, hy])
      · exact Or.inr hy
    have ksd : ∀ W, Upd [] w5 W → ∃ z : Int, (z == (x : Int)) = f.2.1 ∧ Calls Try.prog 87 #[.pointer (some ⟨B.bt, 0, none⟩), .int .i64 (f.1 : Int)] W fun e w' => e = .returned (.tuple #[.int .i64 (tv z), .bool (tb z)]) ∧ ∃ k, w' = W.drewN k := fun W hW => tside_any (HM5.out.upd0 hW).trees H5.out.1 hn5 hfl
    have kcw := fun W (hW : Upd [] w5 W) => tcut_any (HM5.out.upd0 hW).trees (f := f) (P := P2) (t := .node x .nil .nil) H5.out.1 hn5 (fun y hy => HT.out.2.2.2.2 y (hlt5 y hy))
    rw [show BT.root (.node x .nil .nil) = (x : Int) from rfl] at kcw
    generalize hcv : cutV f (.node x .nil .nil) = cv at kcw
    generalize hcb : tb (x : Int) = cb at kcw
    have HN5 := Lib.hid (And.intro hn5 hlt5)
    clear hn5 hlt5 hcv hcb
    by_cases hmz : m = .nil
    · have hmb : (m.root != -1) = false := by rw [hmz]; rfl
      have HMZ := Lib.hid hmz
      clear hmz
      go_wp2_with (first
        | ((go_at_call 103; (with_reducible refine (ku).mono ?_)); rintro e w6 ⟨rfl, kk, hw6⟩; (have u6 : Upd [] w5 w6 := by (rw [hw6]; exact (Upd.refl _ _).drewN kk)); clear hw6; (have g61 := (HM5.out.upd0 u6).h1); obtain ⟨z, hz, kr⟩ := ksd w6 u6)
        | ((go_at_call 87; (with_reducible refine (kr).mono ?_)); rintro e w7 ⟨rfl, kk7, hw7⟩; (have u7 : Upd [] w5 w7 := by (rw [hw7]; exact u6.drewN kk7)); clear hw7; (have g71 := (HM5.out.upd0 u7).h1); (have kc := kcw w7 u7))
        | (go_at_call 86; (with_reducible refine (lkid_any _ _).mono ?_); rintro e w9 ⟨rfl, hw9⟩; rw [hw9]; clear hw9 w9)
        | ((go_at_call 88; (with_reducible refine (kc).mono ?_)); rintro e w8 ⟨rfl, hu8, S8, hT8, hx8, hp8, hs8⟩; (have kmd := lfix_any ((HM5.out.upd0 u7).setT hu8 hT8) (old := .node x l r) hp8 (by trivial) H5.out.2.2.1 (by first | (refine (plug_nodes (f :: P2) .nil).nodup_iff.2 ?_; simpa [BT.nodes] using HP.out.2.2.2.2)) (by intro y hy; rw [plug_ctx_mem] at hy; exact HT.out.2.2.2.2 y (plug_ctx_mem.2 (Or.inr (by simpa [BT.nodes] using hy))))))
        | ((go_at_call 139; (with_reducible refine (kmd).mono ?_)); rintro e w9 ⟨rfl, hu9, S9, rk9, hM9, hE9⟩; (have g90 := hM9.h0); (have kd := cdrop_yes hM9.cells x HIN.out))
        | ((go_at_call 104; (with_reducible refine (kd).mono ?_)); rintro e w10 ⟨rfl, hC10, hu10⟩)
        | fail)
      go_ret
      have hz := HMZ.out
      subst hz
      refine ⟨rfl, ((((u5.trans (u7.mono (by simp))).trans (hu8.mono (by simp [LB.blk]))).trans (hu9.mono (by simp [LB.blk]))).trans (hu10.mono (fun y hy => by simp only [LB.blk, List.mem_cons]; simp [hy]))), S9, rk9, tops, hM9.setC hu10 hC10 (fun y hy => Or.inl hy) (drop_len _ _) (by rw [drop_hs]), hE9.isT, hE9.isR, fun y hy => ?_, ?_, fun q hq => by rw [if_neg (by simp)]⟩
      · have a1 := H5.out.2.1 y hy
        have a2 := hs8 y (fun hm => hy (HN5.out.2 y hm))
        have a3 := hE9.far y (fun hm => hy (plug_ctx_mem.2 (Or.inr (by rw [plug_ctx_mem] at hm; simpa [BT.nodes] using hm))))
        exact ⟨at_trans (at_trans a1.1 a2) a3.1, a3.2.trans a1.2⟩
      · have a3 := (hE9.far x (fun hm => HP.out.1.2.2 (by rw [plug_ctx_mem] at hm; simpa [BT.nodes] using hm))).1
        have a4 := hx8
        exact ⟨a3.1.trans a4.2.2.1.root, a3.2.1.trans a4.2.2.2.root, a3.2.2.trans a4.2.1⟩
    · have hmb : (m.root != -1) = true := by
        have := (root_mem hmz).2
        simp; omega
      have HMZ := Lib.hid hmz
      have hxm : ∀ y, y ∈ m.nodes → y ∉ (plug (f :: P2) (.node x .nil .nil)).nodes := fun y hy hm => by
        have b1 := HMM.out.1 y hy
        rw [plug_ctx_mem] at hm
        simp only [BT.nodes, List.nil_append, List.mem_cons, List.not_mem_nil, or_false] at hm
        rcases hm with hm | hm
        · exact b1.2 hm
        · exact b1.1 hm
      have hnd : (m.nodes ++ ctxN (f :: P2)).Nodup := by
        rw [List.nodup_append]
        exact ⟨HMM.out.2.2, HP.out.2.2.2.2, fun a ha b hb e => (HMM.out.1 a ha).1 (by rw [e]; exact hb)⟩
      have hsm : ∀ y, y ∈ m.nodes ++ ctxN (f :: P2) → y ∈ (plug (f :: P2) (.node x l r)).nodes := fun y hy => by
        rw [List.mem_append] at hy
        rcases hy with hy | hy
        · exact HMM.out.2.1 y hy
        · exact plug_ctx_mem.2 (Or.inr hy)
      have HXM := Lib.hid (And.intro hxm (And.intro hnd hsm))
      clear hmz hxm hnd hsm
      go_wp2_with (first
        | ((go_at_call 103; (with_reducible refine (ku).mono ?_)); rintro e w6 ⟨rfl, kk, hw6⟩; (have u6 : Upd [] w5 w6 := by (rw [hw6]; exact (Upd.refl _ _).drewN kk)); clear hw6; (have g61 := (HM5.out.upd0 u6).h1); obtain ⟨z, hz, kr⟩ := ksd w6 u6)
        | ((go_at_call 87; (with_reducible refine (kr).mono ?_)); rintro e w7 ⟨rfl, kk7, hw7⟩; (have u7 : Upd [] w5 w7 := by (rw [hw7]; exact u6.drewN kk7)); clear hw7; (have g71 := (HM5.out.upd0 u7).h1); (have kc := kcw w7 u7))
        | (go_at_call 86; (with_reducible refine (lkid_any _ _).mono ?_); rintro e w9 ⟨rfl, hw9⟩; rw [hw9]; clear hw9 w9)
        | ((go_at_call 88; (with_reducible refine (kc).mono ?_)); rintro e w8 ⟨rfl, hu8, S8, hT8, hx8, hp8, hs8⟩; (have g81 := ((HM5.out.upd0 u7).setT hu8 hT8).h1); (have khg := thang_any hT8 hp8 (H5.out.2.2.2.1.frame (fun y hy => hs8 y (HXM.out.1 y hy))) HMZ.out HXM.out.2.1 (fun y hy => HT.out.2.2.2.2 y (HXM.out.2.2 y hy))))
        | ((go_at_call 89; (with_reducible refine (khg).mono ?_)); rintro e w8b ⟨rfl, hu8b, S8b, hT8b, hp8b, hs8b⟩; (have kmd := lfix_any (((HM5.out.upd0 u7).setT hu8 hT8).setT hu8b hT8b) (old := .node x l r) hp8b H5.out.2.2.2.2 H5.out.2.2.1 ((plug_nodes (f :: P2) m).nodup_iff.2 HXM.out.2.1) (fun y hy => HT.out.2.2.2.2 y (HXM.out.2.2 y ((plug_nodes (f :: P2) m).mem_iff.1 hy)))))
        | ((go_at_call 139; (with_reducible refine (kmd).mono ?_)); rintro e w9 ⟨rfl, hu9, S9, rk9, hM9, hE9⟩; (have g90 := hM9.h0); (have kd := cdrop_yes hM9.cells x HIN.out))
        | ((go_at_call 104; (with_reducible refine (kd).mono ?_)); rintro e w10 ⟨rfl, hC10, hu10⟩)
        | fail)
      go_ret
      refine ⟨rfl, (((((u5.trans (u7.mono (by simp))).trans (hu8.mono (by simp [LB.blk]))).trans (hu8b.mono (by simp [LB.blk]))).trans (hu9.mono (by simp [LB.blk]))).trans (hu10.mono (fun y hy => by simp only [LB.blk, List.mem_cons]; simp [hy]))), S9, rk9, tops, hM9.setC hu10 hC10 (fun y hy => Or.inl hy) (drop_len _ _) (by rw [drop_hs]), hE9.isT, hE9.isR, fun y hy => ?_, ?_, fun q hq => by rw [if_neg (by simp)]⟩
      · have a1 := H5.out.2.1 y hy
        have a2 := hs8 y (fun hm => hy (HN5.out.2 y hm))
        have a2b := hs8b y (fun hm => hy (HXM.out.2.2 y hm))
        have a3 := hE9.far y (fun hm => hy (HXM.out.2.2 y ((plug_nodes (f :: P2) m).mem_iff.1 hm)))
        exact ⟨at_trans (at_trans (at_trans a1.1 a2) a2b) a3.1, a3.2.trans a1.2⟩
      · have hxn : x ∉ m.nodes ++ ctxN (f :: P2) := fun hm => by
          rw [List.mem_append] at hm
          rcases hm with hm | hm
          · exact (HMM.out.1 x hm).2 rfl
          · exact HP.out.1.2.2 hm
        have a3 := at_trans (hs8b x hxn) (hE9.far x (fun hm => hxn ((plug_nodes (f :: P2) m).mem_iff.1 hm))).1
        have a4 := hx8
        exact ⟨a3.1.trans a4.2.2.1.root, a3.2.1.trans a4.2.2.2.root, a3.2.2.trans a4.2.1⟩
theorem ldelete_yes (h : LfAt w B F gt ct A st tr) (g x : Nat) (hx : x ∈ (tr g).nodes) :
    Calls Try.prog 133 #[.pointer (some ⟨B.n0, 0, none⟩), .int .i64 (x : Int)] w fun e w' => e = .returned (.bool true) ∧ Upd (B.blk F gt) w w' ∧
      LfAt w' B F gt ct (dropN A x) (satS st (ldelT A (tr g) x).2) (fun q => if q = g then (ldelT A (tr g) x).1 else tr q) := by
  obtain ⟨S, rk, tops, hM, hI, hL, hR⟩ := h
  have hm := (hI.mem g x).1 hx
  have hin : inN A (x : Int) = true := (inN_nat A x).2 ⟨hm.2.1, by omega⟩
  have e := pathOf_eq hx
  unfold ldelT
  generalize (pathOf (tr g) x).1 = P at *
  generalize (pathOf (tr g) x).2.1 = l at *
  generalize (pathOf (tr g) x).2.2 = r at *
  have hgt : g < tops.length := by rw [hM.topn]; have := (hM.cells.ok.nat x hm.2.1); omega
  have hgh : g < A.hs.length := by rw [← hM.topn]; exact hgt
  have hT := hI.isT g
  have hn := hI.nd g
  have hH := hI.heap g
  have hRg := hR g
  have hLg := hL g
  rw [e] at hT hn hH hRg hLg
  obtain ⟨d1, d2, d3⟩ := del_tree settle_ok hn hH
  obtain ⟨l1, l2⟩ := (lean_plug _ _).1 hLg
  have ml := merge_lean A _ l r (Nat.le_refl _) l1.2.1 l1.2.2
  refine (ldelete_core hM hin hm.2.2 hgt hT hn hRg (fun y hy => ?_)).mono ?_
  · rw [← e] at hy
    have := (hI.mem g y).1 hy
    exact (inN_nat A y).2 ⟨this.2.1, by omega⟩
  · rintro e' w' ⟨rfl, hu, S', rk', tops', q1, q2, q3, q4, q5, q6⟩
    refine ⟨rfl, hu, S', rk', tops', q1, hI.del hx q2 ?_ (fix_heap _ _ _ d2) (fun y hy => (q4 y (by rw [← e]; exact hy)).1) q5 (fun q hq => ?_), fun q => ?_, fun q => ?_⟩
    · rw [e]; exact ((fix_nodes _ _ _).cons x).trans d1
    · rw [q6 q hq]
      by_cases hq' : q = g
      · rw [if_pos hq']
        by_cases hp : P = []
        · rw [if_pos ⟨hp, hq'⟩]
        · rw [if_neg (fun h => hp h.1), hq', hI.top g hgh, e]
          cases P with
          | nil => exact absurd rfl hp
          | cons f P2 => rw [fix_root]; exact plug_rootc _ _ _ _
      · rw [if_neg hq', if_neg (fun h => hq' h.2)]
    · show Lean (if q = g then _ else _)
      split
      · exact fix_lean _ _ _ ml l2
      · exact hL q
    · show RkOk rk' (if q = g then _ else _)
      split
      · exact q3
      · rename_i hq
        refine (hR q).frame (fun y hy => (q4 y (fun hm' => ?_)).2)
        rw [← e] at hm'
        have c1 := (hI.mem g y).1 hm'
        have c2 := (hI.mem q y).1 hy
        omega
end
end Go.Proofs.Ytechoojcgdjcdaa
