/-
  Binomial heaps: Nest.New, Make. Conditions: those of each lemma.
-/
import Derived.Test.YtighgbdijagolaaBn7
set_option linter.unusedVariables false
set_option linter.unusedSimpArgs false
namespace Go.Proofs.Ytighgbdijagolaa
open Go Go.RowKit

theorem rowInfo : (Try.prog.info? 63).map (fun i => (i.zero, i.size, i.bytes)) = some (some (.slice none 0 0), 1, 24) := by kernel_rfl
theorem bn_far {A : NS} {G : BG} (I : BnI A G) (ok : A.Ok) : G.R A.hs.length = [] := by
  cases e : G.R A.hs.length with
  | nil => rfl
  | cons x t =>
    have hx : x ∈ G.R A.hs.length := by rw [e]; simp
    obtain ⟨y, _, hy, _, hh, _⟩ := bn_in I hx
    have := ok.nat y hy
    omega
theorem getD_snoc (vs : List Value) (v : Value) (k : Nat) : (vs ++ [v]).getD k undef = if k < vs.length then vs.getD k undef else if k = vs.length then v else undef := by
  simp only [List.getD_eq_getElem?_getD]
  by_cases e : k < vs.length
  · rw [List.getElem?_append_left e, if_pos e]
  · rw [List.getElem?_append_right (by omega), if_neg e]
    by_cases e2 : k = vs.length
    · subst e2; simp
    · rw [if_neg e2, List.getElem?_eq_none (by simp; omega)]; rfl
section
variable {w : World} {p : Nat} {FF : List Nat} {A : NS} {st : Nat} {G : BG}
set_option maxHeartbeats 2000000 in
theorem bmake_any (h : BnK w p FF A st G) :
    Calls Try.prog 42 #[.pointer (some ⟨p, 0, none⟩)] w fun e w' => e = .returned (.int .i64 (makeV A)) ∧ Goes FF w w' (fun FF' => BnK w' p FF' (makeN A) st G) := by
  obtain ⟨⟨B, F, gr, cr, lo, S, vs, rfl, rfl, M, eF⟩, I⟩ := h
  have k := cmake_any M.cells
  have h0 := M.h0
  have I2 := bn_make I
  by_cases hl : 65536 < A.hs.length
  · have e1 : makeV A = 0 := by unfold makeV; rw [if_pos hl]
    have e2 : makeN A = A := by unfold makeN; rw [if_pos hl]
    rw [e1, e2] at k
    rw [e1, e2]
    have HM := Lib.hid M
    have HI := Lib.hid (And.intro I eF)
    clear M I eF e1 e2 I2
    go_enter Try.func42, Try.ntmps42
    go_wp2_with ((go_at_call 68; (with_reducible refine (k).mono ?_)); rintro e w1 ⟨rfl, F1, hC, hu, hF⟩)
    go_ret
    refine ⟨rfl, B.blk F1 gr A.cs.length S vs, ⟨⟨B, F1, gr, cr, lo, S, vs, rfl, rfl, HM.out.setC hu hC hF rfl rfl, HI.out.2⟩, HI.out.1⟩, hu.mono blk_F, fun y hy => ?_⟩
    simp only [BB.blk, List.mem_cons, List.mem_append] at hy ⊢
    rcases hy with e | e | e | e | e | e | e
    · exact Or.inl (Or.inl e)
    · exact Or.inl (Or.inr (Or.inl e))
    · exact Or.inl (Or.inr (Or.inr (Or.inl e)))
    · exact Or.inl (Or.inr (Or.inr (Or.inr (Or.inl e))))
    · rcases hF y e with h' | h'
      · exact Or.inl (Or.inr (Or.inr (Or.inr (Or.inr (Or.inl h')))))
      · exact Or.inr h'
    · exact Or.inl (Or.inr (Or.inr (Or.inr (Or.inr (Or.inr (Or.inl e))))))
    · exact Or.inl (Or.inr (Or.inr (Or.inr (Or.inr (Or.inr (Or.inr e))))))
  · have e1 : makeV A = A.hs.length := by unfold makeV; rw [if_neg hl]
    rw [e1] at k
    rw [e1]
    have hcs : (makeN A).cs.length = A.cs.length := by rw [make_cs]
    have hhs : (makeN A).hs.length = A.hs.length + 1 := by unfold makeN; rw [if_neg hl]; simp
    have hh0 := M.cells.ok.h0
    have hvl : vs.length ≤ 65536 := by rw [M.len]; omega
    have hlen := M.len
    have hpos : (0 : Int) < (A.hs.length : Int) := by omega
    have HM := Lib.hid M
    have HI := Lib.hid (And.intro I2 (And.intro eF (And.intro (bn_far I M.cells.ok) hlen)))
    clear M I e1 I2 eF hlen
    go_enter Try.func42, Try.ntmps42
    go_wp2_with (first
      | ((go_at_call 68; (with_reducible refine (k).mono ?_)); rintro e w1 ⟨rfl, F1, hC, hu, hF⟩; (have d3 := hu.kept HM.out.h2 HM.out.d1.1); (have f3 := hu.keptF HM.out.h2 HM.out.d1.1 (HM.out.head.free 2)); (have ho1 := owns_upd HM.out.rows hu (fun g hg => by simp [Value.ownBlock] at hg; subst hg; exact HM.out.d1.2.2.2)); (have g0 : B.n0 ≠ gr := HM.out.d2.2.2.1); (have gl := Nat.lt_of_lt_of_le HM.out.gr_lt hu.size))
      | ((at_builtin; refine wpList_append_sep rfl _ _ 30 rfl 0 63 (.slice none 0 0) 1 24 Try.underlying30 rowInfo rfl (by decide) _ _ _ rfl (ho1) [.slice none 0 0] rfl (by simp [Value.oneCell']) (by first | rfl | (rw [World.size_alloc]; rfl)) (by unfold maxLen; omega) (by omega) (by omega) ?_; intro v2 w2 ho2 hu2 hsep2); (have hu2 : Upd [gr] w1 w2 := hu2); obtain ⟨gr1, cr1, ev, _⟩ := own_shape ho2 (by omega); subst ev; (have d4 := hu2.kept d3 (by simp; omega)); (have f4 := hu2.keptF d3 (by simp; omega) f3)))
    go_ret
    have hM := HM.out
    have hlt := hM.lt
    have f := hM.d1
    have q := hM.d2
    have hws := hu.size
    have hw3 : Upd [B.n0] w2 (w2.setCell ⟨B.n0, 2, none⟩ (.slice (some ⟨gr1, 0, none⟩) (vs.length + 1) cr1)) := by (repeat (first | assumption | exact Upd.refl _ _ | refine Upd.alloc ?_ _ | refine Upd.drew ?_ | refine Upd.drewN ?_ _ | refine Upd.setCell ?_ ?_ _ | focus (left; simp; done) | focus (right; simp; done) | focus (right; simp; omega)))
    have hg1 : gr1 = gr ∨ w1.heap.size < gr1 := by
      rcases hsep2 with h | h
      · exact Or.inl (Option.some.inj h)
      · exact Or.inr (h gr1 rfl)
    have hC1 := hC.lt
    have l0 := hlt B.n0 (by simp [BB.blk])
    have l1 := hlt B.bt (by simp [BB.blk])
    have l2 := hlt B.ba (by simp [BB.blk])
    have l4 := hM.gr_lt
    have hnF : ∀ y, y < w.heap.size → y ∉ F → y ∉ F1 := fun y hy hn hm => by rcases hF y hm with h' | h'; exact hn h'; omega
    have hgF : gr1 ∉ F1 := by
      rcases hg1 with e | e
      · rw [e]; exact hnF gr l4 f.2.2.2
      · exact fun hm => by have := hC1 gr1 hm; omega
    have hgn : ∀ y, y < w.heap.size → y ≠ gr → y ≠ gr1 := fun y hy hn e => by
      rcases hg1 with e2 | e2
      · exact hn (e.trans e2)
      · omega
    have hcs := hcs
    have hv : (vs ++ [Value.slice none 0 0]).length = vs.length + 1 := by simp
    have hin := HI.out.2.2.1
    have hhd := ((hM.head.upd hu f.1).upd hu2 (by simp; omega)).set 2 (.slice (some ⟨gr1, 0, none⟩) (vs.length + 1) cr1)
    have oldv : ∀ j, j < vs.length + 1 → ∀ g, ((vs ++ [Value.slice none 0 0]).getD j undef).ownBlock = some g → j < vs.length ∧ (vs.getD j undef).ownBlock = some g := fun j hj g hg => by
      rw [getD_snoc] at hg
      by_cases e : j < vs.length
      · rw [if_pos e] at hg; exact ⟨e, hg⟩
      · rw [if_neg e, if_pos (by omega)] at hg; cases hg
    have hBM : BnM (w2.setCell ⟨B.n0, 2, none⟩ (.slice (some ⟨gr1, 0, none⟩) (vs.length + 1) cr1)) B F1 gr1 cr1 lo (makeN A) st S (vs ++ [.slice none 0 0]) G.R := by
      refine ⟨?_, ?_, ?_, ?_, by rw [hv, hhs, HI.out.2.2.2], fun j hj => ?_, ⟨hnF _ l0 f.1, hnF _ l1 f.2.1, hnF _ l2 f.2.2.1, hgF⟩, ⟨q.1, q.2.1, hgn _ l0 q.2.2.1, hgn _ l1 q.2.2.2.1, hgn _ l2 q.2.2.2.2⟩, fun g hg => ?_, fun j g hj hg => ?_, fun j k g hj hk hne hg => ?_⟩
      · rw [hv]
        refine hhd.ext (fun j hj => ?_)
        rcases (by omega : j = 0 ∨ j = 1 ∨ j = 2) with rfl | rfl | rfl <;> rfl
      · exact (hC.upd hu2 (fun y hy => by simp at hy; rw [hy]; exact hnF gr l4 f.2.2.2)).upd hw3 (fun y hy => by simp at hy; rw [hy]; exact hnF _ l0 f.1)
      · rw [hcs]
        exact ((hM.cubes.upd hu f.2.1 f.2.2.1 (fun g hg => (hM.d3 g hg).2.2)).upd hu2 (by simp; exact q.2.2.2.1) (by simp; exact q.2.2.2.2) (fun g hg hm => by simp at hm; exact (hM.d3 g hg).2.1 hm)).upd hw3 (by simp; exact Ne.symm q.1) (by simp; exact Ne.symm q.2.1) (fun g hg hm => by simp at hm; exact (hM.d3 g hg).1 hm)
      · rw [hv]
        refine owns_upd (owns_mono ho2 (Nat.zero_le _)) hw3 (fun g hg hm => ?_)
        simp [Value.ownBlock] at hg hm
        exact hgn _ l0 q.2.2.1 (by omega)
      · rw [hv] at hj
        rw [getD_snoc]
        by_cases e : j < vs.length
        · rw [if_pos e]
          exact (((hM.each j e).upd hu (fun g hg => (hM.d4 j g e hg).2.2.2.2.1)).upd hu2 (fun g hg hm => by simp at hm; exact (hM.d4 j g e hg).2.2.2.1 hm)).upd hw3 (fun g hg hm => by simp at hm; exact (hM.d4 j g e hg).1 hm)
        · obtain rfl : j = vs.length := by omega
          rw [if_neg e, if_pos rfl, HI.out.2.2.2, hin]
          exact OwnOff.nil _ _
      · rw [hcs] at hg
        have := hM.d3 g hg
        have hgl := (hM.cubes.blk_lo hg).2
        exact ⟨this.1, hgn g hgl this.2.1, hnF g hgl this.2.2⟩
      · rw [hv] at hj
        obtain ⟨e, hg⟩ := oldv j hj g hg
        have := hM.d4 j g e hg
        have hgl := hM.row_lt e hg
        rw [hcs]
        exact ⟨this.1, this.2.1, this.2.2.1, hgn g hgl this.2.2.2.1, hnF g hgl this.2.2.2.2.1, this.2.2.2.2.2⟩
      · rw [hv] at hj hk
        obtain ⟨e, hg⟩ := oldv j hj g hg
        intro h2
        obtain ⟨e2, h2⟩ := oldv k hk g h2
        exact hM.d5 j k g e e2 hne hg h2
    refine ⟨rfl, B.blk F1 gr1 (makeN A).cs.length S (vs ++ [.slice none 0 0]), ⟨⟨B, F1, gr1, cr1, lo, S, _, rfl, rfl, hBM, HI.out.2.1⟩, HI.out.1⟩, ((hu.mono blk_F).trans (hu2.mono (fun y hy => by simp at hy; subst hy; simp [BB.blk]))).trans (hw3.mono (fun y hy => by simp at hy; subst hy; simp [BB.blk])), fun y hy => ?_⟩
    rw [hcs] at hy
    simp only [BB.blk, List.mem_cons, List.mem_append] at hy ⊢
    rcases hy with e | e | e | e | e | e | e
    · exact Or.inl (Or.inl e)
    · exact Or.inl (Or.inr (Or.inl e))
    · exact Or.inl (Or.inr (Or.inr (Or.inl e)))
    · rcases hg1 with e2 | e2
      · exact Or.inl (Or.inr (Or.inr (Or.inr (Or.inl (e.trans e2)))))
      · exact Or.inr (by omega)
    · rcases hF y e with h' | h'
      · exact Or.inl (Or.inr (Or.inr (Or.inr (Or.inr (Or.inl h')))))
      · exact Or.inr h'
    · exact Or.inl (Or.inr (Or.inr (Or.inr (Or.inr (Or.inr (Or.inl e))))))
    · obtain ⟨j, hj, hg⟩ := mem_rblk.1 e
      rw [hv] at hj
      obtain ⟨e3, hg⟩ := oldv j hj y hg
      exact Or.inl (Or.inr (Or.inr (Or.inr (Or.inr (Or.inr (Or.inr (mem_rblk.2 ⟨j, e3, hg⟩)))))))
end
theorem bnew_no (n : Int) (w : World) (h : n < 0 ∨ 65536 < n) :
    Calls Try.prog 17 #[.int .i64 n] w fun e w' => e = .returned (.tuple #[.pointer none, .int .i64 31]) ∧ w' = w := by
  have k := cnew_no n w h
  go_enter Try.func17, Try.ntmps17
  go_wp2_with ((go_at_call 44; (with_reducible refine (k).mono ?_); rintro e w9 ⟨rfl, hw9⟩; rw [hw9]; clear hw9 w9))
  go_ret2
  exact ⟨rfl, rfl⟩
set_option maxHeartbeats 1000000 in
theorem bnew_yes (n : Nat) (w : World) (h : n ≤ 65536) :
    Calls Try.prog 17 #[.int .i64 (n : Int)] w fun e w' => ∃ p FF, e = .returned (.tuple #[.pointer (some ⟨p, 0, none⟩), .int .i64 0]) ∧ BnK w' p FF (NS.new n) 0 BG.none ∧ Upd [] w w' ∧ ∀ x, x ∈ FF → w.heap.size ≤ x := by
  have k := cnew_yes n w h
  have kc := fun W => carryNew_yes n W h
  go_enter Try.func17, Try.ntmps17
  go_wp2_with (first
    | ((go_at_call 44; (with_reducible refine (k).mono ?_)); rintro e w1 ⟨c, F, rfl, hC, hu1, hF⟩)
    | ((go_at_call 45; (with_reducible refine (kc _).mono ?_)); rintro e w2 ⟨bt, ba, rfl, hFo, hu2, hbt, hba⟩))
  go_ret2
  have hn : (NS.new n).cs.length = n := by simp [NS.new]
  obtain ⟨w3, hw3⟩ : ∃ w3, w3 = w2.alloc (.cells #[.slice none 0 0] 63) := ⟨_, rfl⟩
  have hs3 : w3.heap.size = w2.heap.size + 1 := by rw [hw3]; simp
  have u3 : Upd [] w2 w3 := by rw [hw3]; exact (Upd.refl _ _).alloc _
  have o3 : w3.ownsRow 0 63 1 (.slice (some ⟨w2.heap.size, 0, none⟩) 1 1) 1 [.slice none 0 0] := by rw [hw3]; exact own_lit w2 [.slice none 0 0] 63 0 1 1 rfl (Nat.zero_le _) (by unfold maxLen; omega)
  rw [← hw3]
  have hR := rowAt_new w3 [Value.pointer (some ⟨c, 0, none⟩), .pointer (some ⟨bt, 0, none⟩), .slice (some ⟨w2.heap.size, 0, none⟩) 1 1] 32
  rw [hs3] at hR
  have u4 : Upd [] w3 (w3.alloc (.cells #[.pointer (some ⟨c, 0, none⟩), .pointer (some ⟨bt, 0, none⟩), .slice (some ⟨w2.heap.size, 0, none⟩) 1 1] 32)) := (Upd.refl _ _).alloc _
  have z1 := hu1.size
  have z2 := hu2.size
  have hlF := hC.lt
  have hb1 := hFo.head.lt
  have hb2 := hFo.row.lt
  have hFn : ∀ y, w1.heap.size ≤ y → y ∉ F := fun y hy hm => by have := hlF y hm; omega
  have hno : ∀ m g, g ∉ CS.none.blk m := fun m g hg => by
    obtain ⟨y, _, e⟩ := (CS.mem_blk _ m g).1 hg
    cases e
  have hv0 : ∀ h, h < [Value.slice none 0 0].length → [Value.slice none 0 0].getD h undef = Value.slice none 0 0 := fun h hh => by
    have : h = 0 := by simp at hh; omega
    subst this; rfl
  have hBM : BnM (w3.alloc (.cells #[.pointer (some ⟨c, 0, none⟩), .pointer (some ⟨bt, 0, none⟩), .slice (some ⟨w2.heap.size, 0, none⟩) 1 1] 32)) ⟨w2.heap.size + 1, c, bt, ba⟩ F w2.heap.size 1 w2.heap.size (NS.new n) 0 CS.none [.slice none 0 0] BG.none.R := by
    refine ⟨hR, hC.upd0 (hu2.trans (u3.trans u4)), by rw [hn]; exact hFo.upd0 (u3.trans u4), owns_upd o3 u4 (by simp), rfl, fun h hh => by rw [hv0 h hh]; exact OwnOff.nil _ _, ⟨hFn _ (by simp only; omega), hFn _ (by simp only; omega), hFn _ (by simp only; omega), hFn _ (by omega)⟩, ⟨?_, ?_, ?_, ?_, ?_⟩, fun g hg => absurd hg (hno _ g), fun h g hh hg => (by rw [hv0 h hh] at hg; cases hg), fun h k g hh hk _ hg => (by rw [hv0 h hh] at hg; cases hg)⟩
    all_goals simp only; omega
  refine ⟨w2.heap.size + 1, _, by simp [hs3], ⟨⟨⟨w2.heap.size + 1, c, bt, ba⟩, F, w2.heap.size, 1, w2.heap.size, CS.none, [.slice none 0 0], rfl, rfl, hBM, rfl⟩, bn_new n⟩, hu1.trans (hu2.trans (u3.trans u4)), fun y hy => ?_⟩
  simp only [BB.blk, List.mem_cons, List.mem_append] at hy
  rcases hy with e | e | e | e | e | e | e
  · omega
  · omega
  · omega
  · omega
  · exact hF y e
  · exact absurd e (hno _ y)
  · obtain ⟨j, hj, hg⟩ := mem_rblk.1 e
    rw [hv0 j hj] at hg; cases hg
end Go.Proofs.Ytighgbdijagolaa
