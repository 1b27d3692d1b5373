/-
  Fibonacci heaps: Delete, Make, New. Conditions: those of each lemma.
-/
import Derived.Test.YtighgbdijagolaaFb7
set_option linter.unusedVariables false
set_option linter.unusedSimpArgs false
namespace Go.Proofs.Ytighgbdijagolaa
open Go Go.RowKit

def fdelG (A : NS) (x : Nat) (G : FG) : FG := if hdI (G.R (A.c x).i.toNat) = x then fextG A (A.c x).i G else delG2 (A.c x).i.toNat x (looseG A.cs.length (A.c x).i.toNat x G)
def fdelQ (A : NS) (x : Nat) (G : FG) : Nat := if hdI (G.R (A.c x).i.toNat) = x then fextQ A (A.c x).i G else 0
section
variable {w : World} {p : Nat} {FF : List Nat} {A : NS} {st : Nat} {G : FG}
theorem fdel_no (h : FbK w p FF A st G) (x : Int) (hin : inN A x = false) :
    Calls Try.prog 163 #[.pointer (some ⟨p, 0, none⟩), .int .i64 x] w fun e w' => e = .returned (.bool false) ∧ w' = w := by
  obtain ⟨⟨B, F, gt, ct, rfl, rfl, M⟩, I⟩ := h
  have h0 := M.h0
  have kh := chome_no M.cells x hin
  clear M I hin
  go_enter Try.func163, Try.ntmps163
  go_wp2_with ((go_at_call 66; (with_reducible refine (kh).mono ?_); rintro e w9 ⟨rfl, hw9⟩; rw [hw9]; clear hw9 w9))
  go_ret
  exact ⟨rfl, rfl⟩
set_option maxHeartbeats 8000000 in
theorem fdel_yes (h : FbK w p FF A st G) (x : Nat) (hin : inN A (x : Int) = true) :
    Calls Try.prog 163 #[.pointer (some ⟨p, 0, none⟩), .int .i64 (x : Int)] w fun e w' => e = .returned (.bool true) ∧
      Goes FF w w' (fun FF' => FbK w' p FF' (dropN A x) (satS st (fdelQ A x G)) (fdelG A x G)) := by
  obtain ⟨⟨B, F, gt, ct, rfl, rfl, M⟩, I⟩ := h
  have hst := M.cells.st62
  have ok := M.cells.ok
  obtain ⟨hx, hx0⟩ := (inN_nat _ _).1 hin
  obtain ⟨hh, hxh⟩ : ∃ hh : Nat, (A.c x).i = hh := ⟨(A.c x).i.toNat, by omega⟩
  have h1 : 1 ≤ hh := by omega
  have hhl : hh < A.hs.length := by have := (ok.nat x hx).2; omega
  unfold fdelG fdelQ
  rw [hxh, Int.toNat_natCast]
  obtain ⟨t, s, hR⟩ : ∃ t s, G.R hh = t :: s := by
    cases hRR : G.R hh with
    | nil =>
      have h2 := I.min_none hRR
      have h3 := (minN_none (A := A) (h := (hh : Int)) (by omega)).1 h2
      have : 0 < lenN A (hh : Int) := lenN_pos.2 ⟨x, hx, hxh, by omega⟩
      omega
    | cons t s => exact ⟨t, s, rfl⟩
  have kh := chome_yes M.cells x hin
  rw [hxh] at kh
  have h0 := M.h0
  have ms := fun W (hu : Upd F w W) (hC : CellsAt W B.c F A st) => M.setC hu hC (fun y hy => Or.inl hy) rfl rfl
  have hhs := ok.h1
  have hhI : (hh : Int) < (A.hs.length : Int) := by omega
  have hcap := M.cap
  have hxI : (x : Int) < (A.cs.length : Int) := by omega
  have hcm := M.cells.mem
  have hmin := (I.min_some hR).1
  by_cases htx : t = x
  · subst htx
    rw [hR, if_pos (by rfl), if_pos (by rfl)]
    have ee : extN A (hh : Int) = dropN A t := by unfold extN; rw [hmin]
    have ke := fun W (hK : FbK W B.n0 (B.blk F gt) A st G) => fextract_any hK (hh : Int) (by omega)
    simp only [hmin, ee] at ke
    have HK := Lib.hid (And.intro ms (And.intro I (And.intro ke hR)))
    clear M I ms ke ee hin hR hmin
    go_enter Try.func163, Try.ntmps163
    go_wp2_with (first
      | ((go_at_call 66; (with_reducible refine (kh).mono ?_)); rintro e w1 ⟨rfl, hC1, hu1⟩; (have M1 := HK.out.1 _ hu1 hC1); (have d3 := M1.h3); (have dt : w1.cell? ⟨gt, hh, none⟩ = some (.int .i64 (t : Int)) := by (have dt0 := M1.top hhl; rw [HK.out.2.2.2] at dt0; exact dt0)); (have ke1 := HK.out.2.2.1 _ ⟨⟨B, F, gt, ct, rfl, rfl, M1⟩, HK.out.2.1⟩); (have HU := Lib.hid hu1); clear M1 hC1 hu1)
      | ((go_at_call 62; (with_reducible refine (ke1).mono ?_)); rintro e w2 ⟨rfl, FF2, hK2, hu2, hF2⟩)
      | fail)
    go_ret
    exact ⟨rfl, FF2, hK2, (HU.out.mono fblk_F).trans hu2, fun y hy => (hF2 y hy).imp id (fun h => Nat.le_trans HU.out.size h)⟩
  · have hne : ¬ hdI (G.R hh) = (x : Int) := by rw [hR]; intro e; exact htx (by have e2 : (t : Int) = (x : Int) := e; omega)
    rw [if_neg hne, if_neg hne, satS_zero hst]
    obtain ⟨hoff, f1, f2, ⟨s', hR1⟩, _, ux, _⟩ := del1_fb I hR hx hxh htx
    obtain ⟨I2, hhd, _⟩ := del_fb ⟨f1, f2⟩ ok hR1 hx ux hxh htx
    have kl := fun W (hM : FbM W B F gt ct A st G) => floosen_any (w := W) (M := hM) (hom := fun y => (A.c y).i) (L := lt3 A) (Mx := lt3 A) (fun a => lt3_irr) (q := hh) (x := x) (t := t) (s := s) hhl hx (I.ff.mono (fun y q hy hu ho => ⟨(I.ff.home y q hy hu).1, (I.ff.home y q hy hu).2, fun _ => ho⟩) I.ff.alone) hR (I.min_some hR).2.2.1 h1
      (fun p1 hp1 => ⟨(hoff p1 hp1).1, (hoff p1 hp1).2.2.1, (hoff p1 hp1).2.2.2.1, (hoff p1 hp1).2.2.2.2.1, (hoff p1 hp1).2.2.2.2.2⟩) (fun y hy hyh hyt => I.first hR hy hyh hyt)
    have kra := fun W (hM : FbM W B F gt ct A st (looseG A.cs.length hh x G)) => fraise_any hM hx (f1.ring x hx) (fun z hz => (f1.kid x z hx hz).1)
    have kpa := fun W (hM : FbM W B F gt ct A st (raiseG (looseG A.cs.length hh x G) x)) => rpart_any hM.rings hx
    have kdr := fun W (hC : CellsAt W B.c F A st) => cdrop_yes hC x hin
    have htxI : ((t : Int) == (x : Int)) = false := by simp; omega
    obtain ⟨G1, hG1⟩ : ∃ G1, looseG A.cs.length hh x G = G1 := ⟨_, rfl⟩
    rw [hG1] at kl kra kpa I2 hR1 hhd ⊢
    have HK := Lib.hid (And.intro ms (And.intro kl (And.intro kra (And.intro kpa (And.intro kdr (And.intro I2 (And.intro hR (And.intro hR1 hhd))))))))
    clear M I ms kl kra kpa kdr I2 hR hR1 hhd hin hmin hoff f1 f2 ux hG1 hne
    go_enter Try.func163, Try.ntmps163
    go_wp2_with (first
      | ((go_at_call 66; (with_reducible refine (kh).mono ?_)); rintro e w1 ⟨rfl, hC1, hu1⟩; (have M1 := HK.out.1 _ hu1 hC1); (have d3 := M1.h3); (have dt : w1.cell? ⟨gt, hh, none⟩ = some (.int .i64 (t : Int)) := by (have dt0 := M1.top hhl; rw [HK.out.2.2.2.2.2.2.1] at dt0; exact dt0)); (have k1 := HK.out.2.1 _ M1); (have HU1 := Lib.hid hu1); clear M1 hC1 hu1)
      | ((go_at_call 165; (with_reducible refine (k1).mono ?_)); rintro e w2 ⟨rfl, M2, hu2⟩; (have k2 := HK.out.2.2.1 _ M2); (have HU2 := Lib.hid hu2); clear M2 hu2 k1)
      | ((go_at_call 84; (with_reducible refine (k2).mono ?_)); rintro e w3 ⟨rfl, M3, hu3⟩; (have k3 := HK.out.2.2.2.1 _ M3); (have e3 := M3.h1); (have HM3 := Lib.hid (And.intro M3 hu3)); clear M3 hu3 k2)
      | ((go_at_call 85; (with_reducible refine (k3).mono ?_)); rintro e w4 ⟨rfl, hR4, hu4⟩; (have M4 := HM3.out.1.setR hu4 hR4); (have e4 := M4.h0); (have k4 := HK.out.2.2.2.2.1 _ M4.cells); (have HM4 := Lib.hid (And.intro M4 hu4)); clear M4 hu4 hR4 k3)
      | ((go_at_call 87; (with_reducible refine (k4).mono ?_)); rintro e w5 ⟨rfl, hC5, hu5⟩)
      | fail)
    go_ret
    have M5 := HM4.out.1.setC hu5 hC5 (fun y hy => Or.inl hy) (drop_len A x) (by rw [drop_hs])
    have eR : (raiseG G1 x).R = G1.R := raise_R G1 x
    have M6 := M5.setT0 hh (midR (G1.R hh) (kl (G1.K x)) x) (by
      show hdI _ = hdI ((raiseG G1 x).R hh)
      rw [eR, HK.out.2.2.2.2.2.2.2.1]
      have h9 := HK.out.2.2.2.2.2.2.2.2
      rw [show (delG2 hh x G1).R hh = midR (G1.R hh) (kl (G1.K x)) x from putF_at _ _ _, HK.out.2.2.2.2.2.2.2.1] at h9
      rw [h9]; rfl)
    have eG : delG2 hh x G1 = { prt (raiseG G1 x) x with R := putF (raiseG G1 x).R hh (midR (G1.R hh) (kl (G1.K x)) x) } := by unfold delG2; rw [eR]
    refine ⟨rfl, B.blk F gt, ⟨⟨B, F, gt, ct, rfl, rfl, ?_⟩, HK.out.2.2.2.2.2.1⟩, (((HU1.out.mono fblk_F).trans (HU2.out.mono (fun z hz => by simp at hz; rcases hz with e | e | e <;> simp [FB.blk, e]))).trans (HM3.out.2.mono (fun z hz => by simp at hz; rcases hz with e | e | e <;> simp [FB.blk, e]))).trans ((HM4.out.2.mono (fun z hz => by simp at hz; rcases hz with e | e <;> simp [FB.blk, e])).trans (hu5.mono fblk_F)), fun y hy => Or.inl hy⟩
    rw [eG]
    exact M6
theorem fb_far (I : FbI A G) (ok : A.Ok) : G.R A.hs.length = [] := by
  cases e : G.R A.hs.length with
  | nil => rfl
  | cons x t =>
    have := I.out (h := A.hs.length) (z := x) (by rw [e]; simp)
    have := ok.nat x this.2.1
    omega
set_option maxHeartbeats 2000000 in
theorem fmake_any (h : FbK w p FF A st G) :
    Calls Try.prog 60 #[.pointer (some ⟨p, 0, none⟩)] w fun e w' => e = .returned (.int .i64 (makeV A)) ∧ Goes FF w w' (fun FF' => FbK w' p FF' (makeN A) st G) := by
  obtain ⟨⟨B, F, gt, ct, rfl, rfl, M⟩, I⟩ := h
  have k := cmake_any M.cells
  have h0 := M.h0
  have I2 := fb_make I
  by_cases hl : 65536 < A.hs.length
  · have e1 : makeV A = 0 := by unfold makeV; rw [if_pos hl]
    have e2 : makeN A = A := by unfold makeN; rw [if_pos hl]
    rw [e1, e2] at k
    rw [e1, e2]
    have HM := Lib.hid M
    have HI := Lib.hid I
    clear M I e1 e2 I2
    go_enter Try.func60, Try.ntmps60
    go_wp2_with ((go_at_call 68; (with_reducible refine (k).mono ?_)); rintro e w1 ⟨rfl, F1, hC, hu, hF⟩)
    go_ret
    exact ⟨rfl, B.blk F1 gt, ⟨⟨B, F1, gt, ct, rfl, rfl, HM.out.setC hu hC hF rfl rfl⟩, HI.out⟩, hu.mono fblk_F, fblk_go hF⟩
  · have e1 : makeV A = A.hs.length := by unfold makeV; rw [if_neg hl]
    rw [e1] at k
    rw [e1]
    have hcs : (makeN A).cs.length = A.cs.length := by unfold makeN; rw [if_neg hl]
    have hhs : (makeN A).hs.length = A.hs.length + 1 := by unfold makeN; rw [if_neg hl]; simp
    have hh0 := M.cells.ok.h0
    have hpos : (0 : Int) < (A.hs.length : Int) := by omega
    have hfar := fb_far I M.cells.ok
    have HM := Lib.hid M
    have HI := Lib.hid (And.intro I2 hfar)
    have hlb : A.hs.length ≤ 65536 := by omega
    clear M I e1 I2 hfar
    go_enter Try.func60, Try.ntmps60
    go_wp2_with (first
      | ((go_at_call 68; (with_reducible refine (k).mono ?_)); rintro e w1 ⟨rfl, F1, hC, hu, hF⟩; (have d3 := hu.kept HM.out.h3 HM.out.d1.1); (have f3 := hu.keptF HM.out.h3 HM.out.d1.1 (HM.out.head.free 3)); (have ho1 := owns_upd HM.out.tops.own hu (fun g hg => by simp [Value.ownBlock] at hg; subst hg; exact HM.out.d1.2.2.2.2.2)); rw [topsL_len] at ho1; (have g0 : B.n0 ≠ gt := HM.out.d2.2.2.2.2); (have gl := Nat.lt_of_lt_of_le (HM.out.lt gt (by simp [FB.blk])) hu.size))
      | ((at_builtin; refine wpList_append_sep rfl _ _ 63 rfl 0 3 (.int .i64 0) 1 8 Try.underlying63 intInfo rfl (by decide) _ _ _ rfl (ho1) [.int .i64 (-1)] rfl (by simp [Value.oneCell']) (by first | rfl | (rw [World.size_alloc]; rfl)) (by unfold maxLen; omega) (by omega) (by omega) ?_; intro v2 w2 ho2 hu2 hsep2); (have hu2 : Upd [gt] w1 w2 := hu2); obtain ⟨gt1, ct1, ev, _⟩ := own_shape ho2 (by omega); subst ev; (have d4 := hu2.kept d3 (by simp; omega)); (have f4 := hu2.keptF d3 (by simp; omega) f3)))
    go_ret
    have hM := HM.out
    have hlt := hM.lt
    have f := hM.d1
    have q := hM.d2
    have r := hM.d3
    have hws := hu.size
    have hw3 : Upd [B.n0] w2 (w2.setCell ⟨B.n0, 3, none⟩ (.slice (some ⟨gt1, 0, none⟩) (A.hs.length + 1) ct1)) := by (repeat (first | assumption | exact Upd.refl _ _ | refine Upd.alloc ?_ _ | refine Upd.drew ?_ | refine Upd.drewN ?_ _ | refine Upd.setCell ?_ ?_ _ | focus (left; simp; done) | focus (right; simp; done) | focus (right; simp; omega)))
    have hg1 : gt1 = gt ∨ w1.heap.size < gt1 := by
      rcases hsep2 with h | h
      · exact Or.inl (Option.some.inj h)
      · exact Or.inr (h gt1 rfl)
    have hC1 := hC.lt
    have l0 := hlt B.n0 (by simp [FB.blk])
    have l1 := hlt B.br (by simp [FB.blk])
    have l2 := hlt B.bn (by simp [FB.blk])
    have l3 := hlt B.bp (by simp [FB.blk])
    have l4 := hlt B.bl (by simp [FB.blk])
    have l5 := hlt gt (by simp [FB.blk])
    have hnF : ∀ y, y < w.heap.size → y ∉ F → y ∉ F1 := fun y hy hn hm => by rcases hF y hm with h' | h'; exact hn h'; omega
    have hgF : gt1 ∉ F1 := by
      rcases hg1 with e | e
      · rw [e]; exact hnF gt l5 f.2.2.2.2.2
      · exact fun hm => by have := hC1 gt1 hm; omega
    have hgn : ∀ y, y < w.heap.size → y ≠ gt → y ≠ gt1 := fun y hy hn e => by
      rcases hg1 with e2 | e2
      · exact hn (e.trans e2)
      · omega
    have hhd := ((hM.head.upd hu f.1).upd hu2 (by simp; omega)).set 3 (.slice (some ⟨gt1, 0, none⟩) (A.hs.length + 1) ct1)
    have n2 : ∀ y, y ≠ gt → y ∉ [gt] := fun y h => by simpa using h
    have n3 : ∀ y, y ≠ B.n0 → y ∉ [B.n0] := fun y h => by simpa using h
    have eT : topsL G.R (A.hs.length + 1) = topsL G.R A.hs.length ++ [-1] := by
      unfold topsL
      rw [List.range_succ, List.map_append]
      simp [HI.out.2, hdI]
    have hBM : FbM (w2.setCell ⟨B.n0, 3, none⟩ (.slice (some ⟨gt1, 0, none⟩) (A.hs.length + 1) ct1)) B F1 gt1 ct1 (makeN A) st G := by
      refine ⟨?_, ?_, ?_, ?_, ⟨?_⟩, ⟨hnF _ l0 f.1, hnF _ l1 f.2.1, hnF _ l2 f.2.2.1, hnF _ l3 f.2.2.2.1, hnF _ l4 f.2.2.2.2.1, hgF⟩, ⟨q.1, q.2.1, q.2.2.1, q.2.2.2.1, hgn _ l0 q.2.2.2.2⟩, ⟨r.1, r.2.1, r.2.2.1, hgn _ l4 r.2.2.2.1, (hgn _ l1 (Ne.symm r.2.2.2.2.1)).symm, (hgn _ l2 (Ne.symm r.2.2.2.2.2.1)).symm, (hgn _ l3 (Ne.symm r.2.2.2.2.2.2)).symm⟩⟩
      · rw [hcs, hhs]
        refine hhd.ext (fun j hj => ?_)
        rcases (by omega : j = 0 ∨ j = 1 ∨ j = 2 ∨ j = 3) with rfl | rfl | rfl | rfl <;> rfl
      · exact (hC.upd hu2 (fun y hy => by simp at hy; rw [hy]; exact hnF gt l5 f.2.2.2.2.2)).upd hw3 (fun y hy => by simp at hy; rw [hy]; exact hnF _ l0 f.1)
      · rw [hcs]
        exact ((hM.rings.upd hu f.2.1 f.2.2.1 f.2.2.2.1).upd hu2 (n2 _ (Ne.symm r.2.2.2.2.1)) (n2 _ (Ne.symm r.2.2.2.2.2.1)) (n2 _ (Ne.symm r.2.2.2.2.2.2))).upd hw3 (n3 _ (Ne.symm q.1)) (n3 _ (Ne.symm q.2.1)) (n3 _ (Ne.symm q.2.2.1))
      · rw [hcs]
        exact ((hM.pl.upd hu f.2.2.2.2.1).upd hu2 (n2 _ r.2.2.2.1)).upd hw3 (n3 _ (Ne.symm q.2.2.2.1))
      · rw [hhs, topsL_len, eT, intsZ_append]
        refine owns_upd (owns_mono ho2 (Nat.zero_le _)) hw3 (fun g hg hm => ?_)
        simp [Value.ownBlock] at hg hm
        exact hgn _ l0 q.2.2.2.2 (by omega)
    refine ⟨rfl, B.blk F1 gt1, ⟨⟨B, F1, gt1, ct1, rfl, rfl, hBM⟩, HI.out.1⟩, ((hu.mono fblk_F).trans (hu2.mono (fun z hz => by simp at hz; simp [FB.blk, hz]))).trans (hw3.mono (fun z hz => by simp at hz; simp [FB.blk, hz])), fun y hy => ?_⟩
    simp only [FB.blk, List.mem_cons] at hy ⊢
    rcases hy with e | e | e | e | e | e | e
    · exact Or.inl (Or.inl e)
    · exact Or.inl (Or.inr (Or.inl e))
    · exact Or.inl (Or.inr (Or.inr (Or.inl e)))
    · exact Or.inl (Or.inr (Or.inr (Or.inr (Or.inl e))))
    · exact Or.inl (Or.inr (Or.inr (Or.inr (Or.inr (Or.inl e)))))
    · rcases hg1 with e2 | e2
      · exact Or.inl (Or.inr (Or.inr (Or.inr (Or.inr (Or.inr (Or.inl (e.trans e2)))))))
      · exact Or.inr (by omega)
    · rcases hF y e with h' | h'
      · exact Or.inl (Or.inr (Or.inr (Or.inr (Or.inr (Or.inr (Or.inr h'))))))
      · exact Or.inr h'
end
end Go.Proofs.Ytighgbdijagolaa
