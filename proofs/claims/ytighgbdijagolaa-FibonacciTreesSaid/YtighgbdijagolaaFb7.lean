/-
  Fibonacci heaps: Decrease. Conditions: those of each lemma.
-/
import Derived.Test.YtighgbdijagolaaFb6
set_option linter.unusedVariables false
set_option linter.unusedSimpArgs false
namespace Go.Proofs.Ytighgbdijagolaa
open Go Go.RowKit

section
variable {w : World} {p : Nat} {FF : List Nat} {A : NS} {st : Nat} {G : FG}
theorem fdec_no (h : FbK w p FF A st G) (x k s : Int) (hB : lowB A x k s = false) :
    Calls Try.prog 162 #[.pointer (some ⟨p, 0, none⟩), .int .i64 x, .agg #[.int .i64 k, .int .u64 s]] w fun e w' => e = .returned (.bool false) ∧ Upd [] w w' := by
  obtain ⟨⟨B, F, gt, ct, rfl, rfl, M⟩, I⟩ := h
  have u1 : Upd [] w (w.alloc (.cells #[.int .i64 k, .int .u64 s] 57)) := (Upd.refl _ _).alloc _
  have kp := fun W (hW : Upd [] (w.alloc (.cells #[.int .i64 k, .int .u64 s] 57)) W) => clower_no (M.cells.upd0 (u1.trans hW)) x k s hB
  have h0 := M.h0
  have r0 : ∀ W, Upd [] (w.alloc (.cells #[.int .i64 k, .int .u64 s] 57)) W → W.cell? ⟨B.n0, 0, none⟩ = some (.pointer (some ⟨B.c, 0, none⟩)) := fun W hW => hW.was (u1.was h0)
  have r1 : ∀ W, Upd [] (w.alloc (.cells #[.int .i64 k, .int .u64 s] 57)) W → W.cell? ⟨w.heap.size, 0, none⟩ = some (.int .i64 k) := fun W h => h.was (by simp)
  have r2 : ∀ W, Upd [] (w.alloc (.cells #[.int .i64 k, .int .u64 s] 57)) W → W.cell? ⟨w.heap.size, 1, none⟩ = some (.int .u64 s) := fun W h => h.was (by simp)
  clear M I hB h0
  go_enter Try.func162, Try.ntmps162
  go_wp2
  go_region_held3 (Upd [] (w.alloc (.cells #[.int .i64 k, .int .u64 s] 57))) (repeat (first | assumption | exact Upd.refl _ _ | refine Upd.drew ?_ | refine Upd.alloc ?_ _ | refine Upd.setCell ?_ ?_ _ | focus (left; simp; done) | focus (right; simp; done) | focus (right; simp; omega) | (apply Upd.trans; rotate_left; assumption)))
    (first
      | ((go_at_call 146; (with_reducible refine (kp _ (by (repeat (first | assumption | exact Upd.refl _ _ | refine Upd.alloc ?_ _ | refine Upd.drew ?_ | refine Upd.drewN ?_ _ | refine Upd.setCell ?_ ?_ _ | focus (left; simp; done) | focus (right; simp; done) | focus (right; simp; omega))))).mono ?_)); rintro e w1 ⟨rfl, hu1⟩; (have hu2 : Upd [] (w.alloc (.cells #[.int .i64 k, .int .u64 s] 57)) w1 := by (repeat (first | assumption | exact Upd.refl _ _ | refine Upd.drew ?_ | refine Upd.alloc ?_ _ | refine Upd.setCell ?_ ?_ _ | focus (left; simp; done) | focus (right; simp; done) | focus (right; simp; omega) | (apply Upd.trans; rotate_left; assumption))))))
  go_wp2
  go_ret
  exact ⟨rfl, u1.trans (by (repeat (first | assumption | exact Upd.refl _ _ | refine Upd.drew ?_ | refine Upd.alloc ?_ _ | refine Upd.setCell ?_ ?_ _ | focus (left; simp; done) | focus (right; simp; done) | focus (right; simp; omega) | (apply Upd.trans; rotate_left; assumption))))⟩
set_option maxHeartbeats 8000000 in
theorem fdec_yes (h : FbK w p FF A st G) (x : Nat) (k s : Int) (hk : -9223372036854775808 ≤ k ∧ k ≤ 9223372036854775807 ∧ 0 ≤ s ∧ s ≤ 18446744073709551615) (hB : lowB A x k s = true) {hh : Nat} (hxh : (A.c x).i = hh) :
    Calls Try.prog 162 #[.pointer (some ⟨p, 0, none⟩), .int .i64 (x : Int), .agg #[.int .i64 k, .int .u64 s]] w fun e w' => e = .returned (.bool true) ∧
      Goes FF w w' (fun FF' => FbK w' p FF' (lowN A x k s) (satS st (decQ (lowN A x k s) hh x G)) (decG (lowN A x k s) hh x G)) := by
  obtain ⟨⟨B, F, gt, ct, rfl, rfl, M⟩, I⟩ := h
  have hst := M.cells.st62
  have ok := M.cells.ok
  have hin0 := low_in hB
  obtain ⟨hx, hx0⟩ := (inN_nat _ _).1 hin0
  have h1 : 1 ≤ hh := by omega
  have hhl : hh < A.hs.length := by have := (ok.nat x hx).2; omega
  have hcs := low_len A x k s
  have hhs : (lowN A x k s).hs.length = A.hs.length := by rw [low_hs]
  have hi := low_i hB hx
  obtain ⟨t, s0, hR, hoff, f1, f2, ⟨s', hR1⟩, _, _, _, _, _⟩ := dec1_fb I hB hx hxh h1
  have I2 := (dec_fb I hB hx hxh h1).1
  have htI := I.min_some hR
  have hin : inN (lowN A x k s) (x : Int) = true := (inN_nat _ _).2 ⟨by rw [hcs]; exact hx, by rw [hi]; exact hx0⟩
  have htin : inN (lowN A x k s) (t : Int) = true := (inN_nat _ _).2 ⟨by rw [hcs]; exact htI.2.2.1, by rw [hi]; omega⟩
  have u1 : Upd [] w (w.alloc (.cells #[.int .i64 k, .int .u64 s] 57)) := (Upd.refl _ _).alloc _
  have kp := fun W (hW : Upd [] (w.alloc (.cells #[.int .i64 k, .int .u64 s] 57)) W) => clower_yes (M.cells.upd0 (u1.trans hW)) x k s hk hB
  have h0 := M.h0
  have hbF : B.n0 ∉ F := M.d1.1
  have hsz : w.heap.size ∉ F := fun hm => by have := M.cells.lt _ hm; omega
  have r0 : ∀ W, Upd F (w.alloc (.cells #[.int .i64 k, .int .u64 s] 57)) W → W.cell? ⟨B.n0, 0, none⟩ = some (.pointer (some ⟨B.c, 0, none⟩)) := fun W hW => hW.kept (u1.was h0) hbF
  have r1 : ∀ W, Upd F (w.alloc (.cells #[.int .i64 k, .int .u64 s] 57)) W → W.cell? ⟨w.heap.size, 0, none⟩ = some (.int .i64 k) := fun W h => h.kept (by simp) hsz
  have r2 : ∀ W, Upd F (w.alloc (.cells #[.int .i64 k, .int .u64 s] 57)) W → W.cell? ⟨w.heap.size, 1, none⟩ = some (.int .u64 s) := fun W h => h.kept (by simp) hsz
  have H0 := Lib.hid (And.intro M (And.intro I (And.intro hoff (And.intro I2 (And.intro M.cells.mem (And.intro hhs (And.intro hin htin)))))))
  have HX := Lib.hid (And.intro hcs (And.intro hi (And.intro hR hR1)))
  have kh := fun W (hM : FbM W B F gt ct (lowN A x k s) st G) => chome_yes hM.cells x hin
  have KH := Lib.hid kh
  have HLB := Lib.hid hB
  clear M I ok hoff I2 hB h0 hcs hhs hi f1 f2 hR1 hin htin kh hin0 hR htI
  go_enter Try.func162, Try.ntmps162
  go_wp2
  go_region_held3 (Upd F (w.alloc (.cells #[.int .i64 k, .int .u64 s] 57))) (repeat (first | assumption | exact Upd.refl _ _ | refine Upd.drew ?_ | refine Upd.alloc ?_ _ | refine Upd.setCell ?_ ?_ _ | focus (left; simp; done) | focus (right; simp; done) | focus (right; simp; omega) | (apply Upd.trans; rotate_left; assumption)))
    (first
      | ((go_at_call 146; (with_reducible refine (kp _ (by (repeat (first | assumption | exact Upd.refl _ _ | refine Upd.alloc ?_ _ | refine Upd.drew ?_ | refine Upd.drewN ?_ _ | refine Upd.setCell ?_ ?_ _ | focus (left; simp; done) | focus (right; simp; done) | focus (right; simp; omega))))).mono ?_)); rintro e w1 ⟨rfl, hC1, hu1⟩; (have hu2 : Upd F (w.alloc (.cells #[.int .i64 k, .int .u64 s] 57)) w1 := by (repeat (first | assumption | exact Upd.refl _ _ | refine Upd.drew ?_ | refine Upd.alloc ?_ _ | refine Upd.setCell ?_ ?_ _ | focus (left; simp; done) | focus (right; simp; done) | focus (right; simp; omega) | (apply Upd.trans; rotate_left; assumption))))))
  have uF : Upd F w w1 := (u1.mono (by simp)).trans hu2
  have hM1 := H0.out.1.setC uF hC1 (fun y hy => Or.inl hy) HX.out.1 H0.out.2.2.2.2.2.1
  have kh1 := fun W (hW : Upd [] w1 W) => KH.out W (hM1.upd0 hW)
  simp only [HX.out.2.1, hxh] at kh1
  have b0 := hM1.h0
  have HM1 := Lib.hid (And.intro hM1 uF)
  clear kp r0 r1 r2 hM1 uF hu2 hC1 hu1 hsz u1
  have hxn : x < (lowN A x k s).cs.length := by rw [HX.out.1]; exact hx
  have hxI : (x : Int) < ((lowN A x k s).cs.length : Int) := by omega
  have hcb : (lowN A x k s).cs.length ≤ 65536 := HM1.out.1.cells.ok.c1
  by_cases hup : G.up x = -1
  · go_wp2_with (first
      | ((go_at_call 66; (with_reducible refine (kh1 _ (by (repeat (first | assumption | exact Upd.refl _ _ | refine Upd.alloc ?_ _ | refine Upd.drew ?_ | refine Upd.drewN ?_ _ | refine Upd.setCell ?_ ?_ _ | focus (left; simp; done) | focus (right; simp; done) | focus (right; simp; omega))))).mono ?_)); rintro e w2 ⟨rfl, hC2, hu2⟩; (have M2 := (HM1.out.1.upd0 (w' := _) (by (repeat (first | assumption | exact Upd.refl _ _ | refine Upd.alloc ?_ _ | refine Upd.drew ?_ | refine Upd.drewN ?_ _ | refine Upd.setCell ?_ ?_ _ | focus (left; simp; done) | focus (right; simp; done) | focus (right; simp; omega))) : Upd [] w1 _)).setC hu2 hC2 (fun y hy => Or.inl hy) rfl rfl); (have d2 := M2.h2); (have p0 := M2.p0 hxn); rw [hup] at p0; (have HM2 := Lib.hid (And.intro M2 ((HM1.out.2.then (by (repeat (first | assumption | exact Upd.refl _ _ | refine Upd.alloc ?_ _ | refine Upd.drew ?_ | refine Upd.drewN ?_ _ | refine Upd.setCell ?_ ?_ _ | focus (left; simp; done) | focus (right; simp; done) | focus (right; simp; omega))) : Upd [] w1 _)).trans hu2))); clear M2 hC2 hu2)
      | fail)
    refine wp_named (fun W => FbM W B F gt ct (lowN A x k s) (satS st 0) G ∧ Upd (B.blk F gt) w W) ?_ ?_
    · exact ⟨by rw [satS_zero hst]; exact HM2.out.1, HM2.out.2.mono fblk_F⟩
    have e1 : decG1 (lowN A x k s) hh x G = G := by unfold decG1; rw [if_neg (by simp [hup])]
    have HE := Lib.hid (And.intro e1 hup)
    clear e1 hup d2 p0 kh1 b0
    -- the first slot is held against it
    rintro w5 ⟨M5, hU5⟩
    have d3 := M5.h3
    have dt : w5.cell? ⟨gt, hh, none⟩ = some (.int .i64 (t : Int)) := by (have dt0 := M5.top (q := hh) (by rw [H0.out.2.2.2.2.2.1]; exact hhl); rw [HX.out.2.2.1] at dt0; exact dt0)
    have df := M5.tops.free hh
    have hcap := M5.cap
    have hhI : (hh : Int) < ((lowN A x k s).hs.length : Int) := by rw [H0.out.2.2.2.2.2.1]; omega
    have H5 := Lib.hid (And.intro M5 hU5)
    by_cases htx : t = x
    · subst htx
      clear M5 hU5
      go_quiet (fail)
      go_wp2
      go_ret
      have eG : decG (lowN A t k s) hh t G = G := by unfold decG; rw [HE.out.1, HX.out.2.2.1, if_neg (by simp [hdI])]
      have eQ : decQ (lowN A t k s) hh t G = 0 + 0 := by unfold decQ; rw [HE.out.1, HX.out.2.2.1, if_pos HE.out.2, if_pos (by rfl)]
      refine ⟨rfl, B.blk F gt, ⟨⟨B, F, gt, ct, rfl, rfl, ?_⟩, H0.out.2.2.2.1⟩, H5.out.2.drewN _, fun y hy => Or.inl hy⟩
      rw [eG, eQ]
      exact H5.out.1.drewN _
    · have hxt : ((t : Int) == (x : Int)) = false := by simp; omega
      have hxt2 : ((t : Int) != (x : Int)) = true := by simp; omega
      have hxt3 : ¬ ((t : Int) = (x : Int)) := by omega
      have hin := H0.out.2.2.2.2.2.2.1
      have htin := H0.out.2.2.2.2.2.2.2
      have kc := fun W (hW : Upd [] w5 W) => cahead_yes (M5.cells.upd0 hW) x t hin htin
      have hcn := M5.cn
      have mc : ∀ x, x ≠ B.c → x ∉ [B.c] := fun x h1 => by simp [h1]
      have r0 : ∀ W, Upd [B.c] w5 W → W.cell? ⟨B.n0, 0, none⟩ = some (.pointer (some ⟨B.c, 0, none⟩)) := fun W hW => hW.kept M5.h0 (mc _ hcn.1)
      have r3 : ∀ W, Upd [B.c] w5 W → W.cell? ⟨B.n0, 3, none⟩ = some (.slice (some ⟨gt, 0, none⟩) (lowN A x k s).hs.length ct) := fun W hW => hW.kept M5.h3 (mc _ hcn.1)
      have rt : ∀ W, Upd [B.c] w5 W → W.cell? ⟨gt, hh, none⟩ = some (.int .i64 (t : Int)) := fun W hW => hW.kept dt (mc _ hcn.2.2.2.2.2)
      have rf : ∀ W, Upd [B.c] w5 W → W.frozen? ⟨gt, hh, none⟩ = false := fun W hW => hW.keptF dt (mc _ hcn.2.2.2.2.2) df
      clear M5 hU5 d3 dt df
      obtain ⟨b2, hb2⟩ : ∃ b2, decide (lt3 (lowN A x k s) x t) = b2 := ⟨_, rfl⟩
      rw [hb2] at kc
      have HB2 := Lib.hid hb2
      clear hb2
      go_region_held3 (Upd [B.c] w5) (repeat (first | assumption | exact Upd.refl _ _ | refine Upd.drew ?_ | refine Upd.alloc ?_ _ | refine Upd.setCell ?_ ?_ _ | focus (left; simp; done) | focus (right; simp; done) | focus (right; simp; omega) | (apply Upd.trans; rotate_left; assumption)))
        (first
          | ((go_at_call 104; (with_reducible refine (kc _ (by (repeat (first | assumption | exact Upd.refl _ _ | refine Upd.alloc ?_ _ | refine Upd.drew ?_ | refine Upd.drewN ?_ _ | refine Upd.setCell ?_ ?_ _ | focus (left; simp; done) | focus (right; simp; done) | focus (right; simp; omega))))).mono ?_)); rintro e w6 ⟨rfl, hC6, hu6⟩; (have hu7 : Upd [B.c] w5 w6 := Upd.trans (by (repeat (first | assumption | exact Upd.refl _ _ | refine Upd.drew ?_ | refine Upd.alloc ?_ _ | refine Upd.setCell ?_ ?_ _ | focus (left; simp; done) | focus (right; simp; done) | focus (right; simp; omega) | (apply Upd.trans; rotate_left; assumption)))) hu6)))
      have d3 := r3 _ hu7
      have dt := rt _ hu7
      have df := rf _ hu7
      have M6 := H5.out.1.setSt hu7 hC6
      have hU6 : Upd (B.blk F gt) w w6 := H5.out.2.trans (hu7.mono (fun z hz => by simp at hz; rw [hz]; exact fblk_F _ H0.out.2.2.2.2.1))
      rw [satS_add] at M6
      have H6 := Lib.hid (And.intro M6 hU6)
      clear M6 hU6 hu7 hC6 hu6 r0 r3 rt rf kc
      have eQ : decQ (lowN A x k s) hh x G = 0 + 1 := by unfold decQ; rw [HE.out.1, HX.out.2.2.1, if_pos HE.out.2, if_neg (fun e => htx (by have e2 : (t : Int) = (x : Int) := e; omega))]
      have HQ := Lib.hid eQ
      clear eQ
      cases b2 with
      | false =>
        go_wp2
        go_ret
        have eG : decG (lowN A x k s) hh x G = G := by unfold decG; rw [HE.out.1, HX.out.2.2.1, if_neg (fun h => by have h2 := h.2; unfold ltN at h2; rw [show (hdI (t :: s0)).toNat = t from by unfold hdI; simp, HB2.out] at h2; cases h2)]
        refine ⟨rfl, B.blk F gt, ⟨⟨B, F, gt, ct, rfl, rfl, ?_⟩, H0.out.2.2.2.1⟩, by (have := H6.out.2); (repeat (first | assumption | exact Upd.refl _ _ | refine Upd.drew ?_ | refine Upd.alloc ?_ _ | refine Upd.setCell ?_ ?_ _ | focus (left; simp; done) | focus (right; simp; done) | focus (right; simp; omega) | (apply Upd.trans; rotate_left; assumption))), fun y hy => Or.inl hy⟩
        rw [eG, HQ.out]
        exact H6.out.1
      | true =>
        go_wp2
        go_ret
        have eG : decG (lowN A x k s) hh x G = topG hh x G := by unfold decG; rw [HE.out.1, HX.out.2.2.1, if_pos ⟨fun e => htx (by have e2 : (t : Int) = (x : Int) := e; omega), by unfold ltN; rw [show (hdI (t :: s0)).toNat = t from by unfold hdI; simp]; exact HB2.out⟩]
        refine ⟨rfl, B.blk F gt, ⟨⟨B, F, gt, ct, rfl, rfl, ?_⟩, H0.out.2.2.2.1⟩, (H6.out.2).setCell (Or.inl (by simp [FB.blk])) _, fun y hy => Or.inl hy⟩
        rw [eG, HQ.out]
        exact H6.out.1.setT hh (x :: aft (G.R hh) x)
  · obtain ⟨p1, hp1, ux, _⟩ := (H0.out.2.1.ff.upK x hx).resolve_left hup
    have hp1h : (A.c p1).i = hh := by have : (A.c x).i = (A.c p1).i := (H0.out.2.1.ff.home x p1 hx ux).1; omega
    have hpin : inN (lowN A x k s) (p1 : Int) = true := (inN_nat _ _).2 ⟨by rw [HX.out.1]; exact hp1, by rw [HX.out.2.1]; omega⟩
    have hpn : ((p1 : Int) == -1) = false := by simp
    obtain ⟨b, hb⟩ : ∃ b, decide (lt3 (lowN A x k s) x p1) = b := ⟨_, rfl⟩
    have KA := Lib.hid (fun W st' (hM : FbM W B F gt ct (lowN A x k s) st' G) => cahead_yes hM.cells x p1 H0.out.2.2.2.2.2.2.1 hpin)
    have HB := Lib.hid hb
    clear hb
    cases b with
    | false =>
      go_wp2_with (first
        | ((go_at_call 66; (with_reducible refine (kh1 _ (by (repeat (first | assumption | exact Upd.refl _ _ | refine Upd.alloc ?_ _ | refine Upd.drew ?_ | refine Upd.drewN ?_ _ | refine Upd.setCell ?_ ?_ _ | focus (left; simp; done) | focus (right; simp; done) | focus (right; simp; omega))))).mono ?_)); rintro e w2 ⟨rfl, hC2, hu2⟩; (have M2 := (HM1.out.1.upd0 (w' := _) (by (repeat (first | assumption | exact Upd.refl _ _ | refine Upd.alloc ?_ _ | refine Upd.drew ?_ | refine Upd.drewN ?_ _ | refine Upd.setCell ?_ ?_ _ | focus (left; simp; done) | focus (right; simp; done) | focus (right; simp; omega))) : Upd [] w1 _)).setC hu2 hC2 (fun y hy => Or.inl hy) rfl rfl); (have d2 := M2.h2); (have d0 := M2.h0); (have p0 := M2.p0 hxn); rw [ux] at p0; (have ka := KA.out _ _ M2); rw [HB.out] at ka; (have HM2 := Lib.hid (And.intro M2 ((HM1.out.2.then (by (repeat (first | assumption | exact Upd.refl _ _ | refine Upd.alloc ?_ _ | refine Upd.drew ?_ | refine Upd.drewN ?_ _ | refine Upd.setCell ?_ ?_ _ | focus (left; simp; done) | focus (right; simp; done) | focus (right; simp; omega))) : Upd [] w1 _)).trans hu2))); clear M2 hC2 hu2)
        | ((go_at_call 104; (with_reducible refine (ka).mono ?_)); rintro e w3 ⟨rfl, hC3, hu3⟩; (have HM3 := Lib.hid (And.intro (HM2.out.1.setSt hu3 hC3) hu3)); clear hC3 hu3)
        | fail)
      refine wp_named (fun W => FbM W B F gt ct (lowN A x k s) (satS st 1) G ∧ Upd (B.blk F gt) w W) ?_ ?_
      · exact ⟨HM3.out.1, (HM2.out.2.mono fblk_F).trans (HM3.out.2.mono (fun z hz => by simp at hz; rw [hz]; exact fblk_F _ H0.out.2.2.2.2.1))⟩
      have e1 : decG1 (lowN A x k s) hh x G = G := by unfold decG1; rw [if_neg (fun h => by have h2 := h.2; unfold ltN at h2; rw [ux, Int.toNat_natCast, HB.out] at h2; cases h2)]
      have HE := Lib.hid (And.intro e1 hup)
      clear e1 hup d2 p0 kh1 b0 d0 ka ux
      -- the first slot is held against it
      rintro w5 ⟨M5, hU5⟩
      have d3 := M5.h3
      have dt : w5.cell? ⟨gt, hh, none⟩ = some (.int .i64 (t : Int)) := by (have dt0 := M5.top (q := hh) (by rw [H0.out.2.2.2.2.2.1]; exact hhl); rw [HX.out.2.2.1] at dt0; exact dt0)
      have df := M5.tops.free hh
      have hcap := M5.cap
      have hhI : (hh : Int) < ((lowN A x k s).hs.length : Int) := by rw [H0.out.2.2.2.2.2.1]; omega
      have H5 := Lib.hid (And.intro M5 hU5)
      by_cases htx : t = x
      · subst htx
        clear M5 hU5
        go_quiet (fail)
        go_wp2
        go_ret
        have eG : decG (lowN A t k s) hh t G = G := by unfold decG; rw [HE.out.1, HX.out.2.2.1, if_neg (by simp [hdI])]
        have eQ : decQ (lowN A t k s) hh t G = 1 + 0 := by unfold decQ; rw [HE.out.1, HX.out.2.2.1, if_neg HE.out.2, if_pos (by rfl)]
        refine ⟨rfl, B.blk F gt, ⟨⟨B, F, gt, ct, rfl, rfl, ?_⟩, H0.out.2.2.2.1⟩, H5.out.2.drewN _, fun y hy => Or.inl hy⟩
        rw [eG, eQ]
        exact H5.out.1.drewN _
      · have hxt : ((t : Int) == (x : Int)) = false := by simp; omega
        have hxt2 : ((t : Int) != (x : Int)) = true := by simp; omega
        have hxt3 : ¬ ((t : Int) = (x : Int)) := by omega
        have hin := H0.out.2.2.2.2.2.2.1
        have htin := H0.out.2.2.2.2.2.2.2
        have kc := fun W (hW : Upd [] w5 W) => cahead_yes (M5.cells.upd0 hW) x t hin htin
        have hcn := M5.cn
        have mc : ∀ x, x ≠ B.c → x ∉ [B.c] := fun x h1 => by simp [h1]
        have r0 : ∀ W, Upd [B.c] w5 W → W.cell? ⟨B.n0, 0, none⟩ = some (.pointer (some ⟨B.c, 0, none⟩)) := fun W hW => hW.kept M5.h0 (mc _ hcn.1)
        have r3 : ∀ W, Upd [B.c] w5 W → W.cell? ⟨B.n0, 3, none⟩ = some (.slice (some ⟨gt, 0, none⟩) (lowN A x k s).hs.length ct) := fun W hW => hW.kept M5.h3 (mc _ hcn.1)
        have rt : ∀ W, Upd [B.c] w5 W → W.cell? ⟨gt, hh, none⟩ = some (.int .i64 (t : Int)) := fun W hW => hW.kept dt (mc _ hcn.2.2.2.2.2)
        have rf : ∀ W, Upd [B.c] w5 W → W.frozen? ⟨gt, hh, none⟩ = false := fun W hW => hW.keptF dt (mc _ hcn.2.2.2.2.2) df
        clear M5 hU5 d3 dt df
        obtain ⟨b2, hb2⟩ : ∃ b2, decide (lt3 (lowN A x k s) x t) = b2 := ⟨_, rfl⟩
        rw [hb2] at kc
        have HB2 := Lib.hid hb2
        clear hb2
        go_region_held3 (Upd [B.c] w5) (repeat (first | assumption | exact Upd.refl _ _ | refine Upd.drew ?_ | refine Upd.alloc ?_ _ | refine Upd.setCell ?_ ?_ _ | focus (left; simp; done) | focus (right; simp; done) | focus (right; simp; omega) | (apply Upd.trans; rotate_left; assumption)))
          (first
            | ((go_at_call 104; (with_reducible refine (kc _ (by (repeat (first | assumption | exact Upd.refl _ _ | refine Upd.alloc ?_ _ | refine Upd.drew ?_ | refine Upd.drewN ?_ _ | refine Upd.setCell ?_ ?_ _ | focus (left; simp; done) | focus (right; simp; done) | focus (right; simp; omega))))).mono ?_)); rintro e w6 ⟨rfl, hC6, hu6⟩; (have hu7 : Upd [B.c] w5 w6 := Upd.trans (by (repeat (first | assumption | exact Upd.refl _ _ | refine Upd.drew ?_ | refine Upd.alloc ?_ _ | refine Upd.setCell ?_ ?_ _ | focus (left; simp; done) | focus (right; simp; done) | focus (right; simp; omega) | (apply Upd.trans; rotate_left; assumption)))) hu6)))
        have d3 := r3 _ hu7
        have dt := rt _ hu7
        have df := rf _ hu7
        have M6 := H5.out.1.setSt hu7 hC6
        have hU6 : Upd (B.blk F gt) w w6 := H5.out.2.trans (hu7.mono (fun z hz => by simp at hz; rw [hz]; exact fblk_F _ H0.out.2.2.2.2.1))
        rw [satS_add] at M6
        have H6 := Lib.hid (And.intro M6 hU6)
        clear M6 hU6 hu7 hC6 hu6 r0 r3 rt rf kc
        have eQ : decQ (lowN A x k s) hh x G = 1 + 1 := by unfold decQ; rw [HE.out.1, HX.out.2.2.1, if_neg HE.out.2, if_neg (fun e => htx (by have e2 : (t : Int) = (x : Int) := e; omega))]
        have HQ := Lib.hid eQ
        clear eQ
        cases b2 with
        | false =>
          go_wp2
          go_ret
          have eG : decG (lowN A x k s) hh x G = G := by unfold decG; rw [HE.out.1, HX.out.2.2.1, if_neg (fun h => by have h2 := h.2; unfold ltN at h2; rw [show (hdI (t :: s0)).toNat = t from by unfold hdI; simp, HB2.out] at h2; cases h2)]
          refine ⟨rfl, B.blk F gt, ⟨⟨B, F, gt, ct, rfl, rfl, ?_⟩, H0.out.2.2.2.1⟩, by (have := H6.out.2); (repeat (first | assumption | exact Upd.refl _ _ | refine Upd.drew ?_ | refine Upd.alloc ?_ _ | refine Upd.setCell ?_ ?_ _ | focus (left; simp; done) | focus (right; simp; done) | focus (right; simp; omega) | (apply Upd.trans; rotate_left; assumption))), fun y hy => Or.inl hy⟩
          rw [eG, HQ.out]
          exact H6.out.1
        | true =>
          go_wp2
          go_ret
          have eG : decG (lowN A x k s) hh x G = topG hh x G := by unfold decG; rw [HE.out.1, HX.out.2.2.1, if_pos ⟨fun e => htx (by have e2 : (t : Int) = (x : Int) := e; omega), by unfold ltN; rw [show (hdI (t :: s0)).toNat = t from by unfold hdI; simp]; exact HB2.out⟩]
          refine ⟨rfl, B.blk F gt, ⟨⟨B, F, gt, ct, rfl, rfl, ?_⟩, H0.out.2.2.2.1⟩, (H6.out.2).setCell (Or.inl (by simp [FB.blk])) _, fun y hy => Or.inl hy⟩
          rw [eG, HQ.out]
          exact H6.out.1.setT hh (x :: aft (G.R hh) x)
    | true =>
      have hlt : lt3 (lowN A x k s) x p1 := by have := HB.out; simpa using this
      obtain ⟨hpx, o1, o2, o3, hfirst⟩ := H0.out.2.2.1 p1 ux
      have KL := Lib.hid (fun W st' (hM : FbM W B F gt ct (lowN A x k s) st' G) => by
        have hn := HX.out.1
        have := floosen_any (w := W) (M := hM) (hom := fun y => (A.c y).i) (L := lt3 (lowN A x k s)) (Mx := fun a y => y ≠ x → lt3 (lowN A x k s) a y) (fun a => lt3_irr) (q := hh) (x := x) (t := t) (s := s0) (by rw [H0.out.2.2.2.2.2.1]; exact hhl) hxn
          (by rw [hn]; exact H0.out.2.1.ff.mono (fun y q hy hu ho => ⟨(H0.out.2.1.ff.home y q hy hu).1, (H0.out.2.1.ff.home y q hy hu).2, fun hyx => by
            have hle := lowB_le HLB.out
            rw [Int.toNat_natCast] at hle
            have hc := low_c HLB.out hx
            by_cases e : q = x
            · subst e
              exact lt3_lower ho (by rw [hc, if_neg hyx]) (by rw [hc, if_pos rfl]; exact hle)
            · exact (lt3_same (by rw [hc, if_neg e]) (by rw [hc, if_neg hyx])).2 ho⟩) H0.out.2.1.ff.alone) HX.out.2.2.1 (by rw [hn]; exact (H0.out.2.1.min_some HX.out.2.2.1).2.2.1) h1
          (by
            rw [hn]
            intro p2 hp2
            obtain rfl : p2 = p1 := by omega
            exact ⟨hpx, hp1h, o1, o2, o3⟩) (by rw [hn]; exact fun y hy hyh hyt hyx => hfirst y hy hyh hyt hyx)
        rw [hn] at this
        exact this)
      clear o1 o2 o3 hfirst
      go_wp2_with (first
        | ((go_at_call 66; (with_reducible refine (kh1 _ (by (repeat (first | assumption | exact Upd.refl _ _ | refine Upd.alloc ?_ _ | refine Upd.drew ?_ | refine Upd.drewN ?_ _ | refine Upd.setCell ?_ ?_ _ | focus (left; simp; done) | focus (right; simp; done) | focus (right; simp; omega))))).mono ?_)); rintro e w2 ⟨rfl, hC2, hu2⟩; (have M2 := (HM1.out.1.upd0 (w' := _) (by (repeat (first | assumption | exact Upd.refl _ _ | refine Upd.alloc ?_ _ | refine Upd.drew ?_ | refine Upd.drewN ?_ _ | refine Upd.setCell ?_ ?_ _ | focus (left; simp; done) | focus (right; simp; done) | focus (right; simp; omega))) : Upd [] w1 _)).setC hu2 hC2 (fun y hy => Or.inl hy) rfl rfl); (have d2 := M2.h2); (have d0 := M2.h0); (have p0 := M2.p0 hxn); rw [ux] at p0; (have ka := KA.out _ _ M2); rw [HB.out] at ka; (have HM2 := Lib.hid (And.intro M2 ((HM1.out.2.then (by (repeat (first | assumption | exact Upd.refl _ _ | refine Upd.alloc ?_ _ | refine Upd.drew ?_ | refine Upd.drewN ?_ _ | refine Upd.setCell ?_ ?_ _ | focus (left; simp; done) | focus (right; simp; done) | focus (right; simp; omega))) : Upd [] w1 _)).trans hu2))); clear M2 hC2 hu2)
        | ((go_at_call 104; (with_reducible refine (ka).mono ?_)); rintro e w3 ⟨rfl, hC3, hu3⟩; (have kl := KL.out _ _ (HM2.out.1.setSt hu3 hC3)); (have HM3 := Lib.hid (And.intro (HM2.out.1.setSt hu3 hC3) hu3)); clear hC3 hu3)
        | ((go_at_call 165; (with_reducible refine (kl).mono ?_)); rintro e w4 ⟨rfl, M4, hu4⟩; (have HM4 := Lib.hid (And.intro M4 hu4)); clear M4 hu4)
        | fail)
      have e1 : decG1 (lowN A x k s) hh x G = looseG A.cs.length hh x G := by unfold decG1; rw [if_pos ⟨hup, by unfold ltN; rw [ux, Int.toNat_natCast]; exact HB.out⟩, HX.out.1]
      have hRL := HX.out.2.2.2
      rw [e1] at hRL
      refine wp_named (fun W => FbM W B F gt ct (lowN A x k s) (satS st 1) (looseG A.cs.length hh x G) ∧ Upd (B.blk F gt) w W) ?_ ?_
      · exact ⟨HM4.out.1, ((HM2.out.2.mono fblk_F).trans (HM3.out.2.mono (fun z hz => by simp at hz; rw [hz]; exact fblk_F _ H0.out.2.2.2.2.1))).trans (HM4.out.2.mono (fun z hz => by simp at hz; rcases hz with e | e | e <;> simp [FB.blk, e]))⟩
      have HE := Lib.hid (And.intro e1 hup)
      have HRL := Lib.hid hRL
      clear e1 hup d2 p0 kh1 b0 d0 ka ux hRL kl
      -- the first slot is held against it
      rintro w5 ⟨M5, hU5⟩
      have d3 := M5.h3
      have dt : w5.cell? ⟨gt, hh, none⟩ = some (.int .i64 (t : Int)) := by (have dt0 := M5.top (q := hh) (by rw [H0.out.2.2.2.2.2.1]; exact hhl); rw [HRL.out] at dt0; exact dt0)
      have df := M5.tops.free hh
      have hcap := M5.cap
      have hhI : (hh : Int) < ((lowN A x k s).hs.length : Int) := by rw [H0.out.2.2.2.2.2.1]; omega
      have H5 := Lib.hid (And.intro M5 hU5)
      by_cases htx : t = x
      · subst htx
        clear M5 hU5
        go_quiet (fail)
        go_wp2
        go_ret
        have eG : decG (lowN A t k s) hh t G = (looseG A.cs.length hh t G) := by unfold decG; rw [HE.out.1, HRL.out, if_neg (by simp [hdI])]
        have eQ : decQ (lowN A t k s) hh t G = 1 + 0 := by unfold decQ; rw [HE.out.1, HRL.out, if_neg HE.out.2, if_pos (by rfl)]
        refine ⟨rfl, B.blk F gt, ⟨⟨B, F, gt, ct, rfl, rfl, ?_⟩, H0.out.2.2.2.1⟩, H5.out.2.drewN _, fun y hy => Or.inl hy⟩
        rw [eG, eQ]
        exact H5.out.1.drewN _
      · have hxt : ((t : Int) == (x : Int)) = false := by simp; omega
        have hxt2 : ((t : Int) != (x : Int)) = true := by simp; omega
        have hxt3 : ¬ ((t : Int) = (x : Int)) := by omega
        have hin := H0.out.2.2.2.2.2.2.1
        have htin := H0.out.2.2.2.2.2.2.2
        have kc := fun W (hW : Upd [] w5 W) => cahead_yes (M5.cells.upd0 hW) x t hin htin
        have hcn := M5.cn
        have mc : ∀ x, x ≠ B.c → x ∉ [B.c] := fun x h1 => by simp [h1]
        have r0 : ∀ W, Upd [B.c] w5 W → W.cell? ⟨B.n0, 0, none⟩ = some (.pointer (some ⟨B.c, 0, none⟩)) := fun W hW => hW.kept M5.h0 (mc _ hcn.1)
        have r3 : ∀ W, Upd [B.c] w5 W → W.cell? ⟨B.n0, 3, none⟩ = some (.slice (some ⟨gt, 0, none⟩) (lowN A x k s).hs.length ct) := fun W hW => hW.kept M5.h3 (mc _ hcn.1)
        have rt : ∀ W, Upd [B.c] w5 W → W.cell? ⟨gt, hh, none⟩ = some (.int .i64 (t : Int)) := fun W hW => hW.kept dt (mc _ hcn.2.2.2.2.2)
        have rf : ∀ W, Upd [B.c] w5 W → W.frozen? ⟨gt, hh, none⟩ = false := fun W hW => hW.keptF dt (mc _ hcn.2.2.2.2.2) df
        clear M5 hU5 d3 dt df
        obtain ⟨b2, hb2⟩ : ∃ b2, decide (lt3 (lowN A x k s) x t) = b2 := ⟨_, rfl⟩
        rw [hb2] at kc
        have HB2 := Lib.hid hb2
        clear hb2
        go_region_held3 (Upd [B.c] w5) (repeat (first | assumption | exact Upd.refl _ _ | refine Upd.drew ?_ | refine Upd.alloc ?_ _ | refine Upd.setCell ?_ ?_ _ | focus (left; simp; done) | focus (right; simp; done) | focus (right; simp; omega) | (apply Upd.trans; rotate_left; assumption)))
          (first
            | ((go_at_call 104; (with_reducible refine (kc _ (by (repeat (first | assumption | exact Upd.refl _ _ | refine Upd.alloc ?_ _ | refine Upd.drew ?_ | refine Upd.drewN ?_ _ | refine Upd.setCell ?_ ?_ _ | focus (left; simp; done) | focus (right; simp; done) | focus (right; simp; omega))))).mono ?_)); rintro e w6 ⟨rfl, hC6, hu6⟩; (have hu7 : Upd [B.c] w5 w6 := Upd.trans (by (repeat (first | assumption | exact Upd.refl _ _ | refine Upd.drew ?_ | refine Upd.alloc ?_ _ | refine Upd.setCell ?_ ?_ _ | focus (left; simp; done) | focus (right; simp; done) | focus (right; simp; omega) | (apply Upd.trans; rotate_left; assumption)))) hu6)))
        have d3 := r3 _ hu7
        have dt := rt _ hu7
        have df := rf _ hu7
        have M6 := H5.out.1.setSt hu7 hC6
        have hU6 : Upd (B.blk F gt) w w6 := H5.out.2.trans (hu7.mono (fun z hz => by simp at hz; rw [hz]; exact fblk_F _ H0.out.2.2.2.2.1))
        rw [satS_add] at M6
        have H6 := Lib.hid (And.intro M6 hU6)
        clear M6 hU6 hu7 hC6 hu6 r0 r3 rt rf kc
        have eQ : decQ (lowN A x k s) hh x G = 1 + 1 := by unfold decQ; rw [HE.out.1, HRL.out, if_neg HE.out.2, if_neg (fun e => htx (by have e2 : (t : Int) = (x : Int) := e; omega))]
        have HQ := Lib.hid eQ
        clear eQ
        cases b2 with
        | false =>
          go_wp2
          go_ret
          have eG : decG (lowN A x k s) hh x G = (looseG A.cs.length hh x G) := by unfold decG; rw [HE.out.1, HRL.out, if_neg (fun h => by have h2 := h.2; unfold ltN at h2; rw [show (hdI (t :: s')).toNat = t from by unfold hdI; simp, HB2.out] at h2; cases h2)]
          refine ⟨rfl, B.blk F gt, ⟨⟨B, F, gt, ct, rfl, rfl, ?_⟩, H0.out.2.2.2.1⟩, by (have := H6.out.2); (repeat (first | assumption | exact Upd.refl _ _ | refine Upd.drew ?_ | refine Upd.alloc ?_ _ | refine Upd.setCell ?_ ?_ _ | focus (left; simp; done) | focus (right; simp; done) | focus (right; simp; omega) | (apply Upd.trans; rotate_left; assumption))), fun y hy => Or.inl hy⟩
          rw [eG, HQ.out]
          exact H6.out.1
        | true =>
          go_wp2
          go_ret
          have eG : decG (lowN A x k s) hh x G = topG hh x (looseG A.cs.length hh x G) := by unfold decG; rw [HE.out.1, HRL.out, if_pos ⟨fun e => htx (by have e2 : (t : Int) = (x : Int) := e; omega), by unfold ltN; rw [show (hdI (t :: s')).toNat = t from by unfold hdI; simp]; exact HB2.out⟩]
          refine ⟨rfl, B.blk F gt, ⟨⟨B, F, gt, ct, rfl, rfl, ?_⟩, H0.out.2.2.2.1⟩, (H6.out.2).setCell (Or.inl (by simp [FB.blk])) _, fun y hy => Or.inl hy⟩
          rw [eG, HQ.out]
          exact H6.out.1.setT hh (x :: aft ((looseG A.cs.length hh x G).R hh) x)
end
end Go.Proofs.Ytighgbdijagolaa
