/-
  Leftist heaps: Decrease. Conditions: those of each lemma.
-/
import Derived.Test.YtechoojcgdjcdaaLf14
import Derived.Test.YtechoojcgdjcdaaCells4
import Derived.Deep.RegionLaw
set_option linter.unusedVariables false
set_option linter.unusedSimpArgs false
namespace Go.Proofs.Ytechoojcgdjcdaa
open Go Go.RowKit

theorem low_tree {A : NS} {P : List Fr} {x : Nat} {l r : BT} {k s : Int} (hB : lowB A x k s = true) (hx : x < A.cs.length) (hn : (plug P (.node x l r)).nodes.Nodup) (hH : Heap A (plug P (.node x l r))) :
    Heap (lowN A x k s) (plug P .nil) ∧ Heap (lowN A x k s) (.node x l r) := by
  have h1 := plug_parts hn
  have hs := heap_sub hH
  refine ⟨(heap_plug (t' := .nil) hH trivial (fun y hy => by cases hy)).frame (fun y hy => ?_), low_heap hB hx hs ?_⟩
  · rw [low_c hB hx, if_neg]
    intro e
    rw [e, plug_ctx_mem] at hy
    rcases hy with hy | hy
    · cases hy
    · exact h1.1.2.2 hy
  · have := (plug_nodes P (.node x l r)).nodup_iff.1 hn
    rw [List.nodup_append] at this
    exact this.1
section
variable {w : World} {B : LB} {F : List Nat} {gt ct : Nat} {A : NS} {st : Nat} {tr : Nat → BT} {S : TS} {rk : Nat → Nat} {tops : List Int}
set_option maxHeartbeats 4000000 in
theorem ldec_no (h : LfAt w B F gt ct A st tr) (x k s : Int) (hB : lowB A x k s = false) :
    Calls Try.prog 132 #[.pointer (some ⟨B.n0, 0, none⟩), .int .i64 x, .agg #[.int .i64 k, .int .u64 s]] w fun e w' => e = .returned (.bool false) ∧ Upd [] w w' := by
  obtain ⟨S, rk, tops, hM, -, -, -⟩ := h
  have u1 : Upd [] w (w.alloc (.cells #[.int .i64 k, .int .u64 s] 59)) := (Upd.refl _ _).alloc _
  have kp := fun W (hW : Upd [] (w.alloc (.cells #[.int .i64 k, .int .u64 s] 59)) W) => clower_no (hM.cells.upd0 (u1.trans hW)) x k s hB
  have h0 := hM.h0
  have r0 : ∀ W, Upd [] (w.alloc (.cells #[.int .i64 k, .int .u64 s] 59)) W → W.cell? ⟨B.n0, 0, none⟩ = some (.pointer (some ⟨B.c, 0, none⟩)) := fun W hW => (u1.trans hW).was h0
  have r1 : ∀ W, Upd [] (w.alloc (.cells #[.int .i64 k, .int .u64 s] 59)) W → W.cell? ⟨w.heap.size, 0, none⟩ = some (.int .i64 k) := fun W h => h.was (by simp)
  have r2 : ∀ W, Upd [] (w.alloc (.cells #[.int .i64 k, .int .u64 s] 59)) W → W.cell? ⟨w.heap.size, 1, none⟩ = some (.int .u64 s) := fun W h => h.was (by simp)
  clear hM h0
  go_enter Try.func132, Try.ntmps132
  go_wp2
  go_region_held3 (Upd [] (w.alloc (.cells #[.int .i64 k, .int .u64 s] 59))) (repeat (first | assumption | exact Upd.refl _ _ | refine Upd.drew ?_ | refine Upd.alloc ?_ _ | (apply Upd.trans; rotate_left; assumption)))
    ((go_at_call 138; (with_reducible refine (kp _ (by (repeat (first | assumption | exact Upd.refl _ _ | refine Upd.alloc ?_ _ | refine Upd.drew ?_ | refine Upd.drewN ?_ _ | refine Upd.setCell ?_ ?_ _ | focus (left; simp; done) | focus (right; simp; done) | focus (right; simp; omega))))).mono ?_); rintro e w1 ⟨rfl, hu1⟩; (have hu2 : Upd [] (w.alloc (.cells #[.int .i64 k, .int .u64 s] 59)) w1 := by (repeat (first | assumption | exact Upd.refl _ _ | refine Upd.drew ?_ | refine Upd.alloc ?_ _ | (apply Upd.trans; rotate_left; assumption))))))
  go_wp2
  go_ret
  exact ⟨rfl, u1.trans hu2⟩
/-- What is behind a decrease, of trees and ranks. -/
def LowEnd (w' : World) (B : LB) (F : List Nat) (gt ct : Nat) (A' : NS) (st : Nat) (S : TS) (rk : Nat → Nat) (tops : List Int) (g : Nat) (X : List Nat) (T : BT) : Prop :=
  ∃ S' rk' tops', LfM w' B F gt ct A' st S' rk' tops' ∧ IsT S' (-1) T.root T ∧ RkOk rk' T ∧ (∀ y, y ∉ X → S.at S' y ∧ rk' y = rk y) ∧
    ∀ q, q < A'.hs.length → tops'.getD q 0 = if q = g then T.root else tops.getD q 0
set_option maxHeartbeats 8000000 in
theorem ldec_top (hM : LfM w B F gt ct A st S rk tops) {g x : Nat} {l r : BT} {k s : Int} (hk : -9223372036854775808 ≤ k ∧ k ≤ 9223372036854775807 ∧ 0 ≤ s ∧ s ≤ 18446744073709551615) (hB : lowB A x k s = true)
    (hg : (A.c x).i = g) (hg0 : 0 < g) (htop : tops.getD g 0 = x) (hxl : x < A.cs.length) (hT : IsT S (-1) (BT.node x l r).root (.node x l r)) (hR : RkOk rk (.node x l r)) :
    Calls Try.prog 132 #[.pointer (some ⟨B.n0, 0, none⟩), .int .i64 (x : Int), .agg #[.int .i64 k, .int .u64 s]] w fun e w' => e = .returned (.bool true) ∧ Upd (B.blk F gt) w w' ∧
      LowEnd w' B F gt ct (lowN A x k s) st S rk tops g (BT.node x l r).nodes (.node x l r) := by
  have hcs := low_len A x k s
  have hhs := low_hs A x k s
  have hin' : inN (lowN A x k s) (x : Int) = true := (inN_nat _ x).2 ⟨by rw [hcs]; exact hxl, by rw [low_i hB hxl, hg]; omega⟩
  have hi' : ((lowN A x k s).c x).i = g := by rw [low_i hB hxl, hg]
  have hux : S.u x = -1 := hT.2.1
  have u1 : Upd [] w (w.alloc (.cells #[.int .i64 k, .int .u64 s] 59)) := (Upd.refl _ _).alloc _
  have kp := fun W (hW : Upd [] (w.alloc (.cells #[.int .i64 k, .int .u64 s] 59)) W) => clower_yes (hM.cells.upd0 (u1.trans hW)) x k s hk hB
  have h0 := hM.h0
  have hbF : B.n0 ∉ F := hM.sepF.1
  have hlt := hM.lt
  have hsz : w.heap.size ∉ F := fun hm => by have := hlt w.heap.size (by simp [LB.blk, hm]); omega
  have r0 : ∀ W, Upd F (w.alloc (.cells #[.int .i64 k, .int .u64 s] 59)) W → W.cell? ⟨B.n0, 0, none⟩ = some (.pointer (some ⟨B.c, 0, none⟩)) := fun W hW => hW.kept (u1.was h0) hbF
  have r1 : ∀ W, Upd F (w.alloc (.cells #[.int .i64 k, .int .u64 s] 59)) W → W.cell? ⟨w.heap.size, 0, none⟩ = some (.int .i64 k) := fun W h => h.kept (by simp) hsz
  have r2 : ∀ W, Upd F (w.alloc (.cells #[.int .i64 k, .int .u64 s] 59)) W → W.cell? ⟨w.heap.size, 1, none⟩ = some (.int .u64 s) := fun W h => h.kept (by simp) hsz
  have HM := Lib.hid hM
  have HG := Lib.hid (And.intro htop (And.intro hT hR))
  clear hM hT hR htop hlt h0 hg
  generalize hA' : lowN A x k s = A' at *
  go_enter Try.func132, Try.ntmps132
  go_wp2
  go_region_held3 (Upd F (w.alloc (.cells #[.int .i64 k, .int .u64 s] 59))) (repeat (first | assumption | exact Upd.refl _ _ | refine Upd.drew ?_ | refine Upd.alloc ?_ _ | refine Upd.setCell ?_ ?_ _ | focus (left; simp; done) | focus (right; simp; done) | focus (right; simp; omega) | (apply Upd.trans; rotate_left; assumption)))
    ((go_at_call 138; (with_reducible refine (kp _ (by (repeat (first | assumption | exact Upd.refl _ _ | refine Upd.alloc ?_ _ | refine Upd.drew ?_ | refine Upd.drewN ?_ _ | refine Upd.setCell ?_ ?_ _ | focus (left; simp; done) | focus (right; simp; done) | focus (right; simp; omega))))).mono ?_); rintro e w1 ⟨rfl, hC1, hu1⟩; (have hu2 : Upd F (w.alloc (.cells #[.int .i64 k, .int .u64 s] 59)) w1 := by (repeat (first | assumption | exact Upd.refl _ _ | refine Upd.drew ?_ | refine Upd.alloc ?_ _ | refine Upd.setCell ?_ ?_ _ | focus (left; simp; done) | focus (right; simp; done) | focus (right; simp; omega) | (apply Upd.trans; rotate_left; assumption))))))
  have uF : Upd F w (w.alloc (.cells #[.int .i64 k, .int .u64 s] 59)) := u1.mono (by simp)
  have hM1 := HM.out.setC (uF.trans hu2) hC1 (fun y hy => Or.inl hy) hcs (by rw [hhs])
  have kh := chome_yes hM1.cells x hin'
  rw [hi'] at kh
  have g10 := hM1.h0
  have HM1 := Lib.hid hM1
  have u01 := Lib.hid (uF.trans hu2)
  clear r0 r1 r2 kp hu1 hu2 hC1 hM1 uF
  go_wp2_with (first
    | ((go_at_call 54; (with_reducible refine (kh).mono ?_)); rintro e w2 ⟨rfl, hC2, hu2⟩; (have g21 := (HM1.out.setC hu2 hC2 (fun y hy => Or.inl hy) rfl rfl).h1); (have kc := cut_no B.bt B.ba A'.cs.length S (x : Int) w2 (HM1.out.setC hu2 hC2 (fun y hy => Or.inl hy) rfl rfl).trees (by unfold upOf; rw [if_pos (by omega), Int.toNat_natCast]; exact hux)))
    | (go_at_call 88; (with_reducible refine (kc).mono ?_); rintro e w9 ⟨rfl, hw9⟩; rw [hw9]; clear hw9 w9)
    | fail)
  go_ret
  refine ⟨rfl, (u01.out.trans hu2).mono (fun y hy => by simp only [LB.blk, List.mem_cons]; simp [hy]), S, rk, tops, HM1.out.setC hu2 hC2 (fun y hy => Or.inl hy) rfl rfl, HG.out.2.1, HG.out.2.2, fun y _ => ⟨⟨rfl, rfl, rfl⟩, rfl⟩, fun q hq => ?_⟩
  by_cases e : q = g
  · rw [if_pos e, e, HG.out.1]; rfl
  · rw [if_neg e]
set_option maxHeartbeats 8000000 in
theorem ldec_in (hM : LfM w B F gt ct A st S rk tops) {g x : Nat} {f : Fr} {P : List Fr} {l r : BT} {k s : Int} (hk : -9223372036854775808 ≤ k ∧ k ≤ 9223372036854775807 ∧ 0 ≤ s ∧ s ≤ 18446744073709551615) (hB : lowB A x k s = true)
    (hg : (A.c x).i = g) (hg0 : 0 < g) (hgt : g < tops.length) (htop : tops.getD g 0 = (plug (f :: P) (.node x l r)).root) (hT : IsT S (-1) (plug (f :: P) (.node x l r)).root (plug (f :: P) (.node x l r))) (hn : (plug (f :: P) (.node x l r)).nodes.Nodup)
    (hR : RkOk rk (plug (f :: P) (.node x l r))) (hall : ∀ y, y ∈ (plug (f :: P) (.node x l r)).nodes → inN A (y : Int) = true) :
    Calls Try.prog 132 #[.pointer (some ⟨B.n0, 0, none⟩), .int .i64 (x : Int), .agg #[.int .i64 k, .int .u64 s]] w fun e w' => e = .returned (.bool true) ∧ Upd (B.blk F gt) w w' ∧
      LowEnd w' B F gt ct (lowN A x k s) (satS st (mergeT settleT (lowN A x k s) (fixT (f :: P) (.node x l r) .nil) (.node x l r)).2) S rk tops g (plug (f :: P) (.node x l r)).nodes (mergeT settleT (lowN A x k s) (fixT (f :: P) (.node x l r) .nil) (.node x l r)).1 := by
  have hcs := low_len A x k s
  have hhs := low_hs A x k s
  have hxl : x < A.cs.length := by
    have := hall x (plug_ctx_mem.2 (Or.inl (by simp [BT.nodes])))
    exact ((inN_nat A x).1 this).1
  have hin' : inN (lowN A x k s) (x : Int) = true := (inN_nat _ x).2 ⟨by rw [hcs]; exact hxl, by rw [low_i hB hxl, hg]; omega⟩
  have hi' : ((lowN A x k s).c x).i = g := by rw [low_i hB hxl, hg]
  have hall' : ∀ y, y ∈ (plug (f :: P) (.node x l r)).nodes → inN (lowN A x k s) (y : Int) = true := fun y hy => by
    have := (inN_nat A y).1 (hall y hy)
    exact (inN_nat _ y).2 ⟨by rw [hcs]; exact this.1, by rw [low_i hB hxl]; exact this.2⟩
  have hlt' : ∀ y, y ∈ (plug (f :: P) (.node x l r)).nodes → y < (lowN A x k s).cs.length := fun y hy => ((inN_nat _ y).1 (hall' y hy)).1
  have hpn := (plug_nodes (f :: P) (.node x l r)).nodup_iff.1 hn
  have hrr := (rk_plug _ _).1 hR
  rw [List.nodup_append] at hpn
  have hn0 : (plug (f :: P) .nil).nodes.Nodup := (plug_nodes (f :: P) .nil).nodup_iff.2 (by simpa [BT.nodes] using hpn.2.1)
  have hmem0 : ∀ y, y ∈ (plug (f :: P) .nil).nodes ↔ y ∈ ctxN (f :: P) := fun y => by rw [plug_ctx_mem]; simp [BT.nodes]
  have hfm : ∀ y, y ∈ (fixT (f :: P) (.node x l r) .nil).nodes ↔ y ∈ ctxN (f :: P) := fun y => by rw [(fix_nodes _ _ _).mem_iff]; exact hmem0 y
  have hfn : (fixT (f :: P) (.node x l r) .nil).nodes.Nodup := (fix_nodes _ _ _).nodup_iff.2 hn0
  have hXn : ((fixT (f :: P) (.node x l r) .nil).nodes ++ (BT.node x l r).nodes).Nodup := by
    rw [List.nodup_append]
    exact ⟨hfn, hpn.1, fun a ha b hb e => hpn.2.2 b hb a ((hfm a).1 ha) e.symm⟩
  have hXm : ∀ y, y ∈ (fixT (f :: P) (.node x l r) .nil).nodes ++ (BT.node x l r).nodes → y ∈ (plug (f :: P) (.node x l r)).nodes := fun y hy => by
    rw [List.mem_append, hfm] at hy
    rw [plug_ctx_mem]; exact hy.symm
  have hrt : (plug (f :: P) (.node x l r)).root = (fixT (f :: P) (.node x l r) .nil).root := by rw [fix_root]; exact plug_rootc _ _ _ _
  rw [hrt] at htop
  have u1 : Upd [] w (w.alloc (.cells #[.int .i64 k, .int .u64 s] 59)) := (Upd.refl _ _).alloc _
  have kp := fun W (hW : Upd [] (w.alloc (.cells #[.int .i64 k, .int .u64 s] 59)) W) => clower_yes (hM.cells.upd0 (u1.trans hW)) x k s hk hB
  have h0 := hM.h0
  have hbF : B.n0 ∉ F := hM.sepF.1
  have hlt := hM.lt
  have hsz : w.heap.size ∉ F := fun hm => by have := hlt w.heap.size (by simp [LB.blk, hm]); omega
  have r0 : ∀ W, Upd F (w.alloc (.cells #[.int .i64 k, .int .u64 s] 59)) W → W.cell? ⟨B.n0, 0, none⟩ = some (.pointer (some ⟨B.c, 0, none⟩)) := fun W hW => hW.kept (u1.was h0) hbF
  have r1 : ∀ W, Upd F (w.alloc (.cells #[.int .i64 k, .int .u64 s] 59)) W → W.cell? ⟨w.heap.size, 0, none⟩ = some (.int .i64 k) := fun W h => h.kept (by simp) hsz
  have r2 : ∀ W, Upd F (w.alloc (.cells #[.int .i64 k, .int .u64 s] 59)) W → W.cell? ⟨w.heap.size, 1, none⟩ = some (.int .u64 s) := fun W h => h.kept (by simp) hsz
  have HM := Lib.hid hM
  have HSE := Lib.hid (And.intro hM.sep hM.sepF)
  have HG := Lib.hid (And.intro hT (And.intro hn (And.intro hrr (And.intro hall' hlt'))))
  have HX := Lib.hid (And.intro hXn hXm)
  have H0 := Lib.hid (And.intro hn0 (And.intro hmem0 hfm))
  have hAh := hM.cells.ok.h1
  have hA := hM.cells.ok.c1
  clear hM hT hR hn hall hall' hlt' hpn hrr hlt h0 hg hXn hXm hn0 hmem0 hfm hfn hrt hbF hsz
  generalize hA' : lowN A x k s = A' at *
  go_enter Try.func132, Try.ntmps132
  go_wp2
  go_region_held3 (Upd F (w.alloc (.cells #[.int .i64 k, .int .u64 s] 59))) (repeat (first | assumption | exact Upd.refl _ _ | refine Upd.drew ?_ | refine Upd.alloc ?_ _ | refine Upd.setCell ?_ ?_ _ | focus (left; simp; done) | focus (right; simp; done) | focus (right; simp; omega) | (apply Upd.trans; rotate_left; assumption)))
    ((go_at_call 138; (with_reducible refine (kp _ (by (repeat (first | assumption | exact Upd.refl _ _ | refine Upd.alloc ?_ _ | refine Upd.drew ?_ | refine Upd.drewN ?_ _ | refine Upd.setCell ?_ ?_ _ | focus (left; simp; done) | focus (right; simp; done) | focus (right; simp; omega))))).mono ?_); rintro e w1 ⟨rfl, hC1, hu1⟩; (have hu2 : Upd F (w.alloc (.cells #[.int .i64 k, .int .u64 s] 59)) w1 := by (repeat (first | assumption | exact Upd.refl _ _ | refine Upd.drew ?_ | refine Upd.alloc ?_ _ | refine Upd.setCell ?_ ?_ _ | focus (left; simp; done) | focus (right; simp; done) | focus (right; simp; omega) | (apply Upd.trans; rotate_left; assumption))))))
  have uF : Upd F w (w.alloc (.cells #[.int .i64 k, .int .u64 s] 59)) := u1.mono (by simp)
  have hM1 := HM.out.setC (uF.trans hu2) hC1 (fun y hy => Or.inl hy) hcs (by rw [hhs])
  have kh := chome_yes hM1.cells x hin'
  rw [hi'] at kh
  have g10 := hM1.h0
  have HM1 := Lib.hid hM1
  have u01 := Lib.hid (uF.trans hu2)
  clear r0 r1 r2 kp hu1 hu2 hC1 hM1 uF
  have kcw : ∀ w2, Upd F w1 w2 → CellsAt w2 B.c F A' st → _ := fun w2 hu2 hC2 => tcut_any (HM1.out.setC hu2 hC2 (fun y hy => Or.inl hy) rfl rfl).trees (f := f) (P := P) (t := .node x l r) HG.out.1 HG.out.2.1 HG.out.2.2.2.2
  rw [show BT.root (.node x l r) = (x : Int) from rfl, show cutV f (.node x l r) = (f.1 : Int) by unfold cutV; rw [if_neg (by show ¬ (x : Int) = -1; omega)], tb_nat] at kcw
  go_wp2_with (first
    | ((go_at_call 54; (with_reducible refine (kh).mono ?_)); rintro e w2 ⟨rfl, hC2, hu2⟩; (have g21 := (HM1.out.setC hu2 hC2 (fun y hy => Or.inl hy) rfl rfl).h1); (have kc := kcw w2 hu2 hC2))
    | ((go_at_call 88; (with_reducible refine (kc).mono ?_)); rintro e w3 ⟨rfl, hu3, S3, hT3, hx3, hp3, hs3⟩; (have kmd := lfix_any ((HM1.out.setC hu2 hC2 (fun y hy => Or.inl hy) rfl rfl).setT hu3 hT3) (old := .node x l r) (m := .nil) hp3 trivial HG.out.2.2.1.2 H0.out.1 (fun y hy => HG.out.2.2.2.2 y (plug_ctx_mem.2 (Or.inr ((H0.out.2.1 y).1 hy))))))
    | ((go_at_call 139; (with_reducible refine (kmd).mono ?_)); rintro e w4 ⟨rfl, hu4, S4, rk4, hM4, hE4⟩)
    | fail)
  have hx4 : IsT S4 (-1) (x : Int) (.node x l r) := IsT.frame hx3 (fun y hy => (hE4.far y (fun hm => by
    have h1 := (H0.out.2.1 y).1 hm
    have h2 := (plug_nodes (f :: P) (.node x l r)).nodup_iff.1 HG.out.2.1
    rw [List.nodup_append] at h2
    exact h2.2.2 y hy y h1 rfl)).1)
  have hr4 : RkOk rk4 (.node x l r) := HG.out.2.2.1.1.frame (fun y hy => (hE4.far y (fun hm => by
    have h1 := (H0.out.2.1 y).1 hm
    have h2 := (plug_nodes (f :: P) (.node x l r)).nodup_iff.1 HG.out.2.1
    rw [List.nodup_append] at h2
    exact h2.2.2 y hy y h1 rfl)).2)
  have f4 : ∀ y, y ∉ (plug (f :: P) (.node x l r)).nodes → S.at S4 y ∧ rk4 y = rk y := fun y hy => by
    have a1 := hs3 y hy
    have a2 := hE4.far y (fun hm => hy (plug_ctx_mem.2 (Or.inr ((H0.out.2.1 y).1 hm))))
    exact ⟨at_trans a1 a2.1, a2.2⟩
  have u4 : Upd (B.blk F gt) w w4 := (((u01.out.trans hu2).mono (fun y hy => by simp only [LB.blk, List.mem_cons]; simp [hy])).trans (hu3.mono (by simp [LB.blk]))).trans (hu4.mono (by simp [LB.blk]))
  have hE := Lib.hid (And.intro hE4 f4)
  have hcF := HM.out.cF
  have km := fun W (hW : Upd [] w4 W) => lmerge_any (hM4.upd0 hW) (tb := .node x l r) hE4.isT hx4 HX.out.1 (fun y hy => HG.out.2.2.2.1 y (HX.out.2 y hy)) hE4.isR hr4
  rw [show BT.root (.node x l r) = (x : Int) from rfl] at km
  have d4 := hM4.topI.cell g hgt
  rw [htop] at d4
  have f4' := hM4.topI.free g
  have h3 := hM4.h3
  have hgl := hM4.lt gt (by simp [LB.blk])
  have hn0g : B.n0 ∉ [B.c, B.ba, B.br, gt] := by
    have a1 := HSE.out
    have a2 : B.n0 ≠ B.c := fun e => a1.2.1 (by rw [e]; exact hcF)
    simp; omega
  have hgc : gt ∉ [B.c, B.ba, B.br] := by
    have a1 := HSE.out
    have a2 : gt ≠ B.c := fun e => a1.2.2.2.2.2 (by rw [e]; exact hcF)
    simp; omega
  have r3 : ∀ W, Upd [B.c, B.ba, B.br, gt] w4 W → W.cell? ⟨B.n0, 3, none⟩ = some (.slice (some ⟨gt, 0, none⟩) tops.length ct) := fun W hW => hW.kept h3 hn0g
  have r4 : ∀ W, Upd [B.c, B.ba, B.br] w4 W → W.cell? ⟨gt, g, none⟩ = some (.int .i64 (fixT (f :: P) (.node x l r) .nil).root) ∧ W.frozen? ⟨gt, g, none⟩ = false := fun W hW => ⟨hW.kept d4 hgc, hW.keptF d4 hgc f4'⟩
  have hib1 : (0 : Int) ≤ (g : Int) := by omega
  have hib2 : (g : Int) < (tops.length : Int) := by omega
  have HF : Hid (∀ (W : World) (S' : TS) (rk' : Nat → Nat) (st' : Nat), (∀ y, y ∉ (fixT (f :: P) (.node x l r) .nil).nodes ++ (BT.node x l r).nodes → S4.at S' y ∧ rk' y = rk4 y) → ∀ y, y ∉ (plug (f :: P) (.node x l r)).nodes → S.at S' y ∧ rk' y = rk y) := fun W S' rk' st' a y hy => by
    have b1 := hE.out.2 y hy
    have b2 := a y (fun hm => hy (HX.out.2 y hm))
    exact ⟨at_trans b1.1 b2.1, b2.2.trans b1.2⟩
  clear hE f4 hE4 hx4 hr4 hs3 hp3 hx3 hT3
  generalize hmt : (mergeT settleT A' (fixT (f :: P) (.node x l r) .nil) (.node x l r)).1 = mt at *
  generalize hmk : (mergeT settleT A' (fixT (f :: P) (.node x l r) .nil) (.node x l r)).2 = mk at *
  generalize hth : fixT (f :: P) (.node x l r) .nil = th at *
  clear hM4 f4' h3
  have q3 := r3 _ (Upd.refl _ _)
  have q4 := (r4 _ (Upd.refl _ _)).1
  go_region_law
    (first
      | (go_simp; go_at_call 62; (with_reducible refine (km _ (by (repeat (first | assumption | exact Upd.refl _ _ | refine Upd.alloc ?_ _ | refine Upd.drew ?_ | refine Upd.drewN ?_ _ | refine Upd.setCell ?_ ?_ _ | focus (left; simp; done) | focus (right; simp; done) | focus (right; simp; omega))))).mono ?_); rintro e w5 ⟨rfl, hu5a, S5, rk5, hM5, hT5, hr5, hs5⟩; (have hu5 : Upd [B.c, B.ba, B.br] w4 w5 := Upd.trans (by (repeat (first | assumption | exact Upd.refl _ _ | refine Upd.alloc ?_ _ | refine Upd.drew ?_ | refine Upd.drewN ?_ _ | refine Upd.setCell ?_ ?_ _ | focus (left; simp; done) | focus (right; simp; done) | focus (right; simp; omega)))) hu5a); (have hu6 : Upd [B.c, B.ba, B.br, gt] w4 w5 := hu5.mono (by simp)); obtain ⟨d5, f5⟩ := r4 _ hu5; (have q5 := r3 _ hu6)))
  all_goals
    go_wp2
    go_ret
    have v3 : Upd (B.blk F gt) w w5 := u4.trans (hu5.mono (fun y hy => by
      simp only [List.mem_cons, List.not_mem_nil, or_false] at hy
      simp only [LB.blk, List.mem_cons]
      rcases hy with rfl | rfl | rfl
      · simp [hcF]
      · simp
      · simp))
    subst hth hmt hmk
    refine ⟨rfl, v3.setCell (Or.inl (by simp [LB.blk])) _, S5, rk5, _, hM5.setTop g _, hT5, hr5, HF.out w5 S5 rk5 0 hs5, fun q hq => ?_⟩
    by_cases e : q = g
    · rw [if_pos e, e, List.getD_eq_getElem?_getD, List.getElem?_set, if_pos rfl, if_pos hgt]; rfl
    · rw [if_neg e, List.getD_eq_getElem?_getD, List.getElem?_set, if_neg (fun h => e h.symm), ← List.getD_eq_getElem?_getD]
theorem ldec_yes (h : LfAt w B F gt ct A st tr) (g x : Nat) (hx : x ∈ (tr g).nodes) (k s : Int) (hk : -9223372036854775808 ≤ k ∧ k ≤ 9223372036854775807 ∧ 0 ≤ s ∧ s ≤ 18446744073709551615) (hB : lowB A x k s = true) :
    Calls Try.prog 132 #[.pointer (some ⟨B.n0, 0, none⟩), .int .i64 (x : Int), .agg #[.int .i64 k, .int .u64 s]] w fun e w' => e = .returned (.bool true) ∧ Upd (B.blk F gt) w w' ∧
      LfAt w' B F gt ct (lowN A x k s) (satS st (llowT (lowN A x k s) (tr g) x).2) (fun q => if q = g then (llowT (lowN A x k s) (tr g) x).1 else tr q) := by
  obtain ⟨S, rk, tops, hM, hI, hL, hR⟩ := h
  have hm := (hI.mem g x).1 hx
  have e := pathOf_eq hx
  unfold llowT
  generalize (pathOf (tr g) x).1 = P at *
  generalize (pathOf (tr g) x).2.1 = l at *
  generalize (pathOf (tr g) x).2.2 = r at *
  have hgt : g < tops.length := by rw [hM.topn]; have := (hM.cells.ok.nat x hm.2.1); omega
  have hgh : g < A.hs.length := by rw [← hM.topn]; exact hgt
  have hT := hI.isT g
  have hn := hI.nd g
  have hH := hI.heap g
  have hRg := hR g
  have hLg := hL g
  have htp := hI.top g hgh
  rw [e] at hT hn hH hRg hLg htp
  obtain ⟨d1, d2⟩ := low_tree hB hm.2.1 hn hH
  obtain ⟨l1, l2⟩ := (lean_plug _ _).1 hLg
  have fin : ∀ w' T st', LowEnd w' B F gt ct (lowN A x k s) st' S rk tops g (tr g).nodes T → T.nodes.Perm (tr g).nodes → Heap (lowN A x k s) T → Lean T → LfAt w' B F gt ct (lowN A x k s) st' (fun q => if q = g then T else tr q) := fun w' T st' hE hp hh hl => by
    obtain ⟨S', rk', tops', q1, q2, q3, q4, q6⟩ := hE
    refine ⟨S', rk', tops', q1, hI.low hB hx q2 hp hh (fun y hy => (q4 y hy).1) (fun q hq => q6 q (by rw [low_hs]; exact hq)), fun q => ?_, fun q => ?_⟩
    · show Lean (if q = g then _ else _)
      split
      · exact hl
      · exact hL q
    · show RkOk rk' (if q = g then _ else _)
      split
      · exact q3
      · rename_i hq
        refine (hR q).frame (fun y hy => (q4 y (fun hm' => ?_)).2)
        have c1 := (hI.mem g y).1 hm'
        have c2 := (hI.mem q y).1 hy
        omega
  cases P with
  | nil =>
    refine (ldec_top hM hk hB hm.2.2 hm.1 htp hm.2.1 hT hRg).mono ?_
    rintro e' w' ⟨rfl, hu, hE⟩
    have e2 : tr g = .node x l r := e
    refine ⟨rfl, hu, ?_⟩
    show LfAt w' B F gt ct (lowN A x k s) (satS st 0) (fun q => if q = g then tr g else tr q)
    rw [satS_zero hM.cells.st62]
    refine fin w' _ st (by rw [e2]; exact hE) (List.Perm.refl _) (by rw [e2]; exact d2) (hL g)
  | cons f P2 =>
    refine (ldec_in hM hk hB hm.2.2 hm.1 hgt htp hT hn hRg (fun y hy => ?_)).mono ?_
    · rw [← e] at hy
      have := (hI.mem g y).1 hy
      exact (inN_nat A y).2 ⟨this.2.1, by omega⟩
    · rintro e' w' ⟨rfl, hu, hE⟩
      refine ⟨rfl, hu, ?_⟩
      have hpn := (plug_nodes (f :: P2) (.node x l r)).nodup_iff.1 hn
      obtain ⟨mp, mh⟩ := merge_ok settle_ok (lowN A x k s) _ (fixT (f :: P2) (.node x l r) .nil) (.node x l r) (Nat.le_refl _)
      have pn : ((fixT (f :: P2) (.node x l r) .nil).nodes ++ (BT.node x l r).nodes).Perm (tr g).nodes := by
        rw [e]
        refine (((fix_nodes _ _ _).trans (plug_nodes (f :: P2) .nil)).append_right _).trans ?_
        refine List.perm_append_comm.trans ?_
        simp only [BT.nodes, List.nil_append]
        exact (plug_nodes (f :: P2) (.node x l r)).symm
      refine fin w' _ _ (by rw [e]; exact hE) (mp.trans pn) (mh (fix_heap _ _ _ d1) d2 (pn.nodup_iff.2 (hI.nd g))) (merge_lean _ _ _ _ (Nat.le_refl _) (fix_lean _ _ _ trivial l2) l1)
end
end Go.Proofs.Ytechoojcgdjcdaa
