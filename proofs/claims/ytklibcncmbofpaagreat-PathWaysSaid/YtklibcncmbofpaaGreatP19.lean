/-
  Lemmas for PathWays: Sk5, Sk6, SkQ, SkO. Conditions: those of each lemma.
-/
import Derived.Test.YtklibcncmbofpaaGreatProg
import Derived.WalkKit
import Derived.WalkSpells
import Derived.WalkLawsBesides
import Derived.BigQuiet
import Derived.Deep.RegionHeld3
import Derived.ProofKit
import Derived.OpenShut
import Derived.Lib.Hide
import Derived.Maps.AppendAt
import Derived.StillTailTactics
import Derived.Maps.OwnSet
import Derived.Maps.OwnOps
import Derived.Maps.RangeWalk
import Derived.IntWalk
import Derived.Deep.RegionLaw
import Derived.Deep.DeepCutAuto
import Derived.Test.YtklibcncmbofpaaGreatP01
import Derived.Test.YtklibcncmbofpaaGreatP03
import Derived.Test.YtklibcncmbofpaaGreatP04
import Derived.Test.YtklibcncmbofpaaGreatP05
import Derived.Test.YtklibcncmbofpaaGreatP06
import Derived.Test.YtklibcncmbofpaaGreatP07
import Derived.Test.YtklibcncmbofpaaGreatP08
import Derived.Test.YtklibcncmbofpaaGreatP09
import Derived.Test.YtklibcncmbofpaaGreatP10
import Derived.Test.YtklibcncmbofpaaGreatP13
import Derived.Test.YtklibcncmbofpaaGreatP14
import Derived.Test.YtklibcncmbofpaaGreatP15
import Derived.Test.YtklibcncmbofpaaGreatP16
import Derived.Test.YtklibcncmbofpaaGreatP17
import Derived.Test.YtklibcncmbofpaaGreatP18
set_option linter.unusedVariables false
set_option linter.unusedSimpArgs false
namespace Go.Proofs.YtklibcncmbofpaaGreat
open Go Go.RowKit
noncomputable def slowT (A' : NS) (t : BT) (x : Nat) : BT × Nat :=
 match (pathOf t x).1 with
 | [] => (t, 0)
 | _ :: _ => mergeT upS A' (plug (pathOf t x).1 .nil) (.node x (pathOf t x).2.1 (pathOf t x).2.2)
section
variable {w : World} {B : SB} {F : List Nat} {A : NS} {st : Nat} {tr : Nat → BT} {S : TS} {f : Int → Option Int}
def SlowEnd (w' : World) (B : SB) (F : List Nat) (A' : NS) (st : Nat) (S : TS) (f : Int → Option Int) (g : Nat) (X : List Nat) (T : BT) : Prop :=
 ∃ S' f', SkM w' B F A' st S' f' ∧ IsT S' (-1) T.root T ∧ (∀ y, y ∉ X → S.at S' y) ∧ ∀ y, f' y = if y = (g : Int) then (if T.root = -1 then none else some T.root) else f y
set_option maxHeartbeats 8000000 in
theorem sdec_top (hM : SkM w B F A st S f) {g x : Nat} {l r : BT} {k s : Int} (hk : -9223372036854775808 ≤ k ∧ k ≤ 9223372036854775807 ∧ 0 ≤ s ∧ s ≤ 18446744073709551615) (hB : lowB A x k s = true)
  (hg : (A.c x).i = g) (hg0 : 0 < g) (htop : f (g : Int) = some (x : Int)) (hxl : x < A.cs.length) (hT : IsT S (-1) (BT.node x l r).root (.node x l r)) :
  Calls Tryz.prog 260 #[.pointer (some ⟨B.n0, 0, none⟩), .int .i64 (x : Int), .agg #[.int .i64 k, .int .u64 s]] w fun e w' => e = .returned (.bool true) ∧ Upd (B.blk F) w w' ∧
   SlowEnd w' B F (lowN A x k s) st S f g (BT.node x l r).nodes (.node x l r) := by
 have hcs := low_len A x k s
 have hin' : inN (lowN A x k s) (x : Int) = true := (inN_nat _ x).2 ⟨by rw [hcs]; exact hxl, by rw [low_i hB hxl, hg]; omega⟩
 have hi' : ((lowN A x k s).c x).i = g := by rw [low_i hB hxl, hg]
 have hux : S.u x = -1 := hT.2.1
 have u1 : Upd [] w (w.alloc (.cells #[.int .i64 k, .int .u64 s] 129)) := (Upd.refl _ _).alloc _
 have kp := fun W (hW : Upd [] (w.alloc (.cells #[.int .i64 k, .int .u64 s] 129)) W) => clower_yes (hM.cells.upd0 (u1.trans hW)) x k s hk hB
 have h0 := hM.h0
 have hbF : B.n0 ∉ F := hM.sepF.1
 have hlt := hM.lt
 have hsz : w.heap.size ∉ F := fun hm => by have := hlt w.heap.size (by simp [SB.blk, hm]); omega
 have r0 : ∀ W, Upd F (w.alloc (.cells #[.int .i64 k, .int .u64 s] 129)) W → W.cell? ⟨B.n0, 0, none⟩ = some (.pointer (some ⟨B.c, 0, none⟩)) := fun W hW => hW.kept (u1.was h0) hbF
 have r1 : ∀ W, Upd F (w.alloc (.cells #[.int .i64 k, .int .u64 s] 129)) W → W.cell? ⟨w.heap.size, 0, none⟩ = some (.int .i64 k) := fun W h => h.kept (by simp) hsz
 have r2 : ∀ W, Upd F (w.alloc (.cells #[.int .i64 k, .int .u64 s] 129)) W → W.cell? ⟨w.heap.size, 1, none⟩ = some (.int .u64 s) := fun W h => h.kept (by simp) hsz
 have HM := Lib.hid hM
 have HG := Lib.hid (And.intro htop hT)
 clear hM hT htop hlt h0 hg
 generalize hA' : lowN A x k s = A' at *
 go_enter Tryz.func260, Tryz.ntmps260
 go_wp2
 go_region_held3 (Upd F (w.alloc (.cells #[.int .i64 k, .int .u64 s] 129))) (repeat (first | assumption | exact Upd.refl _ _ | refine Upd.drew ?_ | refine Upd.alloc ?_ _ | refine Upd.setCell ?_ ?_ _ | focus (left; simp; done) | focus (right; simp; done) | focus (right; simp; omega) | (apply Upd.trans; rotate_left; assumption)))
  ((go_at_call 147; (with_reducible refine (kp _ (by (repeat (first | assumption | exact Upd.refl _ _ | refine Upd.alloc ?_ _ | refine Upd.drew ?_ | refine Upd.drewN ?_ _ | refine Upd.setCell ?_ ?_ _ | focus (left; simp; done) | focus (right; simp; done) | focus (right; simp; omega))))).mono ?_); rintro e w1 ⟨rfl, hC1, hu1⟩; (have hu2 : Upd F (w.alloc (.cells #[.int .i64 k, .int .u64 s] 129)) w1 := by (repeat (first | assumption | exact Upd.refl _ _ | refine Upd.drew ?_ | refine Upd.alloc ?_ _ | refine Upd.setCell ?_ ?_ _ | focus (left; simp; done) | focus (right; simp; done) | focus (right; simp; omega) | (apply Upd.trans; rotate_left; assumption))))))
 have uF : Upd F w (w.alloc (.cells #[.int .i64 k, .int .u64 s] 129)) := u1.mono (by simp)
 have hM1 := HM.out.setC (uF.trans hu2) hC1 (fun y hy => Or.inl hy) hcs
 have kh := chome_yes hM1.cells x hin'
 rw [hi'] at kh
 have g10 := hM1.h0
 have HM1 := Lib.hid hM1
 have u01 := Lib.hid (uF.trans hu2)
 clear r0 r1 r2 kp hu1 hu2 hC1 hM1 uF
 go_wp2_with (first
  | ((go_at_call 140; (with_reducible refine (kh).mono ?_)); rintro e w2 ⟨rfl, hC2, hu2⟩; (have g21 := (HM1.out.setC hu2 hC2 (fun y hy => Or.inl hy) rfl).h1); (have kc := cut_no B.bt B.ba A'.cs.length S (x : Int) w2 (HM1.out.setC hu2 hC2 (fun y hy => Or.inl hy) rfl).trees (by unfold upOf; rw [if_pos (by omega), Int.toNat_natCast]; exact hux)))
  | (go_at_call 244; (with_reducible refine (kc).mono ?_); rintro e w9 ⟨rfl, hw9⟩; rw [hw9]; clear hw9 w9)
  | fail)
 go_ret
 refine ⟨rfl, (u01.out.trans hu2).mono (fun y hy => by simp only [SB.blk, List.mem_cons]; simp [hy]), S, f, HM1.out.setC hu2 hC2 (fun y hy => Or.inl hy) rfl, HG.out.2, fun y _ => ⟨rfl, rfl, rfl⟩, fun y => ?_⟩
 by_cases e : y = (g : Int)
 ·rw [if_pos e, e, HG.out.1, if_neg (by show ¬ (x : Int) = -1; omega)]; rfl
 ·rw [if_neg e]
set_option maxHeartbeats 8000000 in
theorem sdec_in (hM : SkM w B F A st S f) {g x : Nat} {fr : Fr} {P : List Fr} {l r : BT} {k s : Int} (hk : -9223372036854775808 ≤ k ∧ k ≤ 9223372036854775807 ∧ 0 ≤ s ∧ s ≤ 18446744073709551615) (hB : lowB A x k s = true)
  (hg : (A.c x).i = g) (hg0 : 1 ≤ g ∧ g ≤ 65536) (htop : oneZ (f (g : Int)) = (plug (fr :: P) (.node x l r)).root) (hT : IsT S (-1) (plug (fr :: P) (.node x l r)).root (plug (fr :: P) (.node x l r))) (hn : (plug (fr :: P) (.node x l r)).nodes.Nodup)
  (hall : ∀ y, y ∈ (plug (fr :: P) (.node x l r)).nodes → inN A (y : Int) = true) :
  Calls Tryz.prog 260 #[.pointer (some ⟨B.n0, 0, none⟩), .int .i64 (x : Int), .agg #[.int .i64 k, .int .u64 s]] w fun e w' => e = .returned (.bool true) ∧ Upd (B.blk F) w w' ∧
   SlowEnd w' B F (lowN A x k s) (satS st (mergeT upS (lowN A x k s) (plug (fr :: P) .nil) (.node x l r)).2) S f g (plug (fr :: P) (.node x l r)).nodes (mergeT upS (lowN A x k s) (plug (fr :: P) .nil) (.node x l r)).1 := by
 have hcs := low_len A x k s
 have hxl : x < A.cs.length := by
  have := hall x (plug_ctx_mem.2 (Or.inl (by simp [BT.nodes])))
  exact ((inN_nat A x).1 this).1
 have hin' : inN (lowN A x k s) (x : Int) = true := (inN_nat _ x).2 ⟨by rw [hcs]; exact hxl, by rw [low_i hB hxl, hg]; omega⟩
 have hi' : ((lowN A x k s).c x).i = g := by rw [low_i hB hxl, hg]
 have hall' : ∀ y, y ∈ (plug (fr :: P) (.node x l r)).nodes → inN (lowN A x k s) (y : Int) = true := fun y hy => by
  have := (inN_nat A y).1 (hall y hy)
  exact (inN_nat _ y).2 ⟨by rw [hcs]; exact this.1, by rw [low_i hB hxl]; exact this.2⟩
 have hlt' : ∀ y, y ∈ (plug (fr :: P) (.node x l r)).nodes → y < (lowN A x k s).cs.length := fun y hy => ((inN_nat _ y).1 (hall' y hy)).1
 have hpn := (plug_nodes (fr :: P) (.node x l r)).nodup_iff.1 hn
 rw [List.nodup_append] at hpn
 have hn0 : (plug (fr :: P) .nil).nodes.Nodup := (plug_nodes (fr :: P) .nil).nodup_iff.2 (by simpa [BT.nodes] using hpn.2.1)
 have hmem0 : ∀ y, y ∈ (plug (fr :: P) .nil).nodes ↔ y ∈ ctxN (fr :: P) := fun y => by rw [plug_ctx_mem]; simp [BT.nodes]
 have hXn : ((plug (fr :: P) .nil).nodes ++ (BT.node x l r).nodes).Nodup := by
  rw [List.nodup_append]
  exact ⟨hn0, hpn.1, fun a ha b hb e => hpn.2.2 b hb a ((hmem0 a).1 ha) e.symm⟩
 have hXm : ∀ y, y ∈ (plug (fr :: P) .nil).nodes ++ (BT.node x l r).nodes → y ∈ (plug (fr :: P) (.node x l r)).nodes := fun y hy => by
  rw [List.mem_append, hmem0] at hy
  rw [plug_ctx_mem]; exact hy.symm
 have hrt : (plug (fr :: P) (.node x l r)).root = (plug (fr :: P) .nil).root := plug_rootc _ _ _ _
 rw [hrt] at htop
 obtain ⟨mp, -⟩ := merge_ok upS_ok (lowN A x k s) _ (plug (fr :: P) .nil) (.node x l r) (Nat.le_refl _)
 have hmr : -1 ≤ (mergeT upS (lowN A x k s) (plug (fr :: P) .nil) (.node x l r)).1.root ∧ (mergeT upS (lowN A x k s) (plug (fr :: P) .nil) (.node x l r)).1.root ≤ 9223372036854775807 := by
  refine ⟨root_ge _, ?_⟩
  by_cases e : (mergeT upS (lowN A x k s) (plug (fr :: P) .nil) (.node x l r)).1 = .nil
  ·rw [e]; show (-1 : Int) ≤ _; omega
  ·have h1 := root_mem e
   have h2 := hlt' _ (hXm _ (mp.mem_iff.1 h1.1))
   have h3 := hM.cells.ok.c1
   rw [hcs] at h2
   omega
 have u1 : Upd [] w (w.alloc (.cells #[.int .i64 k, .int .u64 s] 129)) := (Upd.refl _ _).alloc _
 have kp := fun W (hW : Upd [] (w.alloc (.cells #[.int .i64 k, .int .u64 s] 129)) W) => clower_yes (hM.cells.upd0 (u1.trans hW)) x k s hk hB
 have h0 := hM.h0
 have hbF : B.n0 ∉ F := hM.sepF.1
 have hlt := hM.lt
 have hsz : w.heap.size ∉ F := fun hm => by have := hlt w.heap.size (by simp [SB.blk, hm]); omega
 have r0 : ∀ W, Upd F (w.alloc (.cells #[.int .i64 k, .int .u64 s] 129)) W → W.cell? ⟨B.n0, 0, none⟩ = some (.pointer (some ⟨B.c, 0, none⟩)) := fun W hW => hW.kept (u1.was h0) hbF
 have r1 : ∀ W, Upd F (w.alloc (.cells #[.int .i64 k, .int .u64 s] 129)) W → W.cell? ⟨w.heap.size, 0, none⟩ = some (.int .i64 k) := fun W h => h.kept (by simp) hsz
 have r2 : ∀ W, Upd F (w.alloc (.cells #[.int .i64 k, .int .u64 s] 129)) W → W.cell? ⟨w.heap.size, 1, none⟩ = some (.int .u64 s) := fun W h => h.kept (by simp) hsz
 have HM := Lib.hid hM
 have hcF := hM.cF
 have HG := Lib.hid (And.intro hT (And.intro hn (And.intro hall' hlt')))
 have HX := Lib.hid (And.intro hXn hXm)
 have hA := hM.cells.ok.c1
 clear hM hT hn hall hall' hlt' hpn hlt h0 hg hXn hXm hn0 hmem0 hrt hbF hsz mp
 generalize hA' : lowN A x k s = A' at *
 go_enter Tryz.func260, Tryz.ntmps260
 go_wp2
 go_region_held3 (Upd F (w.alloc (.cells #[.int .i64 k, .int .u64 s] 129))) (repeat (first | assumption | exact Upd.refl _ _ | refine Upd.drew ?_ | refine Upd.alloc ?_ _ | refine Upd.setCell ?_ ?_ _ | focus (left; simp; done) | focus (right; simp; done) | focus (right; simp; omega) | (apply Upd.trans; rotate_left; assumption)))
  ((go_at_call 147; (with_reducible refine (kp _ (by (repeat (first | assumption | exact Upd.refl _ _ | refine Upd.alloc ?_ _ | refine Upd.drew ?_ | refine Upd.drewN ?_ _ | refine Upd.setCell ?_ ?_ _ | focus (left; simp; done) | focus (right; simp; done) | focus (right; simp; omega))))).mono ?_); rintro e w1 ⟨rfl, hC1, hu1⟩; (have hu2 : Upd F (w.alloc (.cells #[.int .i64 k, .int .u64 s] 129)) w1 := by (repeat (first | assumption | exact Upd.refl _ _ | refine Upd.drew ?_ | refine Upd.alloc ?_ _ | refine Upd.setCell ?_ ?_ _ | focus (left; simp; done) | focus (right; simp; done) | focus (right; simp; omega) | (apply Upd.trans; rotate_left; assumption))))))
 have uF : Upd F w (w.alloc (.cells #[.int .i64 k, .int .u64 s] 129)) := u1.mono (by simp)
 have hM1 := HM.out.setC (uF.trans hu2) hC1 (fun y hy => Or.inl hy) hcs
 have kh := chome_yes hM1.cells x hin'
 rw [hi'] at kh
 have g10 := hM1.h0
 have HM1 := Lib.hid hM1
 have u01 := Lib.hid (uF.trans hu2)
 clear r0 r1 r2 kp hu1 hu2 hC1 hM1 uF
 have kcw : ∀ w2, Upd F w1 w2 → CellsAt w2 B.c F A' st → _ := fun w2 hu2 hC2 => tcut_any (HM1.out.setC hu2 hC2 (fun y hy => Or.inl hy) rfl).trees (f := fr) (P := P) (t := .node x l r) HG.out.1 HG.out.2.1 HG.out.2.2.2
 rw [show BT.root (.node x l r) = (x : Int) from rfl, tb_nat] at kcw
 generalize cutV fr (.node x l r) = cv at kcw
 go_wp2_with (first
  | ((go_at_call 140; (with_reducible refine (kh).mono ?_)); rintro e w2 ⟨rfl, hC2, hu2⟩; (have g21 := (HM1.out.setC hu2 hC2 (fun y hy => Or.inl hy) rfl).h1); (have kc := kcw w2 hu2 hC2))
  | ((go_at_call 244; (with_reducible refine (kc).mono ?_)); rintro e w3 ⟨rfl, hu3, S3, hT3, hx3, hp3, hs3⟩; (have hM3 := (HM1.out.setC hu2 hC2 (fun y hy => Or.inl hy) rfl).setT hu3 hT3); (have kf := sfirst_any hM3 (g : Int) (by omega)); rw [htop] at kf; (have km := smerge_any hM3 (ta := plug (fr :: P) .nil) (tb := .node x l r) hp3 hx3 HX.out.1 (fun y hy => HG.out.2.2.1 y (HX.out.2 y hy))); rw [show BT.root (.node x l r) = (x : Int) from rfl] at km)
  | (go_at_call 268; (with_reducible refine (kf).mono ?_); rintro e w9 ⟨rfl, hw9⟩; rw [hw9]; clear hw9 w9)
  | ((go_at_call 267; (with_reducible refine (km).mono ?_)); rintro e w4 ⟨rfl, hu4, S4, hM4, hT4, hs4⟩; (have kcr := scrown_any hM4 g _ (by omega) hmr))
  | ((go_at_call 266; (with_reducible refine (kcr).mono ?_)); rintro e w5 ⟨rfl, hu5, hM5⟩)
  | fail)
 go_ret
 refine ⟨rfl, ((((u01.out.trans hu2).mono (fun y hy => by simp only [SB.blk, List.mem_cons]; simp [hy])).trans (hu3.mono (by simp [SB.blk]))).trans (hu4.mono (fun y hy => ?_))).trans (hu5.mono (by simp [SB.blk])), S4, _, hM5, hT4, fun y hy => at_trans (hs3 y hy) (hs4 y (fun hm => hy (HX.out.2 y hm))), fun y => rfl⟩
 simp only [List.mem_cons, List.not_mem_nil, or_false] at hy
 simp only [SB.blk, List.mem_cons]
 rcases hy with rfl | rfl
 ·simp [hcF]
 ·simp
theorem sdec_yes (h : SkAt w B F A st tr) (g x : Nat) (hx : x ∈ (tr g).nodes) (k s : Int) (hk : -9223372036854775808 ≤ k ∧ k ≤ 9223372036854775807 ∧ 0 ≤ s ∧ s ≤ 18446744073709551615) (hB : lowB A x k s = true) :
  Calls Tryz.prog 260 #[.pointer (some ⟨B.n0, 0, none⟩), .int .i64 (x : Int), .agg #[.int .i64 k, .int .u64 s]] w fun e w' => e = .returned (.bool true) ∧ Upd (B.blk F) w w' ∧
   SkAt w' B F (lowN A x k s) (satS st (slowT (lowN A x k s) (tr g) x).2) (fun q => if q = g then (slowT (lowN A x k s) (tr g) x).1 else tr q) := by
 obtain ⟨S, hM, hI⟩ := h
 have hm := (hI.mem g x).1 hx
 have e := pathOf_eq hx
 unfold slowT
 generalize (pathOf (tr g) x).1 = P at *
 generalize (pathOf (tr g) x).2.1 = l at *
 generalize (pathOf (tr g) x).2.2 = r at *
 have hq : 1 ≤ g ∧ g < A.hs.length := by have := hM.cells.ok.nat x hm.2.1; omega
 have hb65 := hM.cells.ok.h1
 have hT := hI.isT g
 have hn := hI.nd g
 have hH := hI.heap g
 have htp := topF_nat A tr g hq
 rw [e] at hT hn hH htp
 obtain ⟨d1, d2⟩ := low_tree hB hm.2.1 hn hH
 have fin : ∀ w' T st', SlowEnd w' B F (lowN A x k s) st' S (topF A tr) g (tr g).nodes T → T.nodes.Perm (tr g).nodes → Heap (lowN A x k s) T → SkAt w' B F (lowN A x k s) st' (fun q => if q = g then T else tr q) := fun w' T st' hE hp hh => by
  obtain ⟨S', f', q1, q2, q4, q6⟩ := hE
  refine ⟨S', q1.ext (fun y => by rw [q6 y]; exact topF_set (by rw [low_hs]) hq y), TrG.low (tops' := topsL (lowN A x k s) (fun q => if q = g then T else tr q)) hI hB hx q2 hp hh q4 (fun q hq' => ?_)⟩
  have hq'' : q < (lowN A x k s).hs.length := by rw [low_hs]; exact hq'
  unfold topsL
  rw [List.getD_eq_getElem?_getD, List.getElem?_map, List.getElem?_range hq'']
  show (if q = g then T else tr q).root = _
  by_cases eq : q = g
  ·rw [if_pos eq, if_pos eq]
  ·rw [if_neg eq, if_neg eq]
   rw [List.getD_eq_getElem?_getD, List.getElem?_map, List.getElem?_range hq']; rfl
 cases P with
 | nil =>
  have ht2 : topF A tr (g : Int) = some (x : Int) := by
   unfold topF
   rw [if_pos (by omega), Int.toNat_natCast, e]
   show (if (x : Int) = -1 then none else some (x : Int)) = _
   rw [if_neg (by omega)]
  refine (sdec_top hM hk hB hm.2.2 hm.1 ht2 hm.2.1 hT).mono ?_
  rintro e' w' ⟨rfl, hu, hE⟩
  have e2 : tr g = .node x l r := e
  refine ⟨rfl, hu, ?_⟩
  show SkAt w' B F (lowN A x k s) (satS st 0) (fun q => if q = g then tr g else tr q)
  rw [satS_zero hM.cells.st62]
  refine fin w' _ st (by rw [e2]; exact hE) (List.Perm.refl _) (by rw [e2]; exact d2)
 | cons fr P2 =>
  refine (sdec_in hM hk hB hm.2.2 (by omega) htp hT hn (fun y hy => ?_)).mono ?_
  ·rw [← e] at hy
   have := (hI.mem g y).1 hy
   exact (inN_nat A y).2 ⟨this.2.1, by omega⟩
  ·rintro e' w' ⟨rfl, hu, hE⟩
   refine ⟨rfl, hu, ?_⟩
   obtain ⟨mp, mh⟩ := merge_ok upS_ok (lowN A x k s) _ (plug (fr :: P2) .nil) (.node x l r) (Nat.le_refl _)
   have pn : ((plug (fr :: P2) .nil).nodes ++ (BT.node x l r).nodes).Perm (tr g).nodes := by
    rw [e]
    refine ((plug_nodes (fr :: P2) .nil).append_right _).trans ?_
    refine List.perm_append_comm.trans ?_
    simp only [BT.nodes, List.nil_append]
    exact (plug_nodes (fr :: P2) (.node x l r)).symm
   refine fin w' _ _ (by rw [e]; exact hE) (mp.trans pn) (mh d1 d2 (pn.nodup_iff.2 (hI.nd g)))
end
end Go.Proofs.YtklibcncmbofpaaGreat
namespace Go.Proofs.YtklibcncmbofpaaGreat
open Go Go.RowKit
set_option maxHeartbeats 4000000 in
theorem snew_yes (n : Nat) (w : World) (h : n ≤ 65536) :
  Calls Tryz.prog 102 #[.int .i64 (n : Int)] w fun e w' => ∃ B F, e = .returned (.tuple #[.pointer (some ⟨B.n0, 0, none⟩), .int .i64 0]) ∧ SkAt w' B F (NS.new n) 0 (fun _ => .nil) ∧ Upd [] w w' ∧ ∀ x, x ∈ B.blk F → w.heap.size ≤ x := by
 have hmm := @run_makeMap Tryz.prog
 go_enter Tryz.func102, Tryz.ntmps102
 go_wp2_with (first
  | ((go_at_call 107; (with_reducible refine (cnew_yes n _ h).mono ?_)); rintro e w1 ⟨c, F, rfl, hC, hu1, hF⟩)
  | ((go_at_call 112; (with_reducible refine (spineNew_yes n _ h).mono ?_)); rintro e w2 ⟨bt, ba, rfl, hT, hu2, hb1, hb2⟩))
 go_ret2
 have hcs : (NS.new n).cs.length = n := by simp [NS.new]
 have l1 := hu1.size
 have l2 := hu2.size
 have l5 := hT.head.lt
 have l6 := hT.row.lt
 have l7 := hC.lt
 have lc := l7 c hC.mem
 have hm := MapI.made w2
 have e3 : ((w2.alloc (.map #[] 0)).heap.size) = w2.heap.size + 1 := by rw [World.size_alloc]
 have hv1 : Upd [] w2 (w2.alloc (.map #[] 0)) := (Upd.refl _ _).alloc _
 have hv2 : Upd [] (w2.alloc (.map #[] 0)) ((w2.alloc (.map #[] 0)).alloc (.cells #[.pointer (some ⟨c, 0, none⟩), .pointer (some ⟨bt, 0, none⟩), .map (some w2.heap.size)] 234)) := (Upd.refl _ _).alloc _
 have hv := hv1.trans hv2
 have hh := rowAt_new (w2.alloc (.map #[] 0)) [.pointer (some ⟨c, 0, none⟩), .pointer (some ⟨bt, 0, none⟩), .map (some w2.heap.size)] 234
 rw [e3] at hh
 have hnF : ∀ x, w1.heap.size ≤ x → x ∉ F := fun x hx hm => by have := l7 x hm; omega
 refine ⟨⟨w2.heap.size + 1, c, bt, ba, w2.heap.size⟩, F, rfl, ⟨TS.none, ⟨hh, (hC.upd0 hu2).upd0 hv, by rw [hcs]; exact hT.upd hv (by simp) (by simp), ?_, ⟨hnF _ (by simp only; omega), hnF _ (by simp only; omega), hnF _ (by simp only; omega), hnF _ (by simp only; omega)⟩, ⟨⟨by simp only; omega, by simp only; omega, by simp only; omega⟩, by simp only; omega, by simp only; omega⟩⟩, (trI_new n).retop⟩, (hu1.trans hu2).trans hv, fun x hx => ?_⟩
 ·refine (hm.upd hv2 (by simp)).ext (fun k => ?_)
  unfold topF
  split
  ·rfl
  ·rfl
 ·simp only [SB.blk, List.mem_cons] at hx
  rcases hx with rfl | rfl | rfl | rfl | hx
  ·omega
  ·omega
  ·omega
  ·omega
  ·exact hF x hx
section
variable {w : World} {B : SB} {F : List Nat} {A : NS} {st : Nat} {tr : Nat → BT}
theorem SkAt.make {w' : World} {F' : List Nat} (h : SkAt w B F A st tr) (hl : ¬ 65536 < A.hs.length) (hu : Upd F w w') (hC : CellsAt w' B.c F' (makeN A) st) (hF : ∀ x, x ∈ F' → x ∈ F ∨ w.heap.size ≤ x) : SkAt w' B F' (makeN A) st tr := by
 obtain ⟨S, hM, hI⟩ := h
 have ok := hM.cells.ok
 have e1 : (makeN A).cs.length = A.cs.length := by unfold makeN; rw [if_neg hl]
 have e2 : (makeN A).hs.length = A.hs.length + 1 := by unfold makeN; rw [if_neg hl]; simp
 have hI2 := hI.make ok (by simp [topsL]) hl
 have hnil : (tr A.hs.length) = .nil := by
  cases e : tr A.hs.length with
  | nil => rfl
  | node y a b =>
   exfalso
   have := (hI.mem A.hs.length y).1 (by rw [e]; simp [BT.nodes])
   have h3 := inN_has ok ((inN_nat A y).2 ⟨this.2.1, by omega⟩)
   have := (hasN_iff _ _).1 h3
   rw [Int.toNat_natCast] at this
   omega
 refine ⟨S, (hM.setC hu hC hF e1).ext (fun k => ?_), hI2.retop⟩
 unfold topF
 rw [e2]
 by_cases h1 : 1 ≤ k ∧ k < A.hs.length
 ·rw [if_pos h1, if_pos (show 1 ≤ k ∧ k < ((A.hs.length + 1 : Nat) : Int) by omega)]
 ·rw [if_neg h1]
  by_cases h2 : k = A.hs.length
  ·subst h2
   rw [Int.toNat_natCast, hnil]
   split
   ·rfl
   ·rfl
  ·rw [if_neg (show ¬ (1 ≤ k ∧ k < ((A.hs.length + 1 : Nat) : Int)) by omega)]
end
end Go.Proofs.YtklibcncmbofpaaGreat
namespace Go.Proofs.YtklibcncmbofpaaGreat
open Go Go.RowKit
theorem sk_via_has (p c : Nat) : ∀ W : World, W.cell? ⟨p, 0, none⟩ = some (.pointer (some ⟨c, 0, none⟩)) → (method 429 190 (.pointer (some ⟨p, 0, none⟩)) "Has").run Tryz.prog W = .ok (139, .pointer (some ⟨c, 0, none⟩)) W := (by intro W h; unfold method; have hm : ∃ m, (Array.find? (fun x => x.name == "Has") Tryz.t190.methods) = some m ∧ m.path.toList = [⟨234, 0, true⟩] ∧ m.func = some (139, true) ∧ m.path.isEmpty = false := ⟨(Array.find? (fun x => x.name == "Has") Tryz.t190.methods).get!, by kernel_rfl, by kernel_rfl, by kernel_rfl, by kernel_rfl⟩; obtain ⟨m, h1, h2, h3, h4⟩ := hm; go_simp; simp only [follow, Place.get]; go_simp; (try unfold receiverAt); (try simp only [Place.get]); (try go_simp))
theorem sk_via_entry (p c : Nat) : ∀ W : World, W.cell? ⟨p, 0, none⟩ = some (.pointer (some ⟨c, 0, none⟩)) → (method 429 190 (.pointer (some ⟨p, 0, none⟩)) "Entry").run Tryz.prog W = .ok (137, .pointer (some ⟨c, 0, none⟩)) W := (by intro W h; unfold method; have hm : ∃ m, (Array.find? (fun x => x.name == "Entry") Tryz.t190.methods) = some m ∧ m.path.toList = [⟨234, 0, true⟩] ∧ m.func = some (137, true) ∧ m.path.isEmpty = false := ⟨(Array.find? (fun x => x.name == "Entry") Tryz.t190.methods).get!, by kernel_rfl, by kernel_rfl, by kernel_rfl, by kernel_rfl⟩; obtain ⟨m, h1, h2, h3, h4⟩ := hm; go_simp; simp only [follow, Place.get]; go_simp; (try unfold receiverAt); (try simp only [Place.get]); (try go_simp))
theorem sk_via_make (p c : Nat) : ∀ W : World, W.cell? ⟨p, 0, none⟩ = some (.pointer (some ⟨c, 0, none⟩)) → (method 429 190 (.pointer (some ⟨p, 0, none⟩)) "Make").run Tryz.prog W = .ok (156, .pointer (some ⟨c, 0, none⟩)) W := (by intro W h; unfold method; have hm : ∃ m, (Array.find? (fun x => x.name == "Make") Tryz.t190.methods) = some m ∧ m.path.toList = [⟨234, 0, true⟩] ∧ m.func = some (156, true) ∧ m.path.isEmpty = false := ⟨(Array.find? (fun x => x.name == "Make") Tryz.t190.methods).get!, by kernel_rfl, by kernel_rfl, by kernel_rfl, by kernel_rfl⟩; obtain ⟨m, h1, h2, h3, h4⟩ := hm; go_simp; simp only [follow, Place.get]; go_simp; (try unfold receiverAt); (try simp only [Place.get]); (try go_simp))
theorem sk_insert (p : Nat) : ∀ W : World, (method 429 190 (.pointer (some ⟨p, 0, none⟩)) "Insert").run Tryz.prog W = .ok (263, .pointer (some ⟨p, 0, none⟩)) W := fun _ => by kernel_rfl
theorem sk_min (p : Nat) : ∀ W : World, (method 429 190 (.pointer (some ⟨p, 0, none⟩)) "Min").run Tryz.prog W = .ok (265, .pointer (some ⟨p, 0, none⟩)) W := fun _ => by kernel_rfl
theorem sk_extract (p : Nat) : ∀ W : World, (method 429 190 (.pointer (some ⟨p, 0, none⟩)) "Extract").run Tryz.prog W = .ok (262, .pointer (some ⟨p, 0, none⟩)) W := fun _ => by kernel_rfl
theorem sk_decrease (p : Nat) : ∀ W : World, (method 429 190 (.pointer (some ⟨p, 0, none⟩)) "Decrease").run Tryz.prog W = .ok (260, .pointer (some ⟨p, 0, none⟩)) W := fun _ => by kernel_rfl
def SkQ (w : World) (p : Nat) (F : List Nat) (A : NS) : Prop := ∃ B F1 st tr, p = B.n0 ∧ F = B.blk F1 ∧ SkAt w B F1 A st tr
def nestSkQ : NestQ where
 ty := 190
 at_ := SkQ
 upd := fun h hu hS => by
  obtain ⟨B, F1, st, tr, rfl, rfl, hL⟩ := h
  exact ⟨B, F1, st, tr, rfl, rfl, hL.upd hu hS⟩
 lt := fun h => by
  obtain ⟨B, F1, st, tr, rfl, rfl, S, hM, -⟩ := h
  exact hM.lt
 ok := fun h => by
  obtain ⟨B, F1, st, tr, rfl, rfl, S, hM, -⟩ := h
  exact hM.cells.ok
 make := fun {w p F A} h => by
  obtain ⟨B, F1, st, tr, rfl, rfl, hL⟩ := h
  have h0 : w.cell? ⟨B.n0, 0, none⟩ = some (.pointer (some ⟨B.c, 0, none⟩)) := by obtain ⟨S, hM, -⟩ := hL; exact hM.h0
  refine mth_via 156 (fun _ _ => by kernel_rfl) h0 (sk_via_make _ _) (fun W hW => ?_)
  have hLW := hL.upd0 hW
  have hC : CellsAt W B.c F1 A st := by obtain ⟨S, hM, -⟩ := hLW; exact hM.cells
  refine (cmake_any hC).mono ?_
  rintro e w' ⟨rfl, F', hC2, hu, hf⟩
  have hu2 : Upd (B.blk F1) W w' := hu.mono (fun z hz => by simp only [SB.blk, List.mem_cons]; simp [hz])
  have hf2 : ∀ z, z ∈ B.blk F' → z ∈ B.blk F1 ∨ W.heap.size ≤ z := fun z hz => by
   simp only [SB.blk, List.mem_cons] at hz ⊢
   rcases hz with rfl | rfl | rfl | rfl | hz
   ·simp
   ·simp
   ·simp
   ·simp
   ·rcases hf z hz with h1 | h1
    ·simp [h1]
    ·exact Or.inr h1
  refine ⟨rfl, B.blk F', ?_, hu2, hf2⟩
  by_cases hl : 65536 < A.hs.length
  ·have e2 : makeN A = A := by unfold makeN; rw [if_pos hl]
   rw [e2] at hC2 ⊢
   obtain ⟨S, hM, hI⟩ := hLW
   exact ⟨B, F', st, tr, rfl, rfl, S, hM.setC hu hC2 hf rfl, hI⟩
  ·exact ⟨B, F', st, _, rfl, rfl, hLW.make hl hu hC2 hf⟩
 insert := fun {w p F A} g y k s hk hB h => by
  obtain ⟨B, F1, st, tr, rfl, rfl, hL⟩ := h
  refine mth_direct 263 (fun _ _ => by kernel_rfl) (sk_insert _) (fun W hW => ?_)
  refine (sinsert_yes (hL.upd0 hW) g y k s hk hB).mono ?_
  rintro e w' ⟨rfl, hu, hL2⟩
  exact ⟨rfl, Goes.stay ⟨B, F1, _, _, rfl, rfl, hL2⟩ hu⟩
 min := fun {w p F A} y hB h => by
  obtain ⟨B, F1, st, tr, rfl, rfl, hL⟩ := h
  refine mth_direct 265 (fun _ _ => by kernel_rfl) (sk_min _) (fun W hW => ?_)
  have hLW := hL.upd0 hW
  have hok : A.Ok := by obtain ⟨S, hM, -⟩ := hL; exact hM.cells.ok
  by_cases hl : lenN A (y : Int) = 0
  ·rw [minN_none_iff.2 hl]
   have h4 := (hasN_iff _ _).1 hB
   have h5 := hok.h1
   refine (smin_none hLW y (by omega) hl).mono ?_
   rintro e w' ⟨rfl, rfl⟩
   exact ⟨rfl, Goes.stay ⟨B, F1, st, tr, rfl, rfl, hLW⟩ (Upd.refl _ _)⟩
  ·refine (smin_some hLW y (by omega)).mono ?_
   rintro e w' ⟨m, hm, -, rfl, rfl⟩
   rw [hm]
   exact ⟨rfl, Goes.stay ⟨B, F1, st, tr, rfl, rfl, hLW⟩ (Upd.refl _ _)⟩
 extract := fun {w p F A} y m hm h => by
  obtain ⟨B, F1, st, tr, rfl, rfl, hL⟩ := h
  refine mth_direct 262 (fun _ _ => by kernel_rfl) (sk_extract _) (fun W hW => ?_)
  have hl : ¬ lenN A (y : Int) = 0 := fun e => by rw [minN_none_iff.2 e] at hm; cases hm
  refine (sextract_some (hL.upd0 hW) y (by omega)).mono ?_
  rintro e w' ⟨m', hm', rfl, hu, hL2⟩
  rw [hm] at hm'
  cases hm'
  exact ⟨rfl, Goes.stay ⟨B, F1, _, _, rfl, rfl, hL2⟩ hu⟩
 decrease := fun {w p F A} y k s hk hB h => by
  obtain ⟨B, F1, st, tr, rfl, rfl, hL⟩ := h
  refine mth_direct 260 (fun _ _ => by kernel_rfl) (sk_decrease _) (fun W hW => ?_)
  have hLW := hL.upd0 hW
  have hin := low_in hB
  have hx : y ∈ (tr (A.c y).i.toNat).nodes := by
   obtain ⟨S, hM, hI⟩ := hLW
   have := (inN_nat _ _).1 hin
   exact (hI.mem _ y).2 ⟨by omega, this.1, by omega⟩
  refine (sdec_yes hLW _ y hx k s hk hB).mono ?_
  rintro e w' ⟨rfl, hu, hL2⟩
  exact ⟨rfl, Goes.stay ⟨B, F1, _, _, rfl, rfl, hL2⟩ hu⟩
 has := fun x h => by
  obtain ⟨B, F1, st, tr, rfl, rfl, S, hM, -⟩ := h
  exact mth_via 139 (fun _ _ => by kernel_rfl) hM.h0 (sk_via_has _ _) (fun W hW => chas_any (hM.upd0 hW).cells x)
 entry := fun {w p F A} x h => by
  obtain ⟨B, F1, st, tr, rfl, rfl, S, hM, -⟩ := h
  refine mth_via 137 (fun _ _ => by kernel_rfl) hM.h0 (sk_via_entry _ _) (fun W hW => ?_)
  cases hin : inN A x with
  | false => simpa using centry_no (hM.upd0 hW).cells x hin
  | true =>
   obtain ⟨y, rfl⟩ := in_nat hin
   simpa using centry_yes (hM.upd0 hW).cells y hin
end Go.Proofs.YtklibcncmbofpaaGreat
namespace Go.Proofs.YtklibcncmbofpaaGreat
open Go Go.RowKit
theorem madeSk_any (p : Nat) (w : World) : Calls Tryz.prog 101 #[.pointer (some ⟨p, 0, none⟩), .int .i64 0] w fun e w' => e = .returned (.tuple #[.iface 190 (.pointer (some ⟨p, 0, none⟩)), .int .i64 0]) ∧ w' = w := by
 go_enter Tryz.func101, Tryz.ntmps101
 go_wp2
 go_ret2
 exact ⟨rfl, rfl⟩
theorem opens_sk (n : Nat) (hn : n ≤ 65536) : Opens nestSkQ 7 0 n := by
 intro w
 have kn := fun W => snew_yes n W hn
 have km := madeSk_any
 have hty : nestSkQ.ty = 190 := rfl
 have hat : ∀ w' B F, SkAt w' B F (NS.new n) 0 (fun _ => .nil) → nestSkQ.at_ w' B.n0 (B.blk F) (NS.new n) := fun w' B F h => ⟨B, F, _, _, rfl, rfl, h⟩
 generalize nestSkQ = K at *
 rw [hty]
 go_enter Tryz.func81, Tryz.ntmps81
 go_wp2_with (first
  | ((go_at_call 102; (with_reducible refine (kn _).mono ?_)); rintro e w1 ⟨B, F, rfl, hS, hu1, hf⟩)
  | ((go_at_call 101; (with_reducible refine (km _ _).mono ?_)); rintro e w2 ⟨rfl, rfl⟩)
  | fail)
 go_ret2
 exact ⟨B.n0, B.blk F, rfl, hat _ _ _ hS, Upd.trans (by (repeat (first | assumption | exact Upd.refl _ _ | refine Upd.alloc ?_ _ | refine Upd.drew ?_ | refine Upd.drewN ?_ _ | refine Upd.setCell ?_ ?_ _ | focus (left; simp; done) | focus (right; simp; done) | focus (right; simp; omega)))) hu1, fun x hx => by have := hf x hx; simp at this; omega⟩
end Go.Proofs.YtklibcncmbofpaaGreat
