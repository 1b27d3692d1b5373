/-
  Lemmas for RankNames: Cells4, Cells5, Ord, Enters, Mth, NestB, Qn, ArP, Ar. Conditions: those of each lemma.
-/
import Derived.WalkKit
import Derived.WalkSpells
import Derived.WalkLawsBesides
import Derived.BigQuiet
import Derived.Deep.RegionHeld3
import Derived.ProofKit
import Derived.OpenShut
import Derived.Lib.Hide
import Derived.Test.YtklibcncmbofpaaGreatProg
import Derived.Maps.AppendAt
import Derived.StillTailTactics
import Derived.Maps.OwnSet
import Derived.Maps.OwnOps
import Derived.Maps.RangeWalk
import Derived.Deep.RegionLaw
import Derived.Deep.DeepCutAuto
import Derived.Test.YtklibcncmbofpaaGreatP01
import Derived.Test.YtklibcncmbofpaaGreatP02
set_option linter.unusedVariables false
set_option linter.unusedSimpArgs false
namespace Go.Proofs.YtklibcncmbofpaaGreat
open Go Go.RowKit
theorem manyF_same {A A' : NS} (h : ∀ q, lenN A' q = lenN A q) : manyF A' = manyF A := by
 funext q; unfold manyF; rw [h q]
set_option maxHeartbeats 2000000 in
theorem clower_yes {w : World} {c st : Nat} {F : List Nat} {A : NS} (h : CellsAt w c F A st) (i : Nat) (k s : Int) (hk : -9223372036854775808 ≤ k ∧ k ≤ 9223372036854775807 ∧ 0 ≤ s ∧ s ≤ 18446744073709551615) (hB : lowB A i k s = true) :
  Calls Tryz.prog 147 #[.pointer (some ⟨c, 0, none⟩), .int .i64 (i : Int), .agg #[.int .i64 k, .int .u64 s]] w fun e w' => e = .returned (.bool true) ∧ CellsAt w' c F (lowN A i k s) st ∧ Upd F w w' := by
 have hu0 : Upd [] w (w.alloc (.cells #[.int .i64 k, .int .u64 s] 129)) := (Upd.refl _ _).alloc _
 have k3 := fun W (hW : Upd [] (w.alloc (.cells #[.int .i64 k, .int .u64 s] 129)) W) => cin_any (h.upd0 (hu0.trans hW)) i
 have hB0 := Lib.hid hB
 unfold lowB at hB
 simp only [Bool.and_eq_true, Bool.not_eq_true', Int.toNat_natCast] at hB
 obtain ⟨e, hl⟩ := hB
 rw [e] at k3
 obtain ⟨hi, hx2⟩ := (inN_nat _ _).1 e
 obtain ⟨ca, nm, mb, g, cap, l, rt, dp, raw, h, rfl⟩ := h
 have ee : 1 ≤ (raw i).i ∧ (raw i).i < l.length ∧ A.c i = ⟨rt (raw i).i.toNat, (raw i).k, (raw i).s⟩ := by
  rcases h.rel i hi with ⟨h1, h2⟩ | h3
  ·rw [h2] at hx2; exact absurd hx2 (by decide)
  ·exact h3
 rw [ee.2.2] at hl
 have c1 := h.c1
 have d1 := h.row.cellAt (i * 3 + 1) (by omega) (clCell1 raw i)
 have d2 := h.row.cellAt (i * 3 + 2) (by omega) (clCell2 raw i)
 have f1 := h.row.free (i * 3 + 1)
 have f2 := h.row.free (i * 3 + 2)
 have hA := h.ok.c1
 have kl := fun W => eless_any (raw i).k (raw i).s k s W
 rw [hl] at kl
 have R3 : Hid (∀ w2 : World, Upd [] (w.alloc (.cells #[.int .i64 k, .int .u64 s] 129)) w2 → CellsAt ((w2.setCell ⟨ca, i * 3 + 1, none⟩ (.int .i64 k)).setCell ⟨ca, i * 3 + 2, none⟩ (.int .u64 s)) c [c, ca, nm, mb, g] (lowN A i k s) st ∧ Upd [c, ca, nm, mb, g] w ((w2.setCell ⟨ca, i * 3 + 1, none⟩ (.int .i64 k)).setCell ⟨ca, i * 3 + 2, none⟩ (.int .u64 s))) := fun w2 hw2 => by
  have hs := h.sep
  have hm := h.upd (hu0.trans hw2) (by simp)
  have hu4 : Upd [ca, mb] w2 ((w2.setCell ⟨ca, i * 3 + 1, none⟩ (.int .i64 k)).setCell ⟨ca, i * 3 + 2, none⟩ (.int .u64 s)) := by (repeat (first | assumption | exact Upd.refl _ _ | refine Upd.alloc ?_ _ | refine Upd.drew ?_ | refine Upd.drewN ?_ _ | refine Upd.setCell ?_ ?_ _ | focus (left; simp; done) | focus (right; simp; done) | focus (right; simp; omega)))
  have hu5 : Upd [ca] w2 ((w2.setCell ⟨ca, i * 3 + 1, none⟩ (.int .i64 k)).setCell ⟨ca, i * 3 + 2, none⟩ (.int .u64 s)) := by (repeat (first | assumption | exact Upd.refl _ _ | refine Upd.alloc ?_ _ | refine Upd.drew ?_ | refine Upd.drewN ?_ _ | refine Upd.setCell ?_ ?_ _ | focus (left; simp; done) | focus (right; simp; done) | focus (right; simp; omega)))
  have e2 : lowN A (i : Int) k s = withN A i ⟨(A.c i).i, k, s⟩ := by unfold lowN; rw [if_pos hB0.out]; simp
  refine ⟨⟨ca, nm, mb, g, cap, l, rt, dp, fun y => if y = i then ⟨(raw i).i, k, s⟩ else raw y, ?_, rfl⟩, ((hu0.trans hw2).mono (by simp)).trans (hu4.mono (by first | (simp; done) | (simp; omega)))⟩
  rw [e2]
  refine hm.turn hu4 (row2 hm.row k s) ?_ (by rw [← e2]; exact lowN_ok h.ok _ _ _ hk) (len_with _ _ _) rfl (rel_with h.rel hi (Or.inr ⟨ee.1, ee.2.1, by rw [ee.2.2]⟩))
  rw [manyF_same (A := A) (A' := withN A i ⟨(A.c i).i, k, s⟩) (fun q => by have := lenN_with A i ⟨(A.c i).i, k, s⟩ q hi; simp only at this; omega)]
  exact hm.many.upd hu5 (by first | (simp; done) | (simp; omega))
 generalize (raw i).k = k0 at *
 generalize (raw i).s = s0 at *
 have hlt : ca < w.heap.size := h.row.lt
 have r1 : ∀ W, Upd [] (w.alloc (.cells #[.int .i64 k, .int .u64 s] 129)) W → W.cell? ⟨c, 1, none⟩ = some (.slice (some ⟨ca, 0, none⟩) A.cs.length A.cs.length) := fun W hW => (hu0.trans hW).was c1
 have r2 : ∀ W, Upd [] (w.alloc (.cells #[.int .i64 k, .int .u64 s] 129)) W → W.cell? ⟨ca, i * 3 + 1, none⟩ = some (.int .i64 k0) := fun W hW => (hu0.trans hW).was d1
 have r3 : ∀ W, Upd [] (w.alloc (.cells #[.int .i64 k, .int .u64 s] 129)) W → W.cell? ⟨ca, i * 3 + 2, none⟩ = some (.int .u64 s0) := fun W hW => (hu0.trans hW).was d2
 have r4 : ∀ W, Upd [] (w.alloc (.cells #[.int .i64 k, .int .u64 s] 129)) W → W.cell? ⟨w.heap.size, 0, none⟩ = some (.int .i64 k) := fun W h => h.was (by simp)
 have r5 : ∀ W, Upd [] (w.alloc (.cells #[.int .i64 k, .int .u64 s] 129)) W → W.cell? ⟨w.heap.size, 1, none⟩ = some (.int .u64 s) := fun W h => h.was (by simp)
 have g1 : ∀ W, Upd [] (w.alloc (.cells #[.int .i64 k, .int .u64 s] 129)) W → W.frozen? ⟨ca, i * 3 + 1, none⟩ = false := fun W hW => by rw [(hu0.trans hW).frozen hlt (by simp)]; exact f1
 have g2 : ∀ W, Upd [] (w.alloc (.cells #[.int .i64 k, .int .u64 s] 129)) W → W.frozen? ⟨ca, i * 3 + 2, none⟩ = false := fun W hW => by rw [(hu0.trans hW).frozen hlt (by simp)]; exact f2
 clear h hl ee c1 d1 d2 f1 f2 e hx2
 go_enter Tryz.func147, Tryz.ntmps147
 go_wp2
 go_region_held3 (Upd [] (w.alloc (.cells #[.int .i64 k, .int .u64 s] 129))) (repeat (first | assumption | exact Upd.refl _ _ | refine Upd.drew ?_ | refine Upd.alloc ?_ _ | (apply Upd.trans; rotate_left; assumption)))
  (first
   | (go_at_call 149; (with_reducible refine (k3 _ (by (repeat (first | assumption | exact Upd.refl _ _ | refine Upd.alloc ?_ _ | refine Upd.drew ?_ | refine Upd.drewN ?_ _ | refine Upd.setCell ?_ ?_ _ | focus (left; simp; done) | focus (right; simp; done) | focus (right; simp; omega))))).mono ?_); rintro e w9 ⟨rfl, hw9⟩; rw [hw9]; clear hw9 w9)
   | (go_at_call 158; (with_reducible refine (kl _).mono ?_); rintro e w1 ⟨rfl, hu1⟩; (have hu2 : Upd [] (w.alloc (.cells #[.int .i64 k, .int .u64 s] 129)) w1 := by (repeat (first | assumption | exact Upd.refl _ _ | refine Upd.drew ?_ | refine Upd.alloc ?_ _ | (apply Upd.trans; rotate_left; assumption))))))
 have q1 := r1 _ hu2
 have q2 := r2 _ hu2
 have q3 := r3 _ hu2
 have q4 := r4 _ hu2
 have q5 := r5 _ hu2
 have q6 := g1 _ hu2
 have q7 := g2 _ hu2
 clear r1 r2 r3 r4 r5 g1 g2 k3 kl
 have HQ := Lib.hid hu2
 clear hu2 hu0 hu1
 go_wp2
 go_region
 go_wp2
 go_ret
 exact ⟨rfl, ((R3.out w1 HQ.out).1).upd0 ((Upd.refl _ _).drew), (R3.out w1 HQ.out).2.drew⟩
def satS (st k : Nat) : Nat := min (st + k) 4611686018427387904
theorem satS_zero {st : Nat} (h : st ≤ 4611686018427387904) : satS st 0 = st := by unfold satS; omega
theorem satS_add (st a b : Nat) : satS (satS st a) b = satS st (a + b) := by unfold satS; omega
theorem ccount_any (p : Addr) (s : Nat) (w : World) (h1 : s ≤ 4611686018427387904) (hc : w.cell? p = some (.int .i64 (s : Int))) (hf : w.frozen? p = false) :
  Calls Tryz.prog 182 #[.pointer (some p), .int .i64 1] w fun e w' => e = .returned (.tuple #[]) ∧ w' = w.setCell p (.int .i64 (satS s 1 : Nat)) := by
 by_cases h : s = 4611686018427387904
 ·have e : satS s 1 = 4611686018427387904 := by unfold satS; omega
  rw [e]
  have h' : 4611686018427387904 - (s : Int) < 1 := by omega
  clear e h
  go_enter Tryz.func182, Tryz.ntmps182
  go_wp2
  go_end0
  exact ⟨rfl, rfl⟩
 ·have e : ((satS s 1 : Nat) : Int) = (s : Int) + 1 := by unfold satS; omega
  rw [e]
  have h' : ¬ 4611686018427387904 - (s : Int) < 1 := by omega
  clear e h
  go_enter Tryz.func182, Tryz.ntmps182
  go_wp2
  go_end0
  exact ⟨rfl, rfl⟩
theorem CM.count {w : World} {c ca nm mb g cap : Nat} {l : List Int} {rt dp : Nat → Nat} {raw : Nat → Cl} {A : NS} {st : Nat} (h : CM w c ca nm mb g cap l rt dp raw A st) (k : Nat) : CM (w.setCell ⟨c, 0, none⟩ (.int .i64 (satS st k : Nat))) c ca nm mb g cap l rt dp raw A (satS st k) := by
 have hu : Upd [c] w (w.setCell ⟨c, 0, none⟩ (.int .i64 (satS st k : Nat))) := by (repeat (first | assumption | exact Upd.refl _ _ | refine Upd.alloc ?_ _ | refine Upd.drew ?_ | refine Upd.drewN ?_ _ | refine Upd.setCell ?_ ?_ _ | focus (left; simp; done) | focus (right; simp; done) | focus (right; simp; omega)))
 have s := h.sep
 refine ⟨(h.head.set 0 _).ext (fun j hj => ?_), h.row.upd hu (by first | (simp; done) | (simp; omega)), h.nms.upd hu (by first | (simp; done) | (simp; omega)) (by first | (simp; done) | (simp; omega)), h.many.upd hu (by first | (simp; done) | (simp; omega)), h.nok, h.ok, by unfold satS; omega, h.rel, h.hlen, h.has, s⟩
 rcases (by omega : j = 0 ∨ j = 1 ∨ j = 2 ∨ j = 3) with rfl | rfl | rfl | rfl <;> simp
theorem cmpE_lt3 (A : NS) (a b : Nat) : (decide (cmpE (A.c a).k (A.c a).s (A.c b).k (A.c b).s < 0) || (decide (cmpE (A.c a).k (A.c a).s (A.c b).k (A.c b).s = 0) && decide (a < b))) = decide (lt3 A a b) := by
 rw [Bool.eq_iff_iff, decide_eq_true_iff]
 simp only [Bool.or_eq_true, Bool.and_eq_true, decide_eq_true_eq]
 unfold cmpE cmpZ lt3
 by_cases h : (A.c a).k = (A.c b).k
 ·rw [if_pos h]
  by_cases h1 : (A.c a).s < (A.c b).s
  ·rw [if_pos h1]; omega
  ·rw [if_neg h1]; split <;> omega
 ·rw [if_neg h]
  by_cases h1 : (A.c a).k < (A.c b).k
  ·rw [if_pos h1]; omega
  ·rw [if_neg h1]; split <;> omega
set_option maxHeartbeats 4000000 in
theorem cahead_yes {w : World} {c st : Nat} {F : List Nat} {A : NS} (h : CellsAt w c F A st) (a b : Nat) (ha : inN A a = true) (hb : inN A b = true) :
  Calls Tryz.prog 174 #[.pointer (some ⟨c, 0, none⟩), .int .i64 (a : Int), .int .i64 (b : Int)] w fun e w' => e = .returned (.bool (decide (lt3 A a b))) ∧ CellsAt w' c F A (satS st 1) ∧ Upd [c] w w' := by
 have k1 := cin_any h a
 have k2 := cin_any h b
 rw [ha] at k1
 rw [hb] at k2
 obtain ⟨ha1, ha2⟩ := (inN_nat _ _).1 ha
 obtain ⟨hb1, hb2⟩ := (inN_nat _ _).1 hb
 have hA := h.ok.c1
 obtain ⟨ca, nm, mb, g, cap, l, rt, dp, raw, h, rfl⟩ := h
 have e1 : A.c a = ⟨rt (raw a).i.toNat, (raw a).k, (raw a).s⟩ := by
  rcases h.rel a ha1 with ⟨h1, h2⟩ | h3
  ·rw [h2] at ha2; exact absurd ha2 (by decide)
  ·exact h3.2.2
 have e2 : A.c b = ⟨rt (raw b).i.toNat, (raw b).k, (raw b).s⟩ := by
  rcases h.rel b hb1 with ⟨h1, h2⟩ | h3
  ·rw [h2] at hb2; exact absurd hb2 (by decide)
  ·exact h3.2.2
 have hres := cmpE_lt3 A a b
 rw [e1, e2] at hres
 simp only at hres
 have c0 := h.c0
 have c1 := h.c1
 have f0 := h.head.free 0
 have d1 := h.row.cellAt (a * 3 + 1) (by omega) (clCell1 raw a)
 have d2 := h.row.cellAt (a * 3 + 2) (by omega) (clCell2 raw a)
 have d3 := h.row.cellAt (b * 3 + 1) (by omega) (clCell1 raw b)
 have d4 := h.row.cellAt (b * 3 + 2) (by omega) (clCell2 raw b)
 have s := h.sep
 have hst := h.st62
 have kc := ccount_any ⟨c, 0, none⟩ st w hst c0 f0
 have kk := fun W => compare_any (raw a).k (raw a).s (raw b).k (raw b).s W
 generalize hz : cmpE (raw a).k (raw a).s (raw b).k (raw b).s = z at *
 generalize (raw a).k = ka at *
 generalize (raw a).s = sa at *
 generalize (raw b).k = kb at *
 generalize (raw b).s = sb at *
 have hcaw := h.row.lt
 have hcw := h.head.lt
 have H1 := Lib.hid (h.count 1)
 have HR := Lib.hid hres
 generalize hn : satS st 1 = st1 at *
 have u0 : Upd [c] w (w.setCell ⟨c, 0, none⟩ (.int .i64 (st1 : Int))) := by (repeat (first | assumption | exact Upd.refl _ _ | refine Upd.alloc ?_ _ | refine Upd.drew ?_ | refine Upd.drewN ?_ _ | refine Upd.setCell ?_ ?_ _ | focus (left; simp; done) | focus (right; simp; done) | focus (right; simp; omega)))
 have r1 : ∀ W, Upd [] (w.setCell ⟨c, 0, none⟩ (.int .i64 (st1 : Int))) W → W.cell? ⟨c, 1, none⟩ = some (.slice (some ⟨ca, 0, none⟩) A.cs.length A.cs.length) := fun W hW => hW.was H1.out.c1
 have r2 : ∀ W, Upd [] (w.setCell ⟨c, 0, none⟩ (.int .i64 (st1 : Int))) W → W.cell? ⟨ca, a * 3 + 1, none⟩ = some (.int .i64 ka) := fun W hW => hW.was ((u0.cell hcaw (by first | (simp; done) | (simp; omega))).trans d1)
 have r3 : ∀ W, Upd [] (w.setCell ⟨c, 0, none⟩ (.int .i64 (st1 : Int))) W → W.cell? ⟨ca, a * 3 + 2, none⟩ = some (.int .u64 sa) := fun W hW => hW.was ((u0.cell hcaw (by first | (simp; done) | (simp; omega))).trans d2)
 have r4 : ∀ W, Upd [] (w.setCell ⟨c, 0, none⟩ (.int .i64 (st1 : Int))) W → W.cell? ⟨ca, b * 3 + 1, none⟩ = some (.int .i64 kb) := fun W hW => hW.was ((u0.cell hcaw (by first | (simp; done) | (simp; omega))).trans d3)
 have r5 : ∀ W, Upd [] (w.setCell ⟨c, 0, none⟩ (.int .i64 (st1 : Int))) W → W.cell? ⟨ca, b * 3 + 2, none⟩ = some (.int .u64 sb) := fun W hW => hW.was ((u0.cell hcaw (by first | (simp; done) | (simp; omega))).trans d4)
 clear h ha hb ha2 hb2 e1 e2 hres d1 d2 d3 d4 hz hn u0
 by_cases hz1 : z < 0
 ·have hd : decide (lt3 A a b) = true := by rw [← HR.out, decide_eq_true hz1]; rfl
  rw [hd]
  clear hd
  go_enter Tryz.func174, Tryz.ntmps174
  go_wp2_with (first | (go_at_call 149; (with_reducible refine (k1).mono ?_); rintro e w9 ⟨rfl, hw9⟩; rw [hw9]; clear hw9 w9) | (go_at_call 149; (with_reducible refine (k2).mono ?_); rintro e w9 ⟨rfl, hw9⟩; rw [hw9]; clear hw9 w9) | (go_at_call 182; (with_reducible refine (kc).mono ?_); rintro e w9 ⟨rfl, hw9⟩; rw [hw9]; clear hw9 w9))
  go_region_held3 (Upd [] (w.setCell ⟨c, 0, none⟩ (.int .i64 (st1 : Int)))) (repeat (first | assumption | exact Upd.refl _ _ | refine Upd.drew ?_ | refine Upd.alloc ?_ _ | (apply Upd.trans; rotate_left; assumption)))
   ((go_at_call 164; (with_reducible refine (kk _).mono ?_); rintro e w1 ⟨rfl, hu1⟩; (have hu2 : Upd [] (w.setCell ⟨c, 0, none⟩ (.int .i64 (st1 : Int))) w1 := by (repeat (first | assumption | exact Upd.refl _ _ | refine Upd.drew ?_ | refine Upd.alloc ?_ _ | (apply Upd.trans; rotate_left; assumption))))))
  go_wp2
  go_ret
  exact ⟨rfl, ⟨ca, nm, mb, g, cap, l, rt, dp, raw, H1.out.upd hu2 (by simp), rfl⟩, ((Upd.refl [c] w).setCell (Or.inl (by simp)) _).then hu2⟩
 ·by_cases hz2 : z = 0
  ·have hd : decide (lt3 A a b) = decide ((a : Int) < (b : Int)) := by rw [← HR.out, decide_eq_false hz1, decide_eq_true hz2]; simp
   rw [hd]
   subst hz2
   clear hd
   go_enter Tryz.func174, Tryz.ntmps174
   go_wp2_with (first | (go_at_call 149; (with_reducible refine (k1).mono ?_); rintro e w9 ⟨rfl, hw9⟩; rw [hw9]; clear hw9 w9) | (go_at_call 149; (with_reducible refine (k2).mono ?_); rintro e w9 ⟨rfl, hw9⟩; rw [hw9]; clear hw9 w9) | (go_at_call 182; (with_reducible refine (kc).mono ?_); rintro e w9 ⟨rfl, hw9⟩; rw [hw9]; clear hw9 w9))
   go_region_held3 (Upd [] (w.setCell ⟨c, 0, none⟩ (.int .i64 (st1 : Int)))) (repeat (first | assumption | exact Upd.refl _ _ | refine Upd.drew ?_ | refine Upd.alloc ?_ _ | (apply Upd.trans; rotate_left; assumption)))
    ((go_at_call 164; (with_reducible refine (kk _).mono ?_); rintro e w1 ⟨rfl, hu1⟩; (have hu2 : Upd [] (w.setCell ⟨c, 0, none⟩ (.int .i64 (st1 : Int))) w1 := by (repeat (first | assumption | exact Upd.refl _ _ | refine Upd.drew ?_ | refine Upd.alloc ?_ _ | (apply Upd.trans; rotate_left; assumption))))))
   go_wp2
   go_ret
   exact ⟨ret_bool (by simp), ⟨ca, nm, mb, g, cap, l, rt, dp, raw, H1.out.upd hu2 (by simp), rfl⟩, ((Upd.refl [c] w).setCell (Or.inl (by simp)) _).then hu2⟩
  ·have hz3 : (z == 0) = false := by simpa using hz2
   have hd : decide (lt3 A a b) = false := by rw [← HR.out, decide_eq_false hz1, decide_eq_false hz2]; rfl
   rw [hd]
   clear hd hz2
   go_enter Tryz.func174, Tryz.ntmps174
   go_wp2_with (first | (go_at_call 149; (with_reducible refine (k1).mono ?_); rintro e w9 ⟨rfl, hw9⟩; rw [hw9]; clear hw9 w9) | (go_at_call 149; (with_reducible refine (k2).mono ?_); rintro e w9 ⟨rfl, hw9⟩; rw [hw9]; clear hw9 w9) | (go_at_call 182; (with_reducible refine (kc).mono ?_); rintro e w9 ⟨rfl, hw9⟩; rw [hw9]; clear hw9 w9))
   go_region_held3 (Upd [] (w.setCell ⟨c, 0, none⟩ (.int .i64 (st1 : Int)))) (repeat (first | assumption | exact Upd.refl _ _ | refine Upd.drew ?_ | refine Upd.alloc ?_ _ | (apply Upd.trans; rotate_left; assumption)))
    ((go_at_call 164; (with_reducible refine (kk _).mono ?_); rintro e w1 ⟨rfl, hu1⟩; (have hu2 : Upd [] (w.setCell ⟨c, 0, none⟩ (.int .i64 (st1 : Int))) w1 := by (repeat (first | assumption | exact Upd.refl _ _ | refine Upd.drew ?_ | refine Upd.alloc ?_ _ | (apply Upd.trans; rotate_left; assumption))))))
   go_wp2
   go_ret
   exact ⟨ret_bool (by simp; omega), ⟨ca, nm, mb, g, cap, l, rt, dp, raw, H1.out.upd hu2 (by simp), rfl⟩, ((Upd.refl [c] w).setCell (Or.inl (by simp)) _).then hu2⟩
end Go.Proofs.YtklibcncmbofpaaGreat
namespace Go.Proofs.YtklibcncmbofpaaGreat
open Go Go.RowKit
theorem NmOk.make {l : List Int} {rt dp : Nat → Nat} (h : NmOk l rt dp) (hl : l.length ≤ 65536) : NmOk (l ++ [(l.length : Int)]) (fun i => if i = l.length then i else rt i) dp := by
 have h1 := h.len
 have g1 : ∀ i, i < l.length → (l ++ [(l.length : Int)]).getD i 0 = l.getD i 0 := fun i hi => by simp [List.getD_eq_getElem?_getD, List.getElem?_append_left hi]
 have g2 : (l ++ [(l.length : Int)]).getD l.length 0 = l.length := by simp [List.getD_eq_getElem?_getD]
 refine ⟨by simp, by simp; omega, fun i a b => ?_, fun i a b => ?_, fun i a b => ?_, fun i a b => ?_⟩
 all_goals
  simp only [List.length_append, List.length_cons, List.length_nil] at b ⊢
  rcases (by omega : i < l.length ∨ i = l.length) with hi | hi
 ·rw [g1 i hi]; have := h.rng i a hi; omega
 ·rw [hi, g2]; omega
 ·have := h.rng i a hi
  rw [g1 i hi, if_neg (show ¬ (l.getD i 0).toNat = l.length by omega), if_neg (by omega)]; exact h.up i a hi
 ·rw [hi, g2]; simp
 ·rw [g1 i hi, if_neg (show ¬ i = l.length by omega)]; exact h.top i a hi
 ·intro _; rw [if_pos hi]
 ·rw [g1 i hi]; exact h.low i a hi
 ·rw [hi, g2]; intro hn; exact absurd rfl hn
set_option maxHeartbeats 2000000 in
theorem cmake_any {w : World} {c st : Nat} {F : List Nat} {A : NS} (h : CellsAt w c F A st) :
  Calls Tryz.prog 156 #[.pointer (some ⟨c, 0, none⟩)] w fun e w' => e = .returned (.int .i64 (makeV A)) ∧ Goes F w w' (fun F' => CellsAt w' c F' (makeN A) st) := by
 have hC := h
 obtain ⟨ca, nm, mb, g, cap, l, rt, dp, raw, h, rfl⟩ := h
 have c2 := h.c2
 have hlen := h.hlen
 have hl1 := h.nok.len
 have hl2 := h.nok.len2
 have hs := h.sep
 unfold makeV makeN
 by_cases hfull : l.length = 65537
 ·have k := nmake_no nm g cap l w h.nms hfull
  rw [if_pos (by omega), if_pos (by omega)]
  have HC := Lib.hid hC
  clear h hC hlen hfull
  go_enter Tryz.func156, Tryz.ntmps156
  go_wp2_with (go_at_call 163; (with_reducible refine (k).mono ?_); rintro e w1 ⟨rfl, hu⟩)
  go_ret
  exact ⟨rfl, Goes.stay (HC.out.upd0 hu) (hu.mono (by simp))⟩
 ·have k := nmake_yes nm g cap l w h.nms hl1 (by omega)
  rw [if_neg (by omega), if_neg (by omega), hlen]
  have H := Lib.hid h
  have HL := Lib.hid hlen
  clear h hC hlen
  go_enter Tryz.func156, Tryz.ntmps156
  go_wp2_with (go_at_call 163; (with_reducible refine (k).mono ?_); rintro e w1 ⟨g', cap', rfl, hN, hu, hg⟩)
  go_ret
  have h := H.out
  have hc := h.head.lt
  have hca := h.row.lt
  have hmb := h.many.lt
  have hsep : c ≠ g' ∧ ca ≠ g' ∧ mb ≠ g' := by rcases hg with rfl | hg; exact ⟨by omega, by omega, by omega⟩; exact ⟨by omega, by omega, by omega⟩
  have hok : (NS.mk (A.hs ++ [true]) A.cs).Ok := by
   have := makeN_ok h.ok
   unfold makeN at this
   rwa [if_neg (by have := HL.out; omega)] at this
  refine ⟨rfl, [c, ca, nm, mb, g'], ⟨ca, nm, mb, g', cap', l ++ [(l.length : Int)], fun i => if i = l.length then i else rt i, dp, raw, ?_, rfl⟩, hu.mono (by first | (simp; done) | (simp; omega)), fun x hx => by simp at hx ⊢; omega⟩
  refine ⟨h.head.upd hu (by first | (simp; done) | (simp; omega)), h.row.upd hu (by first | (simp; done) | (simp; omega)), hN, h.many.upd hu (by first | (simp; done) | (simp; omega)), h.nok.make (by omega), hok, h.st62, fun x hx => ?_, by simp [HL.out], fun i h1 h2 => ?_, by omega⟩
  ·rcases h.rel x hx with h' | ⟨h3, h4, h5⟩
   ·exact Or.inl h'
   ·refine Or.inr ⟨h3, by simp; omega, ?_⟩
    rw [if_neg (by omega)]; exact h5
  ·simp only [List.length_append, List.length_cons, List.length_nil] at h2
   have hLo := HL.out
   rcases (by omega : i < l.length ∨ i = l.length) with hi | hi
   ·have := h.has i h1 hi
    simp only [List.getD_eq_getElem?_getD] at this ⊢
    rw [List.getElem?_append_left (by omega), List.getElem?_append_left hi]; exact this
   ·subst hi
    simp only [List.getD_eq_getElem?_getD]
    rw [← hLo, List.getElem?_append_right (Nat.le_refl _), List.getElem?_append_right (by omega)]
    simp [hLo]
theorem madeCells3 (n j : Nat) (hj : j < n * 3) : (madeCells #[Value.int .i64 0, .int .i64 0, .int .u64 0] (n * 3)).toList.getD j undef = if j % 3 = 0 then .int .i64 0 else if j % 3 = 1 then .int .i64 0 else .int .u64 0 := by
 rw [List.getD_eq_getElem?_getD, List.getElem?_eq_getElem (by simp [size_madeCells]; omega)]
 simp only [Option.getD_some, madeCells, Array.getElem_toList, Array.getElem_map, Array.getElem_range]
 rcases (by omega : j % 3 = 0 ∨ j % 3 = 1 ∨ j % 3 = 2) with e | e | e <;> simp [e]
theorem cellInfo : (Tryz.prog.info? 281).map (fun i => (i.zero, i.size, i.bytes)) = some (some (.agg #[.int .i64 0, .int .i64 0, .int .u64 0]), 3, 24) := by kernel_rfl
set_option maxHeartbeats 2000000 in
theorem cnew_yes (n : Nat) (w : World) (h : n ≤ 65536) :
  Calls Tryz.prog 107 #[.int .i64 (n : Int)] w fun e w' => ∃ c F, e = .returned (.tuple #[.pointer (some ⟨c, 0, none⟩), .int .i64 0]) ∧ CellsAt w' c F (NS.new n) 0 ∧ Upd [] w w' ∧ ∀ x, x ∈ F → w.heap.size ≤ x := by
 have hmm := @run_makeMap Tryz.prog
 go_enter Tryz.func107, Tryz.ntmps107
 go_wp2_with (first
  | ((go_at_call 114; (with_reducible refine (nnew_any _).mono ?_)); rintro e w1 ⟨nm, g, rfl, hN, hu1, hb1, hb2⟩)
  | (at_make; refine wpList_make_row rfl _ 241 rfl 281 (.agg #[.int .i64 0, .int .i64 0, .int .u64 0]) 3 24 Tryz.underlying241 cellInfo n rfl (by omega) (by unfold maxLen; omega) ?_; intro w2 hr2 hu2))
 go_ret2
 have hu3 : Upd [] w2 ((w2.alloc (.map #[] 0)).alloc (.cells #[.int .i64 0, .slice (some ⟨w1.heap.size, 0, none⟩) n n, .pointer (some ⟨nm, 0, none⟩), .map (some w2.heap.size)] 245)) := by (repeat (first | assumption | exact Upd.refl _ _ | refine Upd.alloc ?_ _ | refine Upd.drew ?_ | refine Upd.drewN ?_ _ | refine Upd.setCell ?_ ?_ _ | focus (left; simp; done) | focus (right; simp; done) | focus (right; simp; omega)))
 have hh := rowAt_new (w2.alloc (.map #[] 0)) [.int .i64 0, .slice (some ⟨w1.heap.size, 0, none⟩) n n, .pointer (some ⟨nm, 0, none⟩), .map (some w2.heap.size)] 245
 rw [World.size_alloc] at hh
 have l1 := hN.lt
 have l2 := hu2.size
 have l3 := hr2.lt
 have l4 := hu1.size
 have hcs : (NS.new n).cs.length = n := by simp [NS.new]
 refine ⟨w2.heap.size + 1, [w2.heap.size + 1, w1.heap.size, nm, w2.heap.size, g], rfl, ⟨w1.heap.size, nm, w2.heap.size, g, 1, [0], fun i => i, fun _ => 0, fun _ => Cl.z, ?_, rfl⟩, (hu1.trans hu2).trans hu3, fun x hx => by simp at hx; omega⟩
 refine ⟨?_, ?_, (hN.upd hu2 (by simp) (by simp)).upd hu3 (by simp) (by simp), ((MapI.made w2).upd ((Upd.refl [] _).alloc _) (by simp)).ext (fun k => ?_), ?_, NS.new_ok n h, by omega, fun x _ => Or.inl ⟨rfl, NS.new_c n x⟩, rfl, fun i h1 h2 => by simp at h2; omega, by omega⟩
 ·rw [hcs]; exact hh
 ·rw [hcs]
  refine (hr2.upd hu3 (by simp)).ext (fun j hj => ?_)
  have hz : (Value.agg #[.int .i64 0, .int .i64 0, .int .u64 0]).cells = #[.int .i64 0, .int .i64 0, .int .u64 0] := rfl
  rw [hz]
  unfold clCell Cl.z
  have := madeCells3 n j hj
  rw [this]
 ·unfold manyF
  have : lenN (NS.new n) k = 0 := by
   rcases Nat.eq_zero_or_pos (lenN (NS.new n) k) with h' | h'
   ·exact h'
   ·obtain ⟨x, _, h1, h2⟩ := lenN_pos.1 h'
    rw [NS.new_c] at h1
    have : (0 : Int) = k := h1
    omega
  rw [this]; rfl
 ·exact ⟨by simp, by simp, fun i h1 h2 => by simp at h2; omega, fun i h1 h2 => by simp at h2; omega, fun i h1 h2 => by simp at h2; omega, fun i h1 h2 => by simp at h2; omega⟩
end Go.Proofs.YtklibcncmbofpaaGreat
namespace Go.Proofs.YtklibcncmbofpaaGreat
open Go Go.RowKit
theorem minN_in {A : NS} {h : Int} {m : Nat} (hm : minN A h = some m) : 0 < h ∧ m < A.cs.length ∧ (A.c m).i = h ∧ inN A m = true := by
 by_cases hh : 0 < h
 ·have h1 := (minN_some hh).1 hm
  exact ⟨hh, h1.1, h1.2.1, (inN_nat _ _).2 ⟨h1.1, by rw [h1.2.1]; exact hh⟩⟩
 ·rw [minN_neg hh] at hm; cases hm
theorem minN_none_iff {A : NS} {h : Int} : minN A h = none ↔ lenN A h = 0 := by
 by_cases hh : 0 < h
 ·exact minN_none hh
 ·rw [minN_neg hh, lenN_neg hh]; simp
def lenOf : Value → Nat | .slice _ l _ => l | _ => 0
def natsZ (l : List Nat) : List Int := l.map (fun (x : Nat) => (x : Int))
end Go.Proofs.YtklibcncmbofpaaGreat
namespace Go.Proofs.YtklibcncmbofpaaGreat
open Go Go.RowKit
def Enters (f : FuncId) : Prop := ∀ (args : Array Value) (W : World), (callFunc f args).run Tryz.prog W = .ok (.enter f args) W
end Go.Proofs.YtklibcncmbofpaaGreat
namespace Go.Proofs.YtklibcncmbofpaaGreat
open Go Go.RowKit
def extN (A : NS) (h : Int) : NS := match minN A h with | some m => dropN A m | none => A
def Mth (ty : TypeId) (p : Nat) (name : String) (w : World) (mk : Value → Array Value) (Q : World → Ending → World → Prop) : Prop :=
 ∃ f v, Enters f ∧ ∀ W, Upd [] w W → (method 429 ty (.pointer (some ⟨p, 0, none⟩)) name).run Tryz.prog W = .ok (f, v) W ∧ Calls Tryz.prog f (mk v) W (Q W)
end Go.Proofs.YtklibcncmbofpaaGreat
namespace Go.Proofs.YtklibcncmbofpaaGreat
open Go Go.RowKit
theorem in_nat {A : NS} {x : Int} (hB : inN A x = true) : ∃ y : Nat, x = y := ⟨x.toNat, by have := (inN_iff _ _).1 hB; omega⟩
theorem low_in {A : NS} {x k s : Int} (hB : lowB A x k s = true) : inN A x = true := by
 unfold lowB at hB; simp only [Bool.and_eq_true] at hB; exact hB.1
theorem mth_direct {ty : TypeId} {p : Nat} {name : String} {w : World} {mk : Value → Array Value} {Q : World → Ending → World → Prop} (f : FuncId) (he : Enters f) (hm : ∀ W, (method 429 ty (.pointer (some ⟨p, 0, none⟩)) name).run Tryz.prog W = .ok (f, .pointer (some ⟨p, 0, none⟩)) W)
  (hc : ∀ W, Upd [] w W → Calls Tryz.prog f (mk (.pointer (some ⟨p, 0, none⟩))) W (Q W)) : Mth ty p name w mk Q := ⟨f, _, he, fun W hW => ⟨hm W, hc W hW⟩⟩
theorem mth_via {ty : TypeId} {p c : Nat} {name : String} {w : World} {mk : Value → Array Value} {Q : World → Ending → World → Prop} (f : FuncId) (he : Enters f) (h0 : w.cell? ⟨p, 0, none⟩ = some (.pointer (some ⟨c, 0, none⟩)))
  (hm : ∀ W, W.cell? ⟨p, 0, none⟩ = some (.pointer (some ⟨c, 0, none⟩)) → (method 429 ty (.pointer (some ⟨p, 0, none⟩)) name).run Tryz.prog W = .ok (f, .pointer (some ⟨c, 0, none⟩)) W)
  (hc : ∀ W, Upd [] w W → Calls Tryz.prog f (mk (.pointer (some ⟨c, 0, none⟩))) W (Q W)) : Mth ty p name w mk Q := ⟨f, _, he, fun W hW => ⟨hm W (hW.was h0), hc W hW⟩⟩
end Go.Proofs.YtklibcncmbofpaaGreat
namespace Go.Proofs.YtklibcncmbofpaaGreat
open Go Go.RowKit
structure NestQ where
 ty : TypeId
 at_ : World → Nat → List Nat → NS → Prop
 upd : ∀ {w w' : World} {p : Nat} {F S : List Nat} {A : NS}, at_ w p F A → Upd S w w' → (∀ x, x ∈ S → x ∉ F) → at_ w' p F A
 lt : ∀ {w : World} {p : Nat} {F : List Nat} {A : NS}, at_ w p F A → ∀ x, x ∈ F → x < w.heap.size
 ok : ∀ {w : World} {p : Nat} {F : List Nat} {A : NS}, at_ w p F A → A.Ok
 make : ∀ {w : World} {p : Nat} {F : List Nat} {A : NS}, at_ w p F A → Mth ty p "Make" w (fun v => #[v]) fun w e w' => e = .returned (.int .i64 (makeV A)) ∧ Goes F w w' (fun F' => at_ w' p F' (makeN A))
 insert : ∀ {w : World} {p : Nat} {F : List Nat} {A : NS} (h x : Nat) (k s : Int), (-9223372036854775808 ≤ k ∧ k ≤ 9223372036854775807 ∧ 0 ≤ s ∧ s ≤ 18446744073709551615) → putB A h x = true → at_ w p F A → Mth ty p "Insert" w (fun v => #[v, .int .i64 (h : Int), .int .i64 (x : Int), .agg #[.int .i64 k, .int .u64 s]]) fun w e w' => e = .returned (.bool true) ∧ Goes F w w' (fun F' => at_ w' p F' (putN A h x k s))
 min : ∀ {w : World} {p : Nat} {F : List Nat} {A : NS} (h : Nat), hasN A h = true → at_ w p F A → Mth ty p "Min" w (fun v => #[v, .int .i64 (h : Int)]) fun w e w' => e = .returned (.tuple #[.int .i64 (slotV (minN A h)), .bool (minN A h).isSome]) ∧ Goes F w w' (fun F' => at_ w' p F' A)
 extract : ∀ {w : World} {p : Nat} {F : List Nat} {A : NS} (h m : Nat), minN A h = some m → at_ w p F A → Mth ty p "Extract" w (fun v => #[v, .int .i64 (h : Int)]) fun w e w' => e = .returned (.tuple #[.int .i64 (m : Int), .bool true]) ∧ Goes F w w' (fun F' => at_ w' p F' (dropN A m))
 decrease : ∀ {w : World} {p : Nat} {F : List Nat} {A : NS} (x : Nat) (k s : Int), (-9223372036854775808 ≤ k ∧ k ≤ 9223372036854775807 ∧ 0 ≤ s ∧ s ≤ 18446744073709551615) → lowB A x k s = true → at_ w p F A → Mth ty p "Decrease" w (fun v => #[v, .int .i64 (x : Int), .agg #[.int .i64 k, .int .u64 s]]) fun w e w' => e = .returned (.bool true) ∧ Goes F w w' (fun F' => at_ w' p F' (lowN A x k s))
 has : ∀ {w : World} {p : Nat} {F : List Nat} {A : NS} (x : Int), at_ w p F A → Mth ty p "Has" w (fun v => #[v, .int .i64 x]) fun w e w' => e = .returned (.bool (hasN A x)) ∧ w' = w
 entry : ∀ {w : World} {p : Nat} {F : List Nat} {A : NS} (x : Int), at_ w p F A → Mth ty p "Entry" w (fun v => #[v, .int .i64 x]) fun w e w' => e = .returned (.tuple #[.agg #[.int .i64 (if inN A x then (A.c x.toNat).k else 0), .int .u64 (if inN A x then (A.c x.toNat).s else 0)], .bool (inN A x)]) ∧ Upd [] w w'
end Go.Proofs.YtklibcncmbofpaaGreat
namespace Go.Proofs.YtklibcncmbofpaaGreat
open Go Go.RowKit
structure AR where
 sl : List (Nat × Bool)
 wait : List Nat
 next : Nat
 most : Nat
def AR.g (R : AR) (x : Nat) : Nat := (R.sl.getD x (0, false)).1
def AR.v (R : AR) (x : Nat) : Bool := (R.sl.getD x (0, false)).2
def cntL (l : List (Nat × Bool)) : Nat := (l.filter (fun p => p.2)).length
def AR.cnt (R : AR) : Nat := cntL R.sl
structure AR.Ok (R : AR) : Prop where
 n : R.sl.length ≤ 65536
 nx : R.next ≤ R.sl.length
 mst : 1 ≤ R.most ∧ R.most ≤ 4294967295
 wt : ∀ x, x ∈ R.wait → x < R.next ∧ R.v x = false ∧ R.g x < R.most
 nd : R.wait.Nodup
 fresh : ∀ x, R.next ≤ x → R.g x = 0 ∧ R.v x = false
 lv : ∀ x, R.v x = true → 1 ≤ R.g x
 gm : ∀ x, R.g x ≤ R.most
def AR.new (n most : Nat) : AR := ⟨List.replicate n (0, false), [], 0, most⟩
def AR.put (R : AR) (x : Nat) (p : Nat × Bool) : AR := { R with sl := R.sl.set x p }
def pickR (R : AR) : Option (Nat × AR) :=
 match R.wait.getLast? with
 | some x => some (x, { R with wait := R.wait.dropLast })
 | none => if R.next = R.sl.length then none else some (R.next, { R with next := R.next + 1 })
def takeR (R : AR) : Option (Nat × AR) := (pickR R).map fun p => (p.1, p.2.put p.1 (R.g p.1 + 1, true))
def liveR (R : AR) (x g : Int) : Bool := decide (0 ≤ x) && decide (x < R.sl.length) && decide ((R.g x.toNat : Int) = g) && R.v x.toNat
def giveR (R : AR) (x : Nat) : AR := { R.put x (R.g x, false) with wait := if R.g x < R.most then R.wait ++ [x] else R.wait }
section
variable {R : AR}
theorem AR.g_put (x : Nat) (p : Nat × Bool) (y : Nat) : (R.put x p).g y = if y = x ∧ x < R.sl.length then p.1 else R.g y := by
 unfold AR.put AR.g
 simp only [List.getD_eq_getElem?_getD, List.getElem?_set]
 by_cases h : x = y
 ·subst h
  by_cases hl : x < R.sl.length
  ·simp [hl]
  ·simp [hl]
 ·rw [if_neg h, if_neg (fun e => h e.1.symm)]
theorem AR.v_put (x : Nat) (p : Nat × Bool) (y : Nat) : (R.put x p).v y = if y = x ∧ x < R.sl.length then p.2 else R.v y := by
 unfold AR.put AR.v
 simp only [List.getD_eq_getElem?_getD, List.getElem?_set]
 by_cases h : x = y
 ·subst h
  by_cases hl : x < R.sl.length
  ·simp [hl]
  ·simp [hl]
 ·rw [if_neg h, if_neg (fun e => h e.1.symm)]
theorem AR.far {x : Nat} (hx : R.sl.length ≤ x) : R.g x = 0 ∧ R.v x = false := by
 unfold AR.g AR.v
 rw [List.getD_eq_getElem?_getD, List.getElem?_eq_none hx]; exact ⟨rfl, rfl⟩
theorem AR.len_put (x : Nat) (p : Nat × Bool) : (R.put x p).sl.length = R.sl.length := by unfold AR.put; simp
theorem AR.v_lt {x : Nat} (h : R.v x = true) : x < R.sl.length := by
 rcases Nat.lt_or_ge x R.sl.length with h' | h'
 ·exact h'
 ·rw [(AR.far h').2] at h; cases h
theorem cntL_cons (q : Nat × Bool) (r : List (Nat × Bool)) : cntL (q :: r) = cntL r + if q.2 then 1 else 0 := by
 unfold cntL
 rw [List.filter_cons]
 cases h : q.2 <;> simp
theorem cntL_set : ∀ (l : List (Nat × Bool)) (x : Nat) (p : Nat × Bool), x < l.length → cntL (l.set x p) + (if (l.getD x (0, false)).2 then 1 else 0) = cntL l + (if p.2 then 1 else 0)
 | [], x, p, h => by simp at h
 | q :: r, 0, p, h => by
  rw [List.set_cons_zero, cntL_cons, cntL_cons]
  show _ + _ + (if q.2 then 1 else 0) = _
  omega
 | q :: r, x + 1, p, h => by
  have ih := cntL_set r x p (by simpa using h)
  rw [List.set_cons_succ, cntL_cons, cntL_cons, List.getD_cons_succ]
  omega
theorem cntL_le (l : List (Nat × Bool)) : cntL l ≤ l.length := List.length_filter_le _ _
theorem AR.cnt_put (x : Nat) (p : Nat × Bool) (hx : x < R.sl.length) : (R.put x p).cnt + (if R.v x then 1 else 0) = R.cnt + (if p.2 then 1 else 0) := cntL_set R.sl x p hx
theorem AR.wait_le (h : R.Ok) : R.wait.length ≤ R.next := by
 have key : ∀ (n : Nat) (l : List Nat), l.Nodup → (∀ x, x ∈ l → x < n) → l.length ≤ n := by
  intro n
  induction n with
  | zero =>
   intro l _ h
   cases l with
   | nil => simp
   | cons x r => have := h x (by simp); omega
  | succ n ih =>
   intro l hn h
   have h1 := ih (l.erase n) (hn.erase _) (fun x hx => by
    have h2 := (List.Nodup.mem_erase_iff hn).1 hx
    have := h x h2.2
    omega)
   have h2 := List.length_erase_le (a := n) (l := l)
   have h3 : l.length ≤ (l.erase n).length + 1 := by
    by_cases hm : n ∈ l
    ·rw [List.length_erase_of_mem hm]; omega
    ·rw [List.erase_of_not_mem hm]; omega
   omega
 exact key _ _ h.nd (fun x hx => (h.wt x hx).1)
theorem AR.new_ok {n most : Nat} (hn : n ≤ 65536) (hm : 1 ≤ most ∧ most ≤ 4294967295) : (AR.new n most).Ok := by
 have e : ∀ x, (AR.new n most).g x = 0 ∧ (AR.new n most).v x = false := fun x => by
  unfold AR.new AR.g AR.v
  simp only [List.getD_eq_getElem?_getD, List.getElem?_replicate]
  split <;> exact ⟨rfl, rfl⟩
 refine ⟨by simp [AR.new]; exact hn, by simp [AR.new], hm, fun x hx => by simp [AR.new] at hx, by simp [AR.new], fun x _ => e x, fun x hx => ?_, fun x => ?_⟩
 ·rw [(e x).2] at hx; cases hx
 ·rw [(e x).1]; exact Nat.zero_le _
theorem AR.new_cnt (n most : Nat) : (AR.new n most).cnt = 0 := by
 unfold AR.cnt cntL AR.new
 simp
theorem pick_some {x : Nat} {R' : AR} (h : R.Ok) (hp : pickR R = some (x, R')) : x < R.sl.length ∧ R.v x = false ∧ R.g x < R.most ∧ R'.sl = R.sl ∧ R'.most = R.most ∧ R'.next ≤ R.sl.length ∧ x < R'.next ∧ R.next ≤ R'.next ∧
  (∀ y, y ∈ R'.wait → y ∈ R.wait ∧ y ≠ x) ∧ R'.wait.Nodup := by
 unfold pickR at hp
 cases hl : R.wait.getLast? with
 | some y =>
  rw [hl] at hp
  simp only [Option.some.injEq, Prod.mk.injEq] at hp
  obtain ⟨rfl, rfl⟩ := hp
  have hm : y ∈ R.wait := List.mem_of_getLast? hl
  obtain ⟨h1, h2, h3⟩ := h.wt y hm
  have hn := h.nd
  have happ : R.wait = R.wait.dropLast ++ [y] := by
   obtain ⟨l, hl'⟩ := List.getLast?_eq_some_iff.1 hl
   rw [hl']; simp
  rw [happ, List.nodup_append] at hn
  refine ⟨Nat.lt_of_lt_of_le h1 h.nx, h2, h3, rfl, rfl, h.nx, h1, Nat.le_refl _, fun z hz => ⟨List.dropLast_subset _ hz, fun e => ?_⟩, hn.1⟩
  exact hn.2.2 z hz y (by simp) e
 | none =>
  rw [hl] at hp
  have hw : R.wait = [] := List.getLast?_eq_none_iff.1 hl
  dsimp only at hp
  split at hp
  ·cases hp
  ·rename_i hne
   simp only [Option.some.injEq, Prod.mk.injEq] at hp
   obtain ⟨rfl, rfl⟩ := hp
   have h1 := h.nx
   have h2 := h.fresh R.next (Nat.le_refl _)
   refine ⟨by omega, h2.2, by rw [h2.1]; exact h.mst.1, rfl, rfl, by show R.next + 1 ≤ _; omega, by show R.next < R.next + 1; omega, by show R.next ≤ R.next + 1; omega, fun y hy => ?_, h.nd⟩
   rw [show ({ R with next := R.next + 1 } : AR).wait = R.wait from rfl, hw] at hy; cases hy
theorem take_ok {x : Nat} {R' : AR} (h : R.Ok) (hp : takeR R = some (x, R')) : R'.Ok ∧ x < R.sl.length ∧ R.v x = false ∧ R.g x < R.most ∧ R'.sl = R.sl.set x (R.g x + 1, true) ∧ R'.most = R.most ∧ R'.cnt = R.cnt + 1 := by
 unfold takeR at hp
 cases hq : pickR R with
 | none => rw [hq] at hp; cases hp
 | some q =>
  obtain ⟨y, R1⟩ := q
  rw [hq] at hp
  simp only [Option.map_some, Option.some.injEq, Prod.mk.injEq] at hp
  obtain ⟨rfl, rfl⟩ := hp
  obtain ⟨h1, h2, h3, h4, h5, h6, h7, h8, h9, h10⟩ := pick_some h hq
  have eg : ∀ z, R1.g z = R.g z := fun z => by unfold AR.g; rw [h4]
  have ev : ∀ z, R1.v z = R.v z := fun z => by unfold AR.v; rw [h4]
  have hl : y < R1.sl.length := by rw [h4]; exact h1
  refine ⟨⟨by rw [AR.len_put, h4]; exact h.n, by rw [AR.len_put, h4]; exact h6, by show 1 ≤ R1.most ∧ R1.most ≤ 4294967295; rw [h5]; exact h.mst, fun z hz => ?_, h10, fun z hz => ?_, fun z hz => ?_, fun z => ?_⟩, h1, h2, h3, by show R1.sl.set _ _ = _; rw [h4], h5, ?_⟩
  ·obtain ⟨a1, a2⟩ := h9 z hz
   obtain ⟨b1, b2, b3⟩ := h.wt z a1
   rw [AR.v_put, AR.g_put, if_neg (fun e => a2 e.1), if_neg (fun e => a2 e.1), ev, eg]
   refine ⟨Nat.lt_of_lt_of_le b1 h8, b2, ?_⟩
   show R.g z < R1.most
   rw [h5]; exact b3
  ·have hz' : R1.next ≤ z := hz
   rw [AR.v_put, AR.g_put, if_neg (by omega), if_neg (by omega), ev, eg]
   exact h.fresh z (by omega)
  ·rw [AR.v_put] at hz
   rw [AR.g_put]
   by_cases e : z = y ∧ y < R1.sl.length
   ·rw [if_pos e]; show 1 ≤ R.g y + 1; omega
   ·rw [if_neg e] at hz ⊢; rw [ev] at hz; rw [eg]; exact h.lv z hz
  ·rw [AR.g_put]
   show _ ≤ R1.most
   rw [h5]
   split
   ·show R.g y + 1 ≤ _; omega
   ·rw [eg]; exact h.gm z
  ·have hc := AR.cnt_put (R := R1) y (R.g y + 1, true) hl
   rw [ev, h2] at hc
   simp at hc
   rw [hc]
   unfold AR.cnt; rw [h4]
theorem give_ok {x : Nat} (h : R.Ok) (hv : R.v x = true) : (giveR R x).Ok ∧ (giveR R x).cnt + 1 = R.cnt := by
 have hx := AR.v_lt hv
 have eg : ∀ z, (giveR R x).g z = R.g z := fun z => by
  show (R.put x (R.g x, false)).g z = _
  rw [AR.g_put]
  split
  ·rename_i e; rw [e.1]
  ·rfl
 have ev : ∀ z, (giveR R x).v z = if z = x then false else R.v z := fun z => by
  show (R.put x (R.g x, false)).v z = _
  rw [AR.v_put]
  by_cases e : z = x
  ·rw [if_pos ⟨e, hx⟩, if_pos e]
  ·rw [if_neg (fun h => e h.1), if_neg e]
 have hxn : x < R.next := by
  rcases Nat.lt_or_ge x R.next with h' | h'
  ·exact h'
  ·rw [(h.fresh x h').2] at hv; cases hv
 refine ⟨⟨by show (R.put x _).sl.length ≤ _; rw [AR.len_put]; exact h.n, by show R.next ≤ (R.put x _).sl.length; rw [AR.len_put]; exact h.nx, h.mst, fun z hz => ?_, ?_, fun z hz => ?_, fun z hz => ?_, fun z => by rw [eg]; exact h.gm z⟩, ?_⟩
 ·have hz' : z ∈ (if R.g x < R.most then R.wait ++ [x] else R.wait) := hz
  rw [ev, eg]
  have hw : z ∈ R.wait → z < R.next ∧ (if z = x then false else R.v z) = false ∧ R.g z < R.most := fun hm => by
   obtain ⟨b1, b2, b3⟩ := h.wt z hm
   refine ⟨b1, ?_, b3⟩
   split
   ·rfl
   ·exact b2
  split at hz'
  ·rename_i hlt
   rcases List.mem_append.1 hz' with hm | hm
   ·exact hw hm
   ·simp at hm; subst hm
    exact ⟨hxn, by rw [if_pos rfl], hlt⟩
  ·exact hw hz'
 ·show (if R.g x < R.most then R.wait ++ [x] else R.wait).Nodup
  split
  ·rw [List.nodup_append]
   refine ⟨h.nd, by simp, fun a ha b hb e => ?_⟩
   simp at hb; subst hb; subst e
   have := (h.wt _ ha).2.1
   rw [hv] at this; cases this
  ·exact h.nd
 ·rw [ev, eg]
  have hz' : R.next ≤ z := hz
  have := h.fresh z hz'
  exact ⟨this.1, by split; rfl; exact this.2⟩
 ·rw [ev] at hz
  split at hz
  ·cases hz
  ·rw [eg]; exact h.lv z hz
 ·have hc := AR.cnt_put (R := R) x (R.g x, false) hx
  rw [hv] at hc
  simp at hc
  exact hc
end
end Go.Proofs.YtklibcncmbofpaaGreat
namespace Go.Proofs.YtklibcncmbofpaaGreat
open Go Go.RowKit
theorem wp_nm {c : Code} {K : Exit → Act → World → Prop} {a : Act} {W : World} (R : World → Prop) (h : R W) (k : ∀ W', R W' → Code.wp Tryz.prog c K a W') : Code.wp Tryz.prog c K a W := k W h
def slC (R : AR) (j : Nat) : Value := if j % 2 = 0 then .int .u32 (R.g (j / 2) : Int) else .bool (R.v (j / 2))
def arC (ga : Nat) (v : Value) (R : AR) (j : Nat) : Value := [Value.slice (some ⟨ga, 0, none⟩) R.sl.length R.sl.length, v, .int .i64 (R.next : Int), .int .i64 (R.cnt : Int), .int .u32 (R.most : Int)].getD j undef
structure ArM (w : World) (pa ga : Nat) (v : Value) (R : AR) : Prop where
 head : RowAt w pa 158 5 (arC ga v R)
 row : RowAt w ga 155 (R.sl.length * 2) (slC R)
 wait : w.ownsRow 0 3 1 v R.wait.length (intsZ (natsZ R.wait))
 ne : pa ≠ ga
 nw : ∀ k, v.ownBlock = some k → k ≠ pa ∧ k ≠ ga
 ok : R.Ok
def ArAt (w : World) (pa : Nat) (F : List Nat) (R : AR) : Prop := ∃ ga v, F = pa :: ga :: v.ownBlock.toList ∧ ArM w pa ga v R
section
variable {w : World} {pa ga : Nat} {v : Value} {R : AR} {F : List Nat}
theorem ArM.c0 (h : ArM w pa ga v R) : w.cell? ⟨pa, 0, none⟩ = some (.slice (some ⟨ga, 0, none⟩) R.sl.length R.sl.length) := h.head.cellAt 0 (by omega) rfl
theorem ArM.c1 (h : ArM w pa ga v R) : w.cell? ⟨pa, 1, none⟩ = some v := h.head.cellAt 1 (by omega) rfl
theorem ArM.c2 (h : ArM w pa ga v R) : w.cell? ⟨pa, 2, none⟩ = some (.int .i64 (R.next : Int)) := h.head.cellAt 2 (by omega) rfl
theorem ArM.c3 (h : ArM w pa ga v R) : w.cell? ⟨pa, 3, none⟩ = some (.int .i64 (R.cnt : Int)) := h.head.cellAt 3 (by omega) rfl
theorem ArM.c4 (h : ArM w pa ga v R) : w.cell? ⟨pa, 4, none⟩ = some (.int .u32 (R.most : Int)) := h.head.cellAt 4 (by omega) rfl
theorem ArM.s0 (h : ArM w pa ga v R) {x : Nat} (hx : x < R.sl.length) : w.cell? ⟨ga, x * 2, none⟩ = some (.int .u32 (R.g x : Int)) := h.row.cellAt (x * 2) (by omega) (by unfold slC; rw [if_pos (by omega), show x * 2 / 2 = x by omega])
theorem ArM.s1 (h : ArM w pa ga v R) {x : Nat} (hx : x < R.sl.length) : w.cell? ⟨ga, x * 2 + 1, none⟩ = some (.bool (R.v x)) := h.row.cellAt (x * 2 + 1) (by omega) (by unfold slC; rw [if_neg (by omega), show (x * 2 + 1) / 2 = x by omega])
theorem natsZ_len (l : List Nat) : (natsZ l).length = l.length := by unfold natsZ; simp
theorem ArM.upd {w' : World} {S : List Nat} (h : ArM w pa ga v R) (hu : Upd S w w') (hS : ∀ x, x ∈ S → x ∉ pa :: ga :: v.ownBlock.toList) : ArM w' pa ga v R :=
 ⟨h.head.upd hu (fun e => hS _ e (by simp)), h.row.upd hu (fun e => hS _ e (by simp)), owns_upd h.wait hu (fun k hk e => hS _ e (by simp [hk])), h.ne, h.nw, h.ok⟩
theorem ArAt.upd {w' : World} {S : List Nat} (h : ArAt w pa F R) (hu : Upd S w w') (hS : ∀ x, x ∈ S → x ∉ F) : ArAt w' pa F R := by
 obtain ⟨ga, v, rfl, h⟩ := h
 exact ⟨ga, v, rfl, h.upd hu hS⟩
theorem ArAt.lt (h : ArAt w pa F R) : ∀ x, x ∈ F → x < w.heap.size := by
 obtain ⟨ga, v, rfl, h⟩ := h
 intro x hx
 simp at hx
 rcases hx with rfl | rfl | hx
 ·exact h.head.lt
 ·exact h.row.lt
 ·exact (h.wait.lt x hx).2
theorem ArAt.ok (h : ArAt w pa F R) : R.Ok := by obtain ⟨ga, v, rfl, h⟩ := h; exact h.ok
theorem slotInfo : (Tryz.prog.info? 155).map (fun i => (i.zero, i.size, i.bytes)) = some (some (.agg #[.int .u32 0, .bool false]), 2, 8) := by kernel_rfl
theorem arnew_yes (n m : Nat) (w : World) (h : n ≤ 65536) (hm : 1 ≤ m ∧ m ≤ 4294967295) :
  Calls Tryz.prog 80 #[.int .i64 (n : Int), .int .u32 (m : Int)] w fun e w' => ∃ pa F, e = .returned (.tuple #[.pointer (some ⟨pa, 0, none⟩), .int .i64 0]) ∧ ArAt w' pa F (AR.new n m) ∧ Upd [] w w' ∧ ∀ x, x ∈ F → w.heap.size ≤ x := by
 have hm0 : ((m : Int) == 0) = false := by simp; omega
 go_enter Tryz.func80, Tryz.ntmps80
 go_wp2_with (first
  | (at_make; refine wpList_make_row rfl _ 156 rfl 155 (.agg #[.int .u32 0, .bool false]) 2 8 Tryz.underlying156 slotInfo n rfl (by omega) (by unfold maxLen; omega) ?_; intro w2 hr2 hu2))
 go_ret2
 have hh := rowAt_new w2 [.slice (some ⟨w.heap.size, 0, none⟩) n n, .slice none 0 0, .int .i64 0, .int .i64 0, .int .u32 (m : Int)] 158
 have l1 := hr2.lt
 have e : ∀ x, (AR.new n m).g x = 0 ∧ (AR.new n m).v x = false := fun x => by
  unfold AR.new AR.g AR.v
  simp only [List.getD_eq_getElem?_getD, List.getElem?_replicate]
  split <;> exact ⟨rfl, rfl⟩
 refine ⟨w2.heap.size, w2.heap.size :: w.heap.size :: [], rfl, ⟨w.heap.size, .slice none 0 0, rfl, ⟨?_, ?_, ⟨by simp [AR.new, natsZ, intsZ], Or.inl ⟨rfl, by simp [AR.new]⟩⟩, by omega, fun k hk => (by cases hk), AR.new_ok h hm⟩⟩, hu2.trans ((Upd.refl _ _).alloc _), fun x hx => by simp at hx; omega⟩
 ·refine hh.ext (fun j hj => ?_)
  unfold arC
  rw [AR.new_cnt]
  simp [AR.new]
 ·have hl : (AR.new n m).sl.length = n := by simp [AR.new]
  rw [hl]
  refine (hr2.alloc _).ext (fun j hj => ?_)
  unfold slC
  rw [(e _).1, (e _).2]
  show (madeCells #[Value.int .u32 0, .bool false] (n * 2)).toList.getD j undef = _
  rw [List.getD_eq_getElem?_getD, List.getElem?_eq_getElem (by simp [size_madeCells]; omega)]
  simp only [Option.getD_some, madeCells, Array.getElem_toList, Array.getElem_map, Array.getElem_range]
  rcases (by omega : j % 2 = 0 ∨ j % 2 = 1) with e | e <;> simp [e]
set_option maxHeartbeats 1000000 in
theorem arlive_any (h : ArAt w pa F R) (x g : Int) (hg : 0 ≤ g ∧ g ≤ 4294967295) :
  Calls Tryz.prog 83 #[.pointer (some ⟨pa, 0, none⟩), .agg #[.int .i64 x, .int .u32 g]] w fun e w' => e = .returned (.bool (liveR R x g)) ∧ Upd [] w w' := by
 obtain ⟨ga, v, rfl, h⟩ := h
 have c0' := h.c0
 have hl := h.ok.n
 have H := Lib.hid h
 unfold liveR
 by_cases b1 : x ≥ 0
 ·by_cases b2 : x < (R.sl.length : Int)
  ·have d0' := h.s0 (x := x.toNat) (by omega)
   have d1' := h.s1 (x := x.toNat) (by omega)
   rw [show ((x.toNat * 2 : Nat)) = x.toNat * 2 from rfl] at d0'
   rw [decide_eq_true (show 0 ≤ x from b1), decide_eq_true b2]
   generalize R.g x.toNat = gi at *
   generalize R.v x.toNat = vi at *
   generalize R.sl.length = n at *
   clear h
   go_enter Tryz.func83, Tryz.ntmps83
   (go_upto_region 1 with (fail); refine wp_nm (fun W => W.cell? ⟨w.heap.size, 0, none⟩ = some (.int .i64 x) ∧ W.cell? ⟨w.heap.size, 1, none⟩ = some (.int .u32 g) ∧ Upd [] w W) ⟨by simp, by simp, by (repeat (first | assumption | exact Upd.refl _ _ | refine Upd.alloc ?_ _ | refine Upd.drew ?_ | refine Upd.drewN ?_ _ | refine Upd.setCell ?_ ?_ _ | focus (left; simp; done) | focus (right; simp; done) | focus (right; simp; omega)))⟩ ?_; rintro W ⟨q0, q1, hu⟩)
   have c0 := hu.was c0'
   have d0 := hu.was d0'
   have d1 := hu.was d1'
   have HU := Lib.hid hu
   clear hu c0' d0' d1'
   by_cases e : (gi : Int) = g
   ·subst e
    cases vi
    all_goals
     go_quiet (fail)
     go_wp2
     go_ret
     exact ⟨ret_bool (by simp), by have := HU.out; (repeat (first | assumption | exact Upd.refl _ _ | refine Upd.alloc ?_ _ | refine Upd.drew ?_ | refine Upd.drewN ?_ _ | refine Upd.setCell ?_ ?_ _ | focus (left; simp; done) | focus (right; simp; done) | focus (right; simp; omega)))⟩
   ·cases vi
    all_goals
     go_quiet (fail)
     go_wp2
     go_ret
     exact ⟨ret_bool (by simp [e]), by have := HU.out; (repeat (first | assumption | exact Upd.refl _ _ | refine Upd.alloc ?_ _ | refine Upd.drew ?_ | refine Upd.drewN ?_ _ | refine Upd.setCell ?_ ?_ _ | focus (left; simp; done) | focus (right; simp; done) | focus (right; simp; omega)))⟩
  ·have b2b : decide (x < (R.sl.length : Int)) = false := by simpa using b2
   rw [b2b]
   generalize R.sl.length = n at *
   clear h
   go_enter Tryz.func83, Tryz.ntmps83
   (go_upto_region 1 with (fail); refine wp_nm (fun W => W.cell? ⟨w.heap.size, 0, none⟩ = some (.int .i64 x) ∧ W.cell? ⟨w.heap.size, 1, none⟩ = some (.int .u32 g) ∧ Upd [] w W) ⟨by simp, by simp, by (repeat (first | assumption | exact Upd.refl _ _ | refine Upd.alloc ?_ _ | refine Upd.drew ?_ | refine Upd.drewN ?_ _ | refine Upd.setCell ?_ ?_ _ | focus (left; simp; done) | focus (right; simp; done) | focus (right; simp; omega)))⟩ ?_; rintro W ⟨q0, q1, hu⟩)
   have c0 := hu.was c0'
   have HU := Lib.hid hu
   clear hu c0'
   go_quiet (fail)
   go_wp2
   go_ret
   exact ⟨ret_bool (by simp), by have := HU.out; (repeat (first | assumption | exact Upd.refl _ _ | refine Upd.alloc ?_ _ | refine Upd.drew ?_ | refine Upd.drewN ?_ _ | refine Upd.setCell ?_ ?_ _ | focus (left; simp; done) | focus (right; simp; done) | focus (right; simp; omega)))⟩
 ·have b1b : decide (x ≥ 0) = false := by simpa using b1
  rw [decide_eq_false (show ¬ 0 ≤ x from b1)]
  clear h
  go_enter Tryz.func83, Tryz.ntmps83
  (go_upto_region 1 with (fail); refine wp_nm (fun W => W.cell? ⟨w.heap.size, 0, none⟩ = some (.int .i64 x) ∧ W.cell? ⟨w.heap.size, 1, none⟩ = some (.int .u32 g) ∧ Upd [] w W) ⟨by simp, by simp, by (repeat (first | assumption | exact Upd.refl _ _ | refine Upd.alloc ?_ _ | refine Upd.drew ?_ | refine Upd.drewN ?_ _ | refine Upd.setCell ?_ ?_ _ | focus (left; simp; done) | focus (right; simp; done) | focus (right; simp; omega)))⟩ ?_; rintro W ⟨q0, q1, hu⟩)
  have HU := Lib.hid hu
  clear hu
  go_quiet (fail)
  go_wp2
  go_ret
  exact ⟨ret_bool (by simp), by have := HU.out; (repeat (first | assumption | exact Upd.refl _ _ | refine Upd.alloc ?_ _ | refine Upd.drew ?_ | refine Upd.drewN ?_ _ | refine Upd.setCell ?_ ?_ _ | focus (left; simp; done) | focus (right; simp; done) | focus (right; simp; omega)))⟩
end
end Go.Proofs.YtklibcncmbofpaaGreat
