/-
  Lemmas for RankNames: RkV, RkB, Ll, Ll2, Ll3, RkNm. Conditions: those of each lemma.
-/
import Derived.WalkKit
import Derived.WalkSpells
import Derived.WalkLawsBesides
import Derived.BigQuiet
import Derived.Deep.RegionHeld3
import Derived.ProofKit
import Derived.OpenShut
import Derived.Lib.Hide
import Derived.Test.YtklibcncmbofpaaGreatProg
import Derived.Maps.AppendAt
import Derived.StillTailTactics
import Derived.Maps.OwnSet
import Derived.Maps.OwnOps
import Derived.Maps.RangeWalk
import Derived.Deep.RegionLaw
import Derived.Deep.DeepCutAuto
import Derived.DeepKeys4
import Derived.IntWalk
import Derived.Deep.Slices
import Derived.Deep.Strs
import Derived.Lib.Mul64
import Derived.Laws.Bits64b
import Derived.Lib.MinMax
import Derived.Shelf.Bits.Mul64
import Derived.Shelf.Slices.Reverse
import Derived.Shelf.Slices.Cells
import Derived.Ground.SlgnProg
import Derived.Shelf.SlicesE.Clone
import Derived.Deep.OwnRows
import Derived.Deep.RegionHeldLaw
import Derived.Test.YtklibcncmbofpaaGreatP01
import Derived.Test.YtklibcncmbofpaaGreatP02
import Derived.Test.YtklibcncmbofpaaGreatP03
import Derived.Test.YtklibcncmbofpaaGreatP04
import Derived.Test.YtklibcncmbofpaaGreatP05
import Derived.Test.YtklibcncmbofpaaGreatP06
import Derived.Test.YtklibcncmbofpaaGreatP07
import Derived.Test.YtklibcncmbofpaaGreatP08
import Derived.Test.YtklibcncmbofpaaGreatP09
import Derived.Test.YtklibcncmbofpaaGreatP10
import Derived.Test.YtklibcncmbofpaaGreatP11
import Derived.Test.YtklibcncmbofpaaGreatP12
import Derived.Test.YtklibcncmbofpaaGreatP13
set_option linter.unusedVariables false
set_option linter.unusedSimpArgs false
namespace Go.Proofs.YtklibcncmbofpaaGreat
open Go Go.RowKit
structure MdW (K : NestQ) (w0 w : World) (p : Nat) (F : List Nat) (kd d : Int) (R : AR) (A : NS) (q : Nat) (v : Value) (n : Nat) (xs : List Value) : Prop where
 pq : PqAt K w p F kd d R A q
 up : Upd [] w0 w
 lo : ∀ x, x ∈ F → w0.heap.size ≤ x
 own : w.ownsRow w0.heap.size 2 1 v n xs
 off : ∀ g, v.ownBlock = some g → g ∉ F
section
variable {K : NestQ} {w0 w w' : World} {p : Nat} {F : List Nat} {kd d : Int} {R R' : AR} {A A' : NS} {q q' : Nat} {v : Value} {n : Nat} {xs : List Value}
theorem MdW.go (h : MdW K w0 w p F kd d R A q v n xs) (hg : Goes F w w' (fun F' => PqAt K w' p F' kd d R' A' q')) : ∃ F', MdW K w0 w' p F' kd d R' A' q' v n xs := by
 obtain ⟨F', h1, h2, h3⟩ := hg
 have hs := h.up.size
 refine ⟨F', h1, h.up.joined h2 (fun x hx => Or.inr (h.lo x hx)), fun x hx => ?_, owns_upd h.own h2 h.off, fun g hg hm => ?_⟩
 ·rcases h3 x hx with h' | h'
  ·exact h.lo x h'
  ·omega
 ·rcases h3 g hm with h' | h'
  ·exact h.off g hg h'
  ·have := (h.own.lt g hg).2; omega
theorem MdW.upd0 (h : MdW K w0 w p F kd d R A q v n xs) (hu : Upd [] w w') : MdW K w0 w' p F kd d R A q v n xs :=
 ⟨h.pq.upd0 hu, h.up.trans hu, h.lo, owns_upd h.own hu (by simp), h.off⟩
theorem MdW.put (h : MdW K w0 w p F kd d R A q v n xs) {g x : Nat} {k : Int} (hB : hasN A (g : Int) = true) (hk : -9223372036854775808 ≤ k ∧ k ≤ 9223372036854775807) (hq : q + 1 ≤ 18446744073709551615) (hT : takeR R = some (x, R')) (e : A' = putN A (g : Int) (x : Int) k ((q : Int) + 1)) :
  Calls Tryz.prog 40 #[.pointer (some ⟨p, 0, none⟩), .int .i64 (g : Int), .int .i64 k] w fun e w' => ∃ z, e = .returned (.tuple #[.agg #[.int .i64 (x : Int), .int .u32 z], .int .i64 0]) ∧ ∃ F', MdW K w0 w' p F' kd d R' A' (q + 1) v n xs := by
 subst e
 exact (pinsert_yes h.pq g k hB hk hq hT).mono (fun e w' hh => ⟨_, hh.1, h.go hh.2⟩)
theorem MdW.ext (h : MdW K w0 w p F kd d R A q v n xs) {g m : Nat} (hM : minN A (g : Int) = some m) {k : Int} (hk : (A.c m).k = k) (e1 : R' = giveR R m) (e2 : A' = dropN A m) :
  Calls Tryz.prog 41 #[.pointer (some ⟨p, 0, none⟩), .int .i64 (g : Int)] w fun e w' => ∃ z, e = .returned (.tuple #[.agg #[.int .i64 (m : Int), .int .u32 z], .int .i64 k, .int .i64 0]) ∧ ∃ F', MdW K w0 w' p F' kd d R' A' q v n xs := by
 subst e1 e2 hk
 exact (pext_some h.pq g hM).mono (fun e w' hh => ⟨_, hh.1, h.go hh.2⟩)
theorem MdW.min (h : MdW K w0 w p F kd d R A q v n xs) {g m : Nat} (hM : minN A (g : Int) = some m) {k : Int} (hk : (A.c m).k = k) :
  Calls Tryz.prog 43 #[.pointer (some ⟨p, 0, none⟩), .int .i64 (g : Int)] w fun e w' => ∃ z, e = .returned (.tuple #[.agg #[.int .i64 (m : Int), .int .u32 z], .int .i64 k, .int .i64 0]) ∧ ∃ F', MdW K w0 w' p F' kd d R A q v n xs := by
 subst hk
 exact (pmin_some h.pq g hM).mono (fun e w' hh => ⟨_, hh.1, h.go hh.2⟩)
end
set_option maxHeartbeats 8000000 in
set_option maxRecDepth 10000 in
theorem rmed_yes {K : NestQ} (kd d : Int) (vk : Value) (ks : List Int) (w : World) (hS : SlI w [] vk ks) (hb : ∀ x, x ∈ ks → -9223372036854775808 ≤ x ∧ x ≤ 9223372036854775807) (hc : chk kd d = 0) (hn : ks.length ≤ 65536) (ko : Opens K kd d ks.length) :
  Calls Tryz.prog 21 #[.agg #[.int .i64 kd, .int .i64 d], vk] w fun e w' => ∃ ao co, e = .returned (.tuple #[.slice ao ks.length co, .int .i64 0]) ∧ w'.ownsRow w.heap.size 2 1 (.slice ao ks.length co) ks.length (intsZ (medL (fun i => ks.getD i 0) ks.length)) ∧ Upd [] w w' := by
 have kp : ∀ W : World, _ := fun W => rkopen_yes kd d ks.length 2 W hc hn (by omega) ko
 obtain ⟨a, cap, rfl, hcap1, hcap2, hcell⟩ := hS
 have hkb : ∀ j, j < ks.length → -9223372036854775808 ≤ ks.getD j 0 ∧ ks.getD j 0 ≤ 9223372036854775807 := fun j hj => by
  rw [List.getD_eq_getElem?_getD, List.getElem?_eq_getElem hj]
  exact hb _ (List.getElem_mem hj)
 have hrow : ∀ j, j < ks.length → ∃ g off, a = some ⟨g, off, none⟩ ∧ g < w.heap.size ∧ w.cell? ⟨g, off + j, none⟩ = some (.int .i64 (ks.getD j 0)) := fun j hj => by
  obtain ⟨g, off, h1, h2, _, h3⟩ := hcell j ks[j] (List.getElem?_eq_getElem hj)
  exact ⟨g, off, h1, h2, by rw [h3, List.getD_eq_getElem?_getD, List.getElem?_eq_getElem hj]; rfl⟩
 have HR : Hid ((∀ j, j < ks.length → -9223372036854775808 ≤ (fun i => ks.getD i 0) j ∧ (fun i => ks.getD i 0) j ≤ 9223372036854775807) ∧ (∀ j, j < ks.length → ∃ g off, a = some ⟨g, off, none⟩ ∧ g < w.heap.size ∧ w.cell? ⟨g, off + j, none⟩ = some (.int .i64 ((fun i => ks.getD i 0) j))) ∧ MdI ks.length (fun i => ks.getD i 0) (AR.new ks.length 4294967295) (mkN (NS.new ks.length) 2) 0 0) := ⟨hkb, hrow, mdi_zero _ hn⟩
 clear hcell hb hkb hrow hc ko
 generalize (fun i => ks.getD i 0) = kf at *
 generalize ks.length = n at *
 rw [show ((2 : Nat) : Int) = 2 from rfl] at kp
 go_enter Tryz.func21, Tryz.ntmps21
 go_wp2_with (first
  | ((go_at_call 39; (with_reducible refine (kp _).mono ?_)); rintro e w1 ⟨p, F, rfl, hP0, hu0, hF⟩)
  | fail)
 have hu1 : Upd [] w w1 := Upd.trans (by (repeat (first | assumption | exact Upd.refl _ _ | refine Upd.alloc ?_ _ | refine Upd.drew ?_ | refine Upd.drewN ?_ _ | refine Upd.setCell ?_ ?_ _ | focus (left; simp; done) | focus (right; simp; done) | focus (right; simp; omega)))) hu0
 have s1 : w.heap.size ≤ w1.heap.size := hu1.size
 have HI : Hid (MdW K w w1 p F kd d (AR.new n 4294967295) (mkN (NS.new n) 2) 0 (.slice none 0 0) 0 (intsZ (medL kf 0))) := ⟨hP0, hu1, fun x hx => by have := hF x hx; simp at this; omega, ⟨rfl, Or.inl ⟨rfl, rfl⟩⟩, fun g hg => by cases hg⟩
 clear hP0 hu0 hF hu1 kp s1
 go_loopw [8, 9, 10, 11, 12, 13, 14, 15, 16, 17, 18, 19, 32] (fun v8 v9 v10 v11 v12 v13 v14 v15 v16 v17 v18 v19 v32 wr => ∃ (j q : Nat) (F' : List Nat) (R : AR) (A : NS) (ao : Option Addr) (co : Nat), j ≤ n ∧ v32 = .int .i64 (j : Int) ∧ v8 = .slice ao j co ∧ MdW K w wr p F' kd d R A q (.slice ao j co) j (intsZ (medL kf j)) ∧ MdI n kf R A q j) (fun _ _ _ _ _ _ _ _ _ _ _ _ v32 _ => n - (intOf v32).toNat)
 case atStart => exact ⟨0, 0, F, _, _, none, 0, Nat.zero_le _, rfl, rfl, HI.out, HR.out.2.2⟩
 case round =>
  obtain ⟨j, q, F', R, A, ao, co, hj, rfl, rfl, hP, hI⟩ := hrel
  rename World => wr
  by_cases hjn : j < n
  ·have hjI : decide ((j : Int) < (n : Int)) = true := by simp; omega
   have hjI2 : (j : Int) < (n : Int) := by omega
   obtain ⟨hkb, hrow, -⟩ := HR.out
   obtain ⟨g, off, rfl, hg, hc⟩ := hrow j hjn
   have hc1 := hP.up.was hc
   have hkj := hkb j hjn
   obtain ⟨x, R1, A1, m, R2, A2, y, R3, A3, hh1, hT1, e1, hm1, e2, e3, hh2, hT2, e4, hr1, hS3, Kl, hH3, hK3⟩ := hI.first hjn hn hkj
   have hqj := hI.qj
   have kI1 := hP.put (g := 1) hh1 (tn_in hkj) (by omega) hT1 e1
   obtain ⟨t1, ht1⟩ : ∃ t1, (A1.c m).k = t1 := ⟨_, rfl⟩
   rw [ht1] at hr1 e4
   have kE1 : ∀ W F1, MdW K w W p F1 kd d R1 A1 (q + 1) (.slice ao j co) j (intsZ (medL kf j)) → _ := fun W F1 h => h.ext (g := 1) hm1 ht1 e2 e3
   have kI2 : ∀ W F1, MdW K w W p F1 kd d R2 A2 (q + 1) (.slice ao j co) j (intsZ (medL kf j)) → _ := fun W F1 h => h.put (g := 2) hh2 (tn_in hr1) (by omega) hT2 e4
   have hb0 : w.heap.size ≤ wr.heap.size := hP.up.size
   rw [show ((1 : Nat) : Int) = 1 from rfl] at kI1 kE1
   rw [show ((2 : Nat) : Int) = 2 from rfl] at kI2
   unfold tn at kI1 kI2
   rcases Nat.mod_two_eq_zero_or_one j with ho | ho
   ·obtain ⟨m2, R4, A4, x3, R5, A5, hm2, e5, e6, hh3, hT3, e7, hr2, hI5, m3, hm3, hmv⟩ := MdI.even hS3 hjn (by omega) hn hH3 hK3 ho
    obtain ⟨t2, ht2⟩ : ∃ t2, (A3.c m2).k = t2 := ⟨_, rfl⟩
    rw [ht2] at hr2 e7
    obtain ⟨t3, ht3⟩ : ∃ t3, (A5.c m3).k = t3 := ⟨_, rfl⟩
    rw [ht3] at hmv
    have hr3 : -9223372036854775808 ≤ t3 ∧ t3 ≤ 9223372036854775807 := by rw [← ht3]; exact ⟨(hI5.s.okA.key m3).1, (hI5.s.okA.key m3).2.1⟩
    have kE2 : ∀ W F1, MdW K w W p F1 kd d R3 A3 (q + 1 + 1) (.slice ao j co) j (intsZ (medL kf j)) → _ := fun W F1 h => h.ext (g := 2) hm2 ht2 e5 e6
    have kI3 : ∀ W F1, MdW K w W p F1 kd d R4 A4 (q + 1 + 1) (.slice ao j co) j (intsZ (medL kf j)) → _ := fun W F1 h => h.put (g := 1) hh3 (tn_in hr2) (by omega) hT3 e7
    have kM : ∀ W F1, MdW K w W p F1 kd d R5 A5 (q + 1 + 1 + 1) (.slice ao j co) j (intsZ (medL kf j)) → _ := fun W F1 h => h.min (g := 1) hm3 ht3
    rw [show ((2 : Nat) : Int) = 2 from rfl] at kE2
    rw [show ((1 : Nat) : Int) = 1 from rfl] at kI3 kM
    unfold tn at kI3
    have hpar : (j : Int).tmod 2 = 0 := by rw [show (j : Int).tmod 2 = ((j % 2 : Nat) : Int) from rfl, ho]; rfl
    have HQ := Lib.hid (And.intro hI5 hmv)
    clear hP hI hI5 hmv hS3 hH3 hK3 hc hkb hrow hT1 hT2 hT3 e1 e2 e3 e4 e5 e6 e7 hm1 hm2 hm3 ht1 ht2 ht3 hh1 hh2 hh3 ho
    generalize kf j = kj at *
    go_upto_region 15 with (first
     | ((go_at_call 42; (with_reducible refine (turn_any kj _ hkj).mono ?_)); rintro e wt ⟨rfl, rfl⟩) | ((go_at_call 42; (with_reducible refine (turn_any t1 _ hr1).mono ?_)); rintro e wt ⟨rfl, rfl⟩) | ((go_at_call 42; (with_reducible refine (turn_any t2 _ hr2).mono ?_)); rintro e wt ⟨rfl, rfl⟩)
     | ((go_at_call 40; (with_reducible refine (kI1).mono ?_)); rintro e wi ⟨z, rfl, Fi, hI1⟩) | ((go_at_call 41; (with_reducible refine (kE1 _ _ hI1).mono ?_)); rintro e we ⟨z, rfl, Fe, hE1⟩) | ((go_at_call 40; (with_reducible refine (kI2 _ _ (hE1.upd0 (by (repeat (first | assumption | exact Upd.refl _ _ | refine Upd.alloc ?_ _ | refine Upd.drew ?_ | refine Upd.drewN ?_ _ | refine Upd.setCell ?_ ?_ _ | focus (left; simp; done) | focus (right; simp; done) | focus (right; simp; omega)))))).mono ?_)); rintro e wi ⟨z, rfl, Fi, hI2⟩) | ((go_at_call 41; (with_reducible refine (kE2 _ _ hI2).mono ?_)); rintro e we ⟨z, rfl, Fe, hE2⟩) | ((go_at_call 40; (with_reducible refine (kI3 _ _ (hE2.upd0 (by (repeat (first | assumption | exact Upd.refl _ _ | refine Upd.alloc ?_ _ | refine Upd.drew ?_ | refine Upd.drewN ?_ _ | refine Upd.setCell ?_ ?_ _ | focus (left; simp; done) | focus (right; simp; done) | focus (right; simp; omega)))))).mono ?_)); rintro e wi ⟨z, rfl, Fi, hI3⟩)
     | ((go_at_call 43; (with_reducible refine (kM _ _ hI3).mono ?_)); rintro e we ⟨z, rfl, Fm, hM⟩)
     | fail)
    refine wp_nm (fun W => ∃ F6, MdW K w W p F6 kd d _ _ (q + 1 + 1 + 1) (.slice ao j co) j (intsZ (medL kf j))) ⟨_, hM.upd0 (by (repeat (first | assumption | exact Upd.refl _ _ | refine Upd.alloc ?_ _ | refine Upd.drew ?_ | refine Upd.drewN ?_ _ | refine Upd.setCell ?_ ?_ _ | focus (left; simp; done) | focus (right; simp; done) | focus (right; simp; omega))))⟩ ?_
    rintro W ⟨F6, hP6⟩
    have ho6 := hP6.own
    have hb6 : w.heap.size ≤ W.heap.size := hP6.up.size
    have HP := Lib.hid hP6
    clear hP6 hM
    go_wp2_with (first | ((go_at_call 42; (with_reducible refine (turn_any t3 _ hr3).mono ?_)); rintro e wt ⟨rfl, rfl⟩) | (at_builtin; refine wpList_append_sep rfl _ _ 24 rfl w.heap.size 2 (.int .i64 0) 1 8 Tryz.underlying24 i64Info rfl (by decide) _ _ _ rfl ho6 [.int .i64 _] rfl (by simp [Value.oneCell']) (by first | rfl | (rw [World.size_alloc]; rfl)) (by unfold maxLen; omega) (by omega) (by omega) ?_; intro v2 w9 ho9 hu9 hsep9; obtain ⟨a9, c9, rfl, hc9⟩ := own_slice ho9) | fail)
    go_roundw
    case rel =>
     obtain ⟨hI5, hmv⟩ := HQ.out
     have hP6 := HP.out
     have hl6 := hP6.pq.lt
     refine ⟨j + 1, _, F6, _, _, a9, c9, by omega, by go_num, rfl, ⟨hP6.pq.upd hu9 (fun x hx => hP6.off x (Option.mem_toList.1 hx)), hP6.up.own ho6 (Nat.le_refl _) hu9, hP6.lo, by rw [medL_succ, ← hmv, intsZ_append]; exact ho9, fun g hg => ?_⟩, hI5⟩
     rcases hsep9 with h | h
     ·rw [h] at hg; exact hP6.off g hg
     ·have h9 := h g hg
      exact fun hm => by have := hl6 g hm; omega
    case measure => simp [intOf]; omega
   ·obtain ⟨hI5, m3, hm3, hmv⟩ := MdI.odd hS3 (by omega) hH3 hK3 ho
    obtain ⟨t3, ht3⟩ : ∃ t3, (A3.c m3).k = t3 := ⟨_, rfl⟩
    rw [ht3] at hmv
    have hr3 : -9223372036854775808 ≤ t3 ∧ t3 ≤ 9223372036854775807 := by rw [← ht3]; exact ⟨(hI5.s.okA.key m3).1, (hI5.s.okA.key m3).2.1⟩
    have kM : ∀ W F1, MdW K w W p F1 kd d R3 A3 (q + 1 + 1) (.slice ao j co) j (intsZ (medL kf j)) → _ := fun W F1 h => h.min (g := 1) hm3 ht3
    rw [show ((1 : Nat) : Int) = 1 from rfl] at kM
    have hpar : (j : Int).tmod 2 = 1 := by rw [show (j : Int).tmod 2 = ((j % 2 : Nat) : Int) from rfl, ho]; rfl
    have HQ := Lib.hid (And.intro hI5 hmv)
    clear hP hI hI5 hmv hS3 hH3 hK3 hc hkb hrow hT1 hT2 e1 e2 e3 e4 hm1 hm3 ht1 ht3 hh1 hh2 ho
    generalize kf j = kj at *
    go_upto_region 15 with (first
     | ((go_at_call 42; (with_reducible refine (turn_any kj _ hkj).mono ?_)); rintro e wt ⟨rfl, rfl⟩) | ((go_at_call 42; (with_reducible refine (turn_any t1 _ hr1).mono ?_)); rintro e wt ⟨rfl, rfl⟩)
     | ((go_at_call 40; (with_reducible refine (kI1).mono ?_)); rintro e wi ⟨z, rfl, Fi, hI1⟩) | ((go_at_call 41; (with_reducible refine (kE1 _ _ hI1).mono ?_)); rintro e we ⟨z, rfl, Fe, hE1⟩) | ((go_at_call 40; (with_reducible refine (kI2 _ _ (hE1.upd0 (by (repeat (first | assumption | exact Upd.refl _ _ | refine Upd.alloc ?_ _ | refine Upd.drew ?_ | refine Upd.drewN ?_ _ | refine Upd.setCell ?_ ?_ _ | focus (left; simp; done) | focus (right; simp; done) | focus (right; simp; omega)))))).mono ?_)); rintro e wi ⟨z, rfl, Fi, hI2⟩)
     | ((go_at_call 43; (with_reducible refine (kM _ _ hI2).mono ?_)); rintro e we ⟨z, rfl, Fm, hM⟩)
     | fail)
    refine wp_nm (fun W => ∃ F6, MdW K w W p F6 kd d _ _ (q + 1 + 1) (.slice ao j co) j (intsZ (medL kf j))) ⟨_, hM.upd0 (by (repeat (first | assumption | exact Upd.refl _ _ | refine Upd.alloc ?_ _ | refine Upd.drew ?_ | refine Upd.drewN ?_ _ | refine Upd.setCell ?_ ?_ _ | focus (left; simp; done) | focus (right; simp; done) | focus (right; simp; omega))))⟩ ?_
    rintro W ⟨F6, hP6⟩
    have ho6 := hP6.own
    have hb6 : w.heap.size ≤ W.heap.size := hP6.up.size
    have HP := Lib.hid hP6
    clear hP6 hM
    go_wp2_with (first | ((go_at_call 42; (with_reducible refine (turn_any t3 _ hr3).mono ?_)); rintro e wt ⟨rfl, rfl⟩) | (at_builtin; refine wpList_append_sep rfl _ _ 24 rfl w.heap.size 2 (.int .i64 0) 1 8 Tryz.underlying24 i64Info rfl (by decide) _ _ _ rfl ho6 [.int .i64 _] rfl (by simp [Value.oneCell']) (by first | rfl | (rw [World.size_alloc]; rfl)) (by unfold maxLen; omega) (by omega) (by omega) ?_; intro v2 w9 ho9 hu9 hsep9; obtain ⟨a9, c9, rfl, hc9⟩ := own_slice ho9) | fail)
    go_roundw
    case rel =>
     obtain ⟨hI5, hmv⟩ := HQ.out
     have hP6 := HP.out
     have hl6 := hP6.pq.lt
     refine ⟨j + 1, _, F6, _, _, a9, c9, by omega, by go_num, rfl, ⟨hP6.pq.upd hu9 (fun x hx => hP6.off x (Option.mem_toList.1 hx)), hP6.up.own ho6 (Nat.le_refl _) hu9, hP6.lo, by rw [medL_succ, ← hmv, intsZ_append]; exact ho9, fun g hg => ?_⟩, hI5⟩
     rcases hsep9 with h | h
     ·rw [h] at hg; exact hP6.off g hg
     ·have h9 := h g hg
      exact fun hm => by have := hl6 g hm; omega
    case measure => simp [intOf]; omega
  ·obtain rfl : j = n := by omega
   have hjI : decide ((j : Int) < (j : Int)) = false := by simp
   have HO := Lib.hid hP
   clear hP hI
   go_wp2
   go_ret2
   exact ⟨ao, co, rfl, HO.out.own, HO.out.up⟩
end Go.Proofs.YtklibcncmbofpaaGreat
namespace Go.Proofs.YtklibcncmbofpaaGreat
open Go Go.RowKit
theorem slk4 {W : World} {g : Nat} {x y z u : Int} (h0 : W.cell? ⟨g, 0, none⟩ = some (.int .i64 x)) (h1 : W.cell? ⟨g, 1, none⟩ = some (.int .i64 y)) (h2 : W.cell? ⟨g, 2, none⟩ = some (.int .i64 z)) (h3 : W.cell? ⟨g, 3, none⟩ = some (.int .i64 u)) : SlI W [] (.slice (some ⟨g, 0, none⟩) 4 4) [x, y, z, u] := by
 refine ⟨some ⟨g, 0, none⟩, 4, rfl, by simp, by omega, fun j v hj => ⟨g, 0, rfl, World.block_lt_of_cell? W _ h0, by simp, ?_⟩⟩
 match j, hj with
 | 0, hj => simp at hj; subst hj; exact h0
 | 1, hj => simp at hj; subst hj; exact h1
 | 2, hj => simp at hj; subst hj; exact h2
 | 3, hj => simp at hj; subst hj; exact h3
 | j + 4, hj => simp at hj
theorem slk3 {W : World} {g : Nat} {x y z : Int} (h0 : W.cell? ⟨g, 0, none⟩ = some (.int .i64 x)) (h1 : W.cell? ⟨g, 1, none⟩ = some (.int .i64 y)) (h2 : W.cell? ⟨g, 2, none⟩ = some (.int .i64 z)) : SlI W [] (.slice (some ⟨g, 0, none⟩) 3 3) [x, y, z] := by
 refine ⟨some ⟨g, 0, none⟩, 3, rfl, by simp, by omega, fun j v hj => ⟨g, 0, rfl, World.block_lt_of_cell? W _ h0, by simp, ?_⟩⟩
 match j, hj with
 | 0, hj => simp at hj; subst hj; exact h0
 | 1, hj => simp at hj; subst hj; exact h1
 | 2, hj => simp at hj; subst hj; exact h2
 | j + 3, hj => simp at hj
theorem exSort {W : World} {va : Value} (h : SlI W [] va [3, 1, 2, 1]) :
  Calls Tryz.prog 16 #[.agg #[.int .i64 6, .int .i64 0], va] W fun e w' => ∃ ao co, e = .returned (.tuple #[.slice ao 4 co, .int .i64 0]) ∧ SlI w' [] (.slice ao 4 co) [1, 3, 2, 0] ∧ Upd [] W w' := by
 refine (rsort_yes 6 0 va [3, 1, 2, 1] W h (by decide) (by decide +kernel) (by decide) (opens_lf 4 (by omega))).mono ?_
 rintro e w' ⟨ao, co, rfl, ho, hu⟩
 have e4 : nzL (sortS (fun i => [3, 1, 2, 1].getD i 0) 4) = [1, 3, 2, 0] := by decide +kernel
 refine ⟨ao, co, rfl, ?_, hu⟩
 have ho' : w'.ownsRow W.heap.size 3 1 (.slice ao 4 co) 4 (intsZ (nzL (sortS (fun i => [3, 1, 2, 1].getD i 0) 4))) := ho
 rw [e4] at ho'
 exact SlI.of_own (xs := [1, 3, 2, 0]) ho' (fun g hg => by cases hg)
theorem exMed {W : World} {va : Value} (h : SlI W [] va [3, 1, 2]) :
  Calls Tryz.prog 21 #[.agg #[.int .i64 6, .int .i64 0], va] W fun e w' => ∃ g co, e = .returned (.tuple #[.slice (some ⟨g, 0, none⟩) 3 co, .int .i64 0]) ∧ w'.cell? ⟨g, 0, none⟩ = some (.int .i64 3) ∧ w'.cell? ⟨g, 1, none⟩ = some (.int .i64 1) ∧ w'.cell? ⟨g, 2, none⟩ = some (.int .i64 2) ∧ Upd [] W w' := by
 refine (rmed_yes 6 0 va [3, 1, 2] W h (by decide) (by decide +kernel) (by decide) (opens_lf 3 (by omega))).mono ?_
 rintro e w' ⟨ao, co, rfl, ho, hu⟩
 have e4 : medL (fun i => [3, 1, 2].getD i 0) 3 = [3, 1, 2] := by decide +kernel
 have ho' : w'.ownsRow W.heap.size 2 1 (.slice ao 3 co) 3 (intsZ (medL (fun i => [3, 1, 2].getD i 0) 3)) := ho
 rw [e4] at ho'
 obtain ⟨g, cap, he, _, _, _, _, hc, _⟩ := own_shape ho' (by omega)
 cases he
 exact ⟨g, _, rfl, hc 0 _ rfl, hc 1 _ rfl, hc 2 _ rfl, hu⟩
set_option maxHeartbeats 4000000 in
theorem rkalive_any (w : World) : Calls Tryz.prog 15 #[] w fun r w' => r = .returned (.bool true) ∧ Upd [] w w' := by
 go_enter Tryz.func15, Tryz.ntmps15
 go_upto_region 4 with (first
  | ((go_at_call 16; (with_reducible refine (exSort (slk4 (by go_simp) (by go_simp) (by go_simp) (by go_simp))).mono ?_)); rintro e w1 ⟨ao, co, rfl, hS1, hu1⟩; (have q0 : w1.cell? ⟨w.heap.size, 0, none⟩ = some (.int .i64 6) := hu1.was (by go_simp)); (have q1 : w1.cell? ⟨w.heap.size, 1, none⟩ = some (.int .i64 0) := hu1.was (by go_simp)); (have hw1 : Upd [] w w1 := Upd.trans (by (repeat (first | assumption | exact Upd.refl _ _ | refine Upd.alloc ?_ _ | refine Upd.drew ?_ | refine Upd.drewN ?_ _ | refine Upd.setCell ?_ ?_ _ | focus (left; simp; done) | focus (right; simp; done) | focus (right; simp; omega)))) hu1))
  | ((go_at_call 21; (with_reducible refine (exMed (slk3 (by go_simp) (by go_simp) (by go_simp))).mono ?_)); rintro e w2 ⟨g, cm, rfl, c0, c1, c2, hu2⟩)
  | fail)
 have hu12 : Upd [] w1 w2 := Upd.trans (by (repeat (first | assumption | exact Upd.refl _ _ | refine Upd.alloc ?_ _ | refine Upd.drew ?_ | refine Upd.drewN ?_ _ | refine Upd.setCell ?_ ?_ _ | focus (left; simp; done) | focus (right; simp; done) | focus (right; simp; omega)))) hu2
 have hS2 := hS1.fresh hu12 (F' := []) (fun g hg => Or.inl hg)
 have hw2 := hw1.trans hu12
 have hgl := World.block_lt_of_cell? w2 _ c0
 dsimp only at hgl
 have hne : ¬ g = w2.heap.size := by omega
 clear hS1 hu1 hu2 q0 q1 hw1 hu12
 go_wp2_with (first
  | ((go_at_call 20; (with_reducible refine (same_yes _ [] [] _ _ [1, 3, 2, 0] (hS2.fresh (by (repeat (first | assumption | exact Upd.refl _ _ | refine Upd.alloc ?_ _ | refine Upd.drew ?_ | refine Upd.drewN ?_ _ | refine Upd.setCell ?_ ?_ _ | focus (left; simp; done) | focus (right; simp; done) | focus (right; simp; omega)))) (fun g hg => Or.inl hg)) (slk4 (by go_simp) (by go_simp) (by go_simp) (by go_simp))).mono ?_)); rintro e w3 ⟨rfl, kk, rfl⟩)
  | fail)
 go_ret
 exact ⟨rfl, by (repeat (first | assumption | exact Upd.refl _ _ | refine Upd.alloc ?_ _ | refine Upd.drew ?_ | refine Upd.drewN ?_ _ | refine Upd.setCell ?_ ?_ _ | focus (left; simp; done) | focus (right; simp; done) | focus (right; simp; omega)))⟩
end Go.Proofs.YtklibcncmbofpaaGreat
namespace Go.Proofs.YtklibcncmbofpaaGreat
open Go Go.RowKit
def LlAt (w : World) (v : Value) (Z : List (List Int)) : Prop :=
 ∃ a cap, v = .slice a Z.length cap ∧ Z.length ≤ cap ∧ cap ≤ 9223372036854775807 ∧ ∀ x l, Z[x]? = some l → ∃ g off vx, a = some ⟨g, off, none⟩ ∧ g < w.heap.size ∧ w.cell? ⟨g, off + x, none⟩ = some vx ∧ SlI w [] vx l
theorem LlAt.upd {w w' : World} {v : Value} {Z : List (List Int)} (h : LlAt w v Z) (hu : Upd [] w w') : LlAt w' v Z := by
 obtain ⟨a, cap, rfl, h1, h2, h3⟩ := h
 refine ⟨a, cap, rfl, h1, h2, fun x l hx => ?_⟩
 obtain ⟨g, off, vx, rfl, hg, hc, hs⟩ := h3 x l hx
 exact ⟨g, off, vx, rfl, Nat.lt_of_lt_of_le hg hu.size, hu.was hc, hs.fresh hu (fun g hg => Or.inl hg)⟩
theorem LlAt.shape {w : World} {v : Value} {Z : List (List Int)} (h : LlAt w v Z) : ∃ a cap, v = .slice a Z.length cap ∧ Z.length ≤ cap ∧ cap ≤ 9223372036854775807 := by
 obtain ⟨a, cap, rfl, h1, h2, _⟩ := h
 exact ⟨a, cap, rfl, h1, h2⟩
theorem SlI.form {w : World} {F : List Nat} {v : Value} {xs : List Int} (h : SlI w F v xs) : ∃ a cap, v = .slice a xs.length cap ∧ xs.length ≤ cap ∧ cap ≤ 9223372036854775807 := by
 obtain ⟨a, cap, rfl, h1, h2, _⟩ := h
 exact ⟨a, cap, rfl, h1, h2⟩
theorem LlAt.at {w : World} {a : Option Addr} {n cap : Nat} {Z : List (List Int)} (h : LlAt w (.slice a n cap) Z) {x : Nat} {l : List Int} (hx : Z[x]? = some l) :
  ∃ g off ax cx, a = some ⟨g, off, none⟩ ∧ g < w.heap.size ∧ w.cell? ⟨g, off + x, none⟩ = some (.slice ax l.length cx) ∧ l.length ≤ cx ∧ cx ≤ 9223372036854775807 ∧ SlI w [] (.slice ax l.length cx) l := by
 obtain ⟨a', cap', he, _, _, h3⟩ := h
 cases he
 obtain ⟨g, off, vx, rfl, hg, hc, hs⟩ := h3 x l hx
 obtain ⟨ax, cx, rfl, h1, h2⟩ := hs.form
 exact ⟨g, off, ax, cx, rfl, hg, hc, h1, h2, hs⟩
def manyL : Nat → List (List Int) → Nat
 | n, [] => n
 | n, l :: r => if 65536 < n + l.length then n + l.length else manyL (n + l.length) r
def totL (Z : List (List Int)) : Nat := (Z.map List.length).sum
theorem manyL_le : ∀ (Z : List (List Int)) (n : Nat), n + totL Z ≤ 65536 → manyL n Z = n + totL Z
 | [], n, _ => by simp [manyL, totL]
 | l :: r, n, h => by
  have e : totL (l :: r) = l.length + totL r := by simp [totL]
  rw [e] at h ⊢
  unfold manyL
  rw [if_neg (by omega), manyL_le r (n + l.length) (by omega)]
  omega
theorem manyL_big : ∀ (Z : List (List Int)) (n : Nat), 65536 < n + totL Z → 65536 < manyL n Z
 | [], n, h => by simp [totL] at h; simpa [manyL] using h
 | l :: r, n, h => by
  have e : totL (l :: r) = l.length + totL r := by simp [totL]
  rw [e] at h
  unfold manyL
  split
  ·assumption
  ·exact manyL_big r (n + l.length) (by omega)
set_option maxHeartbeats 2000000 in
theorem rmany_any (w : World) (va : Value) (Z : List (List Int)) (h : LlAt w va Z) (hkb : ∀ i, i < Z.length → (Z.getD i []).length ≤ 1000000000000) : Calls Tryz.prog 44 #[va] w fun e w' => e = .returned (.int .i64 (manyL 0 Z : Int)) ∧ Upd [] w w' := by
 obtain ⟨a, cap, rfl, h1, h2⟩ := h.shape
 have HZ := Lib.hid h
 have HE : Hid (∀ i, i < Z.length → Z[i]? = some (Z.getD i [])) := fun i hi => by simp [List.getD_eq_getElem?_getD, hi]
 have HD : Hid (∀ i n, i < Z.length → manyL n (Z.drop i) = if 65536 < n + (Z.getD i []).length then n + (Z.getD i []).length else manyL (n + (Z.getD i []).length) (Z.drop (i + 1))) := fun i n hi => by
  rw [List.drop_eq_getElem_cons hi, manyL, List.getD_eq_getElem?_getD, List.getElem?_eq_getElem hi]; rfl
 have HK := Lib.hid hkb
 clear hkb
 have HL : Hid (∀ n, manyL n (Z.drop Z.length) = n) := fun n => by simp [manyL]
 have hr0 : manyL 0 Z = manyL 0 (Z.drop 0) := by simp
 generalize manyL 0 Z = r at *
 have HR := Lib.hid hr0
 clear h hr0
 generalize hn : Z.length = n at *
 have HN := Lib.hid hn
 clear hn
 go_enter Tryz.func44, Tryz.ntmps44
 go_wp2
 go_loopw [3, 5, 8] (fun v3 _ v8 wr => ∃ i m : Nat, v8 = .int .i64 (i : Int) ∧ v3 = .int .i64 (m : Int) ∧ i ≤ n ∧ m ≤ 65536 ∧ r = manyL m (Z.drop i) ∧ Upd [] w wr) (fun _ _ v8 _ => n - (intOf v8).toNat)
 case atStart => exact ⟨0, 0, rfl, rfl, Nat.zero_le _, by omega, HR.out, Upd.refl _ _⟩
 case round =>
  obtain ⟨i, m, rfl, rfl, hi, hm, hrr, hu⟩ := hrel
  rename World => wr
  by_cases hin : i < n
  ·have hiI : (i : Int) < (n : Int) := by omega
   obtain ⟨g, off, ax, cx, rfl, hg, hc, hl1, hl2, -⟩ := (HZ.out.upd hu).at (HE.out i hin)
   have hd := HD.out i m hin
   have hkk := HK.out i hin
   generalize (Z.getD i []).length = k at *
   have hwr : IntKind.i64.wrap ((i : Int) + 1) = (i : Int) + 1 := IntWalk.i64_in _ (by omega)
   obtain ⟨t, ht⟩ : ∃ t : Nat, t = m + k := ⟨_, rfl⟩
   have hwk : (m : Int) + (k : Int) = (t : Int) := by omega
   have htb : (t : Int) ≤ 9223372036854775807 + 65536 := by omega
   rw [← ht] at hd
   by_cases hb : 65536 < t
   ·rw [if_pos hb] at hd
    have hbI : (t : Int) > 65536 := by omega
    have hwt : IntKind.i64.wrap (t : Int) = (t : Int) := IntWalk.i64_in _ (by omega)
    have hfin : r = t := hrr.trans hd
    have HF := Lib.hid hfin
    clear hrr hd hfin ht
    go_wp2
    go_ret
    exact ⟨by rw [HF.out]; rfl, hu⟩
   ·rw [if_neg hb] at hd
    have hbI : ¬ (t : Int) > 65536 := by omega
    have HF := Lib.hid (hrr.trans hd)
    have hwt : IntKind.i64.wrap (t : Int) = (t : Int) := IntWalk.i64_in _ (by omega)
    have htl : t ≤ 65536 := by omega
    clear hrr hd ht hb
    go_wp2
    go_roundw
    case rel => exact ⟨i + 1, t, by go_num, by go_num, by omega, htl, HF.out, hu⟩
    case measure => simp [intOf]; omega
  ·obtain rfl : i = n := by omega
   have hiI : ¬ (i : Int) < (i : Int) := by omega
   have hiD : decide ((i : Int) < (i : Int)) = false := by simp
   have hfin : r = m := by rw [hrr, HL.out]
   have HF := Lib.hid hfin
   clear hrr hfin
   go_wp2
   go_ret
   exact ⟨by rw [HF.out]; rfl, hu⟩
end Go.Proofs.YtklibcncmbofpaaGreat
namespace Go.Proofs.YtklibcncmbofpaaGreat
open Go Go.RowKit
def risesB (l : List Int) : Bool := decide (∀ i, i < l.length - 1 → l.getD i 0 ≤ l.getD (i + 1) 0)
theorem risesB_iff {l : List Int} : risesB l = true ↔ ∀ i, i + 1 < l.length → l.getD i 0 ≤ l.getD (i + 1) 0 := by
 unfold risesB
 rw [decide_eq_true_eq]
 exact ⟨fun h i hi => h i (by omega), fun h i hi => h i (by omega)⟩
theorem cless_any (x y : Int) (w : World) : Calls Tryz.prog 71 #[.int .i64 x, .int .i64 y] w fun e w' => e = .returned (.bool (decide (x < y))) ∧ w' = w := by
 have kn : ∀ z (W : World), Calls Tryz.prog 85 #[.int .i64 z] W fun e w' => e = .returned (.bool false) ∧ w' = W := fun z W => by
  have hz : (z != z) = false := by simp
  go_enter Tryz.func85, Tryz.ntmps85
  go_wp2
  go_ret
  exact ⟨rfl, rfl⟩
 have kx := kn x
 have ky := kn y
 clear kn
 go_enter Tryz.func71, Tryz.ntmps71
 go_wp2_with (first
  | ((go_at_call 85; (with_reducible refine (kx _).mono ?_)); rintro e w1 ⟨rfl, rfl⟩)
  | ((go_at_call 85; (with_reducible refine (ky _).mono ?_)); rintro e w1 ⟨rfl, rfl⟩)
  | fail)
 go_ret
 exact ⟨rfl, rfl⟩
set_option maxHeartbeats 2000000 in
theorem issorted_any (w : World) (va : Value) (l : List Int) (h : SlI w [] va l) : Calls Tryz.prog 47 #[va] w fun e w' => e = .returned (.bool (risesB l)) ∧ Upd [] w w' := by
 obtain ⟨a, cap, rfl, hcap1, hcap2, hcell⟩ := h
 have HB : Hid (∀ b, (b = true ↔ ∀ i, i + 1 < l.length → l.getD i 0 ≤ l.getD (i + 1) 0) → risesB l = b) := fun b hb => by
  have := risesB_iff (l := l)
  cases b with
  | true => exact this.2 (hb.1 rfl)
  | false =>
   cases hr : risesB l with
   | false => rfl
   | true => exact absurd (hb.2 (this.1 hr)) (by simp)
 generalize risesB l = rb at *
 have hrow : ∀ j, j < l.length → ∃ g off, a = some ⟨g, off, none⟩ ∧ g < w.heap.size ∧ w.cell? ⟨g, off + j, none⟩ = some (.int .i64 (l.getD j 0)) := fun j hj => by
  obtain ⟨g, off, h1, h2, _, h3⟩ := hcell j l[j] (List.getElem?_eq_getElem hj)
  exact ⟨g, off, h1, h2, by rw [h3, List.getD_eq_getElem?_getD, List.getElem?_eq_getElem hj]; rfl⟩
 have HR := Lib.hid hrow
 have kc := fun x y W => cless_any x y W
 clear hcell hrow
 generalize hn : l.length = n at *
 clear hn
 have HX : Hid (∀ j, l.getD j 0 = l.getD j 0) := fun _ => rfl
 go_enter Tryz.func47, Tryz.ntmps47
 go_wp2
 go_loopw [3] (fun v3 wr => ∃ i : Int, v3 = .int .i64 i ∧ -1 ≤ i ∧ i ≤ (n : Int) - 1 ∧ (∀ k : Nat, i ≤ k → k + 1 < n → l.getD k 0 ≤ l.getD (k + 1) 0) ∧ Upd [] w wr) (fun v3 _ => (intOf v3).toNat)
 case atStart => exact ⟨(n : Int) - 1, by first | rfl | (rw [IntWalk.i64_in _ (by omega)]) | (go_num), by omega, Int.le_refl _, fun k h1 h2 => by omega, Upd.refl _ _⟩
 case round =>
  obtain ⟨i, rfl, hi1, hi2, hP, hu⟩ := hrel
  rename World => wr
  by_cases hi0 : 0 < i
  ·obtain ⟨j, rfl⟩ : ∃ j : Nat, i = (j : Int) := ⟨i.toNat, by omega⟩
   obtain ⟨k, hk⟩ : ∃ k : Nat, j = k + 1 := ⟨j - 1, by omega⟩
   have hgt : (j : Int) > 0 := hi0
   obtain ⟨g, off, rfl, hg, hc0⟩ := HR.out k (by omega)
   obtain ⟨g', off', he, _, hc1⟩ := HR.out j (by omega)
   cases he
   have c0 : ∀ X, Upd [] wr X → _ := fun X hX => (hu.trans hX).was hc0
   have c1 : ∀ X, Upd [] wr X → _ := fun X hX => (hu.trans hX).was hc1
   have hkI : (k : Int) < (n : Int) := by omega
   have hkI2 : (j : Int) < (n : Int) := by omega
   have hks : (j : Int) - 1 = (k : Int) := by omega
   have hwk : IntKind.i64.wrap (k : Int) = (k : Int) := IntWalk.i64_in _ (by omega)
   have HP := Lib.hid (And.intro hP (And.intro hu hk))
   have kq := kc (l.getD j 0) (l.getD k 0)
   have HV : Hid (l.getD j 0 < l.getD k 0 → rb = false) := fun h3 => HB.out false (by
    constructor
    ·intro h; cases h
    ·intro h; have := h k (by omega); rw [← hk] at this; omega)
   have HV2 : Hid (¬ l.getD j 0 < l.getD k 0 → ∀ q : Nat, (k : Int) ≤ q → q + 1 < n → l.getD q 0 ≤ l.getD (q + 1) 0) := fun h q h1 h2 => by
    by_cases e : q = k
    ·subst e; rw [← HP.out.2.2]; omega
    ·exact HP.out.1 q (by omega) h2
   clear hP hu hc0 hc1 kc hk
   by_cases hlt : l.getD j 0 < l.getD k 0
   ·have HQ := Lib.hid (HV.out hlt)
    rw [decide_eq_true hlt] at kq
    clear HV HV2 hlt
    generalize l.getD j 0 = y at *
    generalize l.getD k 0 = x at *
    go_upto_region 4 with (fail)
    go_region_held3 (Upd [] wr) (repeat (first | assumption | exact Upd.refl _ _ | refine Upd.drew ?_ | refine Upd.alloc ?_ _ | refine Upd.setCell ?_ ?_ _ | focus (left; simp; done) | focus (right; simp; done) | focus (right; simp; omega) | (apply Upd.trans; rotate_left; assumption)))
     (first
      | ((go_at_call 71; (with_reducible refine (kq _).mono ?_)); rintro e w1 ⟨rfl, rfl⟩))
    go_wp2
    go_ret
    refine ⟨?_, ?_⟩
    ·rw [HQ.out]; rfl
    ·exact HP.out.2.1.trans (by (repeat (first | assumption | exact Upd.refl _ _ | refine Upd.drew ?_ | refine Upd.alloc ?_ _ | refine Upd.setCell ?_ ?_ _ | focus (left; simp; done) | focus (right; simp; done) | focus (right; simp; omega) | (apply Upd.trans; rotate_left; assumption))))
   ·have HQ := Lib.hid (HV2.out hlt)
    rw [decide_eq_false hlt] at kq
    clear HV HV2 hlt
    generalize l.getD j 0 = y at *
    generalize l.getD k 0 = x at *
    go_upto_region 4 with (fail)
    go_region_held3 (Upd [] wr) (repeat (first | assumption | exact Upd.refl _ _ | refine Upd.drew ?_ | refine Upd.alloc ?_ _ | refine Upd.setCell ?_ ?_ _ | focus (left; simp; done) | focus (right; simp; done) | focus (right; simp; omega) | (apply Upd.trans; rotate_left; assumption)))
     (first
      | ((go_at_call 71; (with_reducible refine (kq _).mono ?_)); rintro e w1 ⟨rfl, rfl⟩))
    go_wp2
    go_roundw
    case rel => exact ⟨(k : Int), by go_num, by omega, by omega, HQ.out, HP.out.2.1.trans (by (repeat (first | assumption | exact Upd.refl _ _ | refine Upd.drew ?_ | refine Upd.alloc ?_ _ | refine Upd.setCell ?_ ?_ _ | focus (left; simp; done) | focus (right; simp; done) | focus (right; simp; omega) | (apply Upd.trans; rotate_left; assumption))))⟩
    case measure => simp [intOf]; omega
  ·have hgt : ¬ i > 0 := by omega
   have hgd : decide (i > 0) = false := by simp; omega
   have hrb := HB.out true ⟨fun _ k hk => hP k (by omega) hk, fun _ => rfl⟩
   have HQ := Lib.hid (And.intro hrb hu)
   clear hrb hu hP
   go_wp2
   go_ret
   exact ⟨by rw [HQ.out.1]; rfl, HQ.out.2⟩
end Go.Proofs.YtklibcncmbofpaaGreat
namespace Go.Proofs.YtklibcncmbofpaaGreat
open Go Go.RowKit
theorem mclos_any (w : World) (va : Value) (l : List Int) (h : SlI w [] va l) : Calls Tryz.prog 46 #[va] w fun e w' => e = .returned (.bool (!risesB l)) ∧ Upd [] w w' := by
 have h0 := h
 obtain ⟨a, cap, rfl, _, _, _⟩ := h
 have ki := issorted_any w _ l h0
 generalize risesB l = b at *
 clear h0
 generalize l.length = n at *
 go_enter Tryz.func46, Tryz.ntmps46
 go_wp2_with (first
  | ((go_at_call 47; (with_reducible refine (ki).mono ?_)); rintro e w1 ⟨rfl, hu1⟩)
  | fail)
 go_ret
 exact ⟨rfl, hu1⟩
set_option maxHeartbeats 2000000 in
theorem idxL_any (w : World) (va : Value) (Z : List (List Int)) (h : LlAt w va Z) :
  Calls Tryz.prog 70 #[va, .func (Fn.func 46) #[] #[]] w (SomeIdx (Z.any (fun l => !risesB l)) w) := by
 obtain ⟨a, cap, rfl, hcap, hcap2⟩ := h.shape
 have HE := Lib.hid h
 have hcp : Z.length ≤ 9223372036854775807 := by omega
 clear h
 generalize hn : Z.length = n at *
 have HN := Lib.hid hn
 clear hn
 go_enter Tryz.func70, Tryz.ntmps70
 go_wp2
 go_loopw [5, 8] (fun _ i wr => ∃ k : Nat, k ≤ n ∧ i = .int .i64 (k : Int) ∧ (Z.take k).any (fun l => !risesB l) = false ∧ Upd [] w wr) (fun _ i _ => n - (intOf i).toNat)
 case atStart => exact ⟨0, by omega, rfl, by simp, Upd.refl _ _⟩
 case round =>
  obtain ⟨k, hk, rfl, hany, hu⟩ := hrel
  rename World => wr
  by_cases hkn : k < n
  ·have hkE : k < Z.length := by rw [HN.out]; exact hkn
   have hx : Z[k]? = some (Z.getD k []) := by simp [List.getD_eq_getElem?_getD, hkE]
   have hmem : Z.getD k [] ∈ Z := List.mem_of_getElem? hx
   obtain ⟨g, off, ax, cx, rfl, hg, hc, hl1, hl2, hs⟩ := (HE.out.upd hu).at hx
   have kc := mclos_any wr _ _ hs
   generalize Z.getD k [] = l at *
   have HM := Lib.hid hmem
   have HT := Lib.hid (any_take (fun l => !risesB l) Z k _ hx)
   have HA := Lib.hid hany
   have hwr : IntKind.i64.wrap ((k : Int) + 1) = (k : Int) + 1 := IntWalk.i64_in _ (by omega)
   have hkI : (k : Int) < (n : Int) := by omega
   clear hx hmem hany hs
   generalize l.length = nl at *
   cases hp : (!risesB l) with
   | false =>
    rw [hp] at kc
    have HP := Lib.hid hp
    clear hp
    go_wp2_with (first
     | ((go_at_call 46; (with_reducible refine (kc).mono ?_)); rintro e w2 ⟨rfl, hu2⟩)
     | fail)
    go_roundw
    case rel => exact ⟨k + 1, by omega, by go_num, by rw [HT.out, HA.out, HP.out]; rfl, hu.trans hu2⟩
    case measure => simp [intOf]; omega
   | true =>
    rw [hp] at kc
    have HP := Lib.hid hp
    clear hp
    go_wp2_with (first
     | ((go_at_call 46; (with_reducible refine (kc).mono ?_)); rintro e w2 ⟨rfl, hu2⟩)
     | fail)
    go_ret
    refine ⟨(k : Int), rfl, ?_, hu.trans hu2⟩
    rw [List.any_eq_true.2 ⟨_, HM.out, HP.out⟩]
    simp
  ·obtain rfl : k = n := by omega
   have hfin : Z.any (fun l => !risesB l) = false := by rw [← hany, ← HN.out, List.take_length]
   have HF := Lib.hid hfin
   have hkD : decide ((k : Int) < (k : Int)) = false := by simp
   clear hany hfin
   go_wp2
   go_ret
   exact ⟨-1, rfl, by rw [HF.out]; rfl, hu⟩
theorem conL_any (w : World) (va : Value) (Z : List (List Int)) (h : LlAt w va Z) :
  Calls Tryz.prog 45 #[va, .func (Fn.func 46) #[] #[]] w fun e w' => e = .returned (.bool (Z.any (fun l => !risesB l))) ∧ Upd [] w w' := by
 have k := idxL_any w va Z h
 unfold SomeIdx at k
 obtain ⟨a, cap, rfl, hcap, hcap2⟩ := h.shape
 clear h
 generalize Z.any (fun l => !risesB l) = b at *
 generalize Z.length = n at *
 go_enter Tryz.func45, Tryz.ntmps45
 go_wp2_with (first
  | ((go_at_call 70; (with_reducible refine (k).mono ?_)); rintro e w1 ⟨i, rfl, hi, hu1⟩)
  | fail)
 go_ret
 exact ⟨ret_bool (by rw [← hi]), hu1⟩
theorem merge_big (kd d : Int) (va : Value) (Z : List (List Int)) (w : World) (h : LlAt w va Z) (hkb : ∀ i, i < Z.length → (Z.getD i []).length ≤ 1000000000000) (hc : chk kd d = 0) (hb : 65536 < totL Z) :
  Calls Tryz.prog 23 #[.agg #[.int .i64 kd, .int .i64 d], va] w fun e w' => e = .returned (.tuple #[.slice none 0 0, .int .i64 201]) ∧ Upd [] w w' := by
 have km := fun W (hW : Upd [] w W) => rmany_any W va Z (h.upd hW) hkb
 have hb2 := manyL_big Z 0 (by omega)
 have kp := fun W => rkopen_big kd d (manyL 0 Z : Int) 1 W hc (by omega)
 obtain ⟨a, cap, rfl, hcap, hcap2⟩ := h.shape
 clear h hkb hc hb
 generalize manyL 0 Z = m at *
 generalize Z.length = n at *
 go_enter Tryz.func23, Tryz.ntmps23
 go_wp2_with (first
  | ((go_at_call 44; (with_reducible refine (km _ (by (repeat (first | assumption | exact Upd.refl _ _ | refine Upd.alloc ?_ _ | refine Upd.drew ?_ | refine Upd.drewN ?_ _ | refine Upd.setCell ?_ ?_ _ | focus (left; simp; done) | focus (right; simp; done) | focus (right; simp; omega))))).mono ?_)); rintro e w1 ⟨rfl, hu1⟩; (have q0 : w1.cell? ⟨w.heap.size, 0, none⟩ = some (.int .i64 kd) := hu1.was (by go_simp)); (have q1 : w1.cell? ⟨w.heap.size, 1, none⟩ = some (.int .i64 d) := hu1.was (by go_simp)); (have hw1 : Upd [] w w1 := Upd.trans (by (repeat (first | assumption | exact Upd.refl _ _ | refine Upd.alloc ?_ _ | refine Upd.drew ?_ | refine Upd.drewN ?_ _ | refine Upd.setCell ?_ ?_ _ | focus (left; simp; done) | focus (right; simp; done) | focus (right; simp; omega)))) hu1))
  | ((go_at_call 39; (with_reducible refine (kp _).mono ?_)); rintro e w2 ⟨rfl, hu2⟩)
  | fail)
 go_ret2
 exact ⟨rfl, hw1.trans hu2⟩
theorem merge_bad {K : NestQ} (kd d : Int) (va : Value) (Z : List (List Int)) (w : World) (h : LlAt w va Z) (hkb : ∀ i, i < Z.length → (Z.getD i []).length ≤ 1000000000000) (hc : chk kd d = 0) (hb : totL Z ≤ 65536) (hl : Z.length ≤ 65536) (hr : Z.any (fun l => !risesB l) = true) (ko : Opens K kd d (totL Z)) :
  Calls Tryz.prog 23 #[.agg #[.int .i64 kd, .int .i64 d], va] w fun e w' => e = .returned (.tuple #[.slice none 0 0, .int .i64 201]) ∧ Upd [] w w' := by
 have km := fun W (hW : Upd [] w W) => rmany_any W va Z (h.upd hW) hkb
 have kc := fun W (hW : Upd [] w W) => conL_any W va Z (h.upd hW)
 rw [hr] at kc
 have hm := manyL_le Z 0 (by omega)
 rw [Nat.zero_add] at hm
 rw [hm] at km
 have kp : ∀ W : World, _ := fun W => rkopen_yes kd d (totL Z) 1 W hc hb (by omega) ko
 rw [show ((1 : Nat) : Int) = 1 from rfl] at kp
 obtain ⟨a, cap, rfl, hcap, hcap2⟩ := h.shape
 clear h hkb hc hb hr hm ko
 generalize totL Z = m at *
 generalize Z.length = n at *
 have hnD : ¬ (n : Int) > 65536 := by omega
 have hnB : decide ((n : Int) > 65536) = false := by simp; omega
 go_enter Tryz.func23, Tryz.ntmps23
 go_wp2_with (first
  | ((go_at_call 44; (with_reducible refine (km _ (by (repeat (first | assumption | exact Upd.refl _ _ | refine Upd.alloc ?_ _ | refine Upd.drew ?_ | refine Upd.drewN ?_ _ | refine Upd.setCell ?_ ?_ _ | focus (left; simp; done) | focus (right; simp; done) | focus (right; simp; omega))))).mono ?_)); rintro e w1 ⟨rfl, hu1⟩; (have q0 : w1.cell? ⟨w.heap.size, 0, none⟩ = some (.int .i64 kd) := hu1.was (by go_simp)); (have q1 : w1.cell? ⟨w.heap.size, 1, none⟩ = some (.int .i64 d) := hu1.was (by go_simp)); (have hw1 : Upd [] w w1 := Upd.trans (by (repeat (first | assumption | exact Upd.refl _ _ | refine Upd.alloc ?_ _ | refine Upd.drew ?_ | refine Upd.drewN ?_ _ | refine Upd.setCell ?_ ?_ _ | focus (left; simp; done) | focus (right; simp; done) | focus (right; simp; omega)))) hu1))
  | ((go_at_call 39; (with_reducible refine (kp _).mono ?_)); rintro e w2 ⟨p, F, rfl, hP0, hu2, hF⟩)
  | ((go_at_call 45; (with_reducible refine (kc _ (hw1.trans hu2)).mono ?_)); rintro e w3 ⟨rfl, hu3⟩)
  | fail)
 go_ret2
 exact ⟨rfl, (hw1.trans hu2).trans hu3⟩
end Go.Proofs.YtklibcncmbofpaaGreat
namespace Go.Proofs.YtklibcncmbofpaaGreat
open Go Go.RowKit
theorem opens_bin (n : Nat) (hn : n ≤ 65536) : Opens (nestDrQ 2) 1 0 n := opens_dr 1 0 n 2 (by decide) (Or.inl rfl) (by decide) hn
theorem slk2 {W : World} {g : Nat} {x y : Int} (h0 : W.cell? ⟨g, 0, none⟩ = some (.int .i64 x)) (h1 : W.cell? ⟨g, 1, none⟩ = some (.int .i64 y)) : SlI W [] (.slice (some ⟨g, 0, none⟩) 2 2) [x, y] := by
 refine ⟨some ⟨g, 0, none⟩, 2, rfl, by simp, by omega, fun j v hj => ⟨g, 0, rfl, World.block_lt_of_cell? W _ h0, by simp, ?_⟩⟩
 match j, hj with
 | 0, hj => simp at hj; subst hj; exact h0
 | 1, hj => simp at hj; subst hj; exact h1
 | j + 2, hj => simp at hj
theorem slk1 {W : World} {g : Nat} {x : Int} (h0 : W.cell? ⟨g, 0, none⟩ = some (.int .i64 x)) : SlI W [] (.slice (some ⟨g, 0, none⟩) 1 1) [x] := by
 refine ⟨some ⟨g, 0, none⟩, 1, rfl, by simp, by omega, fun j v hj => ⟨g, 0, rfl, World.block_lt_of_cell? W _ h0, by simp, ?_⟩⟩
 match j, hj with
 | 0, hj => simp at hj; subst hj; exact h0
 | j + 1, hj => simp at hj
theorem exLeast (W : World) : Calls Tryz.prog 17 #[.agg #[.int .i64 1, .int .i64 0], .slice none 0 0, .int .i64 1] W fun e w' => e = .returned (.tuple #[.slice none 0 0, .int .i64 201]) ∧ Upd [] W w' :=
 least_bad 1 0 none 0 0 1 W (by decide) (by omega) (Or.inr (by omega)) (opens_bin 0 (by omega))
theorem exMerge {W : World} {g h : Nat} (h0 : W.cell? ⟨g, 0, none⟩ = some (.slice (some ⟨h, 0, none⟩) 2 2)) (h1 : W.cell? ⟨h, 0, none⟩ = some (.int .i64 2)) (h2 : W.cell? ⟨h, 1, none⟩ = some (.int .i64 1)) :
  Calls Tryz.prog 23 #[.agg #[.int .i64 1, .int .i64 0], .slice (some ⟨g, 0, none⟩) 1 1] W fun e w' => e = .returned (.tuple #[.slice none 0 0, .int .i64 201]) ∧ Upd [] W w' := by
 refine merge_bad 1 0 _ [[2, 1]] W ⟨_, 1, rfl, by simp, by omega, fun x l hx => ?_⟩ (by decide) (by decide) (by decide) (by decide) (by decide) (opens_bin _ (by decide))
 match x, hx with
 | 0, hx => simp at hx; subst hx; exact ⟨g, 0, _, rfl, World.block_lt_of_cell? W _ h0, h0, slk2 h1 h2⟩
 | x + 1, hx => simp at hx
theorem exMed0 (W : World) : Calls Tryz.prog 21 #[.agg #[.int .i64 0, .int .i64 0], .slice none 0 0] W fun e w' => e = .returned (.tuple #[.slice none 0 0, .int .i64 21]) ∧ Upd [] W w' := rmed_err 0 0 none 0 0 W (by decide)
theorem exSort2 (a : Option Addr) (W : World) : Calls Tryz.prog 16 #[.agg #[.int .i64 2, .int .i64 0], .slice a 65537 65537] W fun e w' => e = .returned (.tuple #[.slice none 0 0, .int .i64 22]) ∧ Upd [] W w' := rsort_err 2 0 a 65537 65537 W (by decide)
theorem rep_get {n j : Nat} {u : Int} (h : (List.replicate n (0 : Int))[j]? = some u) : j < n ∧ u = 0 := by
 rw [List.getElem?_replicate] at h
 split at h
 ·cases h; exact ⟨by assumption, rfl⟩
 ·cases h
theorem exMerge2 {W X : World} {g ga gb n : Nat} (h0 : W.cell? ⟨g, 0, none⟩ = some (.slice (some ⟨ga, 0, none⟩) n n)) (hn : n = 65536) (h1 : W.cell? ⟨g, 1, none⟩ = some (.slice (some ⟨gb, 0, none⟩) 1 1)) (h2 : W.cell? ⟨gb, 0, none⟩ = some (.int .i64 1)) (hga : ga = X.heap.size) (hu : Upd [] (X.alloc (.cells (madeCells #[.int .i64 0] n) 2)) W) :
  Calls Tryz.prog 23 #[.agg #[.int .i64 1, .int .i64 0], .slice (some ⟨g, 0, none⟩) 2 2] W fun e w' => e = .returned (.tuple #[.slice none 0 0, .int .i64 201]) ∧ Upd [] W w' := by
 subst hga
 have hl : ∀ i, i < [List.replicate n (0 : Int), [1]].length → ([List.replicate n (0 : Int), [1]].getD i []).length ≤ 1000000000000 := fun i hi => by
  match i, hi with
  | 0, _ => simp; omega
  | 1, _ => simp
  | i + 2, hi => exact absurd hi (by simp)
 refine merge_big 1 0 _ [List.replicate n 0, [1]] W ⟨_, 2, rfl, by simp, by omega, fun x l hx => ?_⟩ hl (by decide) (by simp [totL]; omega)
 match x, hx with
 | 0, hx =>
  simp at hx; subst hx
  refine ⟨g, 0, _, rfl, World.block_lt_of_cell? W _ h0, h0, some ⟨X.heap.size, 0, none⟩, n, by simp, by simp, by omega, fun j u hj => ?_⟩
  obtain ⟨hj1, rfl⟩ := rep_get hj
  have hb : X.heap.size < W.heap.size := by have := hu.size; simp at this; omega
  refine ⟨X.heap.size, 0, rfl, hb, by simp, hu.was ?_⟩
  have hr : RowAt (X.alloc (.cells (madeCells #[.int .i64 0] n) 2)) X.heap.size 2 n (fun j => (madeCells #[.int .i64 0] n).toList.getD j undef) := by
   refine ⟨madeCells #[.int .i64 0] n, ?_, by simp [madeCells], fun j hj => ?_⟩
   ·show (X.heap.push _)[X.heap.size]? = _; simp
   ·simp [madeCells, List.getD_eq_getElem?_getD, hj]
  rw [Nat.zero_add]
  exact hr.cellAt j hj1 (by simp [madeCells, List.getD_eq_getElem?_getD, hj1, Nat.mod_one])
 | 1, hx => simp at hx; subst hx; exact ⟨g, 0, _, rfl, World.block_lt_of_cell? W _ h0, h1, slk1 h2⟩
 | x + 2, hx => simp at hx
theorem exMergeA' (n : Nat) (hn : n = 65536) (w : World) : Calls Tryz.prog 23 #[.agg #[.int .i64 1, .int .i64 0], .slice (some ⟨w.heap.size + 1 + 1, 0, none⟩) 2 2] (((w.alloc (.cells (madeCells #[.int .i64 0] n) 2)).alloc (.cells #[.int .i64 1] 2)).alloc (.cells #[.slice (some ⟨w.heap.size, 0, none⟩) n n, .slice (some ⟨w.heap.size + 1, 0, none⟩) 1 1] 24)).drew fun e w' => e = .returned (.tuple #[.slice none 0 0, .int .i64 201]) ∧ Upd [] w w' := by
 have k := fun W X g ga gb h0 h1 h2 h3 h4 => exMerge2 (W := W) (X := X) (g := g) (ga := ga) (gb := gb) (n := n) h0 hn h1 h2 h3 h4
 generalize madeCells #[.int .i64 0] n = o at *
 exact (k _ w _ w.heap.size (w.heap.size + 1) (by go_simp) (by go_simp) (by go_simp) rfl (by (repeat (first | assumption | exact Upd.refl _ _ | refine Upd.alloc ?_ _ | refine Upd.drew ?_ | refine Upd.drewN ?_ _ | refine Upd.setCell ?_ ?_ _ | focus (left; simp; done) | focus (right; simp; done) | focus (right; simp; omega))))).mono (fun e w' h => ⟨h.1, Upd.trans (by (repeat (first | assumption | exact Upd.refl _ _ | refine Upd.alloc ?_ _ | refine Upd.drew ?_ | refine Upd.drewN ?_ _ | refine Upd.setCell ?_ ?_ _ | focus (left; simp; done) | focus (right; simp; done) | focus (right; simp; omega)))) h.2⟩)
theorem exMergeB' (n : Nat) (hn : n = 65536) (w : World) : Calls Tryz.prog 23 #[.agg #[.int .i64 1, .int .i64 0], .slice (some ⟨w.heap.size + 1 + 1, 0, none⟩) 2 2] (((w.alloc (.cells #[.int .i64 1] 2)).alloc (.cells (madeCells #[.int .i64 0] n) 2)).alloc (.cells #[.slice (some ⟨w.heap.size + 1, 0, none⟩) n n, .slice (some ⟨w.heap.size, 0, none⟩) 1 1] 24)).drew fun e w' => e = .returned (.tuple #[.slice none 0 0, .int .i64 201]) ∧ Upd [] w w' := by
 have k := fun W X g ga gb h0 h1 h2 h3 h4 => exMerge2 (W := W) (X := X) (g := g) (ga := ga) (gb := gb) (n := n) h0 hn h1 h2 h3 h4
 generalize madeCells #[.int .i64 0] n = o at *
 exact (k _ (w.alloc (.cells #[.int .i64 1] 2)) _ (w.heap.size + 1) w.heap.size (by go_simp) (by go_simp) (by go_simp) (by simp) (by (repeat (first | assumption | exact Upd.refl _ _ | refine Upd.alloc ?_ _ | refine Upd.drew ?_ | refine Upd.drewN ?_ _ | refine Upd.setCell ?_ ?_ _ | focus (left; simp; done) | focus (right; simp; done) | focus (right; simp; omega))))).mono (fun e w' h => ⟨h.1, Upd.trans (by (repeat (first | assumption | exact Upd.refl _ _ | refine Upd.alloc ?_ _ | refine Upd.drew ?_ | refine Upd.drewN ?_ _ | refine Upd.setCell ?_ ?_ _ | focus (left; simp; done) | focus (right; simp; done) | focus (right; simp; omega)))) h.2⟩)
set_option maxHeartbeats 4000000 in
set_option maxRecDepth 10000 in
theorem rknames_any (w : World) : Calls Tryz.prog 6 #[] w fun r w' => r = .returned (.bool true) ∧ Upd [] w w' := by
 have hmk : ∀ w : World, (Instr.makeSlice 24 (.int .i64 65537) (.int .i64 65537)).run Tryz.prog w = .ok (.slice (some ⟨w.heap.size, 0, none⟩) 65537 65537) (w.alloc (.cells (madeCells #[.int .i64 0] 65537) 2)) := fun w => run_make_row' (P := Tryz.prog) 24 2 (.int .i64 0) 8 Tryz.underlying24 i64Info rfl .i64 .i64 65537 (by omega) (by omega) w
 have hmj : ∀ w : World, (Instr.makeSlice 24 (.int .i64 65536) (.int .i64 65536)).run Tryz.prog w = .ok (.slice (some ⟨w.heap.size, 0, none⟩) 65536 65536) (w.alloc (.cells (madeCells #[.int .i64 0] 65536) 2)) := fun w => run_make_row' (P := Tryz.prog) 24 2 (.int .i64 0) 8 Tryz.underlying24 i64Info rfl .i64 .i64 65536 (by omega) (by omega) w
 go_enter Tryz.func6, Tryz.ntmps6
 go_upto_region 2 with (fail)
 refine wp_nm (fun W => W.cell? ⟨w.heap.size, 0, none⟩ = some (.int .i64 1) ∧ W.cell? ⟨w.heap.size, 1, none⟩ = some (.int .i64 0) ∧ Upd [] w W) ⟨by go_simp, by go_simp, by (repeat (first | assumption | exact Upd.refl _ _ | refine Upd.alloc ?_ _ | refine Upd.drew ?_ | refine Upd.drewN ?_ _ | refine Upd.setCell ?_ ?_ _ | focus (left; simp; done) | focus (right; simp; done) | focus (right; simp; omega)))⟩ ?_
 rintro W ⟨x0, x1, hW⟩
 have e0 : ∀ X, Upd [] W X → X.cell? ⟨w.heap.size, 0, none⟩ = some (.int .i64 1) := fun X h => h.was x0
 have e1 : ∀ X, Upd [] W X → X.cell? ⟨w.heap.size, 1, none⟩ = some (.int .i64 0) := fun X h => h.was x1
 have HW := Lib.hid hW
 clear x0 x1 hW
 go_region_held3 (Upd [] W) (repeat (first | assumption | exact Upd.refl _ _ | refine Upd.drew ?_ | refine Upd.alloc ?_ _ | refine Upd.setCell ?_ ?_ _ | focus (left; simp; done) | focus (right; simp; done) | focus (right; simp; omega) | (apply Upd.trans; rotate_left; assumption)))
  (first
   | ((go_at_call 16; (with_reducible refine (rsort_big 1 0 _ 65537 _ _ (by decide) (by omega)).mono ?_)); rintro e w2 ⟨rfl, hu2⟩; (have hv2 : Upd [] W w2 := Upd.trans (by (repeat (first | assumption | exact Upd.refl _ _ | refine Upd.drew ?_ | refine Upd.alloc ?_ _ | refine Upd.setCell ?_ ?_ _ | focus (left; simp; done) | focus (right; simp; done) | focus (right; simp; omega) | (apply Upd.trans; rotate_left; assumption)))) hu2)))
 have q0 := e0 w2 hv2
 have q1 := e1 w2 hv2
 have hw2 : Upd [] w w2 := HW.out.trans hv2
 clear e0 e1 hv2 HW hu2
 go_upto_region 6 with (first
  | ((go_at_call 17; (with_reducible refine (exLeast _).mono ?_)); rintro e w3 ⟨rfl, hu3⟩; (have q2 := hu3.was q0); (have q3 := hu3.was q1); (have hb3 : w.heap.size < w3.heap.size := World.block_lt_of_cell? _ _ q2))
  | ((go_at_call 23; (with_reducible refine (exMerge (h := w3.heap.size) (by go_simp) (by go_simp) (by go_simp)).mono ?_)); rintro e w4 ⟨rfl, hu4⟩; (have q4 : w4.cell? ⟨w.heap.size, 0, none⟩ = some (.int .i64 1) := hu4.was (by go_simp)); (have q5 : w4.cell? ⟨w.heap.size, 1, none⟩ = some (.int .i64 0) := hu4.was (by go_simp)))
  | ((go_at_call 21; (with_reducible refine (exMed0 _).mono ?_)); rintro e w5 ⟨rfl, hu5⟩; (have q6 := hu5.was q4); (have q7 := hu5.was q5))
  | fail)
 have hw5 : Upd [] w w5 := (((hw2.trans hu3).trans (Upd.trans (by (repeat (first | assumption | exact Upd.refl _ _ | refine Upd.alloc ?_ _ | refine Upd.drew ?_ | refine Upd.drewN ?_ _ | refine Upd.setCell ?_ ?_ _ | focus (left; simp; done) | focus (right; simp; done) | focus (right; simp; omega)))) hu4))).trans hu5
 have e0 : ∀ X, Upd [] w5 X → X.cell? ⟨w.heap.size, 0, none⟩ = some (.int .i64 1) := fun X h => h.was q6
 have e1 : ∀ X, Upd [] w5 X → X.cell? ⟨w.heap.size, 1, none⟩ = some (.int .i64 0) := fun X h => h.was q7
 have HW := Lib.hid hw5
 clear q0 q1 q2 q3 q4 q5 q6 q7 hw2 hu3 hu4 hu5 hw5
 go_region_held3 (Upd [] w5) (repeat (first | assumption | exact Upd.refl _ _ | refine Upd.drew ?_ | refine Upd.alloc ?_ _ | refine Upd.setCell ?_ ?_ _ | focus (left; simp; done) | focus (right; simp; done) | focus (right; simp; omega) | (apply Upd.trans; rotate_left; assumption)))
  (first
   | ((go_at_call 23; (with_reducible first | refine (exMergeA' 65536 rfl _).mono ?_ | refine (exMergeB' 65536 rfl _).mono ?_)); rintro e w6 ⟨rfl, hv6⟩))
 all_goals
  have HV := Lib.hid (HW.out.trans hv6)
  clear HW hv6 e0 e1
  go_upto_region 8 with (first
   | ((go_at_call 16; (with_reducible refine (exSort2 _ _).mono ?_)); rintro e w7 ⟨rfl, hu7⟩)
   | fail)
  go_wp2_with (first
   | ((go_at_call 15; (with_reducible refine (rkalive_any _).mono ?_)); rintro e w8 ⟨rfl, hu8⟩)
   | fail)
  go_ret
  exact ⟨rfl, HV.out.trans (Upd.trans (Upd.trans (by (repeat (first | assumption | exact Upd.refl _ _ | refine Upd.alloc ?_ _ | refine Upd.drew ?_ | refine Upd.drewN ?_ _ | refine Upd.setCell ?_ ?_ _ | focus (left; simp; done) | focus (right; simp; done) | focus (right; simp; omega)))) hu7) hu8)⟩
end Go.Proofs.YtklibcncmbofpaaGreat
