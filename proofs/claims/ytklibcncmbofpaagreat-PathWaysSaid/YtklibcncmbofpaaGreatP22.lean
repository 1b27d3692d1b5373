/-
  Lemmas for PathWays: Pth2, Ds, PrT, PrD, PrR, PrM, PrN. Conditions: those of each lemma.
-/
import Derived.Deep.RegionHeld3
import Derived.WalkKit
import Derived.WalkSpells
import Derived.WalkLawsBesides
import Derived.BigQuiet
import Derived.ProofKit
import Derived.OpenShut
import Derived.Lib.Hide
import Derived.Test.YtklibcncmbofpaaGreatProg
import Derived.Maps.AppendAt
import Derived.StillTailTactics
import Derived.Maps.OwnSet
import Derived.Maps.OwnOps
import Derived.Maps.RangeWalk
import Derived.Deep.RegionLaw
import Derived.Deep.DeepCutAuto
import Derived.DeepKeys4
import Derived.IntWalk
import Derived.Deep.Slices
import Derived.Deep.Strs
import Derived.Lib.Mul64
import Derived.Laws.Bits64b
import Derived.Lib.MinMax
import Derived.Shelf.Bits.Mul64
import Derived.Shelf.Slices.Reverse
import Derived.Ground.Names2Prog
import Derived.Shelf.Slices.Clone
import Derived.Shelf.Slices.Cells
import Derived.Ground.SlgnProg
import Derived.Shelf.SlicesE.Clone
import Derived.Deep.LoopGhost
import Derived.Deep.OwnRows
import Derived.Test.YtklibcncmbofpaaGreatP01
import Derived.Test.YtklibcncmbofpaaGreatP02
import Derived.Test.YtklibcncmbofpaaGreatP03
import Derived.Test.YtklibcncmbofpaaGreatP04
import Derived.Test.YtklibcncmbofpaaGreatP05
import Derived.Test.YtklibcncmbofpaaGreatP06
import Derived.Test.YtklibcncmbofpaaGreatP07
import Derived.Test.YtklibcncmbofpaaGreatP08
import Derived.Test.YtklibcncmbofpaaGreatP09
import Derived.Test.YtklibcncmbofpaaGreatP10
import Derived.Test.YtklibcncmbofpaaGreatP11
import Derived.Test.YtklibcncmbofpaaGreatP12
import Derived.Test.YtklibcncmbofpaaGreatP13
import Derived.Test.YtklibcncmbofpaaGreatP21
set_option linter.unusedVariables false
set_option linter.unusedSimpArgs false
namespace Go.Proofs.YtklibcncmbofpaaGreat
open Go Go.RowKit
theorem MapH.drew {w : World} {b c : Nat} {f : Int → Int → Option Int} (h : MapH w b c f) : MapH w.drew b c f := h.upd (S := []) ((Upd.refl _ _).drew) (by simp)
section
variable {K : NestQ} {w : World} {X : SrB} {F : List Nat} {kd dd : Int} {N : Nat} {D B : List Int} {hc : Nat → Value} {c : Nat} {f : Int → Int → Option Int} {R : AR} {A : NS} {q : Nat}
theorem SrM.nes (h : SrM K w X F kd dd N D B hc c f R A q) : (X.b ≠ X.gh ∧ X.gd ≠ X.gh ∧ X.gb ≠ X.gh ∧ X.mb ≠ X.gh) ∧ (X.b ≠ X.mb ∧ X.gd ≠ X.mb ∧ X.gb ≠ X.mb ∧ X.gh ≠ X.mb) := by
 have hn := h.nd
 simp only [SrB.own, List.nodup_cons, List.mem_cons, List.not_mem_nil, or_false, not_or] at hn
 obtain ⟨⟨a1, a2, a3, a4⟩, ⟨a5, a6, a7⟩, ⟨a8, a9⟩, a10, _⟩ := hn
 exact ⟨⟨a3, a6, a8, fun e => a10 e.symm⟩, ⟨a4, a7, a9, a10⟩⟩
def hcPut (hc : Nat → Value) (v : Nat) (x g : Int) (j : Nat) : Value := if j = v * 2 + 1 then .int .u32 g else if j = v * 2 then .int .i64 x else hc j
theorem SrM.setH (h : SrM K w X F kd dd N D B hc c f R A q) (v : Nat) (x g : Int) : SrM K ((w.setCell ⟨X.gh, v * 2, none⟩ (.int .i64 x)).setCell ⟨X.gh, v * 2 + 1, none⟩ (.int .u32 g)) X F kd dd N D B (hcPut hc v x g) c f R A q := by
 have hu : Upd [X.gh] w ((w.setCell ⟨X.gh, v * 2, none⟩ (.int .i64 x)).setCell ⟨X.gh, v * 2 + 1, none⟩ (.int .u32 g)) := ((Upd.refl _ _).setCell (Or.inl (by simp)) _).setCell (Or.inl (by simp)) _
 obtain ⟨⟨a1, a2, a3, a4⟩, _⟩ := h.nes
 exact ⟨h.head.upd hu (by simpa using a1), h.dist.upd hu (by simpa using a2), h.by'.upd hu (by simpa using a3), ((h.hrow.set (v * 2) _).set (v * 2 + 1) _).ext (fun j _ => rfl), h.map.upd hu (by simpa using a4), h.pq.upd hu (fun z hz => by simp at hz; subst hz; exact h.nF _ (by simp [SrB.own])), h.lD, h.lB, h.nd, h.nF⟩
theorem SrM.setM (h : SrM K w X F kd dd N D B hc c f R A q) {w' : World} {c' : Nat} {f' : Int → Int → Option Int} (hm : MapH w' X.mb c' f') (hu : Upd [X.mb] w w') : SrM K w' X F kd dd N D B hc c' f' R A q := by
 obtain ⟨_, ⟨a1, a2, a3, a4⟩⟩ := h.nes
 exact ⟨h.head.upd hu (by simpa using a1), h.dist.upd hu (by simpa using a2), h.by'.upd hu (by simpa using a3), h.hrow.upd hu (by simpa using a4), hm, h.pq.upd hu (fun z hz => by simp at hz; subst hz; exact h.nF _ (by simp [SrB.own])), h.lD, h.lB, h.nd, h.nF⟩
set_option maxHeartbeats 4000000 in
set_option maxRecDepth 10000 in
theorem reach_new (h : SrM K w X F kd dd N D B hc c f R A q) (v : Nat) (hv : v < N) (far y : Int) (h1 : D.getD v 0 = 9223372036854775807) (h2 : far < 9223372036854775807) (hb : -9223372036854775808 ≤ far) (hB : hasN A 1 = true) (hq : q + 1 ≤ 18446744073709551615) (hN : N ≤ 65536) (hcc : c < 9223372036854775807) {x : Nat} {R' : AR} (hT : takeR R = some (x, R')) :
  Calls Tryz.prog 54 #[.pointer (some ⟨X.b, 0, none⟩), .int .i64 (v : Int), .int .i64 far, .int .i64 y] w fun e w' => e = .returned (.tuple #[]) ∧ ∃ F', SrM K w' X F' kd dd N (D.set v far) (B.set v y) (hcPut hc v (x : Int) ((R.g x : Int) + 1)) (c + 1) (fun z e => if z = (x : Int) ∧ e = (R.g x : Int) + 1 then some (v : Int) else f z e) R' (putN A 1 (x : Int) far ((q : Int) + 1)) (q + 1) ∧ Upd (X.own ++ F) w w' ∧ ∀ z, z ∈ F' → z ∈ F ∨ w.heap.size ≤ z := by
 have c0 := h.c0
 have c2 := h.c2
 have d0 := h.dist.cell v (by rw [h.lD]; exact hv)
 have hvI : (v : Int) < (N : Int) := by omega
 have ki := pinsert_yes h.pq 1 far hB (by omega) hq hT
 have hTk := take_ok h.pq.ok.2.1 hT
 have hgb : R.g x + 1 ≤ 4294967295 := by have := hTk.2.2.2.1; have := h.pq.ok.2.1.mst; omega
 have hxb : x < 65536 := by have := hTk.2.1; have := h.pq.ok.2.1.n; omega
 have HH := Lib.hid h
 have HV := Lib.hid hv
 rw [h1] at d0
 have hge : decide (far ≥ 9223372036854775807) = false := decide_eq_false (by omega)
 generalize R.g x = gx at *
 clear h h1 hTk hB hT
 go_enter Tryz.func54, Tryz.ntmps54
 go_upto_region 3 with (first
  | ((go_at_call 40; (with_reducible refine (ki).mono ?_)); rintro e w1 ⟨rfl, hg⟩)
  | fail)
 obtain ⟨F', hS, hu1, hf1⟩ := HH.out.store hg
 refine wp_nm (fun W => W.cell? ⟨w1.heap.size, 0, none⟩ = some (.int .i64 (x : Int)) ∧ W.cell? ⟨w1.heap.size, 1, none⟩ = some (.int .u32 ((gx : Int) + 1)) ∧ Upd [] w1 W) ⟨by go_simp, by go_simp, by (repeat (first | assumption | exact Upd.refl _ _ | refine Upd.alloc ?_ _ | refine Upd.drew ?_ | refine Upd.drewN ?_ _ | refine Upd.setCell ?_ ?_ _ | focus (left; simp; done) | focus (right; simp; done) | focus (right; simp; omega)))⟩ ?_
 rintro W ⟨x0, x1, hW⟩
 have hSW := hS.upd0 hW
 have z3 := hSW.c3
 have t0 := hSW.hrow.cell (v * 2) (by have := HV.out; omega)
 have t1 := hSW.hrow.cell (v * 2 + 1) (by have := HV.out; omega)
 have ft0 := hSW.hrow.free (v * 2)
 have ft1 := hSW.hrow.free (v * 2 + 1)
 have hlt := hS.lt
 have hxg : ¬ w1.heap.size = X.gh := fun e => by have := hlt X.gh (by simp [SrB.own]); omega
 have hxg2 : ¬ X.gh = w1.heap.size := fun e => hxg e.symm
 have HS := Lib.hid (And.intro hSW (And.intro hu1 (And.intro hf1 hW)))
 clear hS hu1 hf1 hW hg hSW ki c0 c2 d0 hge
 go_region
 all_goals
  obtain ⟨hSW, hu1, hf1, hW⟩ := HS.out
  have hSH := hSW.setH v (x : Int) ((gx : Int) + 1)
  go_upto_region 4 with (fail)
  refine wp_nm (fun W2 => SrM K W2 X F' kd dd N D B (hcPut hc v (x : Int) ((gx : Int) + 1)) c f R' (putN A 1 (x : Int) far ((q : Int) + 1)) (q + 1) ∧ W2.cell? ⟨w1.heap.size, 0, none⟩ = some (.int .i64 (x : Int)) ∧ W2.cell? ⟨w1.heap.size, 1, none⟩ = some (.int .u32 ((gx : Int) + 1)) ∧ Upd [X.gh] W W2) ⟨hSH.upd0 (by (repeat (first | assumption | exact Upd.refl _ _ | refine Upd.alloc ?_ _ | refine Upd.drew ?_ | refine Upd.drewN ?_ _ | refine Upd.setCell ?_ ?_ _ | focus (left; simp; done) | focus (right; simp; done) | focus (right; simp; omega)))), by go_simp, by go_simp, by (repeat (first | assumption | exact Upd.refl _ _ | refine Upd.alloc ?_ _ | refine Upd.drew ?_ | refine Upd.drewN ?_ _ | refine Upd.setCell ?_ ?_ _ | focus (left; simp; done) | focus (right; simp; done) | focus (right; simp; omega)))⟩ ?_
  rintro W2 ⟨hS2, y0, y1, hW2⟩
  have z4 := hS2.c4
  have hmap := hS2.map
  have hxm : w1.heap.size ∉ [X.mb] := fun e => by simp at e; have := hlt X.mb (by simp [SrB.own]); omega
  have H2 := Lib.hid (And.intro hS2 (And.intro hW2 (And.intro hu1 (And.intro hf1 hW))))
  clear hS2 hW2 hSH hSW hu1 hf1 hW x0 x1 t0 t1 ft0 ft1 z3
  obtain ⟨w7, hrun, hm7, hu7⟩ := hmap.drew.store hcc (x : Int) ((gx : Int) + 1) (v : Int) (by omega) (by omega) (by omega)
  unfold hV at hrun
  go_region
  all_goals
   obtain ⟨hS2, hW2, hu1, hf1, hW⟩ := H2.out
   have hS7 := (hS2.upd0 ((Upd.refl _ _).drew)).setM hm7 hu7
   have u0 := hS7.c0
   have u1 := hS7.c1
   have g0 := hS7.dist.cell v (by rw [hS7.lD]; exact HV.out)
   have g1 := hS7.by'.cell v (by rw [hS7.lB]; exact HV.out)
   have fg0 := hS7.dist.free v
   have fg1 := hS7.by'.free v
   obtain ⟨hn1, hn2⟩ := hS7.ne
   have hUF : Upd (X.own ++ F) w w7 := ((((hu1.mono (fun z hz => by simp [hz])).trans (hW.mono (by simp))).trans (hW2.mono (fun z hz => by simp at hz; simp [SrB.own, hz]))).trans (((Upd.refl [] _).drew).mono (by simp))).trans (hu7.mono (fun z hz => by simp at hz; simp [SrB.own, hz]))
   have HS7 := Lib.hid (And.intro hS7 (And.intro hUF hf1))
   clear hS7 hUF hS2 hW2 hu1 hf1 hW y0 y1 z4 hmap hrun hm7 hu7
   go_upto_region 6 with (fail)
   go_region
   all_goals
    go_wp2
    go_end0
    obtain ⟨hS7, hUF, hf1⟩ := HS7.out
    refine ⟨rfl, F', (hS7.set v far y).upd0 (by (repeat (first | assumption | exact Upd.refl _ _ | refine Upd.alloc ?_ _ | refine Upd.drew ?_ | refine Upd.drewN ?_ _ | refine Upd.setCell ?_ ?_ _ | focus (left; simp; done) | focus (right; simp; done) | focus (right; simp; omega)))), ?_, hf1⟩
    exact ((hUF.setCell (p := ⟨X.gd, v, none⟩) (Or.inl (by simp [SrB.own])) (.int .i64 far)).setCell (p := ⟨X.gb, v, none⟩) (Or.inl (by simp [SrB.own])) (.int .i64 y)).trans (by (repeat (first | assumption | exact Upd.refl _ _ | refine Upd.alloc ?_ _ | refine Upd.drew ?_ | refine Upd.drewN ?_ _ | refine Upd.setCell ?_ ?_ _ | focus (left; simp; done) | focus (right; simp; done) | focus (right; simp; omega))))
end
end Go.Proofs.YtklibcncmbofpaaGreat
namespace Go.Proofs.YtklibcncmbofpaaGreat
open Go Go.RowKit
structure DS (N : Nat) (d : Nat → Nat) (W : Nat → Prop) (R : AR) (A : NS) (q c : Nat) (hc : Nat → Value) (f : Int → Int → Option Int) (sl : Nat → Nat) : Prop where
 ok : R.Ok
 okA : A.Ok
 lA : A.cs.length = N
 lR : R.sl.length = N
 link : ∀ x : Nat, R.v x = inN A (x : Int)
 has : hasN A 1 = true
 most : R.most = 1
 wait : R.wait = []
 next : R.next = cntF d N
 qn : q = R.next
 cn : c = R.next
 slv : ∀ v, v < N → d v ≠ inf → sl v < R.next ∧ f (sl v : Int) 1 = some (v : Int) ∧ hc (v * 2) = .int .i64 (sl v : Int) ∧ hc (v * 2 + 1) = .int .u32 1 ∧ R.g (sl v) = 1
 wt : ∀ v, W v → v < N ∧ d v ≠ inf ∧ R.v (sl v) = true ∧ (A.c (sl v)).i = 1 ∧ (A.c (sl v)).k = (d v : Int)
 lv : ∀ x, R.v x = true → ∃ v, W v ∧ sl v = x
section
variable {N : Nat} {d : Nat → Nat} {W : Nat → Prop} {R : AR} {A : NS} {q c : Nat} {hc : Nat → Value} {f : Int → Int → Option Int} {sl : Nat → Nat}
theorem DS.inj (h : DS N d W R A q c hc f sl) {u v : Nat} (hu : u < N) (hu2 : d u ≠ inf) (hv : v < N) (hv2 : d v ≠ inf) (e : sl u = sl v) : u = v := by
 have h1 := (h.slv u hu hu2).2.1
 have h2 := (h.slv v hv hv2).2.1
 rw [e, h2] at h1
 cases h1
 omega
theorem DS.none (h : DS N d W R A q c hc f sl) (hm : minN A 1 = none) : ∀ v, ¬ W v := fun v hv => by
 have h1 := (minN_none (by omega)).1 hm
 obtain ⟨a1, a2, a3, a4, a5⟩ := h.wt v hv
 have h3 : inN A (sl v : Int) = true := by rw [← h.link]; exact a3
 have h4 := (inN_nat _ _).1 h3
 have : 0 < lenN A 1 := lenN_pos.2 ⟨sl v, h4.1, a4, by omega⟩
 omega
theorem DS.min (h : DS N d W R A q c hc f sl) {x : Nat} (hm : minN A 1 = some x) : ∃ v, W v ∧ sl v = x ∧ (A.c x).k = (d v : Int) ∧ (∀ u, W u → d v ≤ d u) ∧ f (x : Int) 1 = some (v : Int) ∧ R.g x = 1 ∧ R.v x = true := by
 obtain ⟨m1, m2, m3, m4⟩ := minN_in hm
 have hv : R.v x = true := by rw [h.link]; exact m4
 obtain ⟨v, hW, rfl⟩ := h.lv x hv
 obtain ⟨a1, a2, a3, a4, a5⟩ := h.wt v hW
 have hs := h.slv v a1 a2
 refine ⟨v, hW, rfl, a5, fun u hu => ?_, hs.2.1, hs.2.2.2.2, hv⟩
 obtain ⟨b1, b2, b3, b4, b5⟩ := h.wt u hu
 have hf := (minN_some (by omega)).1 hm
 have hu3 : inN A (sl u : Int) = true := by rw [← h.link]; exact b3
 have hu4 := (inN_nat _ _).1 hu3
 rcases hf.2.2 (sl u) hu4.1 b4 with e | e
 ·have : u = v := h.inj b1 b2 a1 a2 e
  rw [this]; exact Nat.le_refl _
 ·unfold lt3 at e
  rw [a5, b5] at e
  omega
theorem DS.take (h : DS N d W R A q c hc f sl) {v : Nat} (hW : W v) : DS N d (fun u => W u ∧ u ≠ v) (giveR R (sl v)) (dropN A (sl v : Int)) q c hc f sl := by
 obtain ⟨a1, a2, a3, a4, a5⟩ := h.wt v hW
 have hin : inN A (sl v : Int) = true := by rw [← h.link]; exact a3
 have hg := (h.slv v a1 a2).2.2.2.2
 have hwt : (giveR R (sl v)).wait = [] := by
  show (if R.g (sl v) < R.most then R.wait ++ [sl v] else R.wait) = []
  rw [if_neg (by rw [hg, h.most]; omega), h.wait]
 have eg : ∀ y, (giveR R (sl v)).g y = R.g y := fun y => by
  show (R.put (sl v) (R.g (sl v), false)).g y = _
  rw [AR.g_put]
  split
  ·rename_i e; rw [e.1]
  ·rfl
 refine ⟨(give_ok h.ok a3).1, dropN_ok h.okA _, by rw [drop_len]; exact h.lA, by rw [giveR_len]; exact h.lR, fun y => by rw [give_v a3, drop_in hin, h.link], by rw [show hasN (dropN A (sl v : Int)) 1 = hasN A 1 from by unfold hasN; rw [drop_hs]]; exact h.has, h.most, hwt, h.next, h.qn, h.cn, fun u hu hd => ?_, fun u hu => ?_, fun y hy => ?_⟩
 ·obtain ⟨b1, b2, b3, b4, b5⟩ := h.slv u hu hd
  exact ⟨b1, b2, b3, b4, by rw [eg]; exact b5⟩
 ·obtain ⟨b1, b2, b3, b4, b5⟩ := h.wt u hu.1
  have hne : sl u ≠ sl v := fun e => hu.2 (h.inj b1 b2 a1 a2 e)
  have hc := drop_c hin (sl u)
  rw [if_neg hne] at hc
  exact ⟨b1, b2, by rw [give_v a3, b3, decide_eq_false hne]; rfl, by rw [hc]; exact b4, by rw [hc]; exact b5⟩
 ·rw [give_v a3] at hy
  simp only [Bool.and_eq_true, Bool.not_eq_true', decide_eq_false_iff_not] at hy
  obtain ⟨u, hu, rfl⟩ := h.lv y hy.1
  exact ⟨u, ⟨hu, fun e => hy.2 (by rw [e])⟩, rfl⟩
theorem DS.new (h : DS N d W R A q c hc f sl) {t x' : Nat} (ht : t < N) (hd : d t = inf) (hx : x' ≠ inf) (hxm : x' ≤ inf) : ∃ R', takeR R = some (R.next, R') ∧ R.g R.next = 0 ∧
  DS N (setN d t x') (fun u => W u ∨ u = t) R' (putN A 1 (R.next : Int) (x' : Int) ((q : Int) + 1)) (q + 1) (c + 1) (hcPut hc t (R.next : Int) ((R.g R.next : Int) + 1)) (fun z e => if z = (R.next : Int) ∧ e = (R.g R.next : Int) + 1 then some (t : Int) else f z e) (setN sl t R.next) := by
 have hcs := cntF_set (n := N) ht hd hx
 have hle := cntF_le (setN d t x') N
 have hlt : R.next < N := by rw [h.next]; omega
 have hfr := h.ok.fresh R.next (Nat.le_refl _)
 have hpk : pickR R = some (R.next, { R with next := R.next + 1 }) := by
  unfold pickR
  rw [h.wait]
  simp only [List.getLast?_nil]
  rw [if_neg (by rw [h.lR]; omega)]
 obtain ⟨R', hR⟩ : ∃ R', R' = AR.put { R with next := R.next + 1 } R.next (R.g R.next + 1, true) := ⟨_, rfl⟩
 have htk : takeR R = some (R.next, R') := by unfold takeR; rw [hpk, hR]; rfl
 obtain ⟨t1, t2, t3, t4, t5, t6, t7⟩ := take_ok h.ok htk
 have hR'n : R'.next = R.next + 1 := by rw [hR]; rfl
 have hR'w : R'.wait = [] := by rw [hR]; exact h.wait
 have hR'g : ∀ y, R'.g y = if y = R.next then 1 else R.g y := fun y => by
  have e : R'.g y = (R.put R.next (R.g R.next + 1, true)).g y := by
   show (R'.sl.getD y (0, false)).1 = ((R.sl.set R.next (R.g R.next + 1, true)).getD y (0, false)).1
   rw [t5]
  rw [e, AR.g_put]
  by_cases e2 : y = R.next
  ·rw [if_pos ⟨e2, t2⟩, if_pos e2, hfr.1]
  ·rw [if_neg (fun h => e2 h.1), if_neg e2]
 have hBp : putB A 1 (R.next : Int) = true := by
  rw [putB_iff]
  refine ⟨h.has, (slotN_iff _ _).2 ⟨by omega, by rw [h.lA]; omega⟩, ?_⟩
  rw [← h.link]; exact hfr.2
 have hpc : ∀ y, (putN A 1 (R.next : Int) (x' : Int) ((q : Int) + 1)).c y = if y = R.next then ⟨1, x', (q : Int) + 1⟩ else A.c y := fun y => by
  unfold putN
  rw [if_pos hBp, c_with]
  by_cases e2 : y = R.next
  ·rw [if_pos ⟨by omega, by rw [h.lA]; omega⟩, if_pos e2]
  ·rw [if_neg (fun h => e2 (by omega)), if_neg e2]
 have hsd : ∀ u, setN d t x' u ≠ inf → u ≠ t → d u ≠ inf := fun u hu e => by unfold setN at hu; rw [if_neg e] at hu; exact hu
 have hN4 : N ≤ 65536 := by have := h.okA.c1; have := h.lA; omega
 refine ⟨R', htk, hfr.1, t1, putN_ok h.okA _ _ _ _ ⟨by omega, by unfold inf at hxm; omega, by omega, by have := h.qn; omega⟩, by rw [putN_len]; exact h.lA, by rw [t5]; simp [h.lR], fun y => by rw [take_v h.ok htk, put_in hBp, h.link], ?_, by rw [t6]; exact h.most, hR'w, by rw [hR'n, h.next, hcs], by rw [hR'n, h.qn], by rw [hR'n, h.cn], fun v hv hdv => ?_, fun v hv => ?_, fun y hy => ?_⟩
 ·unfold putN; rw [if_pos hBp]; exact h.has
 ·by_cases e : v = t
  ·subst e
   have e1 : setN sl v R.next v = R.next := by unfold setN; rw [if_pos rfl]
   rw [e1, hfr.1]
   refine ⟨by omega, by rw [if_pos ⟨rfl, by omega⟩], ?_, ?_, by rw [hR'g, if_pos rfl]⟩
   ·unfold hcPut; rw [if_neg (by omega), if_pos rfl]
   ·unfold hcPut; rw [if_pos rfl]; rfl
  ·have e1 : setN sl t R.next v = sl v := by unfold setN; rw [if_neg e]
   obtain ⟨b1, b2, b3, b4, b5⟩ := h.slv v hv (hsd v hdv e)
   rw [e1]
   refine ⟨by omega, by rw [if_neg (fun h => by have := h.1; omega)]; exact b2, ?_, ?_, by rw [hR'g, if_neg (by omega)]; exact b5⟩
   ·unfold hcPut; rw [if_neg (by omega), if_neg (by omega)]; exact b3
   ·unfold hcPut; rw [if_neg (by omega), if_neg (by omega)]; exact b4
 ·rcases hv with hv | rfl
  ·obtain ⟨b1, b2, b3, b4, b5⟩ := h.wt v hv
   have e : v ≠ t := fun e => b2 (by rw [e]; exact hd)
   have e1 : setN sl t R.next v = sl v := by unfold setN; rw [if_neg e]
   have e2 : setN d t x' v = d v := by unfold setN; rw [if_neg e]
   have hsn := (h.slv v b1 b2).1
   have hne : sl v ≠ R.next := by omega
   rw [e1, e2, hpc, if_neg hne]
   exact ⟨b1, b2, by rw [take_v h.ok htk, b3]; rfl, b4, b5⟩
  ·have e1 : setN sl v R.next v = R.next := by unfold setN; rw [if_pos rfl]
   have e2 : setN d v x' v = x' := by unfold setN; rw [if_pos rfl]
   rw [e1, e2, hpc, if_pos rfl]
   exact ⟨ht, hx, by rw [take_v h.ok htk]; simp, rfl, rfl⟩
 ·rw [take_v h.ok htk] at hy
  simp only [Bool.or_eq_true, decide_eq_true_eq] at hy
  by_cases e : y = R.next
  ·exact ⟨t, Or.inr rfl, by unfold setN; rw [if_pos rfl, e]⟩
  ·obtain ⟨u, hu, he⟩ := h.lv y (by rcases hy with h1 | h1; exact h1; omega)
   have e2 : u ≠ t := fun e2 => (h.wt u hu).2.1 (by rw [e2]; exact hd)
   exact ⟨u, Or.inl hu, by unfold setN; rw [if_neg e2]; exact he⟩
theorem DS.low (h : DS N d W R A q c hc f sl) {t x' : Nat} (hW : W t) (hx : x' ≤ d t) (hdi : d t ≤ inf) (hxi : x' ≠ inf) : DS N (setN d t x') (fun u => W u ∨ u = t) R (lowN A (sl t : Int) (x' : Int) (A.c (sl t)).s) q c hc f sl := by
 obtain ⟨a1, a2, a3, a4, a5⟩ := h.wt t hW
 have hin : inN A (sl t : Int) = true := by rw [← h.link]; exact a3
 have hlo := low_yes hin (k := (x' : Int)) (by rw [a5]; omega)
 have hlc := low_c hlo ((inN_nat _ _).1 hin).1
 have hkey := h.okA.key (sl t)
 have hiff : ∀ v, v < N → (setN d t x' v = inf ↔ d v = inf) := fun v hv => by
  unfold setN
  by_cases e : v = t
  ·rw [if_pos e, e]; exact ⟨fun h => absurd h hxi, fun h => absurd h a2⟩
  ·rw [if_neg e]
 refine ⟨h.ok, lowN_ok h.okA _ _ _ ⟨by omega, by unfold inf at hdi; omega, hkey.2.2.1, hkey.2.2.2⟩, by rw [low_len]; exact h.lA, h.lR, fun y => by rw [low_same]; exact h.link y, by rw [show hasN (lowN A (sl t : Int) (x' : Int) (A.c (sl t)).s) 1 = hasN A 1 from by unfold hasN; rw [low_hs]]; exact h.has, h.most, h.wait, by rw [h.next]; exact (cntF_eq hiff).symm, h.qn, h.cn, fun v hv hd => h.slv v hv (fun e => hd ((hiff v hv).2 e)), fun v hv => ?_, fun y hy => ?_⟩
 ·have hv' : W v := by rcases hv with h1 | rfl; exact h1; exact hW
  obtain ⟨b1, b2, b3, b4, b5⟩ := h.wt v hv'
  rw [hlc]
  by_cases e : v = t
  ·subst e
   rw [if_pos rfl]
   have e2 : setN d v x' v = x' := by unfold setN; rw [if_pos rfl]
   rw [e2]
   exact ⟨b1, hxi, b3, b4, rfl⟩
  ·have hne : sl v ≠ sl t := fun e2 => e (h.inj b1 b2 a1 a2 e2)
   rw [if_neg hne]
   have e2 : setN d t x' v = d v := by unfold setN; rw [if_neg e]
   rw [e2]
   exact ⟨b1, b2, b3, b4, b5⟩
 ·obtain ⟨u, hu, he⟩ := h.lv y hy
  exact ⟨u, Or.inl hu, he⟩
end
end Go.Proofs.YtklibcncmbofpaaGreat
namespace Go.Proofs.YtklibcncmbofpaaGreat
open Go Go.RowKit
def tightB (D : List Int) (e : Ed) : Bool := fitsB (D.getD e.f.toNat 0) && decide (D.getD e.t.toNat 0 = D.getD e.f.toNat 0 + e.w)
theorem wp_named3 {c : Code} {K : Exit → Act → World → Prop} {a : Act} {W : World} (R : World → Prop) (h : R W) (k : ∀ W', R W' → Code.wp Tryz.prog c K a W') : Code.wp Tryz.prog c K a W := k W h
end Go.Proofs.YtklibcncmbofpaaGreat
namespace Go.Proofs.YtklibcncmbofpaaGreat
open Go Go.RowKit
def eN (E : List Ed) : List En := E.map toN
end Go.Proofs.YtklibcncmbofpaaGreat
namespace Go.Proofs.YtklibcncmbofpaaGreat
open Go Go.RowKit
def TreeZ (E : List En) (N s : Nat) (W : Nat → Nat) (D B : List Int) (v : Nat) : Prop :=
 D.getD v 0 = ((W v : Nat) : Int) ∧ ((v = s ∨ W v = inf) → B.getD v 0 = -1) ∧ (¬ (v = s ∨ W v = inf) → chainOk E (fun x => B.getD x 0) W s N v = true)
def TreeA (E : List En) (N s : Nat) (W : Nat → Nat) (D B : List Int) : Prop := D.length = N ∧ B.length = N ∧ ∀ v, v < N → TreeZ E N s W D B v
theorem chain_step {E : List En} {b : Nat → Int} {W : Nat → Nat} {s k x : Nat} (hx : x ≠ s) : chainOk E b W s (k + 1) x = (stepOk E b W x && chainOk E b W s k (parN E b x)) := by
 show (decide (x = s) || _) = _
 rw [decide_eq_false hx]; rfl
theorem chain_src {E : List En} {b : Nat → Int} {W : Nat → Nat} {s : Nat} (k : Nat) : chainOk E b W s k s = true := by
 cases k with
 | zero => show decide (s = s) = true; simp
 | succ k => show (decide (s = s) || _) = true; simp
theorem eN_len (E : List Ed) : (eN E).length = E.length := by unfold eN; simp
theorem edN_eN (E : List Ed) (i : Nat) (hi : i < E.length) : edN (eN E) (i : Int) = toN (E.getD i default) := by
 unfold edN eN
 simp [List.getD_eq_getElem?_getD, hi]
end Go.Proofs.YtklibcncmbofpaaGreat
namespace Go.Proofs.YtklibcncmbofpaaGreat
open Go Go.RowKit
def Rooted (E : List En) (b : Nat → Int) (s N : Nat) : Prop := ∀ v, v < N → b v ≠ -1 → GoodV E b s v
end Go.Proofs.YtklibcncmbofpaaGreat
namespace Go.Proofs.YtklibcncmbofpaaGreat
open Go Go.RowKit
def okV (E : List Ed) (s : Nat) (D B : List Int) (v : Nat) : Prop :=
 ((v ≠ s ∧ D.getD v 0 ≠ 9223372036854775807) ↔ B.getD v 0 ≠ -1) ∧
 (v ≠ s ∧ D.getD v 0 ≠ 9223372036854775807 → 0 ≤ B.getD v 0 ∧ B.getD v 0 < E.length ∧ tightB D (E.getD (B.getD v 0).toNat default) = true ∧ (E.getD (B.getD v 0).toNat default).t = v)
structure ProvB (N s : Nat) (E : List Ed) (D B : List Int) : Prop where
 lD : D.length = N
 lB : B.length = N
 d0 : D.getD s 0 = 0
 b0 : B.getD s 0 = -1
 pos : D.any (fun x => decide (x < 0)) = false
 feas : feasB D E = true
 ok : ∀ v, v < N → okV E s D B v
 root : Rooted (eN E) (fun x => B.getD x 0) s N
theorem pos_iff (D : List Int) : D.any (fun x => decide (x < 0)) = false ↔ ∀ x, x ∈ D → 0 ≤ x := by
 rw [List.any_eq_false]
 constructor
 ·intro h x hx; have := h x hx; simp at this; exact this
 ·intro h x hx; have := h x hx; simp; exact this
section
variable {N s : Nat} {E : List Ed} {D B : List Int}
theorem dN_of (hp : ∀ x, x ∈ D → 0 ≤ x) {v : Nat} (hv : v < D.length) : ((dN D v : Nat) : Int) = D.getD v 0 := by
 have := getD_all hp hv
 unfold dN; omega
theorem step_iff (hw : weighB (N : Int) E = true) (hl : D.length = N) (hp : ∀ x, x ∈ D → 0 ≤ x) {v : Nat} (hv : v < N) :
  stepOk (eN E) (fun x => B.getD x 0) (dN D) v = true ↔ 0 ≤ B.getD v 0 ∧ B.getD v 0 < E.length ∧ tightB D (E.getD (B.getD v 0).toNat default) = true ∧ (E.getD (B.getD v 0).toNat default).t = v := by
 rw [stepOk_iff, eN_len]
 by_cases h0 : 0 ≤ B.getD v 0 ∧ B.getD v 0 < E.length
 ·obtain ⟨h1, h2⟩ := h0
  obtain ⟨i, hi⟩ : ∃ i : Nat, B.getD v 0 = i := ⟨(B.getD v 0).toNat, by omega⟩
  have hiE : i < E.length := by omega
  have hx : E[i]? = some (E.getD i default) := by simp [List.getD_eq_getElem?_getD, hiE]
  have h3 := right_mem (weigh_right hw) (List.mem_of_getElem? hx)
  have h4 := weigh_mem hw (List.mem_of_getElem? hx)
  have hed : edN (eN E) (B.getD v 0) = toN (E.getD i default) := by rw [hi, edN_eN E i hiE]
  have hpar : parN (eN E) (fun x => B.getD x 0) v = (E.getD i default).f.toNat := by
   rw [parN_of (by show B.getD v 0 ≠ -1; omega)]
   show (edN (eN E) (B.getD v 0)).f = _
   rw [hed]; rfl
  rw [hpar]
  show (0 ≤ B.getD v 0 ∧ B.getD v 0 < E.length ∧ (edN (eN E) (B.getD v 0)).t = v ∧ _ ∧ _ + (edN (eN E) (B.getD v 0)).w = _) ↔ _
  rw [hed, hi, show (i : Int).toNat = i by omega]
  generalize E.getD i default = e at *
  have hf : e.f.toNat < D.length := by omega
  have ht : e.t.toNat < D.length := by omega
  have d1 := dN_of hp hf
  have d2 := dN_of hp ht
  have d3 := dN_of hp (show v < D.length by omega)
  have p1 := getD_all hp hf
  unfold tightB fitsB
  simp only [Bool.and_eq_true, decide_eq_true_eq]
  show (_ ∧ _ ∧ e.t.toNat = v ∧ dN D e.f.toNat ≠ inf ∧ dN D e.f.toNat + e.w.toNat = dN D v) ↔ _
  rw [show inf = 9223372036854775807 from rfl]
  constructor
  ·rintro ⟨_, _, a1, a2, a3⟩
   rw [a1] at d2 ⊢
   exact ⟨by omega, by omega, ⟨⟨p1, by omega⟩, by omega⟩, by omega⟩
  ·rintro ⟨_, _, ⟨⟨_, a2⟩, a3⟩, a4⟩
   have a1 : e.t.toNat = v := by omega
   rw [a1] at a3
   exact ⟨by omega, by omega, a1, by omega, by omega⟩
 ·constructor
  ·rintro ⟨a, b, _⟩; exact absurd ⟨a, b⟩ h0
  ·rintro ⟨a, b, _⟩; exact absurd ⟨a, b⟩ h0
theorem prov_iff (hw : weighB (N : Int) E = true) (hs : s < N) (hb : ∀ x, x ∈ D → x ≤ 9223372036854775807) : ProvB N s E D B ↔ TreeA (eN E) N s (passes (eN E) s N) D B := by
 have hg : GOk (eN E) s N (9223372036854775807 / N) := weigh_gok hw hs
 have hwp : ∀ e, e ∈ E → 0 ≤ e.w := fun e he => (weigh_mem hw he).1
 have main : ∀ (hlD : D.length = N) (hlB : B.length = N) (hp : ∀ x, x ∈ D → 0 ≤ x), ProvB N s E D B ↔ TreeP (eN E) N s (passes (eN E) s N) (dN D) (fun x => B.getD x 0) := by
  intro hlD hlB hp
  have hd : ∀ v, v < N → dN D v ≤ inf := fun v hv => by
   have h1 := getD_all hb (i := v) (by omega)
   have h2 := dN_of hp (v := v) (by omega)
   rw [show inf = 9223372036854775807 from rfl]; omega
  rw [← prov_tree hg hd]
  have hfe := feasB_iff (D := D) (weigh_right hw) (by omega) hwp (fun x hx => ⟨hp x hx, hb x hx⟩)
  have hinf : ∀ v, v < N → (D.getD v 0 ≠ 9223372036854775807 ↔ dN D v ≠ inf) := fun v hv => by
   have h2 := dN_of hp (v := v) (by omega)
   rw [show inf = 9223372036854775807 from rfl]; omega
  have hokv : ∀ v, v < N → (okV E s D B v ↔ ((v ≠ s ∧ dN D v ≠ inf) ↔ B.getD v 0 ≠ -1) ∧ (v ≠ s ∧ dN D v ≠ inf → stepOk (eN E) (fun x => B.getD x 0) (dN D) v = true)) := fun v hv => by
   unfold okV
   rw [hinf v hv, step_iff hw hlD hp hv]
  have hd0 : D.getD s 0 = 0 ↔ dN D s = 0 := by have := dN_of hp (v := s) (by omega); omega
  constructor
  ·intro h
   exact ⟨hd0.1 h.d0, h.b0, hfe.1 h.feas, fun v hv => (hokv v hv).1 (h.ok v hv), h.root⟩
  ·rintro ⟨h1, h2, h3, h4, h5⟩
   exact ⟨hlD, hlB, hd0.2 h1, h2, (pos_iff D).2 hp, hfe.2 h3, fun v hv => (hokv v hv).2 (h4 v hv), h5⟩
 constructor
 ·intro h
  have hp := (pos_iff D).1 h.pos
  have hT := (main h.lD h.lB hp).1 h
  refine ⟨h.lD, h.lB, fun v hv => ?_⟩
  obtain ⟨h1, h2, h3⟩ := hT v hv
  exact ⟨by rw [← h1]; exact (dN_of hp (by have := h.lD; omega)).symm, h2, h3⟩
 ·rintro ⟨hlD, hlB, hT⟩
  have hp : ∀ x, x ∈ D → 0 ≤ x := fun x hx => by
   obtain ⟨v, hv, rfl⟩ := List.mem_iff_getElem.1 hx
   have h1 := (hT v (by omega)).1
   have h2 : D.getD v 0 = D[v] := by simp [List.getD_eq_getElem?_getD, hv]
   rw [h2] at h1
   omega
  refine (main hlD hlB hp).2 fun v hv => ?_
  obtain ⟨h1, h2, h3⟩ := hT v hv
  exact ⟨by have := dN_of hp (v := v) (by omega); omega, h2, h3⟩
end
end Go.Proofs.YtklibcncmbofpaaGreat
