/-
  Lemmas for RankNames: Ar2, Ar3, Pq, Chk, PqO, Pq2, RkO, PrP. Conditions: those of each lemma.
-/
import Derived.Deep.RegionLaw
import Derived.Deep.DeepCutAuto
import Derived.WalkKit
import Derived.WalkSpells
import Derived.WalkLawsBesides
import Derived.BigQuiet
import Derived.Deep.RegionHeld3
import Derived.ProofKit
import Derived.OpenShut
import Derived.Lib.Hide
import Derived.Test.YtklibcncmbofpaaGreatProg
import Derived.Maps.AppendAt
import Derived.StillTailTactics
import Derived.Maps.OwnSet
import Derived.Maps.OwnOps
import Derived.Maps.RangeWalk
import Derived.Test.YtklibcncmbofpaaGreatP01
import Derived.Test.YtklibcncmbofpaaGreatP02
import Derived.Test.YtklibcncmbofpaaGreatP03
set_option linter.unusedVariables false
set_option linter.unusedSimpArgs false
namespace Go.Proofs.YtklibcncmbofpaaGreat
open Go Go.RowKit
theorem own_less {w : World} {base g n cap k : Nat} {e : TypeId} {xs : List Value} (h : w.ownsRow base e 1 (.slice (some ⟨g, 0, none⟩) n cap) n xs) (hk : k ≤ n) : w.ownsRow base e 1 (.slice (some ⟨g, 0, none⟩) k cap) k (xs.take k) := by
 rcases h.2 with ⟨h1, _⟩ | ⟨g', cap', cur, h1, hb, hg, hn, hc, hs, ht⟩
 ·cases h1
 ·cases h1
  have h0 := h.1
  exact ⟨by rw [List.length_take]; omega, Or.inr ⟨g, cap, cur, rfl, hb, hg, by omega, hc, hs, by rw [← ht, List.take_take]; congr 1; omega⟩⟩
theorem pick_ok {R R' : AR} {x : Nat} (h : R.Ok) (hp : pickR R = some (x, R')) : R'.Ok := by
 obtain ⟨h1, h2, h3, h4, h5, h6, h7, h8, h9, h10⟩ := pick_some h hp
 have eg : ∀ z, R'.g z = R.g z := fun z => by unfold AR.g; rw [h4]
 have ev : ∀ z, R'.v z = R.v z := fun z => by unfold AR.v; rw [h4]
 refine ⟨by rw [h4]; exact h.n, by rw [h4]; exact h6, by rw [h5]; exact h.mst, fun z hz => ?_, h10, fun z hz => ?_, fun z hz => by rw [ev] at hz; rw [eg]; exact h.lv z hz, fun z => by rw [eg, h5]; exact h.gm z⟩
 ·obtain ⟨a1, _⟩ := h9 z hz
  obtain ⟨b1, b2, b3⟩ := h.wt z a1
  rw [ev, eg, h5]
  exact ⟨by omega, b2, b3⟩
 ·rw [ev, eg]; exact h.fresh z (by omega)
section
variable {w : World} {pa ga : Nat} {v : Value} {R : AR} {F : List Nat}
theorem arat_any (h : ArAt w pa F R) (x : Nat) (hx : R.v x = true) :
  Calls Tryz.prog 84 #[.pointer (some ⟨pa, 0, none⟩), .int .i64 (x : Int)] w fun e w' => e = .returned (.tuple #[.agg #[.int .i64 (x : Int), .int .u32 (R.g x : Int)], .bool true]) ∧ Upd [] w w' := by
 obtain ⟨ga, v, rfl, h⟩ := h
 have hl := AR.v_lt hx
 have hn := h.ok.n
 have c0 := h.c0
 have d0 := h.s0 hl
 have d1 := h.s1 hl
 rw [hx] at d1
 have hxI : (x : Int) < (R.sl.length : Int) := by omega
 have hx2 : ¬ R.sl.length ≤ x := by omega
 generalize R.g x = gx at *
 generalize R.sl.length = n at *
 have l1 := World.block_lt_of_cell? w _ c0
 have l2 := World.block_lt_of_cell? w _ d0
 clear h hx
 go_enter Tryz.func84, Tryz.ntmps84
 go_wp2
 exact bodyPost_ret (v := .tuple #[.agg #[.int .i64 (x : Int), .int .u32 (gx : Int)], .bool true]) (by simp [results, Tryz.results84, go_sem]) rfl ⟨rfl, by (repeat (first | assumption | exact Upd.refl _ _ | refine Upd.alloc ?_ _ | refine Upd.drew ?_ | refine Upd.drewN ?_ _ | refine Upd.setCell ?_ ?_ _ | focus (left; simp; done) | focus (right; simp; done) | focus (right; simp; omega)))⟩
theorem natsZ_get {l : List Nat} {j x : Nat} (h : l[j]? = some x) : (natsZ l).getD j 0 = (x : Int) := by unfold natsZ; simp [List.getD_eq_getElem?_getD, h]
theorem intsZ_take (l : List Int) (k : Nat) : (intsZ l).take k = intsZ (l.take k) := by unfold intsZ; rw [List.map_take]
theorem natsZ_take (l : List Nat) (k : Nat) : (natsZ l).take k = natsZ (l.take k) := by unfold natsZ; rw [List.map_take]
theorem ArM.setv (h : ArM w pa ga v R) {R' : AR} {v' : Value} (ok : R'.Ok) (e1 : R'.sl = R.sl) (e2 : R'.next = R.next) (e3 : R'.most = R.most) (hw : w.ownsRow 0 3 1 v' R'.wait.length (intsZ (natsZ R'.wait))) (hb : ∀ k, v'.ownBlock = some k → k ≠ pa ∧ k ≠ ga) :
  ArM (w.setCell ⟨pa, 1, none⟩ v') pa ga v' R' := by
 have hu : Upd [pa] w (w.setCell ⟨pa, 1, none⟩ v') := (Upd.refl _ _).setCell (Or.inl (by simp)) _
 refine ⟨(h.head.set 1 v').ext (fun j hj => ?_), ?_, owns_upd hw hu (fun k hk e => (hb k hk).1 (by simpa using e)), h.ne, hb, ok⟩
 ·rcases (by omega : j = 0 ∨ j = 1 ∨ j = 2 ∨ j = 3 ∨ j = 4) with rfl | rfl | rfl | rfl | rfl <;> simp [arC, AR.cnt, e1, e2, e3]
 ·rw [e1]
  exact (h.row.upd hu (by simp; exact fun e => h.ne e.symm)).ext (fun j hj => by unfold slC AR.g AR.v; rw [e1])
theorem ArM.setn (h : ArM w pa ga v R) {R' : AR} (ok : R'.Ok) (e1 : R'.sl = R.sl) (e2 : R'.wait = R.wait) (e3 : R'.most = R.most) : ArM (w.setCell ⟨pa, 2, none⟩ (.int .i64 (R'.next : Int))) pa ga v R' := by
 have hu : Upd [pa] w (w.setCell ⟨pa, 2, none⟩ (.int .i64 (R'.next : Int))) := (Upd.refl _ _).setCell (Or.inl (by simp)) _
 refine ⟨(h.head.set 2 _).ext (fun j hj => ?_), ?_, by rw [e2]; exact owns_upd h.wait hu (fun k hk e => (h.nw k hk).1 (by simpa using e)), h.ne, h.nw, ok⟩
 ·rcases (by omega : j = 0 ∨ j = 1 ∨ j = 2 ∨ j = 3 ∨ j = 4) with rfl | rfl | rfl | rfl | rfl <;> simp [arC, AR.cnt, e1, e3]
 ·rw [e1]
  exact (h.row.upd hu (by simp; exact fun e => h.ne e.symm)).ext (fun j hj => by unfold slC AR.g AR.v; rw [e1])
set_option maxHeartbeats 1000000 in
theorem arpick_some (h : ArM w pa ga v R) {x : Nat} {R' : AR} (hp : pickR R = some (x, R')) :
  Calls Tryz.prog 82 #[.pointer (some ⟨pa, 0, none⟩)] w fun e w' => e = .returned (.tuple #[.int .i64 (x : Int), .bool true]) ∧ ∃ v', v'.ownBlock = v.ownBlock ∧ ArM w' pa ga v' R' ∧ Upd [pa] w w' := by
 have ok' := pick_ok h.ok hp
 have hwl := AR.wait_le h.ok
 have hn := h.ok.n
 have hnx := h.ok.nx
 unfold pickR at hp
 cases hl : R.wait.getLast? with
 | some y =>
  rw [hl] at hp
  simp only [Option.some.injEq, Prod.mk.injEq] at hp
  obtain ⟨rfl, rfl⟩ := hp
  have hne : R.wait ≠ [] := fun e => by rw [e] at hl; cases hl
  have hpos : 0 < R.wait.length := List.length_pos_iff.2 hne
  have c1 := h.c1
  have f1 := h.head.free 1
  obtain ⟨gw, cap, rfl, _, hgl, hnc, hcm, hcell, _⟩ := own_shape h.wait hpos
  have hat : R.wait[R.wait.length - 1]? = some y := by rw [← List.getLast?_eq_getElem?]; exact hl
  have d0 := hcell (R.wait.length - 1) (.int .i64 (y : Int)) (by rw [intsZ_get (by rw [natsZ_len]; omega), natsZ_get hat])
  have hdl : R.wait.dropLast = R.wait.take (R.wait.length - 1) := List.dropLast_eq_take
  have hw2 := own_less h.wait (k := R.wait.length - 1) (by omega)
  rw [intsZ_take, natsZ_take, ← hdl] at hw2
  have hll : R.wait.dropLast.length = R.wait.length - 1 := by simp
  have HF := Lib.hid (show ArM (w.setCell ⟨pa, 1, none⟩ (.slice (some ⟨gw, 0, none⟩) (R.wait.length - 1) cap)) pa ga (.slice (some ⟨gw, 0, none⟩) (R.wait.length - 1) cap) { R with wait := R.wait.dropLast } from h.setv ok' rfl rfl rfl (by show w.ownsRow 0 _ 1 _ R.wait.dropLast.length _; rw [hll]; exact hw2) h.nw)
  have hgp := World.block_lt_of_cell? w _ c1
  clear h ok' hcell hat hdl hw2 hll hl hne
  generalize hwn : R.wait.length = wn at *
  obtain ⟨m, rfl⟩ : ∃ m, wn = m + 1 := ⟨wn - 1, by omega⟩
  simp only [Nat.add_sub_cancel] at d0 HF
  clear hwn
  have hmi : ((m + 1 : Nat) : Int) - 1 = (m : Int) := by omega
  have hwr : IntKind.i64.wrap (((m + 1 : Nat) : Int) - 1) = (m : Int) := by rw [hmi]; exact IntWalk.i64_in _ (by omega)
  have hgt : ((m + 1 : Nat) : Int) > 0 := by omega
  have hlt : (m : Int) < ((m + 1 : Nat) : Int) := by omega
  have hcapI : (m : Int) ≤ (cap : Int) := by omega
  go_enter Tryz.func82, Tryz.ntmps82
  go_wp2
  go_ret2
  exact ⟨rfl, .slice (some ⟨gw, 0, none⟩) m cap, rfl, HF.out, by (repeat (first | assumption | exact Upd.refl _ _ | refine Upd.alloc ?_ _ | refine Upd.drew ?_ | refine Upd.drewN ?_ _ | refine Upd.setCell ?_ ?_ _ | focus (left; simp; done) | focus (right; simp; done) | focus (right; simp; omega)))⟩
 | none =>
  rw [hl] at hp
  have hw : R.wait = [] := List.getLast?_eq_none_iff.1 hl
  dsimp only at hp
  split at hp
  ·cases hp
  ·rename_i hne
   simp only [Option.some.injEq, Prod.mk.injEq] at hp
   obtain ⟨rfl, rfl⟩ := hp
   have c0 := h.c0
   have c1 := h.c1
   have c2 := h.c2
   have f2 := h.head.free 2
   have hv := h.wait
   rw [hw] at hv
   obtain ⟨a, c, rfl, hc⟩ := own_slice hv
   simp only [List.length_nil] at c1
   have hnn : ((R.next : Int) == (R.sl.length : Int)) = false := by simp; omega
   have hwr : IntKind.i64.wrap ((R.next : Int) + 1) = (R.next : Int) + 1 := IntWalk.i64_in _ (by omega)
   have hwr2 : IntKind.i64.wrap ((R.next : Int) + 1 - 1) = (R.next : Int) := by rw [show (R.next : Int) + 1 - 1 = (R.next : Int) by omega]; exact IntWalk.i64_in _ (by omega)
   have hgp := World.block_lt_of_cell? w _ c0
   have HF := Lib.hid (fun W (hW : Upd [] w W) => (h.upd hW (by simp)).setn (R' := { R with next := R.next + 1 }) ok' rfl rfl rfl)
   have HC := Lib.hid (show ((({ R with next := R.next + 1 } : AR).next : Nat) : Int) = (R.next : Int) + 1 from by show ((R.next + 1 : Nat) : Int) = _; omega)
   clear h ok' hv hw hl
   generalize hq : ({ R with next := R.next + 1 } : AR) = R2 at *
   clear hq
   generalize R.next = nx at *
   generalize R.sl.length = n at *
   go_enter Tryz.func82, Tryz.ntmps82
   go_wp2
   go_quiet (fail)
   go_wp2
   go_ret2
   refine ⟨rfl, _, rfl, ?_, by (repeat (first | assumption | exact Upd.refl _ _ | refine Upd.alloc ?_ _ | refine Upd.drew ?_ | refine Upd.drewN ?_ _ | refine Upd.setCell ?_ ?_ _ | focus (left; simp; done) | focus (right; simp; done) | focus (right; simp; omega)))⟩
   have := HF.out _ (((Upd.refl [] w).drewN nq))
   rw [HC.out] at this
   exact this
theorem slC_put {R : AR} {x : Nat} (hx : x < R.sl.length) (p : Nat × Bool) (j : Nat) : slC (R.put x p) j = if j = x * 2 + 1 then .bool p.2 else if j = x * 2 then .int .u32 (p.1 : Int) else slC R j := by
 unfold slC
 rw [AR.g_put, AR.v_put]
 by_cases e3 : j % 2 = 0
 ·rw [if_neg (show ¬ j = x * 2 + 1 by omega)]
  simp only [if_pos e3]
  by_cases e2 : j = x * 2
  ·rw [if_pos e2, if_pos ⟨by omega, hx⟩]
  ·rw [if_neg e2, if_neg (by omega)]
 ·simp only [if_neg e3]
  rw [if_neg (show ¬ j = x * 2 by omega)]
  by_cases e2 : j = x * 2 + 1
  ·rw [if_pos e2, if_pos ⟨by omega, hx⟩]
  ·rw [if_neg e2, if_neg (by omega)]
theorem ArM.put (h : ArM w pa ga v R) {x : Nat} (hx : x < R.sl.length) (p : Nat × Bool) (ok : (R.put x p).Ok) {w' : World} (hrow : RowAt w' ga 155 (R.sl.length * 2) (fun i => if i = x * 2 + 1 then .bool p.2 else if i = x * 2 then .int .u32 (p.1 : Int) else slC R i)) (hu : Upd [ga] w w') :
  ArM (w'.setCell ⟨pa, 3, none⟩ (.int .i64 ((R.put x p).cnt : Int))) pa ga v (R.put x p) := by
 have hu2 : Upd [pa, ga] w (w'.setCell ⟨pa, 3, none⟩ (.int .i64 ((R.put x p).cnt : Int))) := (hu.mono (by simp)).setCell (Or.inl (by simp)) _
 refine ⟨((h.head.upd hu (by simpa using h.ne)).set 3 _).ext (fun j hj => ?_), ?_, owns_upd h.wait hu2 (fun k hk e => ?_), h.ne, h.nw, ok⟩
 ·rcases (by omega : j = 0 ∨ j = 1 ∨ j = 2 ∨ j = 3 ∨ j = 4) with rfl | rfl | rfl | rfl | rfl <;> simp [arC, AR.len_put]
  all_goals rfl
 ·rw [AR.len_put]
  exact (hrow.far _ _ (by simpa using h.ne.symm)).ext (fun j hj => (slC_put hx p j).symm)
 ·have := h.nw k hk
  simp at e; omega
set_option maxHeartbeats 4000000 in
theorem artake_some (h : ArAt w pa F R) {x : Nat} {R' : AR} (hp : takeR R = some (x, R')) :
  Calls Tryz.prog 66 #[.pointer (some ⟨pa, 0, none⟩)] w fun e w' => e = .returned (.tuple #[.agg #[.int .i64 (x : Int), .int .u32 ((R.g x : Int) + 1)], .int .i64 0]) ∧ Goes F w w' (fun F' => ArAt w' pa F' R') := by
 have hTk := take_ok h.ok hp
 obtain ⟨ga, v, rfl, h⟩ := h
 unfold takeR at hp
 cases hq : pickR R with
 | none => rw [hq] at hp; cases hp
 | some q =>
  obtain ⟨y, R1⟩ := q
  rw [hq] at hp
  simp only [Option.map_some, Option.some.injEq, Prod.mk.injEq] at hp
  obtain ⟨rfl, rfl⟩ := hp
  obtain ⟨hTok, hx, hv0, hgm, hsl, hmst, hcnt⟩ := hTk
  obtain ⟨_, _, _, h4, _⟩ := pick_some h.ok hq
  have hmo := h.ok.mst
  have hlp := h.head.lt
  have hlg := h.row.lt
  have hvl := fun k hk => (h.wait.lt k hk).2
  have k := fun W (hW : Upd [] w W) => arpick_some (h.upd hW (by simp)) hq
  have hx1 : y < R1.sl.length := by rw [h4]; exact hx
  have hg1 : R1.g y = R.g y := by unfold AR.g; rw [h4]
  have hcn : R1.cnt ≤ 65536 := by
   have h1 := cntL_le R1.sl
   have h2 := h.ok.n
   unfold AR.cnt; rw [h4] at h1 ⊢; omega
  have hv1 : R1.v y = false := by unfold AR.v at hv0 ⊢; rw [h4]; exact hv0
  have hc2 : (R1.put y (R.g y + 1, true)).cnt = R1.cnt + 1 := by
   have := AR.cnt_put (R := R1) y (R.g y + 1, true) hx1
   rw [hv1] at this; simpa using this
  have hn1 : R1.sl.length ≤ 65536 := by rw [h4]; exact h.ok.n
  have hwg : IntKind.u32.wrap ((R.g y : Int) + 1) = (R.g y : Int) + 1 := IntWalk.u32_in _ (by omega)
  have hwc : IntKind.i64.wrap ((R1.cnt : Int) + 1) = (R1.cnt : Int) + 1 := IntWalk.i64_in _ (by omega)
  have hne := h.ne
  have hnw := h.nw
  have HT := Lib.hid (And.intro hTok hc2)
  clear h hq hTok hc2 hcnt hsl hmst hv0 h4
  go_enter Tryz.func66, Tryz.ntmps66
  go_upto_region 4 with (first
   | ((go_at_call 82; (with_reducible refine (k _ (by (repeat (first | assumption | exact Upd.refl _ _ | refine Upd.alloc ?_ _ | refine Upd.drew ?_ | refine Upd.drewN ?_ _ | refine Upd.setCell ?_ ?_ _ | focus (left; simp; done) | focus (right; simp; done) | focus (right; simp; omega))))).mono ?_)); rintro e w1 ⟨rfl, v1, hob, hM, hu1⟩; (have q0 : w1.cell? ⟨w.heap.size, 0, none⟩ = some (.int .i64 0) := hu1.kept (by go_simp) (by simp; omega)); (have q1 : w1.cell? ⟨w.heap.size, 1, none⟩ = some (.int .u32 0) := hu1.kept (by go_simp) (by simp; omega)); (have f0 : w1.frozen? ⟨w.heap.size, 0, none⟩ = false := hu1.keptF (v := .int .i64 0) (by go_simp) (by simp; omega) (by go_simp)); (have f1 : w1.frozen? ⟨w.heap.size, 1, none⟩ = false := hu1.keptF (v := .int .u32 0) (by go_simp) (by simp; omega) (by go_simp)))
   | fail)
  have b0 := hM.c0
  have b1 := hM.s0 hx1
  have b2 := hM.s1 hx1
  have b3 := hM.c3
  have g1 := hM.row.free (y * 2)
  have g2 := hM.row.free (y * 2 + 1)
  have g3 := hM.head.free 3
  have hyI : (y : Int) < (R1.sl.length : Int) := by omega
  rw [hg1] at b1
  have hsz1 := hu1.size
  have hgl := hM.row.lt
  have hnr1 : ¬ ga = w.heap.size := by omega
  have hnr2 : ¬ pa = w.heap.size := by omega
  have hnr3 : ¬ w.heap.size = ga := by omega
  have hnr4 : ¬ w.heap.size = pa := by omega
  have hnp : ¬ ga = pa := fun e => hne e.symm
  have hrow := (hM.row.set (y * 2) (.int .u32 ((R.g y : Int) + 1))).set (y * 2 + 1) (.bool true)
  have HM := Lib.hid (And.intro hM (And.intro hrow (And.intro hu1 (And.intro hob (And.intro hnw hvl)))))
  clear hM hrow hu1 k hob hnw hvl
  generalize hgy : R.g y = gy at *
  generalize R1.cnt = cn at *
  generalize hnn : R1.sl.length = n at *
  have HG := Lib.hid (And.intro hgy hnn)
  clear hgy hnn
  go_wp2
  obtain ⟨hM, hrow, hu1, hob, hnw, hvl⟩ := HM.out
  have e1 : (((gy + 1 : Nat)) : Int) = (gy : Int) + 1 := by omega
  have hU : Upd [ga] w1 ((w1.setCell ⟨ga, y * 2, none⟩ (.int .u32 ((gy : Int) + 1))).setCell ⟨ga, y * 2 + 1, none⟩ (.bool true)) := ((Upd.refl _ _).setCell (Or.inl (by simp)) _).setCell (Or.inl (by simp)) _
  have hok := HT.out.1
  have hct := HT.out.2
  have hP := hM.put (by rw [HG.out.2]; exact hx1) (gy + 1, true) hok (w' := (w1.setCell ⟨ga, y * 2, none⟩ (.int .u32 ((gy : Int) + 1))).setCell ⟨ga, y * 2 + 1, none⟩ (.bool true)) (by
   rw [HG.out.2]
   exact hrow.ext (fun j hj => by dsimp only; rw [e1])) hU
  rw [hct, show ((cn + 1 : Nat) : Int) = (cn : Int) + 1 by omega] at hP
  have hF : ∀ x, x ∈ pa :: ga :: v1.ownBlock.toList → x ∈ pa :: ga :: v.ownBlock.toList := fun x hx => by rw [hob] at hx; exact hx
  have hU1 : Upd (pa :: ga :: v.ownBlock.toList) w w1 := Upd.trans ((Upd.refl _ _).alloc _) (hu1.mono (by simp))
  refine bodyPost_ret (v := .tuple #[.agg #[.int .i64 (y : Int), .int .u32 ((gy : Int) + 1)], .int .i64 0]) (by simp [results, Tryz.results66, go_sem, q0, q1, hnr1, hnr2, hnr3, hnr4]) rfl ⟨by rw [HG.out.1], pa :: ga :: v1.ownBlock.toList, ⟨ga, v1, rfl, ?_⟩, ?_, fun x hx => Or.inl (hF x hx)⟩
  ·rw [HG.out.1]
   refine hP.upd (S := [w.heap.size]) (((Upd.refl _ _).setCell (Or.inl (by simp)) _).setCell (Or.inl (by simp)) _) (fun x hx hm => ?_)
   simp at hx
   subst hx
   have hm2 := hF _ hm
   simp at hm2
   rcases hm2 with e | e | e
   ·exact hnr4 e
   ·exact hnr3 e
   ·have := hvl _ e; omega
  ·exact ((((hU1.setCell (Or.inl (by simp)) _).setCell (Or.inl (by simp)) _).setCell (Or.inl (by simp)) _).setCell (Or.inr (Nat.le_refl _)) _).setCell (Or.inr (Nat.le_refl _)) _
end
end Go.Proofs.YtklibcncmbofpaaGreat
namespace Go.Proofs.YtklibcncmbofpaaGreat
open Go Go.RowKit
theorem off_ok {R : AR} {x : Nat} (h : R.Ok) (hv : R.v x = true) : (R.put x (R.g x, false)).Ok := by
 have k := (give_ok h hv).1
 refine ⟨k.n, k.nx, k.mst, fun z hz => k.wt z ?_, h.nd, k.fresh, k.lv, k.gm⟩
 show z ∈ (if R.g x < R.most then R.wait ++ [x] else R.wait)
 split
 ·exact List.mem_append.2 (Or.inl hz)
 ·exact hz
section
variable {w : World} {pa ga : Nat} {v : Value} {R : AR} {F : List Nat}
theorem ArM.setv2 {w2 : World} (hh : RowAt w2 pa 158 5 (arC ga v R)) (hr : RowAt w2 ga 155 (R.sl.length * 2) (slC R)) (hne : pa ≠ ga) {R' : AR} {v' : Value} (ok : R'.Ok) (e1 : R'.sl = R.sl) (e2 : R'.next = R.next) (e3 : R'.most = R.most) (hw : w2.ownsRow 0 3 1 v' R'.wait.length (intsZ (natsZ R'.wait))) (hb : ∀ k, v'.ownBlock = some k → k ≠ pa ∧ k ≠ ga) :
  ArM (w2.setCell ⟨pa, 1, none⟩ v') pa ga v' R' := by
 have hu : Upd [pa] w2 (w2.setCell ⟨pa, 1, none⟩ v') := (Upd.refl _ _).setCell (Or.inl (by simp)) _
 refine ⟨(hh.set 1 v').ext (fun j hj => ?_), ?_, owns_upd hw hu (fun k hk e => (hb k hk).1 (by simpa using e)), hne, hb, ok⟩
 ·rcases (by omega : j = 0 ∨ j = 1 ∨ j = 2 ∨ j = 3 ∨ j = 4) with rfl | rfl | rfl | rfl | rfl <;> simp [arC, AR.cnt, e1, e2, e3]
 ·rw [e1]
  exact (hr.upd hu (by simp; exact fun e => hne e.symm)).ext (fun j hj => by unfold slC AR.g AR.v; rw [e1])
set_option maxHeartbeats 4000000 in
theorem argive_any (h : ArAt w pa F R) (x : Nat) (hv : R.v x = true) :
    Calls Tryz.prog 67 #[.pointer (some ⟨pa, 0, none⟩), .agg #[.int .i64 (x : Int), .int .u32 (R.g x : Int)]] w fun e w' => e = .returned (.int .i64 0) ∧ Goes F w w' (fun F' => ArAt w' pa F' (giveR R x)) := by
  have hx := AR.v_lt hv
  have hok := h.ok
  have hgm := hok.gm x
  have hmo := hok.mst
  have kl := fun W (hW : Upd [] w W) => arlive_any (h.upd hW (by simp)) (x : Int) (R.g x : Int) (by omega)
  have hlv : liveR R (x : Int) (R.g x : Int) = true := by
    unfold liveR
    rw [show ((x : Nat) : Int).toNat = x by omega, hv, decide_eq_true (by omega : (0 : Int) ≤ x), decide_eq_true (by omega : (x : Int) < R.sl.length)]
    simp
  rw [hlv] at kl
  obtain ⟨ga, v, rfl, h⟩ := h
  obtain ⟨av, cv, rfl, hcv⟩ := own_slice h.wait
  have hGv := give_ok hok hv
  have hoff := off_ok hok hv
  have hcn : R.cnt ≤ 65536 := by have h1 := cntL_le R.sl; have h2 := hok.n; unfold AR.cnt; omega
  have hc1 : (R.put x (R.g x, false)).cnt + 1 = R.cnt := by
    have := AR.cnt_put (R := R) x (R.g x, false) hx
    rw [hv] at this; simpa using this
  have hwc : IntKind.i64.wrap ((R.cnt : Int) - 1) = (R.cnt : Int) - 1 := IntWalk.i64_in _ (by omega)
  have hlp := h.head.lt
  have hlg := h.row.lt
  have hne := h.ne
  have hwl := AR.wait_le hok
  have hnn := hok.n
  have hnx := hok.nx
  have H := Lib.hid (And.intro h (And.intro hoff (And.intro hGv hc1)))
  have hvl := fun k hk => (h.wait.lt k hk).2
  have HVL := Lib.hid (And.intro hvl h.nw)
  have b0' := h.c0
  have b3' := h.c3
  have b4' := h.c4
  have b1' := h.c1
  have s1' := h.s1 hx
  have g2' := h.row.free (x * 2 + 1)
  have g3' := h.head.free 3
  have g1' := h.head.free 1
  have hxI : (x : Int) < (R.sl.length : Int) := by omega
  clear h hok hGv hoff hlv hvl hv
  have hnr1 : ¬ ga = w.heap.size := by omega
  have hnr2 : ¬ pa = w.heap.size := by omega
  have hnr3 : ¬ w.heap.size = ga := by omega
  have hnr4 : ¬ w.heap.size = pa := by omega
  have hnp : ¬ ga = pa := fun e => hne e.symm
  go_enter Tryz.func67, Tryz.ntmps67
  go_wp2_with (first
    | ((go_at_call 83; (with_reducible refine (kl _ (by (repeat (first | assumption | exact Upd.refl _ _ | refine Upd.alloc ?_ _ | refine Upd.drew ?_ | refine Upd.drewN ?_ _ | refine Upd.setCell ?_ ?_ _ | focus (left; simp; done) | focus (right; simp; done) | focus (right; simp; omega))))).mono ?_)); rintro e w1 ⟨rfl, hu1⟩; (have q0 : w1.cell? ⟨w.heap.size, 0, none⟩ = some (.int .i64 (x : Int)) := hu1.was (by go_simp)); (have q1 : w1.cell? ⟨w.heap.size, 1, none⟩ = some (.int .u32 (R.g x : Int)) := hu1.was (by go_simp)); (have hu : Upd [] w w1 := Upd.trans (by (repeat (first | assumption | exact Upd.refl _ _ | refine Upd.alloc ?_ _ | refine Upd.drew ?_ | refine Upd.drewN ?_ _ | refine Upd.setCell ?_ ?_ _ | focus (left; simp; done) | focus (right; simp; done) | focus (right; simp; omega)))) hu1); (have b0 := hu.was b0'); (have b1 := hu.was b1'); (have b3 := hu.was b3'); (have b4 := hu.was b4'); (have s1 := hu.was s1'); (have g1 := hu.keptF b1' (by simp) g1'); (have g2 := hu.keptF s1' (by simp) g2'); (have g3 := hu.keptF b3' (by simp) g3'))
    | fail)
  have HU := Lib.hid hu
  have hsz1 := hu.size
  have hszA := hu1.size
  rw [World.size_alloc] at hszA
  clear hu hu1 kl b0' b1' b3' b4' s1' g1' g2' g3'
  go_region
  go_upto_region 5 with (fail)
  obtain ⟨hM, hoff, hGv, hc1⟩ := H.out
  have hM1 := hM.upd HU.out (by simp)
  have hP := fun W (hW : Upd [] w1 W) => (hM1.upd hW (by simp)).put hx (R.g x, false) hoff (w' := W.setCell ⟨ga, x * 2 + 1, none⟩ (.bool false)) (((hM1.upd hW (by simp)).row.set (x * 2 + 1) (.bool false)).ext (fun j hj => by
    dsimp only
    by_cases e1 : j = x * 2 + 1
    · rw [if_pos e1, if_pos e1]
    · rw [if_neg e1, if_neg e1]
      by_cases e2 : j = x * 2
      · rw [if_pos e2, e2]; unfold slC; rw [if_pos (by omega), show x * 2 / 2 = x by omega]
      · rw [if_neg e2])) ((Upd.refl _ _).setCell (Or.inl (by simp)) _)
  rw [show (((R.put x (R.g x, false)).cnt : Nat) : Int) = (R.cnt : Int) - 1 by omega] at hP
  refine wp_nm (fun W => W.cell? ⟨w.heap.size, 0, none⟩ = some (.int .i64 (x : Int)) ∧ W.cell? ⟨w.heap.size, 1, none⟩ = some (.int .u32 (R.g x : Int)) ∧ ArM W pa ga (.slice av R.wait.length cv) (R.put x (R.g x, false)) ∧ Upd [pa, ga] w W) ⟨by go_simp, by go_simp, (hP w1 (Upd.refl _ _)).upd (S := []) ((Upd.refl _ _).drew) (by simp), ?_⟩ ?_
  · have := HU.out.mono (T := [pa, ga]) (by simp)
    (repeat (first | assumption | exact Upd.refl _ _ | refine Upd.alloc ?_ _ | refine Upd.drew ?_ | refine Upd.drewN ?_ _ | refine Upd.setCell ?_ ?_ _ | focus (left; simp; done) | focus (right; simp; done) | focus (right; simp; omega)))
  rintro W ⟨q2, q3, hMW, hUW⟩
  clear hM1 hP hM b0 b1 b3 b4 s1 g1 g2 g3 q0 q1
  have c1 := hMW.c1
  have c4 := hMW.c4
  have f1 := hMW.head.free 1
  have hw := hMW.wait
  have hszW := hUW.size
  have hlW : w.heap.size < W.heap.size := World.block_lt_of_cell? W _ q2
  have HMW := Lib.hid (And.intro hMW (And.intro hGv hUW))
  clear hMW hUW hGv hc1 hoff
  rw [show (R.put x (R.g x, false)).most = R.most from rfl] at c4
  rw [show (R.put x (R.g x, false)).wait = R.wait from rfl] at hw
  by_cases hlt : R.g x < R.most
  · have hltb : decide ((R.g x : Int) < (R.most : Int)) = true := by simp; exact hlt
    go_wp2
    go_quiet (fail)
    go_wp2
    refine wp_nm (fun W6 => Upd [] W W6) (by (repeat (first | assumption | exact Upd.refl _ _ | refine Upd.alloc ?_ _ | refine Upd.drew ?_ | refine Upd.drewN ?_ _ | refine Upd.setCell ?_ ?_ _ | focus (left; simp; done) | focus (right; simp; done) | focus (right; simp; omega)))) ?_
    intro W6 hu6
    have p1 := hu6.was c1
    have p2 := hu6.was q2
    have pf1 := hu6.keptF c1 (by simp) f1
    have hw6 := owns_upd (S := []) hw hu6 (by simp)
    have hsz6 := hu6.size
    have s0 : Upd [] W6 (W6.drew.alloc (.cells #[.int .i64 (x : Int)] 3)) := ((Upd.refl _ _).drew).alloc _
    have rr : ∀ S X, Upd S W6 X → pa ∉ S → X.frozen? ⟨pa, 1, none⟩ = false := fun S X h hn => h.keptF p1 hn pf1
    have rc : ∀ S X, Upd S W6 X → pa ∉ S → (X.cell? ⟨pa, 1, none⟩).isSome = true := fun S X h hn => by rw [h.kept p1 hn]; rfl
    have hpa6 : pa < W6.heap.size := World.block_lt_of_cell? W6 _ p1
    have hrs6 : w.heap.size < W6.heap.size := World.block_lt_of_cell? W6 _ p2
    clear c1 c4 f1 q2 q3 hltb hw
    go_region_law
      (first
        | (refine step_append_one rfl _ _ 26 rfl 0 3 (.int .i64 0) 1 8 Tryz.underlying26 intInfo rfl (by decide) (.slice av R.wait.length cv) R.wait.length (intsZ (natsZ R.wait)) rfl (hw6.drew.alloc _) W6.heap.size [.int .i64 (x : Int)] rfl rfl (fun j u hj => newCell0 W6 [.int .i64 (x : Int)] 3 j u hj) (by simp [Value.oneCell']) (by unfold maxLen; omega) (by omega) (by simp) ?_
           intro v2 w2 ho2 hu2 hv2
           have hS2 : Upd (Value.slice av R.wait.length cv).ownBlock.toList W6 w2 := (s0.mono (by simp)).trans hu2
           have hnp2 : pa ∉ (Value.slice av R.wait.length cv).ownBlock.toList := fun e => by have := HVL.out.2 pa (by simpa using e); omega
           have z1 := hS2.kept p1 hnp2
           have zf1 := hS2.keptF p1 hnp2 pf1
           obtain ⟨a2, cap2, rfl, hcap2⟩ := own_slice ho2))
    all_goals
      go_wp2
      go_ret
      obtain ⟨hMW, hGv, hUW⟩ := HMW.out
      have hM6 := hMW.upd hu6 (by simp)
      have hgw : ga ∉ (Value.slice av R.wait.length cv).ownBlock.toList := fun e => by have := HVL.out.2 ga (by simpa using e); omega
      have eR : giveR R x = { R.put x (R.g x, false) with wait := R.wait ++ [x] } := by unfold giveR; rw [if_pos hlt]
      have hob : ∀ k, (Value.slice a2 (R.wait.length + 1) cap2).ownBlock = some k → (Value.slice av R.wait.length cv).ownBlock = some k ∨ W6.heap.size ≤ k := fun k hk => by
        rcases hv2 with h | h
        · rw [h] at hk; exact Or.inl hk
        · rw [h] at hk; simp at hk; exact Or.inr (by omega)
      have hfin := ArM.setv2 (hM6.head.upd hS2 hnp2) (hM6.row.upd hS2 hgw) hne (R' := giveR R x) (v' := .slice a2 (R.wait.length + 1) cap2) hGv.1 (by rw [eR]) (by rw [eR]) (by rw [eR]) (by
        have e2 : (giveR R x).wait = R.wait ++ [x] := by rw [eR]
        rw [e2, List.length_append, show natsZ (R.wait ++ [x]) = natsZ R.wait ++ [(x : Int)] from by unfold natsZ; simp, intsZ_append]
        exact ho2) (fun k hk => by
        rcases hob k hk with h | h
        · exact HVL.out.2 k h
        · omega)
      refine ⟨rfl, pa :: ga :: (Value.slice a2 (R.wait.length + 1) cap2).ownBlock.toList, ⟨ga, _, rfl, hfin⟩, ?_, fun k hk => ?_⟩
      · have h1 : Upd (pa :: ga :: (Value.slice av R.wait.length cv).ownBlock.toList) w W6 := (hUW.mono (fun z hz => by simp at hz ⊢; omega)).trans (hu6.mono (by simp))
        exact (h1.trans (hS2.mono (fun z hz => by simp [hz]))).setCell (Or.inl (by simp)) _
      · simp only [List.mem_cons] at hk ⊢
        rcases hk with h | h | h
        · exact Or.inl (Or.inl h)
        · exact Or.inl (Or.inr (Or.inl h))
        · rcases hob k (by simpa using h) with h' | h'
          · exact Or.inl (Or.inr (Or.inr (by simpa using h')))
          · exact Or.inr (by omega)
  · have hltb : decide ((R.g x : Int) < (R.most : Int)) = false := by simp; omega
    go_wp2
    go_quiet (fail)
    go_wp2
    go_ret
    obtain ⟨hMW, hGv, hUW⟩ := HMW.out
    have eR : giveR R x = R.put x (R.g x, false) := by unfold giveR; rw [if_neg hlt]; rfl
    rw [eR]
    refine ⟨rfl, _, ⟨ga, _, rfl, hMW.upd (S := []) (by (repeat (first | assumption | exact Upd.refl _ _ | refine Upd.alloc ?_ _ | refine Upd.drew ?_ | refine Upd.drewN ?_ _ | refine Upd.setCell ?_ ?_ _ | focus (left; simp; done) | focus (right; simp; done) | focus (right; simp; omega)))) (by simp)⟩, ?_, fun k hk => Or.inl hk⟩
    have h1 : Upd (pa :: ga :: (Value.slice av R.wait.length cv).ownBlock.toList) w W := hUW.mono (fun z hz => by simp at hz ⊢; omega)
    exact h1.trans (by (repeat (first | assumption | exact Upd.refl _ _ | refine Upd.alloc ?_ _ | refine Upd.drew ?_ | refine Upd.drewN ?_ _ | refine Upd.setCell ?_ ?_ _ | focus (left; simp; done) | focus (right; simp; done) | focus (right; simp; omega))))
end
end Go.Proofs.YtklibcncmbofpaaGreat
namespace Go.Proofs.YtklibcncmbofpaaGreat
open Go Go.RowKit
def pqC (K : NestQ) (pa pn : Nat) (kd d : Int) (q : Nat) (j : Nat) : Value := [Value.int .i64 kd, .int .i64 d, .pointer (some ⟨pa, 0, none⟩), .iface K.ty (.pointer (some ⟨pn, 0, none⟩)), .int .u64 (q : Int)].getD j undef
structure PqM (K : NestQ) (w : World) (p pa pn : Nat) (Fa Fn : List Nat) (kd d : Int) (R : AR) (A : NS) (q : Nat) : Prop where
 head : RowAt w p 124 5 (pqC K pa pn kd d q)
 ar : ArAt w pa Fa R
 nest : K.at_ w pn Fn A
 s1 : p ∉ Fa
 s2 : p ∉ Fn
 s3 : ∀ x, x ∈ Fa → x ∉ Fn
 len : R.sl.length = A.cs.length
 link : ∀ x : Nat, R.v x = inN A (x : Int)
def PqAt (K : NestQ) (w : World) (p : Nat) (F : List Nat) (kd d : Int) (R : AR) (A : NS) (q : Nat) : Prop := ∃ pa pn Fa Fn, F = p :: (Fa ++ Fn) ∧ PqM K w p pa pn Fa Fn kd d R A q
section
variable {K : NestQ} {w : World} {p pa pn : Nat} {Fa Fn F : List Nat} {kd d : Int} {R : AR} {A : NS} {q : Nat}
theorem PqM.c2 (h : PqM K w p pa pn Fa Fn kd d R A q) : w.cell? ⟨p, 2, none⟩ = some (.pointer (some ⟨pa, 0, none⟩)) := h.head.cellAt 2 (by omega) rfl
theorem PqM.c3 (h : PqM K w p pa pn Fa Fn kd d R A q) : w.cell? ⟨p, 3, none⟩ = some (.iface K.ty (.pointer (some ⟨pn, 0, none⟩))) := h.head.cellAt 3 (by omega) rfl
theorem PqM.c4 (h : PqM K w p pa pn Fa Fn kd d R A q) : w.cell? ⟨p, 4, none⟩ = some (.int .u64 (q : Int)) := h.head.cellAt 4 (by omega) rfl
theorem PqM.upd {w' : World} {S : List Nat} (h : PqM K w p pa pn Fa Fn kd d R A q) (hu : Upd S w w') (hS : ∀ x, x ∈ S → x ∉ p :: (Fa ++ Fn)) : PqM K w' p pa pn Fa Fn kd d R A q :=
 ⟨h.head.upd hu (fun e => hS _ e (by simp)), h.ar.upd hu (fun x hx hm => hS x hx (by simp [hm])), K.upd h.nest hu (fun x hx hm => hS x hx (by simp [hm])), h.s1, h.s2, h.s3, h.len, h.link⟩
theorem PqAt.upd {w' : World} {S : List Nat} (h : PqAt K w p F kd d R A q) (hu : Upd S w w') (hS : ∀ x, x ∈ S → x ∉ F) : PqAt K w' p F kd d R A q := by
 obtain ⟨pa, pn, Fa, Fn, rfl, h⟩ := h
 exact ⟨pa, pn, Fa, Fn, rfl, h.upd hu hS⟩
theorem PqAt.upd0 {w' : World} (h : PqAt K w p F kd d R A q) (hu : Upd [] w w') : PqAt K w' p F kd d R A q := h.upd hu (by simp)
theorem PqM.lt (h : PqM K w p pa pn Fa Fn kd d R A q) : ∀ x, x ∈ p :: (Fa ++ Fn) → x < w.heap.size := fun x hx => by
 simp only [List.mem_cons, List.mem_append] at hx
 rcases hx with rfl | hx | hx
 ·exact h.head.lt
 ·exact h.ar.lt x hx
 ·exact K.lt h.nest x hx
theorem PqAt.lt (h : PqAt K w p F kd d R A q) : ∀ x, x ∈ F → x < w.heap.size := by
 obtain ⟨pa, pn, Fa, Fn, rfl, h⟩ := h
 exact h.lt
theorem PqAt.ok (h : PqAt K w p F kd d R A q) : A.Ok ∧ R.Ok ∧ R.sl.length = A.cs.length ∧ ∀ x : Nat, R.v x = inN A (x : Int) := by
 obtain ⟨pa, pn, Fa, Fn, rfl, h⟩ := h
 exact ⟨K.ok h.nest, h.ar.ok, h.len, h.link⟩
theorem PqM.nestG (h : PqM K w p pa pn Fa Fn kd d R A q) {w' : World} {Fn' : List Nat} {A' : NS} (hn : K.at_ w' pn Fn' A') (hu : Upd Fn w w') (hf : ∀ x, x ∈ Fn' → x ∈ Fn ∨ w.heap.size ≤ x) (hl : A'.cs.length = A.cs.length) {R' : AR} (ha : ArAt w' pa Fa R') (hl2 : R'.sl.length = R.sl.length)
  (hk : ∀ x : Nat, R'.v x = inN A' (x : Int)) : PqM K w' p pa pn Fa Fn' kd d R' A' q :=
 ⟨h.head.upd hu h.s2, ha, hn, h.s1, fun e => by rcases hf _ e with e | e; exact h.s2 e; have := h.head.lt; omega, fun x hx e => by rcases hf _ e with e | e; exact h.s3 x hx e; have := h.ar.lt x hx; omega, by rw [hl2, hl]; exact h.len, hk⟩
theorem makeN_in (A : NS) (x : Int) : inN (makeN A) x = inN A x := by unfold makeN; split <;> rfl
theorem makeN_len (A : NS) : (makeN A).cs.length = A.cs.length := by unfold makeN; split <;> rfl
set_option maxRecDepth 10000 in
theorem pnewheap_any (h : PqAt K w p F kd d R A q) :
  Calls Tryz.prog 65 #[.pointer (some ⟨p, 0, none⟩)] w fun e w' => e = .returned (.tuple #[.int .i64 (makeV A), .int .i64 (if makeV A = 0 then 32 else 0)]) ∧ Goes F w w' (fun F' => PqAt K w' p F' kd d R (makeN A) q) := by
 obtain ⟨pa, pn, Fa, Fn, rfl, h⟩ := h
 have c3 := h.c3
 obtain ⟨f, fv, hen, hfv⟩ := K.make h.nest
 unfold Enters at hen
 have hm := (hfv w (Upd.refl _ _)).1
 have hc := (hfv w (Upd.refl _ _)).2
 have HK := Lib.hid (show ∀ w' Fn', K.at_ w' pn Fn' (makeN A) → Upd Fn w w' → (∀ x, x ∈ Fn' → x ∈ Fn ∨ w.heap.size ≤ x) → Goes (p :: (Fa ++ Fn)) w w' (fun F' => PqAt K w' p F' kd d R (makeN A) q) from fun w' Fn' hn hu hf => by
  refine ⟨p :: (Fa ++ Fn'), ⟨pa, pn, Fa, Fn', rfl, h.nestG hn hu hf (makeN_len A) (h.ar.upd hu (fun x hx hm => h.s3 x hm hx)) rfl (fun x => by rw [makeN_in]; exact h.link x)⟩, hu.mono (fun x hx => by simp [hx]), fun x hx => ?_⟩
  simp only [List.mem_cons, List.mem_append] at hx ⊢
  rcases hx with hx | hx | hx
  ·exact Or.inl (Or.inl hx)
  ·exact Or.inl (Or.inr (Or.inl hx))
  ·rcases hf x hx with hx | hx
   ·exact Or.inl (Or.inr (Or.inr hx))
   ·exact Or.inr hx)
 clear h hfv
 generalize makeV A = mv at *
 by_cases hz : mv = 0
 ·subst hz
  go_enter Tryz.func65, Tryz.ntmps65
  go_wp2_with (first
   | ((with_reducible refine (hc).mono ?_); rintro e w1 ⟨rfl, Fn', hn, hu, hf⟩)
   | fail)
  go_ret2
  exact ⟨rfl, HK.out _ _ hn hu hf⟩
 ·have hzb : (mv == 0) = false := by simpa using hz
  rw [if_neg hz]
  clear hz
  go_enter Tryz.func65, Tryz.ntmps65
  go_wp2_with (first
   | ((with_reducible refine (hc).mono ?_); rintro e w1 ⟨rfl, Fn', hn, hu, hf⟩)
   | fail)
  go_ret2
  exact ⟨rfl, HK.out _ _ hn hu hf⟩
end
end Go.Proofs.YtklibcncmbofpaaGreat
namespace Go.Proofs.YtklibcncmbofpaaGreat
open Go.RowKit
def chk (k d : Int) : Int :=
 if k < 1 ∨ 8 < k then 21 else if (k = 2 ∧ (d < 2 ∨ 16 < d)) ∨ (k ≠ 2 ∧ d ≠ 0) then 22 else 0
theorem chk_21 {k d : Int} (h : k < 1 ∨ 8 < k) : chk k d = 21 := by unfold chk; rw [if_pos h]
theorem chk_22 {k d : Int} (h : ¬ (k < 1 ∨ 8 < k)) (h2 : (k = 2 ∧ (d < 2 ∨ 16 < d)) ∨ (k ≠ 2 ∧ d ≠ 0)) : chk k d = 22 := by unfold chk; rw [if_neg h, if_pos h2]
theorem chk_0 {k d : Int} (h : ¬ (k < 1 ∨ 8 < k)) (h2 : ¬ ((k = 2 ∧ (d < 2 ∨ 16 < d)) ∨ (k ≠ 2 ∧ d ≠ 0))) : chk k d = 0 := by unfold chk; rw [if_neg h, if_neg h2]
theorem chk_ok {k d : Int} (h : chk k d = 0) : 1 ≤ k ∧ k ≤ 8 ∧ (k = 2 → 2 ≤ d ∧ d ≤ 16) ∧ (k ≠ 2 → d = 0) := by
 unfold chk at h; split at h
 ·omega
 ·split at h
  ·omega
  ·omega
set_option maxHeartbeats 400000 in
theorem check_any (k d : Int) (w : World) :
  Calls Tryz.prog 50 #[.agg #[.int .i64 k, .int .i64 d]] w fun e w' => e = .returned (.int .i64 (chk k d)) ∧ Upd [] w w' := by
 go_enter Tryz.func50, Tryz.ntmps50
 go_wp2
 all_goals
  go_ret
  refine ⟨ret_int ?_, (Upd.refl _ _).alloc _⟩
  try simp only [bne_iff_ne, ne_eq, bne_eq_false_iff_eq] at *
  first
  | (rw [chk_21 (by omega)]; done)
  | (rw [chk_22 (by omega) (by omega)]; done)
  | (rw [chk_0 (by omega) (by omega)]; done)
end Go.Proofs.YtklibcncmbofpaaGreat
namespace Go.Proofs.YtklibcncmbofpaaGreat
open Go Go.RowKit
def Opens (K : NestQ) (kd d : Int) (n : Nat) : Prop := ∀ W : World, Calls Tryz.prog 81 #[.agg #[.int .i64 kd, .int .i64 d], .int .i64 (n : Int)] W fun e w' => ∃ pn Fn, e = .returned (.tuple #[.iface K.ty (.pointer (some ⟨pn, 0, none⟩)), .int .i64 0]) ∧ K.at_ w' pn Fn (NS.new n) ∧ Upd [] W w' ∧ ∀ x, x ∈ Fn → W.heap.size ≤ x
theorem new_in (n : Nat) (x : Nat) : inN (NS.new n) (x : Int) = false := by
 cases h : inN (NS.new n) (x : Int) with
 | false => rfl
 | true => have := (inN_nat _ _).1 h; rw [NS.new_c] at this; exact absurd this.2 (by simp [Cl.z])
theorem new_v (n m x : Nat) : (AR.new n m).v x = false := by
 unfold AR.new AR.v
 simp only [List.getD_eq_getElem?_getD, List.getElem?_replicate]
 split <;> rfl
set_option maxHeartbeats 1000000 in
set_option maxRecDepth 10000 in
theorem popen_any {K : NestQ} {kd d : Int} (n m : Nat) (w : World) (hn : n ≤ 65536) (hm : 1 ≤ m ∧ m ≤ 4294967295) (hc : chk kd d = 0) (ko : Opens K kd d n) :
  Calls Tryz.prog 64 #[.agg #[.int .i64 kd, .int .i64 d], .int .i64 (n : Int), .int .u32 (m : Int)] w fun e w' => ∃ p F, e = .returned (.tuple #[.pointer (some ⟨p, 0, none⟩), .int .i64 0]) ∧ PqAt K w' p F kd d (AR.new n m) (NS.new n) 0 ∧ Upd [] w w' ∧ ∀ x, x ∈ F → w.heap.size ≤ x := by
 have kc := fun W => check_any kd d W
 rw [hc] at kc
 have ka := fun W => arnew_yes n m W hn hm
 unfold Opens at ko
 have hcs : (NS.new n).cs.length = n := by simp [NS.new]
 have hal : (AR.new n m).sl.length = n := by simp [AR.new]
 have HL := Lib.hid (And.intro hcs hal)
 clear hcs hal hc
 go_enter Tryz.func64, Tryz.ntmps64
 go_wp2_with (first
  | ((go_at_call 50; (with_reducible refine (kc _).mono ?_)); rintro e w1 ⟨rfl, hu1⟩; (have q0 : w1.cell? ⟨w.heap.size, 0, none⟩ = some (.int .i64 kd) := hu1.was (by go_simp)); (have q1 : w1.cell? ⟨w.heap.size, 1, none⟩ = some (.int .i64 d) := hu1.was (by go_simp)); (have hw1 : Upd [] w w1 := Upd.trans (by (repeat (first | assumption | exact Upd.refl _ _ | refine Upd.alloc ?_ _ | refine Upd.drew ?_ | refine Upd.drewN ?_ _ | refine Upd.setCell ?_ ?_ _ | focus (left; simp; done) | focus (right; simp; done) | focus (right; simp; omega)))) hu1))
  | ((go_at_call 80; (with_reducible refine (ka _).mono ?_)); rintro e w2 ⟨pa, Fa, rfl, hA, hu2, hfa⟩; (have q2 := hu2.was q0); (have q3 := hu2.was q1))
  | ((go_at_call 81; (with_reducible refine (ko _).mono ?_)); rintro e w3 ⟨pn, Fn, rfl, hN, hu3, hfn⟩; (have q4 := hu3.was q2); (have q5 := hu3.was q3))
  | fail)
 go_ret2
 have hh := rowAt_new w3 [.int .i64 kd, .int .i64 d, .pointer (some ⟨pa, 0, none⟩), .iface K.ty (.pointer (some ⟨pn, 0, none⟩)), .int .u64 0] 124
 have hb : Upd [] w3 (w3.alloc (.cells #[.int .i64 kd, .int .i64 d, .pointer (some ⟨pa, 0, none⟩), .iface K.ty (.pointer (some ⟨pn, 0, none⟩)), .int .u64 0] 124)) := (Upd.refl _ _).alloc _
 have hAl := hA.lt
 have hNl := K.lt hN
 have s3 := hu3.size
 have s1 := hw1.size
 have s2 := hu2.size
 refine ⟨w3.heap.size, w3.heap.size :: (Fa ++ Fn), rfl, ⟨pa, pn, Fa, Fn, rfl, ⟨hh.ext (fun j hj => by unfold pqC; rfl), (hA.upd hu3 (by simp)).upd hb (by simp), K.upd hN hb (by simp), fun e => by have := hAl _ e; omega, fun e => by have := hNl _ e; omega, fun x h1 h2 => by have := hAl x h1; have := hfn x h2; omega, by rw [HL.out.1, HL.out.2], fun x => by rw [new_v, new_in]⟩⟩, ((hw1.trans hu2).trans hu3).trans hb, fun x hx => ?_⟩
 simp only [List.mem_cons, List.mem_append] at hx
 rcases hx with rfl | hx | hx
 ·omega
 ·have := hfa x hx; omega
 ·have := hfn x hx; omega
end Go.Proofs.YtklibcncmbofpaaGreat
namespace Go.Proofs.YtklibcncmbofpaaGreat
open Go Go.RowKit
section
variable {K : NestQ} {w : World} {p pa pn : Nat} {Fa Fn F : List Nat} {kd d : Int} {R : AR} {A : NS} {q : Nat}
theorem put_in {A : NS} {hh x k s : Int} (hB : putB A hh x = true) (y : Nat) : inN (putN A hh x k s) (y : Int) = (inN A (y : Int) || decide ((y : Int) = x)) := by
 obtain ⟨b1, b2, b3⟩ := (putB_iff _ _ _).1 hB
 have b4 := (hasN_iff _ _).1 b1
 have b5 := (slotN_iff _ _).1 b2
 unfold putN
 rw [if_pos hB]
 have e1 : inN (withN A x.toNat ⟨hh, k, s⟩) (y : Int) = true ↔ (inN A (y : Int) || decide ((y : Int) = x)) = true := by
  rw [inN_nat, len_with, c_with, Bool.or_eq_true, inN_nat, decide_eq_true_eq]
  by_cases e : y = x.toNat
  ·rw [if_pos ⟨e, by omega⟩]
   constructor
   ·intro _; right; omega
   ·intro _; exact ⟨by omega, by show 0 < hh; omega⟩
  ·rw [if_neg (fun h => e h.1)]
   constructor
   ·intro h; exact Or.inl h
   ·rintro (h | h)
    ·exact h
    ·omega
 cases h1 : inN (withN A x.toNat ⟨hh, k, s⟩) (y : Int) <;> cases h2 : (inN A (y : Int) || decide ((y : Int) = x)) <;> simp_all
theorem putN_len (A : NS) (h x k s : Int) : (putN A h x k s).cs.length = A.cs.length := by unfold putN; split; exact len_with _ _ _; rfl
theorem take_v {R R' : AR} {x : Nat} (h : R.Ok) (hp : takeR R = some (x, R')) (y : Nat) : R'.v y = (R.v y || decide ((y : Int) = (x : Int))) := by
 obtain ⟨_, h1, h2, _, h3, _⟩ := take_ok h hp
 have e : R'.v y = (R.put x (R.g x + 1, true)).v y := by unfold AR.v AR.put; rw [h3]
 rw [e, AR.v_put]
 by_cases e2 : y = x
 ·rw [if_pos ⟨e2, h1⟩, e2]; simp
 ·rw [if_neg (fun h => e2 h.1), decide_eq_false (by omega)]; simp
set_option maxHeartbeats 4000000 in
set_option maxRecDepth 10000 in
theorem pinsert_yes (h : PqAt K w p F kd d R A q) (hh k : Int) (hB : hasN A hh = true) (hk : -9223372036854775808 ≤ k ∧ k ≤ 9223372036854775807) (hq : q + 1 ≤ 18446744073709551615) {x : Nat} {R' : AR} (hT : takeR R = some (x, R')) :
  Calls Tryz.prog 40 #[.pointer (some ⟨p, 0, none⟩), .int .i64 hh, .int .i64 k] w fun e w' => e = .returned (.tuple #[.agg #[.int .i64 (x : Int), .int .u32 ((R.g x : Int) + 1)], .int .i64 0]) ∧
   Goes F w w' (fun F' => PqAt K w' p F' kd d R' (putN A hh (x : Int) k ((q : Int) + 1)) (q + 1)) := by
 obtain ⟨hh, rfl⟩ : ∃ n : Nat, hh = n := ⟨hh.toNat, by have := (hasN_iff _ _).1 hB; omega⟩
 obtain ⟨pa, pn, Fa, Fn, rfl, h⟩ := h
 have hok := K.ok h.nest
 have hTk := take_ok h.ar.ok hT
 have hlink := h.link
 have hBp : putB A (hh : Int) (x : Int) = true := by
  rw [putB_iff]
  refine ⟨hB, (slotN_iff _ _).2 ⟨by omega, by have := h.len; omega⟩, ?_⟩
  rw [← h.link]; exact hTk.2.2.1
 have hb4 := (hasN_iff _ _).1 hB
 have hhs := hok.h1
 have hsn := hok.c1
 have hxl := hTk.2.1
 have hlen := h.len
 have hac : -9223372036854775808 ≤ k ∧ k ≤ 9223372036854775807 ∧ 0 ≤ (q : Int) + 1 ∧ (q : Int) + 1 ≤ 18446744073709551615 := by omega
 have c2 := h.c2
 have c3' := h.c3
 have c4' := h.c4
 have f4' := h.head.free 4
 have hpl := h.head.lt
 have hFa := h.ar.lt
 have hFn := K.lt h.nest
 have hs1 := h.s1
 have hs2 := h.s2
 have hs3 := h.s3
 have hu0 : Upd [] w (w.alloc (.cells #[.int .i64 0, .int .u32 0] 85)) := (Upd.refl [] w).alloc _
 have hN := K.upd h.nest hu0 (by simp)
 have kt := fun W (hW : Upd [] w W) => artake_some (h.ar.upd hW (by simp)) hT
 obtain ⟨f, fv, hen, hfv⟩ := K.has hh hN
 unfold Enters at hen
 have hm := (hfv _ (Upd.refl _ _)).1
 have hc := (hfv _ (Upd.refl _ _)).2
 rw [hB] at hc
 have hwq : IntKind.u64.wrap ((q : Int) + 1) = (q : Int) + 1 := IntWalk.u64_in _ (by omega)
 have hrF : w.heap.size ∉ Fa := fun e => by have := hFa _ e; omega
 have HH := Lib.hid (And.intro h (And.intro hN (And.intro hac (And.intro hFa (And.intro hFn (And.intro hs3 (And.intro hlink hTk)))))))
 have HBp := Lib.hid hBp
 clear h hfv hN hac hFa hFn hs3 hlink hTk hok hB hBp
 go_enter Tryz.func40, Tryz.ntmps40
 go_upto_region 7 with (first
  | ((with_reducible refine (hc).mono ?_); rintro e w1 ⟨rfl, rfl⟩)
  | ((go_at_call 66; (with_reducible refine (kt _ (by (repeat (first | assumption | exact Upd.refl _ _ | refine Upd.alloc ?_ _ | refine Upd.drew ?_ | refine Upd.drewN ?_ _ | refine Upd.setCell ?_ ?_ _ | focus (left; simp; done) | focus (right; simp; done) | focus (right; simp; omega))))).mono ?_)); rintro e w2 ⟨rfl, Fa', hA2, huA, hfA⟩; (have c3 : w2.cell? ⟨p, 3, none⟩ = some (.iface K.ty (.pointer (some ⟨pn, 0, none⟩))) := huA.kept (hu0.was c3') hs1); (have c4 : w2.cell? ⟨p, 4, none⟩ = some (.int .u64 (q : Int)) := huA.kept (hu0.was c4') hs1); (have f4 : w2.frozen? ⟨p, 4, none⟩ = false := huA.keptF (hu0.was c4') hs1 (hu0.keptF c4' (by simp) f4')); (have q0 : w2.cell? ⟨w.heap.size, 0, none⟩ = some (.int .i64 0) := huA.kept (by go_simp) hrF); (have q1 : w2.cell? ⟨w.heap.size, 1, none⟩ = some (.int .u32 0) := huA.kept (by go_simp) hrF); (have f0 : w2.frozen? ⟨w.heap.size, 0, none⟩ = false := huA.keptF (v := .int .i64 0) (by go_simp) hrF (by go_simp)); (have f1 : w2.frozen? ⟨w.heap.size, 1, none⟩ = false := huA.keptF (v := .int .u32 0) (by go_simp) hrF (by go_simp)); (have hp2 := World.block_lt_of_cell? w2 _ c3); (have hr2 := World.block_lt_of_cell? w2 _ q0))
  | fail)
 obtain ⟨h, hN0, hac, hFa, hFn, hs3, hlink, hTk⟩ := HH.out
 have hd2 : RowAt w2 p 124 5 (pqC K pa pn kd d q) := (h.head.upd hu0 (by simp)).upd huA hs1
 have hN2 : K.at_ w2 pn Fn A := K.upd hN0 huA hs3
 have hUp : Upd [p] w2 ((w2.setCell ⟨p, 4, none⟩ (.int .u64 ((q : Int) + 1))).alloc (.cells #[.int .i64 (x : Int), .int .u32 ((R.g x : Int) + 1)] 85)) := ((Upd.refl _ _).setCell (Or.inl (by simp)) _).alloc _
 have hpFa' : p ∉ Fa' := fun e => by rcases hfA _ e with e | e; exact hs1 e; simp at e; omega
 have hrFa : ∀ z, z ∈ Fa' → z < w2.heap.size := hA2.lt
 refine wp_nm (fun W => RowAt W p 124 5 (pqC K pa pn kd d (q + 1)) ∧ ArAt W pa Fa' R' ∧ K.at_ W pn Fn A ∧ W.cell? ⟨w2.heap.size, 0, none⟩ = some (.int .i64 (x : Int)) ∧ W.cell? ⟨w2.heap.size, 1, none⟩ = some (.int .u32 ((R.g x : Int) + 1)) ∧
  W.cell? ⟨w.heap.size, 0, none⟩ = some (.int .i64 0) ∧ W.cell? ⟨w.heap.size, 1, none⟩ = some (.int .u32 0) ∧ W.frozen? ⟨w.heap.size, 0, none⟩ = false ∧ W.frozen? ⟨w.heap.size, 1, none⟩ = false ∧ Upd [p] w2 W)
  ⟨((hd2.set 4 _).ext (fun j hj => ?_)).alloc _, hA2.upd hUp (fun z hz => by simp at hz; rw [hz]; exact hpFa'), K.upd hN2 hUp (fun z hz => by simp at hz; rw [hz]; exact hs2), by go_simp, by go_simp, hUp.kept q0 (by simp; omega), hUp.kept q1 (by simp; omega), hUp.keptF q0 (by simp; omega) f0, hUp.keptF q1 (by simp; omega) f1, hUp⟩ ?_
 ·rcases (by omega : j = 0 ∨ j = 1 ∨ j = 2 ∨ j = 3 ∨ j = 4) with rfl | rfl | rfl | rfl | rfl <;> simp [pqC]
 rintro W ⟨hd, hA, hN, x0, x1, r0, r1, fr0, fr1, hUW⟩
 have z3 : W.cell? ⟨p, 3, none⟩ = some (.iface K.ty (.pointer (some ⟨pn, 0, none⟩))) := hd.cellAt 3 (by omega) rfl
 have z4 : W.cell? ⟨p, 4, none⟩ = some (.int .u64 ((q : Int) + 1)) := hd.cellAt 4 (by omega) (by simp [pqC])
 obtain ⟨f2, fv2, hen2, hfv2⟩ := K.insert hh x k ((q : Int) + 1) hac HBp.out hN
 unfold Enters at hen2
 have hm2 := (hfv2 W.drew ((Upd.refl _ _).drew)).1
 have hc2 := (hfv2 W.drew ((Upd.refl _ _).drew)).2
 have hszW := hUW.size
 have hrw : w.heap.size < W.heap.size := by omega
 have hxw : w2.heap.size < W.heap.size := World.block_lt_of_cell? W _ x0
 have hxFn : w2.heap.size ∉ Fn := fun e => by have := hFn _ e; omega
 have hrFn : w.heap.size ∉ Fn := fun e => by have := hFn _ e; omega
 have hmemW : ∀ z, z ∈ Fa' → z ∈ Fn → False := fun z h1 h2 => by
  rcases hfA z h1 with e | e
  ·exact hs3 z e h2
  ·have := hFn z h2; simp at e; omega
 have hFAlt : ∀ z, z ∈ Fa' → z < W.heap.size := hA.lt
 have hUw2 : Upd (p :: (Fa ++ Fn)) w w2 := Upd.trans ((Upd.refl _ _).alloc _) (huA.mono (fun z hz => by simp [hz]))
 have HFIN : Hid (∀ w5 F5, K.at_ w5 pn F5 (putN A hh (x : Int) k ((q : Int) + 1)) → Upd Fn W.drew w5 → (∀ z, z ∈ F5 → z ∈ Fn ∨ W.drew.heap.size ≤ z) → ∀ v0 v1, Goes (p :: (Fa ++ Fn)) w ((w5.setCell ⟨w.heap.size, 0, none⟩ v0).setCell ⟨w.heap.size, 1, none⟩ v1) (fun F' => PqAt K ((w5.setCell ⟨w.heap.size, 0, none⟩ v0).setCell ⟨w.heap.size, 1, none⟩ v1) p F' kd d R' (putN A hh (x : Int) k ((q : Int) + 1)) (q + 1))) := by
  intro w5 F5 hA5 hu5' hF5 v0 v1
  have hu5 : Upd Fn W w5 := ((Upd.refl Fn W).drew).trans hu5'
  have hr : Upd [w.heap.size] w5 ((w5.setCell ⟨w.heap.size, 0, none⟩ v0).setCell ⟨w.heap.size, 1, none⟩ v1) := ((Upd.refl _ _).setCell (Or.inl (by simp)) _).setCell (Or.inl (by simp)) _
  have hrF5 : w.heap.size ∉ F5 := fun e => by rcases hF5 _ e with e | e; exact hrFn e; have e' : W.heap.size ≤ w.heap.size := e; omega
  have hrFa' : w.heap.size ∉ Fa' := fun e => by rcases hfA _ e with e | e; have := hFa _ e; omega; simp at e; omega
  refine ⟨p :: (Fa' ++ F5), ⟨pa, pn, Fa', F5, rfl, ⟨(hd.upd hu5 hs2).upd hr (by simp; omega), (hA.upd hu5 (fun z h1 h2 => hmemW z h2 h1)).upd hr (fun z hz => by simp at hz; rw [hz]; exact hrFa'), K.upd hA5 hr (fun z hz => by simp at hz; rw [hz]; exact hrF5), hpFa', fun e => ?_, fun z h1 h2 => ?_, ?_, fun y => ?_⟩⟩, ?_, fun z hz => ?_⟩
  ·rcases hF5 _ e with e | e
   ·exact hs2 e
   ·have e' : W.heap.size ≤ p := e; omega
  ·rcases hF5 _ h2 with e | e
   ·exact hmemW z h1 e
   ·have e' : W.heap.size ≤ z := e; have := hFAlt z h1; omega
  ·rw [putN_len, ← hlen, hTk.2.2.2.2.1]; simp
  ·rw [take_v h.ar.ok hT, put_in HBp.out, hlink]
  ·have h1 := (hUw2.trans (hUW.mono (by simp))).trans (hu5.mono (fun z hz => by simp [hz]))
   exact (h1.setCell (Or.inr (Nat.le_refl _)) _).setCell (Or.inr (Nat.le_refl _)) _
  ·simp only [List.mem_cons, List.mem_append] at hz ⊢
   rcases hz with hz | hz | hz
   ·exact Or.inl (Or.inl hz)
   ·rcases hfA z hz with e | e
    ·exact Or.inl (Or.inr (Or.inl e))
    ·simp at e; exact Or.inr (by omega)
   ·rcases hF5 z hz with e | e
    ·exact Or.inl (Or.inr (Or.inr e))
    ·have e' : W.heap.size ≤ z := e; exact Or.inr (by omega)
 clear h hN0 hac hFa hFn hlink hTk hd2 hN2 hd hA hN hUW hfv2 q0 q1 f0 f1 c3 c4 f4 c2 c3' c4' f4' hc hm hen kt hA2 hUp huA hfA hpFa' hmemW hFAlt hUw2
 go_region_law
  (first
   | (go_simp; (with_reducible refine (hc2).mono ?_); rintro e w5 ⟨rfl, F5, hA5, hu5, hF5⟩; (have y0 := hu5.kept x0 hxFn); (have y1 := hu5.kept x1 hxFn); (have t0 := hu5.kept r0 hrFn); (have t1 := hu5.kept r1 hrFn); (have tf0 := hu5.keptF r0 hrFn fr0); (have tf1 := hu5.keptF r1 hrFn fr1)))
 all_goals
  go_wp2
  exact bodyPost_ret (v := .tuple #[.agg #[.int .i64 (x : Int), .int .u32 ((R.g x : Int) + 1)], .int .i64 0]) (by simp [results, Tryz.results40, go_sem, t0, t1]) rfl ⟨rfl, HFIN.out _ _ hA5 hu5 hF5 _ _⟩
end
end Go.Proofs.YtklibcncmbofpaaGreat
namespace Go.Proofs.YtklibcncmbofpaaGreat
open Go Go.RowKit
def mkN (A : NS) : Nat → NS
 | 0 => A
 | k + 1 => makeN (mkN A k)
theorem rkopen_err (kd d : Int) (items heaps : Int) (w : World) (hc : chk kd d ≠ 0) :
  Calls Tryz.prog 39 #[.agg #[.int .i64 kd, .int .i64 d], .int .i64 items, .int .i64 heaps] w fun e w' => e = .returned (.tuple #[.pointer none, .int .i64 (chk kd d)]) ∧ Upd [] w w' := by
 have kc := fun W => check_any kd d W
 have hcb : (chk kd d != 0) = true := by simpa using hc
 generalize chk kd d = v at *
 go_enter Tryz.func39, Tryz.ntmps39
 go_wp2_with (first
  | ((go_at_call 50; (with_reducible refine (kc _).mono ?_)); rintro e w1 ⟨rfl, hu1⟩)
  | fail)
 go_ret2
 exact ⟨rfl, Upd.trans (by (repeat (first | assumption | exact Upd.refl _ _ | refine Upd.alloc ?_ _ | refine Upd.drew ?_ | refine Upd.drewN ?_ _ | refine Upd.setCell ?_ ?_ _ | focus (left; simp; done) | focus (right; simp; done) | focus (right; simp; omega)))) hu1⟩
theorem rkopen_big (kd d : Int) (items heaps : Int) (w : World) (hc : chk kd d = 0) (hi : 65536 < items) :
  Calls Tryz.prog 39 #[.agg #[.int .i64 kd, .int .i64 d], .int .i64 items, .int .i64 heaps] w fun e w' => e = .returned (.tuple #[.pointer none, .int .i64 201]) ∧ Upd [] w w' := by
 have kc := fun W => check_any kd d W
 rw [hc] at kc
 have hib : decide (items > 65536) = true := by simpa using hi
 clear hc
 go_enter Tryz.func39, Tryz.ntmps39
 go_wp2_with (first
  | ((go_at_call 50; (with_reducible refine (kc _).mono ?_)); rintro e w1 ⟨rfl, hu1⟩)
  | fail)
 go_ret2
 exact ⟨rfl, Upd.trans (by (repeat (first | assumption | exact Upd.refl _ _ | refine Upd.alloc ?_ _ | refine Upd.drew ?_ | refine Upd.drewN ?_ _ | refine Upd.setCell ?_ ?_ _ | focus (left; simp; done) | focus (right; simp; done) | focus (right; simp; omega)))) hu1⟩
set_option maxHeartbeats 4000000 in
theorem rkopen_yes {K : NestQ} (kd d : Int) (n heaps : Nat) (w : World) (hc : chk kd d = 0) (hi : n ≤ 65536) (hh : heaps ≤ 65536) (ko : Opens K kd d n) :
  Calls Tryz.prog 39 #[.agg #[.int .i64 kd, .int .i64 d], .int .i64 (n : Int), .int .i64 (heaps : Int)] w fun e w' => ∃ p F, e = .returned (.tuple #[.pointer (some ⟨p, 0, none⟩), .int .i64 0]) ∧ PqAt K w' p F kd d (AR.new n 4294967295) (mkN (NS.new n) heaps) 0 ∧ Upd [] w w' ∧ ∀ x, x ∈ F → w.heap.size ≤ x := by
 have kc := fun W => check_any kd d W
 have kp : ∀ W : World, Calls Tryz.prog 64 #[.agg #[.int .i64 kd, .int .i64 d], .int .i64 (n : Int), .int .u32 4294967295] W fun e w' => ∃ p F, e = .returned (.tuple #[.pointer (some ⟨p, 0, none⟩), .int .i64 0]) ∧ PqAt K w' p F kd d (AR.new n 4294967295) (NS.new n) 0 ∧ Upd [] W w' ∧ ∀ x, x ∈ F → W.heap.size ≤ x := fun W => popen_any n 4294967295 W hi (by omega) hc ko
 rw [hc] at kc
 have hib : decide ((n : Int) > 65536) = false := by simp; omega
 have hnI : ¬ (n : Int) > 65536 := by omega
 clear hc ko
 go_enter Tryz.func39, Tryz.ntmps39
 go_wp2_with (first
  | ((go_at_call 50; (with_reducible refine (kc _).mono ?_)); rintro e w1 ⟨rfl, hu1⟩; (have q0 : w1.cell? ⟨w.heap.size, 0, none⟩ = some (.int .i64 kd) := hu1.was (by go_simp)); (have q1 : w1.cell? ⟨w.heap.size, 1, none⟩ = some (.int .i64 d) := hu1.was (by go_simp)); (have hw1 : Upd [] w w1 := Upd.trans (by (repeat (first | assumption | exact Upd.refl _ _ | refine Upd.alloc ?_ _ | refine Upd.drew ?_ | refine Upd.drewN ?_ _ | refine Upd.setCell ?_ ?_ _ | focus (left; simp; done) | focus (right; simp; done) | focus (right; simp; omega)))) hu1))
  | ((go_at_call 64; (with_reducible refine (kp _).mono ?_)); rintro e w2 ⟨p, F, rfl, hP, hu2, hF⟩)
  | fail)
 have s1 := hw1.size
 have HI := Lib.hid (show ∃ F', PqAt K w2 p F' kd d (AR.new n 4294967295) (mkN (NS.new n) 0) 0 ∧ Upd [] w w2 ∧ ∀ x, x ∈ F' → w.heap.size ≤ x from ⟨F, hP, hw1.trans hu2, fun x hx => by have := hF x hx; omega⟩)
 clear hP hF hu2 hu1 hw1 q0 q1 kp kc
 go_loopw [25] (fun i wr => ∃ (j : Nat) (F' : List Nat), j ≤ heaps ∧ i = .int .i64 (j : Int) ∧ PqAt K wr p F' kd d (AR.new n 4294967295) (mkN (NS.new n) j) 0 ∧ Upd [] w wr ∧ ∀ x, x ∈ F' → w.heap.size ≤ x) (fun i _ => heaps - (intOf i).toNat)
 case atStart =>
  obtain ⟨F', h1, h2, h3⟩ := HI.out
  exact ⟨0, F', Nat.zero_le _, rfl, h1, h2, h3⟩
 case round =>
  obtain ⟨j, F', hj, rfl, hP, hu, hF⟩ := hrel
  rename World => wr
  by_cases hjn : j < heaps
  ·have hjI : decide ((j : Int) < (heaps : Int)) = true := by simp; omega
   have kn := pnewheap_any hP
   have HR := Lib.hid (And.intro hu hF)
   clear hP hu hF
   go_wp2_with (first
    | ((go_at_call 65; (with_reducible refine (kn).mono ?_)); rintro e w3 ⟨rfl, F2, hP2, hu2, hF2⟩)
    | fail)
   go_roundw
   case rel =>
    obtain ⟨hu, hF⟩ := HR.out
    have hs := hu.size
    exact ⟨j + 1, F2, by omega, by go_num, hP2, hu.joined hu2 (fun x hx => Or.inr (hF x hx)), fun x hx => by rcases hF2 x hx with h | h; exact hF x h; omega⟩
   case measure => simp [intOf]; omega
  ·obtain rfl : j = heaps := by omega
   have hjI : decide ((j : Int) < (j : Int)) = false := by simp
   have HR := Lib.hid (And.intro hP (And.intro hu hF))
   clear hP hu hF
   go_wp2
   go_ret2
   obtain ⟨hP, hu, hF⟩ := HR.out
   exact ⟨p, F', rfl, hP, hu, hF⟩
end Go.Proofs.YtklibcncmbofpaaGreat
namespace Go.Proofs.YtklibcncmbofpaaGreat
def inf : Nat := 9223372036854775807
def d0 (s : Nat) : Nat → Nat := fun v => if v = s then 0 else inf
end Go.Proofs.YtklibcncmbofpaaGreat
