/-
  Lemmas for PathWays: Ar2, Ar3. Conditions: those of each lemma.
-/
import Derived.Deep.RegionLaw
import Derived.Deep.DeepCutAuto
import Derived.WalkKit
import Derived.WalkSpells
import Derived.WalkLawsBesides
import Derived.BigQuiet
import Derived.Deep.RegionHeld3
import Derived.ProofKit
import Derived.OpenShut
import Derived.Lib.Hide
import Derived.Test.YtklibcncmbofpaaGreatProg
import Derived.Maps.AppendAt
import Derived.StillTailTactics
import Derived.Maps.OwnSet
import Derived.Maps.OwnOps
import Derived.Maps.RangeWalk
import Derived.Test.YtklibcncmbofpaaGreatP01
import Derived.Test.YtklibcncmbofpaaGreatP03
import Derived.Test.YtklibcncmbofpaaGreatP04
import Derived.Test.YtklibcncmbofpaaGreatP05
import Derived.Test.YtklibcncmbofpaaGreatP06
import Derived.Test.YtklibcncmbofpaaGreatP07
import Derived.Test.YtklibcncmbofpaaGreatP08
set_option linter.unusedVariables false
set_option linter.unusedSimpArgs false
namespace Go.Proofs.YtklibcncmbofpaaGreat
open Go Go.RowKit
theorem own_less {w : World} {base g n cap k : Nat} {e : TypeId} {xs : List Value} (h : w.ownsRow base e 1 (.slice (some ⟨g, 0, none⟩) n cap) n xs) (hk : k ≤ n) : w.ownsRow base e 1 (.slice (some ⟨g, 0, none⟩) k cap) k (xs.take k) := by
 rcases h.2 with ⟨h1, _⟩ | ⟨g', cap', cur, h1, hb, hg, hn, hc, hs, ht⟩
 ·cases h1
 ·cases h1
  have h0 := h.1
  exact ⟨by rw [List.length_take]; omega, Or.inr ⟨g, cap, cur, rfl, hb, hg, by omega, hc, hs, by rw [← ht, List.take_take]; congr 1; omega⟩⟩
theorem pick_ok {R R' : AR} {x : Nat} (h : R.Ok) (hp : pickR R = some (x, R')) : R'.Ok := by
 obtain ⟨h1, h2, h3, h4, h5, h6, h7, h8, h9, h10⟩ := pick_some h hp
 have eg : ∀ z, R'.g z = R.g z := fun z => by unfold AR.g; rw [h4]
 have ev : ∀ z, R'.v z = R.v z := fun z => by unfold AR.v; rw [h4]
 refine ⟨by rw [h4]; exact h.n, by rw [h4]; exact h6, by rw [h5]; exact h.mst, fun z hz => ?_, h10, fun z hz => ?_, fun z hz => by rw [ev] at hz; rw [eg]; exact h.lv z hz, fun z => by rw [eg, h5]; exact h.gm z⟩
 ·obtain ⟨a1, _⟩ := h9 z hz
  obtain ⟨b1, b2, b3⟩ := h.wt z a1
  rw [ev, eg, h5]
  exact ⟨by omega, b2, b3⟩
 ·rw [ev, eg]; exact h.fresh z (by omega)
section
variable {w : World} {pa ga : Nat} {v : Value} {R : AR} {F : List Nat}
theorem arat_any (h : ArAt w pa F R) (x : Nat) (hx : R.v x = true) :
  Calls Tryz.prog 84 #[.pointer (some ⟨pa, 0, none⟩), .int .i64 (x : Int)] w fun e w' => e = .returned (.tuple #[.agg #[.int .i64 (x : Int), .int .u32 (R.g x : Int)], .bool true]) ∧ Upd [] w w' := by
 obtain ⟨ga, v, rfl, h⟩ := h
 have hl := AR.v_lt hx
 have hn := h.ok.n
 have c0 := h.c0
 have d0 := h.s0 hl
 have d1 := h.s1 hl
 rw [hx] at d1
 have hxI : (x : Int) < (R.sl.length : Int) := by omega
 have hx2 : ¬ R.sl.length ≤ x := by omega
 generalize R.g x = gx at *
 generalize R.sl.length = n at *
 have l1 := World.block_lt_of_cell? w _ c0
 have l2 := World.block_lt_of_cell? w _ d0
 clear h hx
 go_enter Tryz.func84, Tryz.ntmps84
 go_wp2
 exact bodyPost_ret (v := .tuple #[.agg #[.int .i64 (x : Int), .int .u32 (gx : Int)], .bool true]) (by simp [results, Tryz.results84, go_sem]) rfl ⟨rfl, by (repeat (first | assumption | exact Upd.refl _ _ | refine Upd.alloc ?_ _ | refine Upd.drew ?_ | refine Upd.drewN ?_ _ | refine Upd.setCell ?_ ?_ _ | focus (left; simp; done) | focus (right; simp; done) | focus (right; simp; omega)))⟩
theorem natsZ_get {l : List Nat} {j x : Nat} (h : l[j]? = some x) : (natsZ l).getD j 0 = (x : Int) := by unfold natsZ; simp [List.getD_eq_getElem?_getD, h]
theorem intsZ_take (l : List Int) (k : Nat) : (intsZ l).take k = intsZ (l.take k) := by unfold intsZ; rw [List.map_take]
theorem natsZ_take (l : List Nat) (k : Nat) : (natsZ l).take k = natsZ (l.take k) := by unfold natsZ; rw [List.map_take]
theorem ArM.setv (h : ArM w pa ga v R) {R' : AR} {v' : Value} (ok : R'.Ok) (e1 : R'.sl = R.sl) (e2 : R'.next = R.next) (e3 : R'.most = R.most) (hw : w.ownsRow 0 3 1 v' R'.wait.length (intsZ (natsZ R'.wait))) (hb : ∀ k, v'.ownBlock = some k → k ≠ pa ∧ k ≠ ga) :
  ArM (w.setCell ⟨pa, 1, none⟩ v') pa ga v' R' := by
 have hu : Upd [pa] w (w.setCell ⟨pa, 1, none⟩ v') := (Upd.refl _ _).setCell (Or.inl (by simp)) _
 refine ⟨(h.head.set 1 v').ext (fun j hj => ?_), ?_, owns_upd hw hu (fun k hk e => (hb k hk).1 (by simpa using e)), h.ne, hb, ok⟩
 ·rcases (by omega : j = 0 ∨ j = 1 ∨ j = 2 ∨ j = 3 ∨ j = 4) with rfl | rfl | rfl | rfl | rfl <;> simp [arC, AR.cnt, e1, e2, e3]
 ·rw [e1]
  exact (h.row.upd hu (by simp; exact fun e => h.ne e.symm)).ext (fun j hj => by unfold slC AR.g AR.v; rw [e1])
theorem ArM.setn (h : ArM w pa ga v R) {R' : AR} (ok : R'.Ok) (e1 : R'.sl = R.sl) (e2 : R'.wait = R.wait) (e3 : R'.most = R.most) : ArM (w.setCell ⟨pa, 2, none⟩ (.int .i64 (R'.next : Int))) pa ga v R' := by
 have hu : Upd [pa] w (w.setCell ⟨pa, 2, none⟩ (.int .i64 (R'.next : Int))) := (Upd.refl _ _).setCell (Or.inl (by simp)) _
 refine ⟨(h.head.set 2 _).ext (fun j hj => ?_), ?_, by rw [e2]; exact owns_upd h.wait hu (fun k hk e => (h.nw k hk).1 (by simpa using e)), h.ne, h.nw, ok⟩
 ·rcases (by omega : j = 0 ∨ j = 1 ∨ j = 2 ∨ j = 3 ∨ j = 4) with rfl | rfl | rfl | rfl | rfl <;> simp [arC, AR.cnt, e1, e3]
 ·rw [e1]
  exact (h.row.upd hu (by simp; exact fun e => h.ne e.symm)).ext (fun j hj => by unfold slC AR.g AR.v; rw [e1])
set_option maxHeartbeats 1000000 in
theorem arpick_some (h : ArM w pa ga v R) {x : Nat} {R' : AR} (hp : pickR R = some (x, R')) :
  Calls Tryz.prog 82 #[.pointer (some ⟨pa, 0, none⟩)] w fun e w' => e = .returned (.tuple #[.int .i64 (x : Int), .bool true]) ∧ ∃ v', v'.ownBlock = v.ownBlock ∧ ArM w' pa ga v' R' ∧ Upd [pa] w w' := by
 have ok' := pick_ok h.ok hp
 have hwl := AR.wait_le h.ok
 have hn := h.ok.n
 have hnx := h.ok.nx
 unfold pickR at hp
 cases hl : R.wait.getLast? with
 | some y =>
  rw [hl] at hp
  simp only [Option.some.injEq, Prod.mk.injEq] at hp
  obtain ⟨rfl, rfl⟩ := hp
  have hne : R.wait ≠ [] := fun e => by rw [e] at hl; cases hl
  have hpos : 0 < R.wait.length := List.length_pos_iff.2 hne
  have c1 := h.c1
  have f1 := h.head.free 1
  obtain ⟨gw, cap, rfl, _, hgl, hnc, hcm, hcell, _⟩ := own_shape h.wait hpos
  have hat : R.wait[R.wait.length - 1]? = some y := by rw [← List.getLast?_eq_getElem?]; exact hl
  have d0 := hcell (R.wait.length - 1) (.int .i64 (y : Int)) (by rw [intsZ_get (by rw [natsZ_len]; omega), natsZ_get hat])
  have hdl : R.wait.dropLast = R.wait.take (R.wait.length - 1) := List.dropLast_eq_take
  have hw2 := own_less h.wait (k := R.wait.length - 1) (by omega)
  rw [intsZ_take, natsZ_take, ← hdl] at hw2
  have hll : R.wait.dropLast.length = R.wait.length - 1 := by simp
  have HF := Lib.hid (show ArM (w.setCell ⟨pa, 1, none⟩ (.slice (some ⟨gw, 0, none⟩) (R.wait.length - 1) cap)) pa ga (.slice (some ⟨gw, 0, none⟩) (R.wait.length - 1) cap) { R with wait := R.wait.dropLast } from h.setv ok' rfl rfl rfl (by show w.ownsRow 0 _ 1 _ R.wait.dropLast.length _; rw [hll]; exact hw2) h.nw)
  have hgp := World.block_lt_of_cell? w _ c1
  clear h ok' hcell hat hdl hw2 hll hl hne
  generalize hwn : R.wait.length = wn at *
  obtain ⟨m, rfl⟩ : ∃ m, wn = m + 1 := ⟨wn - 1, by omega⟩
  simp only [Nat.add_sub_cancel] at d0 HF
  clear hwn
  have hmi : ((m + 1 : Nat) : Int) - 1 = (m : Int) := by omega
  have hwr : IntKind.i64.wrap (((m + 1 : Nat) : Int) - 1) = (m : Int) := by rw [hmi]; exact IntWalk.i64_in _ (by omega)
  have hgt : ((m + 1 : Nat) : Int) > 0 := by omega
  have hlt : (m : Int) < ((m + 1 : Nat) : Int) := by omega
  have hcapI : (m : Int) ≤ (cap : Int) := by omega
  go_enter Tryz.func82, Tryz.ntmps82
  go_wp2
  go_ret2
  exact ⟨rfl, .slice (some ⟨gw, 0, none⟩) m cap, rfl, HF.out, by (repeat (first | assumption | exact Upd.refl _ _ | refine Upd.alloc ?_ _ | refine Upd.drew ?_ | refine Upd.drewN ?_ _ | refine Upd.setCell ?_ ?_ _ | focus (left; simp; done) | focus (right; simp; done) | focus (right; simp; omega)))⟩
 | none =>
  rw [hl] at hp
  have hw : R.wait = [] := List.getLast?_eq_none_iff.1 hl
  dsimp only at hp
  split at hp
  ·cases hp
  ·rename_i hne
   simp only [Option.some.injEq, Prod.mk.injEq] at hp
   obtain ⟨rfl, rfl⟩ := hp
   have c0 := h.c0
   have c1 := h.c1
   have c2 := h.c2
   have f2 := h.head.free 2
   have hv := h.wait
   rw [hw] at hv
   obtain ⟨a, c, rfl, hc⟩ := own_slice hv
   simp only [List.length_nil] at c1
   have hnn : ((R.next : Int) == (R.sl.length : Int)) = false := by simp; omega
   have hwr : IntKind.i64.wrap ((R.next : Int) + 1) = (R.next : Int) + 1 := IntWalk.i64_in _ (by omega)
   have hwr2 : IntKind.i64.wrap ((R.next : Int) + 1 - 1) = (R.next : Int) := by rw [show (R.next : Int) + 1 - 1 = (R.next : Int) by omega]; exact IntWalk.i64_in _ (by omega)
   have hgp := World.block_lt_of_cell? w _ c0
   have HF := Lib.hid (fun W (hW : Upd [] w W) => (h.upd hW (by simp)).setn (R' := { R with next := R.next + 1 }) ok' rfl rfl rfl)
   have HC := Lib.hid (show ((({ R with next := R.next + 1 } : AR).next : Nat) : Int) = (R.next : Int) + 1 from by show ((R.next + 1 : Nat) : Int) = _; omega)
   clear h ok' hv hw hl
   generalize hq : ({ R with next := R.next + 1 } : AR) = R2 at *
   clear hq
   generalize R.next = nx at *
   generalize R.sl.length = n at *
   go_enter Tryz.func82, Tryz.ntmps82
   go_wp2
   go_quiet (fail)
   go_wp2
   go_ret2
   refine ⟨rfl, _, rfl, ?_, by (repeat (first | assumption | exact Upd.refl _ _ | refine Upd.alloc ?_ _ | refine Upd.drew ?_ | refine Upd.drewN ?_ _ | refine Upd.setCell ?_ ?_ _ | focus (left; simp; done) | focus (right; simp; done) | focus (right; simp; omega)))⟩
   have := HF.out _ (((Upd.refl [] w).drewN nq))
   rw [HC.out] at this
   exact this
theorem slC_put {R : AR} {x : Nat} (hx : x < R.sl.length) (p : Nat × Bool) (j : Nat) : slC (R.put x p) j = if j = x * 2 + 1 then .bool p.2 else if j = x * 2 then .int .u32 (p.1 : Int) else slC R j := by
 unfold slC
 rw [AR.g_put, AR.v_put]
 by_cases e3 : j % 2 = 0
 ·rw [if_neg (show ¬ j = x * 2 + 1 by omega)]
  simp only [if_pos e3]
  by_cases e2 : j = x * 2
  ·rw [if_pos e2, if_pos ⟨by omega, hx⟩]
  ·rw [if_neg e2, if_neg (by omega)]
 ·simp only [if_neg e3]
  rw [if_neg (show ¬ j = x * 2 by omega)]
  by_cases e2 : j = x * 2 + 1
  ·rw [if_pos e2, if_pos ⟨by omega, hx⟩]
  ·rw [if_neg e2, if_neg (by omega)]
theorem ArM.put (h : ArM w pa ga v R) {x : Nat} (hx : x < R.sl.length) (p : Nat × Bool) (ok : (R.put x p).Ok) {w' : World} (hrow : RowAt w' ga 155 (R.sl.length * 2) (fun i => if i = x * 2 + 1 then .bool p.2 else if i = x * 2 then .int .u32 (p.1 : Int) else slC R i)) (hu : Upd [ga] w w') :
  ArM (w'.setCell ⟨pa, 3, none⟩ (.int .i64 ((R.put x p).cnt : Int))) pa ga v (R.put x p) := by
 have hu2 : Upd [pa, ga] w (w'.setCell ⟨pa, 3, none⟩ (.int .i64 ((R.put x p).cnt : Int))) := (hu.mono (by simp)).setCell (Or.inl (by simp)) _
 refine ⟨((h.head.upd hu (by simpa using h.ne)).set 3 _).ext (fun j hj => ?_), ?_, owns_upd h.wait hu2 (fun k hk e => ?_), h.ne, h.nw, ok⟩
 ·rcases (by omega : j = 0 ∨ j = 1 ∨ j = 2 ∨ j = 3 ∨ j = 4) with rfl | rfl | rfl | rfl | rfl <;> simp [arC, AR.len_put]
  all_goals rfl
 ·rw [AR.len_put]
  exact (hrow.far _ _ (by simpa using h.ne.symm)).ext (fun j hj => (slC_put hx p j).symm)
 ·have := h.nw k hk
  simp at e; omega
set_option maxHeartbeats 4000000 in
theorem artake_some (h : ArAt w pa F R) {x : Nat} {R' : AR} (hp : takeR R = some (x, R')) :
  Calls Tryz.prog 66 #[.pointer (some ⟨pa, 0, none⟩)] w fun e w' => e = .returned (.tuple #[.agg #[.int .i64 (x : Int), .int .u32 ((R.g x : Int) + 1)], .int .i64 0]) ∧ Goes F w w' (fun F' => ArAt w' pa F' R') := by
 have hTk := take_ok h.ok hp
 obtain ⟨ga, v, rfl, h⟩ := h
 unfold takeR at hp
 cases hq : pickR R with
 | none => rw [hq] at hp; cases hp
 | some q =>
  obtain ⟨y, R1⟩ := q
  rw [hq] at hp
  simp only [Option.map_some, Option.some.injEq, Prod.mk.injEq] at hp
  obtain ⟨rfl, rfl⟩ := hp
  obtain ⟨hTok, hx, hv0, hgm, hsl, hmst, hcnt⟩ := hTk
  obtain ⟨_, _, _, h4, _⟩ := pick_some h.ok hq
  have hmo := h.ok.mst
  have hlp := h.head.lt
  have hlg := h.row.lt
  have hvl := fun k hk => (h.wait.lt k hk).2
  have k := fun W (hW : Upd [] w W) => arpick_some (h.upd hW (by simp)) hq
  have hx1 : y < R1.sl.length := by rw [h4]; exact hx
  have hg1 : R1.g y = R.g y := by unfold AR.g; rw [h4]
  have hcn : R1.cnt ≤ 65536 := by
   have h1 := cntL_le R1.sl
   have h2 := h.ok.n
   unfold AR.cnt; rw [h4] at h1 ⊢; omega
  have hv1 : R1.v y = false := by unfold AR.v at hv0 ⊢; rw [h4]; exact hv0
  have hc2 : (R1.put y (R.g y + 1, true)).cnt = R1.cnt + 1 := by
   have := AR.cnt_put (R := R1) y (R.g y + 1, true) hx1
   rw [hv1] at this; simpa using this
  have hn1 : R1.sl.length ≤ 65536 := by rw [h4]; exact h.ok.n
  have hwg : IntKind.u32.wrap ((R.g y : Int) + 1) = (R.g y : Int) + 1 := IntWalk.u32_in _ (by omega)
  have hwc : IntKind.i64.wrap ((R1.cnt : Int) + 1) = (R1.cnt : Int) + 1 := IntWalk.i64_in _ (by omega)
  have hne := h.ne
  have hnw := h.nw
  have HT := Lib.hid (And.intro hTok hc2)
  clear h hq hTok hc2 hcnt hsl hmst hv0 h4
  go_enter Tryz.func66, Tryz.ntmps66
  go_upto_region 4 with (first
   | ((go_at_call 82; (with_reducible refine (k _ (by (repeat (first | assumption | exact Upd.refl _ _ | refine Upd.alloc ?_ _ | refine Upd.drew ?_ | refine Upd.drewN ?_ _ | refine Upd.setCell ?_ ?_ _ | focus (left; simp; done) | focus (right; simp; done) | focus (right; simp; omega))))).mono ?_)); rintro e w1 ⟨rfl, v1, hob, hM, hu1⟩; (have q0 : w1.cell? ⟨w.heap.size, 0, none⟩ = some (.int .i64 0) := hu1.kept (by go_simp) (by simp; omega)); (have q1 : w1.cell? ⟨w.heap.size, 1, none⟩ = some (.int .u32 0) := hu1.kept (by go_simp) (by simp; omega)); (have f0 : w1.frozen? ⟨w.heap.size, 0, none⟩ = false := hu1.keptF (v := .int .i64 0) (by go_simp) (by simp; omega) (by go_simp)); (have f1 : w1.frozen? ⟨w.heap.size, 1, none⟩ = false := hu1.keptF (v := .int .u32 0) (by go_simp) (by simp; omega) (by go_simp)))
   | fail)
  have b0 := hM.c0
  have b1 := hM.s0 hx1
  have b2 := hM.s1 hx1
  have b3 := hM.c3
  have g1 := hM.row.free (y * 2)
  have g2 := hM.row.free (y * 2 + 1)
  have g3 := hM.head.free 3
  have hyI : (y : Int) < (R1.sl.length : Int) := by omega
  rw [hg1] at b1
  have hsz1 := hu1.size
  have hgl := hM.row.lt
  have hnr1 : ¬ ga = w.heap.size := by omega
  have hnr2 : ¬ pa = w.heap.size := by omega
  have hnr3 : ¬ w.heap.size = ga := by omega
  have hnr4 : ¬ w.heap.size = pa := by omega
  have hnp : ¬ ga = pa := fun e => hne e.symm
  have hrow := (hM.row.set (y * 2) (.int .u32 ((R.g y : Int) + 1))).set (y * 2 + 1) (.bool true)
  have HM := Lib.hid (And.intro hM (And.intro hrow (And.intro hu1 (And.intro hob (And.intro hnw hvl)))))
  clear hM hrow hu1 k hob hnw hvl
  generalize hgy : R.g y = gy at *
  generalize R1.cnt = cn at *
  generalize hnn : R1.sl.length = n at *
  have HG := Lib.hid (And.intro hgy hnn)
  clear hgy hnn
  go_wp2
  obtain ⟨hM, hrow, hu1, hob, hnw, hvl⟩ := HM.out
  have e1 : (((gy + 1 : Nat)) : Int) = (gy : Int) + 1 := by omega
  have hU : Upd [ga] w1 ((w1.setCell ⟨ga, y * 2, none⟩ (.int .u32 ((gy : Int) + 1))).setCell ⟨ga, y * 2 + 1, none⟩ (.bool true)) := ((Upd.refl _ _).setCell (Or.inl (by simp)) _).setCell (Or.inl (by simp)) _
  have hok := HT.out.1
  have hct := HT.out.2
  have hP := hM.put (by rw [HG.out.2]; exact hx1) (gy + 1, true) hok (w' := (w1.setCell ⟨ga, y * 2, none⟩ (.int .u32 ((gy : Int) + 1))).setCell ⟨ga, y * 2 + 1, none⟩ (.bool true)) (by
   rw [HG.out.2]
   exact hrow.ext (fun j hj => by dsimp only; rw [e1])) hU
  rw [hct, show ((cn + 1 : Nat) : Int) = (cn : Int) + 1 by omega] at hP
  have hF : ∀ x, x ∈ pa :: ga :: v1.ownBlock.toList → x ∈ pa :: ga :: v.ownBlock.toList := fun x hx => by rw [hob] at hx; exact hx
  have hU1 : Upd (pa :: ga :: v.ownBlock.toList) w w1 := Upd.trans ((Upd.refl _ _).alloc _) (hu1.mono (by simp))
  refine bodyPost_ret (v := .tuple #[.agg #[.int .i64 (y : Int), .int .u32 ((gy : Int) + 1)], .int .i64 0]) (by simp [results, Tryz.results66, go_sem, q0, q1, hnr1, hnr2, hnr3, hnr4]) rfl ⟨by rw [HG.out.1], pa :: ga :: v1.ownBlock.toList, ⟨ga, v1, rfl, ?_⟩, ?_, fun x hx => Or.inl (hF x hx)⟩
  ·rw [HG.out.1]
   refine hP.upd (S := [w.heap.size]) (((Upd.refl _ _).setCell (Or.inl (by simp)) _).setCell (Or.inl (by simp)) _) (fun x hx hm => ?_)
   simp at hx
   subst hx
   have hm2 := hF _ hm
   simp at hm2
   rcases hm2 with e | e | e
   ·exact hnr4 e
   ·exact hnr3 e
   ·have := hvl _ e; omega
  ·exact ((((hU1.setCell (Or.inl (by simp)) _).setCell (Or.inl (by simp)) _).setCell (Or.inl (by simp)) _).setCell (Or.inr (Nat.le_refl _)) _).setCell (Or.inr (Nat.le_refl _)) _
end
end Go.Proofs.YtklibcncmbofpaaGreat
namespace Go.Proofs.YtklibcncmbofpaaGreat
open Go Go.RowKit
theorem off_ok {R : AR} {x : Nat} (h : R.Ok) (hv : R.v x = true) : (R.put x (R.g x, false)).Ok := by
 have k := (give_ok h hv).1
 refine ⟨k.n, k.nx, k.mst, fun z hz => k.wt z ?_, h.nd, k.fresh, k.lv, k.gm⟩
 show z ∈ (if R.g x < R.most then R.wait ++ [x] else R.wait)
 split
 ·exact List.mem_append.2 (Or.inl hz)
 ·exact hz
section
variable {w : World} {pa ga : Nat} {v : Value} {R : AR} {F : List Nat}
theorem ArM.setv2 {w2 : World} (hh : RowAt w2 pa 158 5 (arC ga v R)) (hr : RowAt w2 ga 155 (R.sl.length * 2) (slC R)) (hne : pa ≠ ga) {R' : AR} {v' : Value} (ok : R'.Ok) (e1 : R'.sl = R.sl) (e2 : R'.next = R.next) (e3 : R'.most = R.most) (hw : w2.ownsRow 0 3 1 v' R'.wait.length (intsZ (natsZ R'.wait))) (hb : ∀ k, v'.ownBlock = some k → k ≠ pa ∧ k ≠ ga) :
  ArM (w2.setCell ⟨pa, 1, none⟩ v') pa ga v' R' := by
 have hu : Upd [pa] w2 (w2.setCell ⟨pa, 1, none⟩ v') := (Upd.refl _ _).setCell (Or.inl (by simp)) _
 refine ⟨(hh.set 1 v').ext (fun j hj => ?_), ?_, owns_upd hw hu (fun k hk e => (hb k hk).1 (by simpa using e)), hne, hb, ok⟩
 ·rcases (by omega : j = 0 ∨ j = 1 ∨ j = 2 ∨ j = 3 ∨ j = 4) with rfl | rfl | rfl | rfl | rfl <;> simp [arC, AR.cnt, e1, e2, e3]
 ·rw [e1]
  exact (hr.upd hu (by simp; exact fun e => hne e.symm)).ext (fun j hj => by unfold slC AR.g AR.v; rw [e1])
set_option maxHeartbeats 4000000 in
theorem argive_any (h : ArAt w pa F R) (x : Nat) (hv : R.v x = true) :
    Calls Tryz.prog 67 #[.pointer (some ⟨pa, 0, none⟩), .agg #[.int .i64 (x : Int), .int .u32 (R.g x : Int)]] w fun e w' => e = .returned (.int .i64 0) ∧ Goes F w w' (fun F' => ArAt w' pa F' (giveR R x)) := by
  have hx := AR.v_lt hv
  have hok := h.ok
  have hgm := hok.gm x
  have hmo := hok.mst
  have kl := fun W (hW : Upd [] w W) => arlive_any (h.upd hW (by simp)) (x : Int) (R.g x : Int) (by omega)
  have hlv : liveR R (x : Int) (R.g x : Int) = true := by
    unfold liveR
    rw [show ((x : Nat) : Int).toNat = x by omega, hv, decide_eq_true (by omega : (0 : Int) ≤ x), decide_eq_true (by omega : (x : Int) < R.sl.length)]
    simp
  rw [hlv] at kl
  obtain ⟨ga, v, rfl, h⟩ := h
  obtain ⟨av, cv, rfl, hcv⟩ := own_slice h.wait
  have hGv := give_ok hok hv
  have hoff := off_ok hok hv
  have hcn : R.cnt ≤ 65536 := by have h1 := cntL_le R.sl; have h2 := hok.n; unfold AR.cnt; omega
  have hc1 : (R.put x (R.g x, false)).cnt + 1 = R.cnt := by
    have := AR.cnt_put (R := R) x (R.g x, false) hx
    rw [hv] at this; simpa using this
  have hwc : IntKind.i64.wrap ((R.cnt : Int) - 1) = (R.cnt : Int) - 1 := IntWalk.i64_in _ (by omega)
  have hlp := h.head.lt
  have hlg := h.row.lt
  have hne := h.ne
  have hwl := AR.wait_le hok
  have hnn := hok.n
  have hnx := hok.nx
  have H := Lib.hid (And.intro h (And.intro hoff (And.intro hGv hc1)))
  have hvl := fun k hk => (h.wait.lt k hk).2
  have HVL := Lib.hid (And.intro hvl h.nw)
  have b0' := h.c0
  have b3' := h.c3
  have b4' := h.c4
  have b1' := h.c1
  have s1' := h.s1 hx
  have g2' := h.row.free (x * 2 + 1)
  have g3' := h.head.free 3
  have g1' := h.head.free 1
  have hxI : (x : Int) < (R.sl.length : Int) := by omega
  clear h hok hGv hoff hlv hvl hv
  have hnr1 : ¬ ga = w.heap.size := by omega
  have hnr2 : ¬ pa = w.heap.size := by omega
  have hnr3 : ¬ w.heap.size = ga := by omega
  have hnr4 : ¬ w.heap.size = pa := by omega
  have hnp : ¬ ga = pa := fun e => hne e.symm
  go_enter Tryz.func67, Tryz.ntmps67
  go_wp2_with (first
    | ((go_at_call 83; (with_reducible refine (kl _ (by (repeat (first | assumption | exact Upd.refl _ _ | refine Upd.alloc ?_ _ | refine Upd.drew ?_ | refine Upd.drewN ?_ _ | refine Upd.setCell ?_ ?_ _ | focus (left; simp; done) | focus (right; simp; done) | focus (right; simp; omega))))).mono ?_)); rintro e w1 ⟨rfl, hu1⟩; (have q0 : w1.cell? ⟨w.heap.size, 0, none⟩ = some (.int .i64 (x : Int)) := hu1.was (by go_simp)); (have q1 : w1.cell? ⟨w.heap.size, 1, none⟩ = some (.int .u32 (R.g x : Int)) := hu1.was (by go_simp)); (have hu : Upd [] w w1 := Upd.trans (by (repeat (first | assumption | exact Upd.refl _ _ | refine Upd.alloc ?_ _ | refine Upd.drew ?_ | refine Upd.drewN ?_ _ | refine Upd.setCell ?_ ?_ _ | focus (left; simp; done) | focus (right; simp; done) | focus (right; simp; omega)))) hu1); (have b0 := hu.was b0'); (have b1 := hu.was b1'); (have b3 := hu.was b3'); (have b4 := hu.was b4'); (have s1 := hu.was s1'); (have g1 := hu.keptF b1' (by simp) g1'); (have g2 := hu.keptF s1' (by simp) g2'); (have g3 := hu.keptF b3' (by simp) g3'))
    | fail)
  have HU := Lib.hid hu
  have hsz1 := hu.size
  have hszA := hu1.size
  rw [World.size_alloc] at hszA
  clear hu hu1 kl b0' b1' b3' b4' s1' g1' g2' g3'
  go_region
  go_upto_region 5 with (fail)
  obtain ⟨hM, hoff, hGv, hc1⟩ := H.out
  have hM1 := hM.upd HU.out (by simp)
  have hP := fun W (hW : Upd [] w1 W) => (hM1.upd hW (by simp)).put hx (R.g x, false) hoff (w' := W.setCell ⟨ga, x * 2 + 1, none⟩ (.bool false)) (((hM1.upd hW (by simp)).row.set (x * 2 + 1) (.bool false)).ext (fun j hj => by
    dsimp only
    by_cases e1 : j = x * 2 + 1
    · rw [if_pos e1, if_pos e1]
    · rw [if_neg e1, if_neg e1]
      by_cases e2 : j = x * 2
      · rw [if_pos e2, e2]; unfold slC; rw [if_pos (by omega), show x * 2 / 2 = x by omega]
      · rw [if_neg e2])) ((Upd.refl _ _).setCell (Or.inl (by simp)) _)
  rw [show (((R.put x (R.g x, false)).cnt : Nat) : Int) = (R.cnt : Int) - 1 by omega] at hP
  refine wp_nm (fun W => W.cell? ⟨w.heap.size, 0, none⟩ = some (.int .i64 (x : Int)) ∧ W.cell? ⟨w.heap.size, 1, none⟩ = some (.int .u32 (R.g x : Int)) ∧ ArM W pa ga (.slice av R.wait.length cv) (R.put x (R.g x, false)) ∧ Upd [pa, ga] w W) ⟨by go_simp, by go_simp, (hP w1 (Upd.refl _ _)).upd (S := []) ((Upd.refl _ _).drew) (by simp), ?_⟩ ?_
  · have := HU.out.mono (T := [pa, ga]) (by simp)
    (repeat (first | assumption | exact Upd.refl _ _ | refine Upd.alloc ?_ _ | refine Upd.drew ?_ | refine Upd.drewN ?_ _ | refine Upd.setCell ?_ ?_ _ | focus (left; simp; done) | focus (right; simp; done) | focus (right; simp; omega)))
  rintro W ⟨q2, q3, hMW, hUW⟩
  clear hM1 hP hM b0 b1 b3 b4 s1 g1 g2 g3 q0 q1
  have c1 := hMW.c1
  have c4 := hMW.c4
  have f1 := hMW.head.free 1
  have hw := hMW.wait
  have hszW := hUW.size
  have hlW : w.heap.size < W.heap.size := World.block_lt_of_cell? W _ q2
  have HMW := Lib.hid (And.intro hMW (And.intro hGv hUW))
  clear hMW hUW hGv hc1 hoff
  rw [show (R.put x (R.g x, false)).most = R.most from rfl] at c4
  rw [show (R.put x (R.g x, false)).wait = R.wait from rfl] at hw
  by_cases hlt : R.g x < R.most
  · have hltb : decide ((R.g x : Int) < (R.most : Int)) = true := by simp; exact hlt
    go_wp2
    go_quiet (fail)
    go_wp2
    refine wp_nm (fun W6 => Upd [] W W6) (by (repeat (first | assumption | exact Upd.refl _ _ | refine Upd.alloc ?_ _ | refine Upd.drew ?_ | refine Upd.drewN ?_ _ | refine Upd.setCell ?_ ?_ _ | focus (left; simp; done) | focus (right; simp; done) | focus (right; simp; omega)))) ?_
    intro W6 hu6
    have p1 := hu6.was c1
    have p2 := hu6.was q2
    have pf1 := hu6.keptF c1 (by simp) f1
    have hw6 := owns_upd (S := []) hw hu6 (by simp)
    have hsz6 := hu6.size
    have s0 : Upd [] W6 (W6.drew.alloc (.cells #[.int .i64 (x : Int)] 3)) := ((Upd.refl _ _).drew).alloc _
    have rr : ∀ S X, Upd S W6 X → pa ∉ S → X.frozen? ⟨pa, 1, none⟩ = false := fun S X h hn => h.keptF p1 hn pf1
    have rc : ∀ S X, Upd S W6 X → pa ∉ S → (X.cell? ⟨pa, 1, none⟩).isSome = true := fun S X h hn => by rw [h.kept p1 hn]; rfl
    have hpa6 : pa < W6.heap.size := World.block_lt_of_cell? W6 _ p1
    have hrs6 : w.heap.size < W6.heap.size := World.block_lt_of_cell? W6 _ p2
    clear c1 c4 f1 q2 q3 hltb hw
    go_region_law
      (first
        | (refine step_append_one rfl _ _ 26 rfl 0 3 (.int .i64 0) 1 8 Tryz.underlying26 intInfo rfl (by decide) (.slice av R.wait.length cv) R.wait.length (intsZ (natsZ R.wait)) rfl (hw6.drew.alloc _) W6.heap.size [.int .i64 (x : Int)] rfl rfl (fun j u hj => newCell0 W6 [.int .i64 (x : Int)] 3 j u hj) (by simp [Value.oneCell']) (by unfold maxLen; omega) (by omega) (by simp) ?_
           intro v2 w2 ho2 hu2 hv2
           have hS2 : Upd (Value.slice av R.wait.length cv).ownBlock.toList W6 w2 := (s0.mono (by simp)).trans hu2
           have hnp2 : pa ∉ (Value.slice av R.wait.length cv).ownBlock.toList := fun e => by have := HVL.out.2 pa (by simpa using e); omega
           have z1 := hS2.kept p1 hnp2
           have zf1 := hS2.keptF p1 hnp2 pf1
           obtain ⟨a2, cap2, rfl, hcap2⟩ := own_slice ho2))
    all_goals
      go_wp2
      go_ret
      obtain ⟨hMW, hGv, hUW⟩ := HMW.out
      have hM6 := hMW.upd hu6 (by simp)
      have hgw : ga ∉ (Value.slice av R.wait.length cv).ownBlock.toList := fun e => by have := HVL.out.2 ga (by simpa using e); omega
      have eR : giveR R x = { R.put x (R.g x, false) with wait := R.wait ++ [x] } := by unfold giveR; rw [if_pos hlt]
      have hob : ∀ k, (Value.slice a2 (R.wait.length + 1) cap2).ownBlock = some k → (Value.slice av R.wait.length cv).ownBlock = some k ∨ W6.heap.size ≤ k := fun k hk => by
        rcases hv2 with h | h
        · rw [h] at hk; exact Or.inl hk
        · rw [h] at hk; simp at hk; exact Or.inr (by omega)
      have hfin := ArM.setv2 (hM6.head.upd hS2 hnp2) (hM6.row.upd hS2 hgw) hne (R' := giveR R x) (v' := .slice a2 (R.wait.length + 1) cap2) hGv.1 (by rw [eR]) (by rw [eR]) (by rw [eR]) (by
        have e2 : (giveR R x).wait = R.wait ++ [x] := by rw [eR]
        rw [e2, List.length_append, show natsZ (R.wait ++ [x]) = natsZ R.wait ++ [(x : Int)] from by unfold natsZ; simp, intsZ_append]
        exact ho2) (fun k hk => by
        rcases hob k hk with h | h
        · exact HVL.out.2 k h
        · omega)
      refine ⟨rfl, pa :: ga :: (Value.slice a2 (R.wait.length + 1) cap2).ownBlock.toList, ⟨ga, _, rfl, hfin⟩, ?_, fun k hk => ?_⟩
      · have h1 : Upd (pa :: ga :: (Value.slice av R.wait.length cv).ownBlock.toList) w W6 := (hUW.mono (fun z hz => by simp at hz ⊢; omega)).trans (hu6.mono (by simp))
        exact (h1.trans (hS2.mono (fun z hz => by simp [hz]))).setCell (Or.inl (by simp)) _
      · simp only [List.mem_cons] at hk ⊢
        rcases hk with h | h | h
        · exact Or.inl (Or.inl h)
        · exact Or.inl (Or.inr (Or.inl h))
        · rcases hob k (by simpa using h) with h' | h'
          · exact Or.inl (Or.inr (Or.inr (by simpa using h')))
          · exact Or.inr (by omega)
  · have hltb : decide ((R.g x : Int) < (R.most : Int)) = false := by simp; omega
    go_wp2
    go_quiet (fail)
    go_wp2
    go_ret
    obtain ⟨hMW, hGv, hUW⟩ := HMW.out
    have eR : giveR R x = R.put x (R.g x, false) := by unfold giveR; rw [if_neg hlt]; rfl
    rw [eR]
    refine ⟨rfl, _, ⟨ga, _, rfl, hMW.upd (S := []) (by (repeat (first | assumption | exact Upd.refl _ _ | refine Upd.alloc ?_ _ | refine Upd.drew ?_ | refine Upd.drewN ?_ _ | refine Upd.setCell ?_ ?_ _ | focus (left; simp; done) | focus (right; simp; done) | focus (right; simp; omega)))) (by simp)⟩, ?_, fun k hk => Or.inl hk⟩
    have h1 : Upd (pa :: ga :: (Value.slice av R.wait.length cv).ownBlock.toList) w W := hUW.mono (fun z hz => by simp at hz ⊢; omega)
    exact h1.trans (by (repeat (first | assumption | exact Upd.refl _ _ | refine Upd.alloc ?_ _ | refine Upd.drew ?_ | refine Upd.drewN ?_ _ | refine Upd.setCell ?_ ?_ _ | focus (left; simp; done) | focus (right; simp; done) | focus (right; simp; omega))))
end
end Go.Proofs.YtklibcncmbofpaaGreat
