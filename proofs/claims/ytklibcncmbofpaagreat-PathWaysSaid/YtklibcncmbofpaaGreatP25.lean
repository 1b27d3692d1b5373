/-
  Lemmas for PathWays: Frm, PrG, Pal. Conditions: those of each lemma.
-/
import Derived.Deep.LoopGhost
import Derived.WalkKit
import Derived.WalkSpells
import Derived.WalkLawsBesides
import Derived.BigQuiet
import Derived.Deep.RegionHeld3
import Derived.ProofKit
import Derived.OpenShut
import Derived.Lib.Hide
import Derived.Test.YtklibcncmbofpaaGreatProg
import Derived.Maps.AppendAt
import Derived.StillTailTactics
import Derived.Maps.OwnSet
import Derived.Maps.OwnOps
import Derived.Maps.RangeWalk
import Derived.Deep.RegionLaw
import Derived.Deep.DeepCutAuto
import Derived.DeepKeys4
import Derived.IntWalk
import Derived.Deep.Slices
import Derived.Deep.Strs
import Derived.Lib.Mul64
import Derived.Laws.Bits64b
import Derived.Lib.MinMax
import Derived.Shelf.Bits.Mul64
import Derived.Shelf.Slices.Reverse
import Derived.Ground.Names2Prog
import Derived.Shelf.Slices.Clone
import Derived.Shelf.Slices.Cells
import Derived.Ground.SlgnProg
import Derived.Shelf.SlicesE.Clone
import Derived.Deep.OwnRows
import Derived.Test.YtklibcncmbofpaaGreatP01
import Derived.Test.YtklibcncmbofpaaGreatP02
import Derived.Test.YtklibcncmbofpaaGreatP03
import Derived.Test.YtklibcncmbofpaaGreatP04
import Derived.Test.YtklibcncmbofpaaGreatP05
import Derived.Test.YtklibcncmbofpaaGreatP06
import Derived.Test.YtklibcncmbofpaaGreatP07
import Derived.Test.YtklibcncmbofpaaGreatP08
import Derived.Test.YtklibcncmbofpaaGreatP09
import Derived.Test.YtklibcncmbofpaaGreatP10
import Derived.Test.YtklibcncmbofpaaGreatP11
import Derived.Test.YtklibcncmbofpaaGreatP12
import Derived.Test.YtklibcncmbofpaaGreatP13
import Derived.Test.YtklibcncmbofpaaGreatP14
import Derived.Test.YtklibcncmbofpaaGreatP15
import Derived.Test.YtklibcncmbofpaaGreatP16
import Derived.Test.YtklibcncmbofpaaGreatP17
import Derived.Test.YtklibcncmbofpaaGreatP18
import Derived.Test.YtklibcncmbofpaaGreatP19
import Derived.Test.YtklibcncmbofpaaGreatP21
import Derived.Test.YtklibcncmbofpaaGreatP22
import Derived.Test.YtklibcncmbofpaaGreatP23
import Derived.Test.YtklibcncmbofpaaGreatP24
set_option linter.unusedVariables false
set_option linter.unusedSimpArgs false
namespace Go.Proofs.YtklibcncmbofpaaGreat
open Go Go.RowKit
theorem nodup_lt {n : Nat} {l : List Nat} (hn : l.Nodup) (h : ∀ x, x ∈ l → x < n) : l.length ≤ n := by
 have := nodup_range n (l.map (fun (x : Nat) => (x : Int))) (by
  unfold List.Nodup at hn ⊢
  rw [List.pairwise_map]
  exact hn.imp (fun h e => h (by omega))) (fun x hx => by
  obtain ⟨y, hy, rfl⟩ := List.mem_map.1 hx
  have := h y hy; omega)
 simpa using this
theorem lv_all {N : Int} {E : List Ed} (hr : rightB N E = true) {v i : Nat} (hi : i < E.length) : (edG (eN E) i).f ≠ v ∨ i ∈ lvL E E.length v := by
 by_cases h : (edG (eN E) i).f = v
 ·refine Or.inr (lvL_mem.2 ⟨hi, ?_⟩)
  have h3 := right_mem hr (List.mem_of_getElem? (show E[i]? = some (E.getD i default) by simp [List.getD_eq_getElem?_getD, hi]))
  rw [edG_eN E i hi] at h
  have h4 : (E.getD i default).f.toNat = v := h
  omega
 ·exact Or.inl h
theorem St.round {v : Nat} {K : NestQ} {X : SrB} {kd dd : Int} {E : List Ed} {s N m : Nat} {w : World} {F : List Nat} {d : Nat → Nat} {bt : Nat → Int} {S : List Nat} {W R : Nat → Prop} (h : St K X kd dd E s N m w F d bt (v :: S) W R) (hR : ∀ i, i < E.length → R i) : St K X kd dd E s N m w F d bt (v :: S) W (fun _ => True) := by
 obtain ⟨R', A, q, c, hc, f, sl, hM, hJ, hS⟩ := h
 exact ⟨R', A, q, c, hc, f, sl, hM, dj_round hJ (fun i hi => hR i (by rw [eN_len] at hi; exact hi)), hS⟩
set_option maxHeartbeats 8000000 in
set_option maxRecDepth 10000 in
theorem from_yes {K : NestQ} {kd dd : Int} (w : World) (N s : Nat) (va : Value) (E : List Ed) (hE : SlE w va E) (hwE : weighB (N : Int) E = true) (hs : s < N) (hc : chk kd dd = 0) (ko : Opens K kd dd N) :
  Calls Tryz.prog 29 #[.agg #[.int .i64 kd, .int .i64 dd], .agg #[.int .i64 (N : Int), va], .int .i64 (s : Int)] w fun e w' => ∃ vd vb D B, e = .returned (.tuple #[.agg #[vd, vb], .int .i64 0]) ∧ SlI w' [] vd D ∧ SlI w' [] vb B ∧ TreeA (eN E) N s (passes (eN E) s N) D B ∧ Upd [] w w' := by
 have hr := weigh_right hwE
 have hbd := right_bd hr
 have hN : N ≤ 4096 := by omega
 have hg : GOk (eN E) s N (9223372036854775807 / N) := weigh_gok hwE hs
 have hwm : ∀ e, e ∈ E → 0 ≤ e.w ∧ e.w ≤ 9223372036854775807 := fun e he => by
  have h1 := weigh_mem hwE he
  have h2 : (9223372036854775807 : Int) / (N : Int) ≤ 9223372036854775807 := Int.ediv_le_self _ (by omega)
  omega
 have kc := fun W => check_any kd dd W
 rw [hc] at kc
 have kw := fun W (hW : Upd [] w W) => gweigh_any W N va E (hE.upd hW) (fun e he => (hwm e he).2)
 rw [hwE, show errW true = 0 from rfl] at kw
 have kb := fun W => begin_any (K := K) N W (by omega) hN hc ko
 have kl := fun W (hW : Upd [] w W) => leaving_any W N va E (hE.upd hW) hr
 obtain ⟨a, cap, rfl, hcap⟩ := hE.shape
 have HE := Lib.hid hE
 have HW := Lib.hid (And.intro hwE (And.intro hr hg))
 have hsn2 : ¬ N ≤ s := by omega
 have h1b : decide ((s : Int) ≥ (N : Int)) = false := by simp; omega
 have hE64 : E.length ≤ 65536 := hbd.2.2
 clear hE hwE hr hbd hwm hg hc ko
 generalize hn : E.length = n at *
 have HN := Lib.hid hn
 clear hn
 go_enter Tryz.func29, Tryz.ntmps29
 go_upto_region 9 with (first
  | ((go_at_call 50; (with_reducible refine (kc _).mono ?_)); rintro e w1 ⟨rfl, hu1⟩; (have q0 : w1.cell? ⟨w.heap.size, 0, none⟩ = some (.int .i64 kd) := hu1.was (by go_simp)); (have q1 : w1.cell? ⟨w.heap.size, 1, none⟩ = some (.int .i64 dd) := hu1.was (by go_simp)); (have q2 : w1.cell? ⟨w.heap.size + 1, 0, none⟩ = some (.int .i64 (N : Int)) := hu1.was (by go_simp)); (have q3 : w1.cell? ⟨w.heap.size + 1, 1, none⟩ = some (.slice a n cap) := hu1.was (by go_simp)); (have r0 : w1.cell? ⟨w.heap.size + 2, 0, none⟩ = some (.slice none 0 0) := hu1.was (by go_simp)); (have r1 : w1.cell? ⟨w.heap.size + 2, 1, none⟩ = some (.slice none 0 0) := hu1.was (by go_simp)); (have hw1 : Upd [] w w1 := Upd.trans (by (repeat (first | assumption | exact Upd.refl _ _ | refine Upd.alloc ?_ _ | refine Upd.drew ?_ | refine Upd.drewN ?_ _ | refine Upd.setCell ?_ ?_ _ | focus (left; simp; done) | focus (right; simp; done) | focus (right; simp; omega)))) hu1))
  | ((go_at_call 51; (with_reducible refine (kw _ (by (repeat (first | assumption | exact Upd.refl _ _ | refine Upd.alloc ?_ _ | refine Upd.drew ?_ | refine Upd.drewN ?_ _ | refine Upd.setCell ?_ ?_ _ | focus (left; simp; done) | focus (right; simp; done) | focus (right; simp; omega))))).mono ?_)); rintro e w2 ⟨rfl, hu2⟩; (have q4 := hu2.was q0); (have q5 := hu2.was q1); (have q6 := hu2.was q2); (have q7 := hu2.was q3))
  | ((go_at_call 52; (with_reducible refine (kb _).mono ?_)); rintro e w3 ⟨X, F, hv, rfl, hM, hu3, hX, hF⟩; (have q8 := hu3.was q6); (have q9 := hu3.was q7); (have r4 := hu3.was (hu2.was r0)); (have r5 := hu3.was (hu2.was r1)); (have fr0 : w1.frozen? ⟨w.heap.size + 2, 0, none⟩ = false := hu1.keptF (v := .slice none 0 0) (by go_simp) (by simp) (by go_simp)); (have fr1 : w1.frozen? ⟨w.heap.size + 2, 1, none⟩ = false := hu1.keptF (v := .slice none 0 0) (by go_simp) (by simp) (by go_simp)); (have hw3 := (hw1.trans hu2).trans hu3); (have hst := start_step HW.out.2.2 (by omega) hM))
  | fail)
 have hb2 : w.heap.size + 2 < w2.heap.size := World.block_lt_of_cell? w2 _ (hu2.was r0)
 have hMl := hM.lt
 have hFl := hM.pq.lt
 have hMst := fun W (hW : Upd [] w3 W) => start_step HW.out.2.2 (by omega) (hM.upd0 hW)
 clear hst hM kc kw kb
 have kl3 := kl w3 hw3
 go_upto_region 11 with (first
  | ((go_at_call 53; (with_reducible refine (kl3).mono ?_)); rintro e w4 ⟨g, vs, rfl, hL, hg4, hu4⟩; (have hst4 := hMst w4 hu4))
  | ((go_at_call 54; (with_reducible refine (hst4).mono ?_)); rintro e w5 ⟨rfl, F5, hSt, hu5, hf5⟩)
  | fail)
 have hI4 : FrI w4 F (w.heap.size + 1) (w.heap.size + 2) w2.heap.size w3.heap.size w4.heap.size N g (.int .i64 (N : Int)) (.slice a n cap) (.slice none 0 0) (.slice none 0 0) vs (lvL E n) := by
  have hfr0 := (hu2.trans (hu3.trans hu4)).keptF r0 (by simp) fr0
  have hfr1 := (hu2.trans (hu3.trans hu4)).keptF r1 (by simp) fr1
  have hgl := hL.row.lt
  have hs3 := hu3.size
  exact ⟨hu4.was q8, hu4.was q9, hu4.was r4, hu4.was r5, hfr0, hfr1, hL, fun x hx => ⟨hF x hx, Or.inl (hFl x hx)⟩, ⟨hg4, hgl⟩, fun v hv b hb => by have := (hL.own v hv).lt b hb; omega, by omega, by omega⟩
 have hXb : ∀ x, x ∈ X.own → w2.heap.size ≤ x ∧ x < w3.heap.size := fun x hx => ⟨hX x hx, hMl x hx⟩
 have hI5 := hI4.step hu5 (fun x hx => by
  rcases List.mem_append.1 hx with e | e
  ·exact Or.inr (Or.inl (hXb x e))
  ·exact Or.inl e) hf5
 have hw5 : Upd [] w w5 := (hw3.trans hu4).joined hu5 (fun x hx => Or.inr (by
  have := hw1.size
  have := hu2.size
  rcases List.mem_append.1 hx with e | e
  ·have := (hXb x e).1; omega
  ·have := hF x e; omega))
 clear hI4 hu5 hf5 hMst hst4 kl3 kl hL hg4 hu4 hMl hFl hF hX q0 q1 q2 q3 q4 q5 q6 q7 q8 q9 r0 r1 r4 r5 fr0 fr1
 go_loopg [12, 13, 14, 16, 78] (N + 1) (fun fu _ _ _ _ _ wr => ∃ F' d bt S W, St K X kd dd E s N (9223372036854775807 / N) wr F' d bt S W (fun _ => True) ∧ FrI wr F' (w.heap.size + 1) (w.heap.size + 2) w2.heap.size w3.heap.size w4.heap.size N g (.int .i64 (N : Int)) (.slice a n cap) (.slice none 0 0) (.slice none 0 0) vs (lvL E n) ∧ Upd [] w wr ∧ N < fu + S.length)
 case atStart => exact ⟨F5, _, _, _, _, hSt, hI5, hw5, by simp⟩
 case round =>
  rename Nat => fu
  clear hSt hI5 hw5
  obtain ⟨F', d, bt, S, W, hSt, hI, hw, hfu⟩ := hrel
  rename World => wr
  have hSn : S.length ≤ N := by
   obtain ⟨_, _, _, _, _, _, _, _, hJ, _⟩ := hSt
   exact nodup_lt hJ.nd hJ.sN
  obtain ⟨fv, rfl⟩ : ∃ fv, fu = fv + 1 := ⟨fu - 1, by omega⟩
  obtain ⟨c0, c1, c2, c4⟩ := hSt.cells
  by_cases hno : ∀ v, ¬ W v
  ·have ke := fun W' (hW' : Upd [] wr W') => take_no (hSt.upd0 hW') (by omega) hno
   go_upto_region 12 with (first
    | ((go_at_call 41; (with_reducible refine (ke _ (by (repeat (first | assumption | exact Upd.refl _ _ | refine Upd.alloc ?_ _ | refine Upd.drew ?_ | refine Upd.drewN ?_ _ | refine Upd.setCell ?_ ?_ _ | focus (left; simp; done) | focus (right; simp; done) | focus (right; simp; omega))))).mono ?_)); rintro e w6 ⟨rfl, F6, hSt6, hu6, hf6⟩)
    | fail)
   have hI6 := hI.step hu6 (fun x hx => Or.inl hx) hf6
   obtain ⟨t0, t1, t2⟩ := hSt6.tree HW.out.2.2 hno (T := [w.heap.size + 1 + 1]) (fun e => by have := hXb X.gd (by unfold SrB.own; simp); simp at e; omega) (fun e => by have := hXb X.gb (by unfold SrB.own; simp); simp at e; omega)
   obtain ⟨d0, d1, d2, d4⟩ := hSt6.cells
   have hw6 : Upd [] w w6 := hw.joined hu6 (fun x hx => Or.inr (by have := hI.bF x hx; have := hI.hb; omega))
   have HT := Lib.hid (And.intro t0 (And.intro t1 t2))
   have e0 : w6.cell? ⟨w.heap.size + 1 + 1, 0, none⟩ = some (.slice none 0 0) := hI6.r0
   have e1 : w6.cell? ⟨w.heap.size + 1 + 1, 1, none⟩ = some (.slice none 0 0) := hI6.r1
   have f0 : w6.frozen? ⟨w.heap.size + 1 + 1, 0, none⟩ = false := hI6.f0
   have f1 : w6.frozen? ⟨w.heap.size + 1 + 1, 1, none⟩ = false := hI6.f1
   have hxl := World.block_lt_of_cell? w6 _ d0
   have hrl := World.block_lt_of_cell? w6 _ e0
   dsimp only at hxl hrl
   have hn1 : ¬ X.b = w6.heap.size := by omega
   have hn2 : ¬ w.heap.size + 1 + 1 = w6.heap.size := by omega
   clear t0 t1 t2 hSt hSt6 hI hI6 ke c0 c1 c2 c4
   go_wp2
   have q0 : (((w6.setCell ⟨w.heap.size + 1 + 1, 0, none⟩ (.slice (some ⟨X.gd, 0, none⟩) N X.cd)).setCell ⟨w.heap.size + 1 + 1, 1, none⟩ (.slice (some ⟨X.gb, 0, none⟩) N X.cb)).alloc (.cells #[.int .i64 0, .int .u32 0] 85)).cell? ⟨w.heap.size + 1 + 1, 0, none⟩ = some (.slice (some ⟨X.gd, 0, none⟩) N X.cd) := by go_simp
   have q1 : (((w6.setCell ⟨w.heap.size + 1 + 1, 0, none⟩ (.slice (some ⟨X.gd, 0, none⟩) N X.cd)).setCell ⟨w.heap.size + 1 + 1, 1, none⟩ (.slice (some ⟨X.gb, 0, none⟩) N X.cb)).alloc (.cells #[.int .i64 0, .int .u32 0] 85)).cell? ⟨w.heap.size + 1 + 1, 1, none⟩ = some (.slice (some ⟨X.gb, 0, none⟩) N X.cb) := by go_simp
   refine bodyPost_ret (v := .tuple #[.agg #[.slice (some ⟨X.gd, 0, none⟩) N X.cd, .slice (some ⟨X.gb, 0, none⟩) N X.cb], .int .i64 0]) (by simp [results, Tryz.results29, go_sem, q0, q1]) rfl ⟨_, _, _, _, rfl, HT.out.1.fresh (by (repeat (first | assumption | exact Upd.refl _ _ | refine Upd.alloc ?_ _ | refine Upd.drew ?_ | refine Upd.drewN ?_ _ | refine Upd.setCell ?_ ?_ _ | focus (left; simp; done) | focus (right; simp; done) | focus (right; simp; omega)))) (by simp), HT.out.2.1.fresh (by (repeat (first | assumption | exact Upd.refl _ _ | refine Upd.alloc ?_ _ | refine Upd.drew ?_ | refine Upd.drewN ?_ _ | refine Upd.setCell ?_ ?_ _ | focus (left; simp; done) | focus (right; simp; done) | focus (right; simp; omega)))) (by simp), HT.out.2.2, by (repeat (first | assumption | exact Upd.refl _ _ | refine Upd.alloc ?_ _ | refine Upd.drew ?_ | refine Upd.drewN ?_ _ | refine Upd.setCell ?_ ?_ _ | focus (left; simp; done) | focus (right; simp; done) | focus (right; simp; omega)))⟩
  ·have hex : ∃ v, W v := Classical.byContradiction fun h => hno fun v hv => h ⟨v, hv⟩
   have ke := fun W' (hW' : Upd [] wr W') => take_yes (hSt.upd0 hW') (by omega) hex
   clear hno hex
   go_upto_region 12 with (first
    | ((go_at_call 41; (with_reducible refine (ke _ (by (repeat (first | assumption | exact Upd.refl _ _ | refine Upd.alloc ?_ _ | refine Upd.drew ?_ | refine Upd.drewN ?_ _ | refine Upd.setCell ?_ ?_ _ | focus (left; simp; done) | focus (right; simp; done) | focus (right; simp; omega))))).mono ?_)); rintro e w6 ⟨v, x, rfl, hvN, hvS, hx, F6, cm, fm, hSt6, hmap, hfx, hu6, hf6⟩)
    | fail)
   have hI6 := hI.step hu6 (fun x hx => Or.inl hx) hf6
   obtain ⟨d0, d1, d2, d4⟩ := hSt6.cells
   have hw6 : Upd [] w w6 := hw.joined hu6 (fun x hx => Or.inr (by have := hI.bF x hx; have := hI.hb; omega))
   have hxl := World.block_lt_of_cell? w6 _ d0
   dsimp only at hxl
   have hn1 : ¬ X.b = w6.heap.size := by omega
   clear hSt hI ke c0 c1 c2 c4
   go_upto_region 14 with fail
   have HMP := Lib.hid (And.intro hmap hfx)
   have hgl := hI6.lv.row.lt
   have hlc := hI6.lv.row.cellAt v hvN rfl
   obtain ⟨av, cv, hvs, hcv⟩ := own_slice (hI6.lv.own v hvN)
   have ht6 := World.block_lt_of_cell? w6 _ d4
   have hlk : ∀ m, (Instr.lookup 82 (.map (some X.mb)) (.agg #[.int .i64 (x : Int), .int .u32 1]) false).run Tryz.prog ((w6.alloc (.cells #[.int .i64 (x : Int), .int .u32 1] 85)).drewN m) = .ok (.int .i64 (v : Int)) ((w6.alloc (.cells #[.int .i64 (x : Int), .int .u32 1] 85)).drewN m) := fun m => (hmap.upd (S := []) (by (repeat (first | assumption | exact Upd.refl _ _ | refine Upd.alloc ?_ _ | refine Upd.drew ?_ | refine Upd.drewN ?_ _ | refine Upd.setCell ?_ ?_ _ | focus (left; simp; done) | focus (right; simp; done) | focus (right; simp; omega)))) (by simp)).look hfx (by omega) (by omega)
   have hn2 : ¬ g = w6.heap.size := by omega
   have hn3 : ¬ w6.heap.size = X.b := by omega
   rw [hvs] at hlc
   clear hmap hfx ht6
   go_quiet (fail)
   have hu7 : Upd [] w6 ((w6.alloc (.cells #[.int .i64 (x : Int), .int .u32 1] 85)).drewN nq) := by (repeat (first | assumption | exact Upd.refl _ _ | refine Upd.alloc ?_ _ | refine Upd.drew ?_ | refine Upd.drewN ?_ _ | refine Upd.setCell ?_ ?_ _ | focus (left; simp; done) | focus (right; simp; done) | focus (right; simp; omega)))
   have hSt7 := hSt6.upd0 hu7
   have hI7 := hI6.step hu7 (by simp) (fun x hx => Or.inl hx)
   have hw7 := hw6.trans hu7
   clear hSt6 hI6 hw6 hlk hlc d0 d1 d2 d4 HMP
   go_wp2
   generalize hln : (lvL E n v).length = ln at *
   have HLN := Lib.hid (And.intro hln (And.intro hvs hcv))
   clear hln hvs hcv
   go_loopw [16, 78] (fun _ i wr => ∃ (j : Nat) (F' : List Nat) (d' : Nat → Nat) (bt' : Nat → Int) (W' : Nat → Prop), j ≤ ln ∧ i = .int .i64 (j : Int) ∧ St K X kd dd E s N (9223372036854775807 / N) wr F' d' bt' (v :: S) W' (fun i => (edG (eN E) i).f ≠ v ∨ i ∈ (lvL E n v).take j) ∧ d' v = d v ∧ FrI wr F' (w.heap.size + 1) (w.heap.size + 2) w2.heap.size w3.heap.size w4.heap.size N g (.int .i64 (N : Int)) (.slice a n cap) (.slice none 0 0) (.slice none 0 0) vs (lvL E n) ∧ Upd [] w wr) (fun _ i _ => ln - (intOf i).toNat)
   case atStart => exact ⟨0, _, _, _, _, by omega, rfl, by simpa using hSt7, rfl, hI7, hw7⟩
   case round =>
    clear hSt7 hI7 hw7
    obtain ⟨j, F8, d8, bt8, W8, hj, rfl, hSt, hdv, hI, hw⟩ := hrel
    rename World => w8
    by_cases hjl : j < ln
    ·have hji : (j : Int) < (ln : Int) := by omega
     obtain ⟨i0, hi0⟩ : ∃ i0, (lvL E n v)[j]? = some i0 := ⟨_, List.getElem?_eq_getElem (by rw [HLN.out.1]; exact hjl)⟩
     have hmem := lvL_mem.1 (List.mem_of_getElem? hi0)
     have hrow := hI.lv.own v hvN
     rw [HLN.out.1, HLN.out.2.1] at hrow
     obtain ⟨_, _, he8, _, _, h38⟩ := SlI.of_row (F := []) hrow (by simp)
     cases he8
     obtain ⟨g8, o8, rfl, hg8, _, c8⟩ := h38 j (i0 : Int) (by unfold natsZ; simp [hi0])
     clear h38 hrow
     have hiE : i0 < E.length := by rw [HN.out]; exact hmem.1
     have hin : (i0 : Int) < (n : Int) := by omega
     obtain ⟨ge, off, rfl, hg, c0', c1', c2'⟩ := HE.out.at i0 hiE
     have c1 := hw.was c1'
     have c2 := hw.was c2'
     have h3 := right_mem HW.out.2.1 (List.mem_of_getElem? (show E[i0]? = some (E.getD i0 default) by simp [List.getD_eq_getElem?_getD, hiE]))
     have he := edG_eN E i0 hiE
     have hfv := hmem.2
     have hwx := weigh_mem HW.out.1 (List.mem_of_getElem? (show E[i0]? = some (E.getD i0 default) by simp [List.getD_eq_getElem?_getD, hiE]))
     generalize E.getD i0 default = ed at *
     obtain ⟨ef, et, ew⟩ := ed
     dsimp only at c0' c1 c2 c1' c2' h3 hfv hwx
     obtain ⟨t, rfl⟩ : ∃ t : Nat, et = t := ⟨et.toNat, by omega⟩
     obtain ⟨y, rfl⟩ : ∃ y : Nat, ew = y := ⟨ew.toNat, by omega⟩
     subst hfv
     have he' : edG (eN E) i0 = ⟨v, t, y⟩ := he
     have hsum : (d v : Int) + (y : Int) ≤ 9223372036854775807 := by
      obtain ⟨_, _, _, _, _, _, _, _, hJ, _⟩ := hSt
      have hge := HW.out.2.2.e _ (edG_mem (by rw [eN_len]; exact hiE))
      rw [he'] at hge
      have := hJ.rx.sum HW.out.2.2.nm (e := ⟨v, t, y⟩) hvN hge.2.2 ((hJ.rc v hvN).2 (Or.inl (by simp)))
      dsimp only at this
      rw [hdv] at this
      have hmx : (inf : Nat) = 9223372036854775807 := rfl
      omega
     have ke := fun W (hW : Upd [] w8 W) => reach_step HW.out.2.2 (by omega) (by rw [HN.out]; exact hE64) (hSt.upd0 hW) hiE he'
     rw [hdv] at ke
     have hwr : IntKind.i64.wrap ((d v : Int) + (y : Int)) = (d v : Int) + (y : Int) := IntWalk.i64_in _ (by omega)
     have q1 : w8.cell? ⟨w.heap.size + 1, 1, none⟩ = some (.slice (some ⟨ge, off, none⟩) n cap) := hI.g1
     have ke1 := ke w8.drew ((Upd.refl _ _).drew)
     have ke2 := ke w8 (Upd.refl _ _)
     clear ke c0' c1' c2'
     have HI := Lib.hid (And.intro hI (And.intro hw (And.intro hi0 hmem)))
     clear hI hw hi0 hmem hSt
     go_upto_region 17 with fail
     go_region_law
      (first
       | (go_simp; go_at_call 54; (with_reducible refine (ke1).mono ?_); rintro e w9 ⟨rfl, F9, d9, bt9, W9, hSt9, hd9, hu9, hf9⟩))
     all_goals
      have hu9' : Upd (X.own ++ F8) w8 w9 := Upd.trans (by (repeat (first | assumption | exact Upd.refl _ _ | refine Upd.drew ?_ | refine Upd.alloc ?_ _ | refine Upd.setCell ?_ ?_ _ | focus (left; simp; done) | focus (right; simp; done) | focus (right; simp; omega) | (apply Upd.trans; rotate_left; assumption)))) hu9
      have hI9 := HI.out.1.step hu9' (fun x hx => by
       rcases List.mem_append.1 hx with e | e
       ·exact Or.inr (Or.inl (hXb x e))
       ·exact Or.inl e) hf9
      have hw9 : Upd [] w w9 := HI.out.2.1.joined hu9' (fun x hx => Or.inr (by
       have hb := HI.out.1.hb
       rcases List.mem_append.1 hx with e | e
       ·have := (hXb x e).1; omega
       ·have := HI.out.1.bF x e; omega))
      have HZ := Lib.hid (And.intro hSt9 (And.intro hd9 (And.intro hI9 hw9)))
      clear hSt9 hd9 hu9 hf9 hu9' hI9 hw9
      go_wp2
      go_roundw
      case rel =>
       obtain ⟨hSt9, hd9, hI9, hw9⟩ := HZ.out
       have he : (fun i => ((edG (eN E) i).f ≠ v ∨ i ∈ (lvL E n v).take j) ∨ i = i0) = fun i => (edG (eN E) i).f ≠ v ∨ i ∈ (lvL E n v).take (j + 1) := funext fun i => propext (by
        rw [List.take_add_one, HI.out.2.2.1, or_assoc]
        simp)
       rw [he] at hSt9
       exact ⟨j + 1, F9, d9, bt9, W9, hjl, by go_num, hSt9, hd9, hI9, hw9⟩
      case measure => simp [intOf]; omega
    ·have hjn : ¬ (j : Int) < (ln : Int) := by omega
     have hjl2 : j = ln := by omega
     subst hjl2
     go_wp2
     go_roundg fv
     case rel => exact ⟨F8, d8, bt8, v :: S, W8, hSt.round (fun i hi => by have h := lv_all (v := v) HW.out.2.1 hi; rw [HN.out] at h; rw [← HLN.out.1, List.take_length]; exact h), hI, hw, by simp; omega⟩
     all_goals omega
end Go.Proofs.YtklibcncmbofpaaGreat
namespace Go.Proofs.YtklibcncmbofpaaGreat
open Go Go.RowKit
def greatB (N : Int) (n : Nat) : Bool := decide ((n : Int) > 60) || (decide (N > 40) && decide (N ≤ 4096))
theorem great22_any (w : World) (N : Int) (a : Option Addr) (n cap : Nat) : Calls Tryz.prog 28 #[.agg #[.int .i64 N, .slice a n cap]] w fun r w' => r = .returned (.bool (greatB N n)) ∧ Upd [] w w' := by
 unfold greatB
 by_cases h1 : (n : Int) > 60
 ·have h1b : decide ((n : Int) > 60) = true := by simpa using h1
  go_enter Tryz.func28, Tryz.ntmps28
  go_wp2
  go_ret
  exact ⟨ret_bool (by first | (simp; done) | (simp; omega)), by (repeat (first | assumption | exact Upd.refl _ _ | refine Upd.alloc ?_ _ | refine Upd.drew ?_ | refine Upd.drewN ?_ _ | refine Upd.setCell ?_ ?_ _ | focus (left; simp; done) | focus (right; simp; done) | focus (right; simp; omega)))⟩
 ·have h1b : decide ((n : Int) > 60) = false := by simpa using h1
  by_cases h2 : N > 40
  ·have h2b : decide (N > 40) = true := by simpa using h2
   go_enter Tryz.func28, Tryz.ntmps28
   go_wp2
   go_ret
   exact ⟨ret_bool (by first | (simp; done) | (simp; omega)), by (repeat (first | assumption | exact Upd.refl _ _ | refine Upd.alloc ?_ _ | refine Upd.drew ?_ | refine Upd.drewN ?_ _ | refine Upd.setCell ?_ ?_ _ | focus (left; simp; done) | focus (right; simp; done) | focus (right; simp; omega)))⟩
  ·have h2b : decide (N > 40) = false := by simpa using h2
   go_enter Tryz.func28, Tryz.ntmps28
   go_wp2
   go_ret
   exact ⟨ret_bool (by first | (simp; done) | (simp; omega)), by (repeat (first | assumption | exact Upd.refl _ _ | refine Upd.alloc ?_ _ | refine Upd.drew ?_ | refine Upd.drewN ?_ _ | refine Upd.setCell ?_ ?_ _ | focus (left; simp; done) | focus (right; simp; done) | focus (right; simp; omega)))⟩
end Go.Proofs.YtklibcncmbofpaaGreat
namespace Go.Proofs.YtklibcncmbofpaaGreat
open Go Go.RowKit
def exW : List Ed := [⟨0, 1, 5⟩, ⟨0, 2, 1⟩, ⟨2, 1, 3⟩]
theorem len3 {l : List Int} (h : l.length = 3) : l = [l.getD 0 0, l.getD 1 0, l.getD 2 0] := by
 match l, h with
 | [a, b, c], _ => rfl
theorem exW_tree {D B : List Int} (h : TreeA (eN exW) 3 0 (passes (eN exW) 0 3) D B) : D = [0, 4, 1] ∧ B = [-1, 2, 1] := by
 have hlD : D.length = 3 := h.1
 have hlB : B.length = 3 := h.2.1
 have d0 : D.getD 0 0 = 0 := (h.2.2 0 (by omega)).1.trans (by decide +kernel)
 have d1 : D.getD 1 0 = 4 := (h.2.2 1 (by omega)).1.trans (by decide +kernel)
 have d2 : D.getD 2 0 = 1 := (h.2.2 2 (by omega)).1.trans (by decide +kernel)
 have eD : D = [0, 4, 1] := by rw [len3 hlD, d0, d1, d2]
 have hP := (prov_iff (N := 3) (s := 0) (E := exW) (D := D) (B := B) (by decide +kernel) (by omega) (fun x hx => by rw [eD] at hx; simp at hx; omega)).2 h
 have b0 := hP.b0
 have o1 := (hP.ok 1 (by omega)).2 ⟨by decide, by rw [d1]; decide⟩
 have o2 := (hP.ok 2 (by omega)).2 ⟨by decide, by rw [d2]; decide⟩
 rw [eD] at o1 o2
 have hl : (exW.length : Int) = 3 := rfl
 rw [hl] at o1 o2
 have b1 : B.getD 1 0 = 2 := by
  generalize B.getD 1 0 = b at *
  obtain ⟨x1, x2, x3, x4⟩ := o1
  rcases (by omega : b = 0 ∨ b = 1 ∨ b = 2) with rfl | rfl | rfl
  ·revert x3; decide +kernel
  ·revert x4; decide +kernel
  ·rfl
 have b2 : B.getD 2 0 = 1 := by
  generalize B.getD 2 0 = b at *
  obtain ⟨x1, x2, x3, x4⟩ := o2
  rcases (by omega : b = 0 ∨ b = 1 ∨ b = 2) with rfl | rfl | rfl
  ·revert x4; decide +kernel
  ·rfl
  ·revert x4; decide +kernel
 exact ⟨eD, by rw [len3 hlB, b0, b1, b2]⟩
theorem sle3 {W : World} {g : Nat} {x y z x' y' z' x2 y2 z2 : Int} (h0 : W.cell? ⟨g, 0, none⟩ = some (.int .i64 x)) (h1 : W.cell? ⟨g, 1, none⟩ = some (.int .i64 y)) (h2 : W.cell? ⟨g, 2, none⟩ = some (.int .i64 z))
  (h3 : W.cell? ⟨g, 3, none⟩ = some (.int .i64 x')) (h4 : W.cell? ⟨g, 4, none⟩ = some (.int .i64 y')) (h5 : W.cell? ⟨g, 5, none⟩ = some (.int .i64 z'))
  (h6 : W.cell? ⟨g, 6, none⟩ = some (.int .i64 x2)) (h7 : W.cell? ⟨g, 7, none⟩ = some (.int .i64 y2)) (h8 : W.cell? ⟨g, 8, none⟩ = some (.int .i64 z2)) : SlE W (.slice (some ⟨g, 0, none⟩) 3 3) [⟨x, y, z⟩, ⟨x', y', z'⟩, ⟨x2, y2, z2⟩] := by
 refine ⟨some ⟨g, 0, none⟩, 3, rfl, by omega, by simp, fun j u hj => ⟨g, 0, rfl, World.block_lt_of_cell? W _ h0, ?_⟩⟩
 match j, hj with
 | 0, hj => simp at hj; subst hj; exact ⟨h0, h1, h2⟩
 | 1, hj => simp at hj; subst hj; exact ⟨h3, h4, h5⟩
 | 2, hj => simp at hj; subst hj; exact ⟨h6, h7, h8⟩
 | j + 3, hj => simp at hj
theorem sli3 {W : World} {g : Nat} {x y z : Int} (h0 : W.cell? ⟨g, 0, none⟩ = some (.int .i64 x)) (h1 : W.cell? ⟨g, 1, none⟩ = some (.int .i64 y)) (h2 : W.cell? ⟨g, 2, none⟩ = some (.int .i64 z)) : SlI W [] (.slice (some ⟨g, 0, none⟩) 3 3) [x, y, z] := by
 refine ⟨some ⟨g, 0, none⟩, 3, rfl, by simp, by omega, fun j u hj => ⟨g, 0, rfl, World.block_lt_of_cell? W _ h0, by simp, ?_⟩⟩
 match j, hj with
 | 0, hj => simp at hj; subst hj; exact h0
 | 1, hj => simp at hj; subst hj; exact h1
 | 2, hj => simp at hj; subst hj; exact h2
 | j + 3, hj => simp at hj
theorem exFrom {W : World} {va : Value} (hE : SlE W va exW) :
  Calls Tryz.prog 29 #[.agg #[.int .i64 7, .int .i64 0], .agg #[.int .i64 3, va], .int .i64 0] W fun e w' => ∃ gd od cd ab cb, e = .returned (.tuple #[.agg #[.slice (some ⟨gd, od, none⟩) 3 cd, .slice ab 3 cb], .int .i64 0]) ∧ w'.cell? ⟨gd, od, none⟩ = some (.int .i64 0) ∧ w'.cell? ⟨gd, od + 1, none⟩ = some (.int .i64 4) ∧ w'.cell? ⟨gd, od + 2, none⟩ = some (.int .i64 1) ∧ SlI w' [] (.slice ab 3 cb) [-1, 2, 1] ∧ Upd [] W w' := by
 refine (from_yes (K := nestSkQ) (kd := 7) (dd := 0) W 3 0 va exW hE (by decide +kernel) (by omega) (by decide +kernel) (opens_sk 3 (by omega))).mono ?_
 rintro e w' ⟨vd, vb, D, B, rfl, hD, hB, hT, hu⟩
 obtain ⟨rfl, rfl⟩ := exW_tree hT
 obtain ⟨a, c, rfl, h1, h2, h3⟩ := hD
 obtain ⟨gd, od, rfl, _, _, c0⟩ := h3 0 0 rfl
 obtain ⟨_, _, e1, _, _, c1⟩ := h3 1 4 rfl
 obtain ⟨_, _, e2, _, _, c2⟩ := h3 2 1 rfl
 cases e1
 cases e2
 have hB' := hB
 obtain ⟨ab, cb, rfl, _, _, _⟩ := hB'
 exact ⟨gd, od, c, ab, cb, rfl, c0, c1, c2, hB, hu⟩
set_option maxHeartbeats 4000000 in
theorem wpalive_any (w : World) : Calls Tryz.prog 27 #[] w fun r w' => r = .returned (.bool true) ∧ Upd [] w w' := by
 go_enter Tryz.func27, Tryz.ntmps27
 go_upto_region 3 with (first
  | ((go_at_call 29; (with_reducible refine (exFrom (sle3 (by go_simp) (by go_simp) (by go_simp) (by go_simp) (by go_simp) (by go_simp) (by go_simp) (by go_simp) (by go_simp))).mono ?_)); rintro e w1 ⟨gd, od, cd, ab, cb, rfl, c0, c1, c2, hB, hu1⟩; (have hw1 : Upd [] w w1 := Upd.trans (by (repeat (first | assumption | exact Upd.refl _ _ | refine Upd.alloc ?_ _ | refine Upd.drew ?_ | refine Upd.drewN ?_ _ | refine Upd.setCell ?_ ?_ _ | focus (left; simp; done) | focus (right; simp; done) | focus (right; simp; omega)))) hu1))
  | fail)
 have hgd := World.block_lt_of_cell? w1 _ c0
 dsimp only at hgd
 have hne : ¬ gd = w1.heap.size := by omega
 go_wp2_with (first
  | ((go_at_call 20; (with_reducible refine (same_yes _ [] [] _ _ [-1, 2, 1] (hB.fresh (by (repeat (first | assumption | exact Upd.refl _ _ | refine Upd.alloc ?_ _ | refine Upd.drew ?_ | refine Upd.drewN ?_ _ | refine Upd.setCell ?_ ?_ _ | focus (left; simp; done) | focus (right; simp; done) | focus (right; simp; omega)))) (fun g hg => Or.inl hg)) (sli3 (by go_simp) (by go_simp) (by go_simp))).mono ?_)); rintro e w3 ⟨rfl, kk, rfl⟩)
  | fail)
 go_ret
 exact ⟨rfl, by (repeat (first | assumption | exact Upd.refl _ _ | refine Upd.alloc ?_ _ | refine Upd.drew ?_ | refine Upd.drewN ?_ _ | refine Upd.setCell ?_ ?_ _ | focus (left; simp; done) | focus (right; simp; done) | focus (right; simp; omega)))⟩
end Go.Proofs.YtklibcncmbofpaaGreat
