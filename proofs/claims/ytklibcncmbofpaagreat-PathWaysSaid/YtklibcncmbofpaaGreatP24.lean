/-
  Lemmas for PathWays: Lev, FrI. Conditions: those of each lemma.
-/
import Derived.Deep.OwnRows
import Derived.Deep.RegionLaw
import Derived.Deep.DeepCutAuto
import Derived.IntWalk
import Derived.Deep.Slices
import Derived.Deep.Strs
import Derived.Lib.Mul64
import Derived.Laws.Bits64b
import Derived.Lib.Hide
import Derived.StillTailTactics
import Derived.Test.YtklibcncmbofpaaGreatProg
import Derived.WalkKit
import Derived.WalkSpells
import Derived.WalkLawsBesides
import Derived.BigQuiet
import Derived.Deep.RegionHeld3
import Derived.ProofKit
import Derived.OpenShut
import Derived.Maps.AppendAt
import Derived.Lib.MinMax
import Derived.Shelf.Bits.Mul64
import Derived.Shelf.Slices.Reverse
import Derived.Ground.Names2Prog
import Derived.Shelf.Slices.Clone
import Derived.Shelf.Slices.Cells
import Derived.Ground.SlgnProg
import Derived.Shelf.SlicesE.Clone
import Derived.Maps.OwnSet
import Derived.Maps.OwnOps
import Derived.Maps.RangeWalk
import Derived.DeepKeys4
import Derived.Deep.LoopGhost
import Derived.Test.YtklibcncmbofpaaGreatP01
import Derived.Test.YtklibcncmbofpaaGreatP02
import Derived.Test.YtklibcncmbofpaaGreatP03
import Derived.Test.YtklibcncmbofpaaGreatP04
import Derived.Test.YtklibcncmbofpaaGreatP05
import Derived.Test.YtklibcncmbofpaaGreatP06
import Derived.Test.YtklibcncmbofpaaGreatP07
import Derived.Test.YtklibcncmbofpaaGreatP08
import Derived.Test.YtklibcncmbofpaaGreatP09
import Derived.Test.YtklibcncmbofpaaGreatP10
import Derived.Test.YtklibcncmbofpaaGreatP11
import Derived.Test.YtklibcncmbofpaaGreatP12
import Derived.Test.YtklibcncmbofpaaGreatP13
import Derived.Test.YtklibcncmbofpaaGreatP21
import Derived.Test.YtklibcncmbofpaaGreatP22
import Derived.Test.YtklibcncmbofpaaGreatP23
set_option linter.unusedVariables false
set_option linter.unusedSimpArgs false
namespace Go.Proofs.YtklibcncmbofpaaGreat
open Go Go.RowKit
def lvL (E : List Ed) (k v : Nat) : List Nat := (List.range k).filter (fun i => decide ((E.getD i default).f = (v : Int)))
theorem lvL_succ (E : List Ed) (k v : Nat) : lvL E (k + 1) v = if (E.getD k default).f = (v : Int) then lvL E k v ++ [k] else lvL E k v := by
 unfold lvL
 rw [List.range_succ, List.filter_append]
 by_cases h : (E.getD k default).f = (v : Int)
 ·rw [if_pos h, List.filter_cons_of_pos (by simpa only [decide_eq_true_eq] using h)]; rfl
 ·rw [if_neg h, List.filter_cons_of_neg (by simpa only [decide_eq_true_eq] using h)]; simp
theorem lvL_len (E : List Ed) (k v : Nat) : (lvL E k v).length ≤ k := by
 unfold lvL
 exact Nat.le_trans (List.length_filter_le _ _) (by simp)
theorem lvL_mem {E : List Ed} {k v i : Nat} : i ∈ lvL E k v ↔ i < k ∧ (E.getD i default).f = (v : Int) := by
 unfold lvL; simp
structure LvM (w : World) (lo g N : Nat) (vs : Nat → Value) (L : Nat → List Nat) : Prop where
 row : RowAt w g 26 N vs
 own : ∀ v, v < N → w.ownsRow lo 3 1 (vs v) (L v).length (intsZ (natsZ (L v)))
 ng : ∀ v, v < N → (vs v).ownBlock ≠ some g
 sep : ∀ u v b, u < N → v < N → u ≠ v → (vs u).ownBlock = some b → (vs v).ownBlock ≠ some b
theorem LvM.upd {w w' : World} {lo g N : Nat} {vs : Nat → Value} {L : Nat → List Nat} {S : List Nat} (h : LvM w lo g N vs L) (hu : Upd S w w') (hg : g ∉ S) (hS : ∀ v, v < N → ∀ b, (vs v).ownBlock = some b → b ∉ S) : LvM w' lo g N vs L :=
 ⟨h.row.upd hu hg, fun v hv => owns_upd (h.own v hv) hu (fun b hb => hS v hv b hb), h.ng, h.sep⟩
theorem LvM.put {w w2 : World} {lo g N f x : Nat} {vs : Nat → Value} {L : Nat → List Nat} (h : LvM w lo g N vs L) (hf : f < N) {v2 : Value} (hu : Upd (vs f).ownBlock.toList w w2) (ho : w2.ownsRow lo 3 1 v2 ((L f).length + 1) (intsZ (natsZ (L f ++ [x]))))
  (hv : v2.ownBlock = (vs f).ownBlock ∨ ∀ b, v2.ownBlock = some b → w.heap.size ≤ b) : LvM (w2.setCell ⟨g, f, none⟩ v2) lo g N (fun v => if v = f then v2 else vs v) (fun v => if v = f then L f ++ [x] else L v) := by
 have hgf : g ∉ (vs f).ownBlock.toList := fun e => h.ng f hf (by simpa using e)
 have hU : Upd [g] w2 (w2.setCell ⟨g, f, none⟩ v2) := (Upd.refl _ _).setCell (Or.inl (by simp)) _
 have hgl := h.row.lt
 have hng2 : v2.ownBlock ≠ some g := fun e => by
  rcases hv with h1 | h1
  ·exact h.ng f hf (by rw [← h1]; exact e)
  ·have := h1 g e; omega
 have hsepf : ∀ v b, v < N → v ≠ f → (vs v).ownBlock = some b → v2.ownBlock ≠ some b := fun v b hv' hne hb e => by
  rcases hv with h1 | h1
  ·exact h.sep v f b hv' hf hne hb (by rw [← h1]; exact e)
  ·have h2 := h1 b e
   have h3 := (h.own v hv').lt b hb
   omega
 refine ⟨((h.row.upd hu hgf).set f v2), fun v hv' => ?_, fun v hv' => ?_, fun u v b hu' hv' hne hb => ?_⟩
 ·by_cases e : v = f
  ·simp only [if_pos e]
   rw [List.length_append]
   exact owns_upd ho hU (fun k hk e => by simp at e; subst e; exact hng2 hk)
  ·simp only [if_neg e]
   exact owns_upd (owns_upd (h.own v hv') hu (fun k hk e2 => h.sep v f k hv' hf e hk (by simpa using e2))) hU (fun k hk e2 => by simp at e2; subst e2; exact h.ng v hv' hk)
 ·by_cases e : v = f
  ·simp only [if_pos e]; exact hng2
  ·simp only [if_neg e]; exact h.ng v hv'
 ·by_cases e1 : u = f
  ·have e2 : v ≠ f := fun e => hne (by rw [e1, e])
   simp only [if_pos e1] at hb
   simp only [if_neg e2]
   intro e3
   exact hsepf v b hv' e2 e3 hb
  ·simp only [if_neg e1] at hb
   by_cases e2 : v = f
   ·simp only [if_pos e2]; exact hsepf u b hu' e1 hb
   ·simp only [if_neg e2]; exact h.sep u v b hu' hv' hne hb
theorem rowsInfo : (Tryz.prog.info? 26).map (fun i => (i.zero, i.size, i.bytes)) = some (some (.slice none 0 0), 1, 24) := by kernel_rfl
theorem made_rows (w : World) (lo n : Nat) : LvM (w.alloc (.cells (madeCells #[.slice none 0 0] n) 26)) lo w.heap.size n (fun _ => .slice none 0 0) (fun _ => []) := by
 refine ⟨⟨madeCells #[.slice none 0 0] n, ?_, by simp [madeCells], fun j hj => ?_⟩, fun v hv => ?_, fun v hv => by simp [Value.ownBlock], fun u v b hu hv hne hb => by simp [Value.ownBlock] at hb⟩
 ·show (w.heap.push _)[w.heap.size]? = _; simp
 ·simp [madeCells, hj, Nat.mod_one]
 ·exact World.ownsRow_nil _ _ _ _
set_option maxHeartbeats 4000000 in
set_option maxRecDepth 10000 in
theorem leaving_any (w : World) (N : Nat) (va : Value) (E : List Ed) (hE : SlE w va E) (hr : rightB (N : Int) E = true) :
    Calls Tryz.prog 53 #[.agg #[.int .i64 (N : Int), va]] w fun r w' => ∃ g vs, r = .returned (.slice (some ⟨g, 0, none⟩) N N) ∧ LvM w' (w.heap.size + 1) g N vs (lvL E E.length) ∧ w.heap.size ≤ g ∧ Upd [] w w' := by
  have hbd := right_bd hr
  have kc := fun W (hW : Upd [] w W) => gcheck_any W (N : Int) va E (hE.upd hW)
  rw [hr] at kc
  obtain ⟨a, cap, rfl, hcap⟩ := hE.shape
  have HE := Lib.hid hE
  have HR := Lib.hid hr
  have u0 : Upd [] w (w.alloc (.cells #[.int .i64 N, .slice a E.length cap] 57)) := (Upd.refl _ _).alloc _
  have hN : N ≤ 4096 := by omega
  have hE64 : E.length ≤ 65536 := hbd.2.2
  have hmk := run_make_row' (P := Tryz.prog) 51 26 (.slice none 0 0) 24 Tryz.underlying51 rowsInfo rfl .i64 .i64 N (by omega) (by omega)
  clear hE hr hbd
  generalize hn : E.length = n at *
  have HN := Lib.hid hn
  clear hn
  go_enter Tryz.func53, Tryz.ntmps53
  go_wp2_with (first
    | ((go_at_call 74; (with_reducible refine (kc _ u0).mono ?_)); rintro e w1 ⟨rfl, hu1⟩; (have q0 : w1.cell? ⟨w.heap.size, 0, none⟩ = some (.int .i64 (N : Int)) := hu1.was (by go_simp)); (have q1 : w1.cell? ⟨w.heap.size, 1, none⟩ = some (.slice a n cap) := hu1.was (by go_simp)); (have hb := World.block_lt_of_cell? w1 _ q0))
    | fail)
  have hL0 := made_rows w1 (w.heap.size + 1) N
  have hsz1 := hu1.size
  have hg1 : w.heap.size < w1.heap.size := hb
  clear hmk hb
  go_loopw [4, 5, 15] (fun _ _ i wr => ∃ (k : Nat) (vs : Nat → Value), k ≤ n ∧ i = .int .i64 (k : Int) ∧ LvM wr (w.heap.size + 1) w1.heap.size N vs (lvL E k) ∧ Upd [] (w.alloc (.cells #[.int .i64 N, .slice a n cap] 57)) wr) (fun _ _ i _ => n - (intOf i).toNat)
  case atStart => exact ⟨0, _, by omega, rfl, hL0, by (repeat (first | assumption | exact Upd.refl _ _ | refine Upd.alloc ?_ _ | refine Upd.drew ?_ | refine Upd.drewN ?_ _ | refine Upd.setCell ?_ ?_ _ | focus (left; simp; done) | focus (right; simp; done) | focus (right; simp; omega)))⟩
  case round =>
    clear hL0 q0 q1 kc
    obtain ⟨k, vs, hk, rfl, hL, hu⟩ := hrel
    rename World => wr
    have hsz : w.heap.size < wr.heap.size := by have := hu.size; simp at this; omega
    by_cases hkn : k < n
    · have hkE : k < E.length := by rw [HN.out]; exact hkn
      have hx : E[k]? = some (E.getD k default) := by simp [List.getD_eq_getElem?_getD, hkE]
      have hmem : E.getD k default ∈ E := List.mem_of_getElem? hx
      obtain ⟨ge, off, rfl, hg, c0, c1, c2⟩ := (HE.out.upd (u0.trans hu)).at k hkE
      have h1 := right_mem HR.out hmem
      have HT := Lib.hid (lvL_succ E k)
      generalize E.getD k default = e at *
      have hwr : IntKind.i64.wrap ((k : Int) + 1) = (k : Int) + 1 := IntWalk.i64_in _ (by omega)
      obtain ⟨ef, et, ew⟩ := e
      dsimp only at c0 c1 c2 h1
      obtain ⟨f, rfl⟩ : ∃ f : Nat, ef = f := ⟨ef.toNat, by omega⟩
      have hf : f < N := by omega
      have hfI : (f : Int) < (N : Int) := by omega
      have hlf := lvL_len E k f
      have ho := hL.own f hf
      obtain ⟨av, cv, hvf, hcv⟩ := own_slice ho
      have d0 := hL.row.cellAt f hf hvf
      have df := hL.row.free f
      have hnb : wr.heap.size ∉ (Value.slice av (lvL E k f).length cv).ownBlock.toList := fun e => by have := ((ho.lt wr.heap.size (by rw [hvf]; simpa using e)).2); omega
      have hgl := hL.row.lt
      have HL := Lib.hid (And.intro hL hvf)
      have HU := Lib.hid hu
      rw [hvf] at ho
      have HOB := Lib.hid (fun b hb => (ho.lt b hb).1)
      clear hx hmem hL hu hvf
      generalize hln : (lvL E k f).length = ln at *
      have HLN := Lib.hid hln
      clear hln
      go_upto_region 7 with (fail)
      refine wp_named3 (fun W => W.cell? ⟨wr.heap.size, 0, none⟩ = some (.int .i64 (f : Int)) ∧ Upd [] wr W) ⟨by go_simp, by (repeat (first | assumption | exact Upd.refl _ _ | refine Upd.alloc ?_ _ | refine Upd.drew ?_ | refine Upd.drewN ?_ _ | refine Upd.setCell ?_ ?_ _ | focus (left; simp; done) | focus (right; simp; done) | focus (right; simp; omega)))⟩ ?_
      rintro W6 ⟨p2, hu6⟩
      have p1 := hu6.was d0
      have pf1 := hu6.keptF d0 (by simp) df
      have hw6 := owns_upd (S := []) ho hu6 (by simp)
      have hrs6 := World.block_lt_of_cell? W6 _ p2
      have hpa6 := World.block_lt_of_cell? W6 _ p1
      dsimp only at hrs6 hpa6
      have s0 : Upd [] W6 (W6.drew.alloc (.cells #[.int .i64 (k : Int)] 3)) := ((Upd.refl _ _).drew).alloc _
      have hnp2 : w1.heap.size ∉ (Value.slice av ln cv).ownBlock.toList := fun e => by have := HL.out.1.ng f hf; rw [HL.out.2] at this; exact this (by simpa using e)
      clear d0 df ho c0 c1 c2
      go_region_law
        (first
          | (refine step_append_one rfl _ _ 26 rfl (w.heap.size + 1) 3 (.int .i64 0) 1 8 Tryz.underlying26 intInfo rfl (by decide) (.slice av ln cv) ln (intsZ (natsZ (lvL E k f))) rfl (hw6.drew.alloc _) W6.heap.size [.int .i64 (k : Int)] rfl rfl (fun j u hj => newCell0 W6 [.int .i64 (k : Int)] 3 j u hj) (by simp [Value.oneCell']) (by unfold maxLen; omega) (by omega) (by simp; omega) ?_
             intro v2 w2 ho2 hu2 hv2
             have hS2 : Upd (Value.slice av ln cv).ownBlock.toList W6 w2 := (s0.mono (by simp)).trans hu2
             have z1 := hS2.kept p1 hnp2
             have zf1 := hS2.keptF p1 hnp2 pf1
             have z2 := hS2.kept p2 hnb
             obtain ⟨a2, cap2, rfl, hcap2⟩ := own_slice ho2))
      all_goals
        go_wp2
        have hLW := HL.out.1.upd hu6 (by simp) (fun v hv b hb => by simp)
        have hP := hLW.put hf (x := k) (v2 := .slice a2 (ln + 1) cap2) (by rw [HL.out.2]; exact hS2) (by
          rw [HLN.out, show natsZ (lvL E k f ++ [k]) = natsZ (lvL E k f) ++ [(k : Int)] from by unfold natsZ; simp, intsZ_append]
          exact ho2) (by
          rw [HL.out.2]
          rcases hv2 with h | h
          · exact Or.inl h
          · exact Or.inr (fun b hb => by rw [h] at hb; simp at hb; omega))
        have hfun : (fun v => if v = f then lvL E k f ++ [k] else lvL E k v) = lvL E (k + 1) := funext fun v => by
          rw [HT.out v]
          by_cases e : v = f
          · subst e; simp
          · rw [if_neg e, if_neg (by show ¬ ((f : Nat) : Int) = v; omega)]
        rw [hfun] at hP
        exact ⟨⟨k + 1, _, by omega, by go_num, hP, by
          have h1 : Upd [] _ W6 := HU.out.trans hu6
          have h2 : Upd [] _ w2 := h1.joined hS2 (fun b hb => Or.inr (by have := HOB.out b (by simpa using hb); rw [World.size_alloc]; exact this))
          exact h2.setCell (Or.inr (by simp; omega)) _⟩, by simp [intOf]; omega⟩
    · obtain rfl : k = n := by omega
      have HL := Lib.hid hL
      clear hL
      go_wp2
      go_ret
      exact ⟨_, vs, rfl, HL.out, by omega, u0.trans hu⟩
end Go.Proofs.YtklibcncmbofpaaGreat
namespace Go.Proofs.YtklibcncmbofpaaGreat
open Go Go.RowKit
structure FrI (w : World) (F : List Nat) (gb rb B0 L0 L1 N g : Nat) (v0 v1 r0 r1 : Value) (vs : Nat → Value) (L : Nat → List Nat) : Prop where
 g0 : w.cell? ⟨gb, 0, none⟩ = some v0
 g1 : w.cell? ⟨gb, 1, none⟩ = some v1
 r0 : w.cell? ⟨rb, 0, none⟩ = some r0
 r1 : w.cell? ⟨rb, 1, none⟩ = some r1
 f0 : w.frozen? ⟨rb, 0, none⟩ = false
 f1 : w.frozen? ⟨rb, 1, none⟩ = false
 lv : LvM w (L0 + 1) g N vs L
 bF : ∀ x, x ∈ F → B0 ≤ x ∧ (x < L0 ∨ L1 ≤ x)
 gl : L0 ≤ g ∧ g < L1
 vl : ∀ v, v < N → ∀ b, (vs v).ownBlock = some b → L0 ≤ b ∧ b < L1
 hb : gb < B0 ∧ rb < B0 ∧ B0 ≤ L0
 sz : L1 ≤ w.heap.size
theorem FrI.step {w w' : World} {F F' T : List Nat} {gb rb B0 L0 L1 N g : Nat} {v0 v1 r0 r1 : Value} {vs : Nat → Value} {L : Nat → List Nat} (h : FrI w F gb rb B0 L0 L1 N g v0 v1 r0 r1 vs L) (hu : Upd T w w') (hT : ∀ x, x ∈ T → x ∈ F ∨ (B0 ≤ x ∧ x < L0) ∨ L1 ≤ x) (hF : ∀ x, x ∈ F' → x ∈ F ∨ w.heap.size ≤ x) : FrI w' F' gb rb B0 L0 L1 N g v0 v1 r0 r1 vs L := by
 obtain ⟨hb1, hb2, hb3⟩ := h.hb
 have hs := h.sz
 have hz := hu.size
 have hTb : ∀ x, x ∈ T → B0 ≤ x ∧ (x < L0 ∨ L1 ≤ x) := fun x hx => by
  rcases hT x hx with e | e | e
  ·exact h.bF x e
  ·exact ⟨e.1, Or.inl e.2⟩
  ·exact ⟨by have := h.gl; omega, Or.inr e⟩
 have n1 : gb ∉ T := fun e => by have := hTb _ e; omega
 have n2 : rb ∉ T := fun e => by have := hTb _ e; omega
 have n3 : g ∉ T := fun e => by have := hTb _ e; have := h.gl; omega
 refine ⟨hu.kept h.g0 n1, hu.kept h.g1 n1, hu.kept h.r0 n2, hu.kept h.r1 n2, hu.keptF h.r0 n2 h.f0, hu.keptF h.r1 n2 h.f1, h.lv.upd hu n3 (fun v hv b hb e => by have := hTb _ e; have := h.vl v hv b hb; omega), fun x hx => ?_, h.gl, h.vl, h.hb, by omega⟩
 rcases hF x hx with e | e
 ·exact h.bF x e
 ·exact ⟨by have := h.gl; omega, Or.inr (by omega)⟩
end Go.Proofs.YtklibcncmbofpaaGreat
